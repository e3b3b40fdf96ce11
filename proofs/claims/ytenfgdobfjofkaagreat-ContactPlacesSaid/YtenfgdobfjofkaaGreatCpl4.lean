/- Texts of the proof of ContactPlaces: part 4 of 17. -/
import Derived.Scope
import Derived.Test.YtenfgdobfjofkaaGreatCpl3
namespace Go.Ai
open Go.RowKit
open _root_.Array renaming getD_eq_getD_getElem?->Av,getElem?_append_left->RI,getElem?_eq_getElem->A4,mapM_eq_mapM_toList->Ke,replicate->Dq
open Bool renaming and_eq_true->U,and_false->Fz,and_true->FX,false_eq_true->AC
open Classical renaming epsilon->Agg,epsilon_spec_aux->iA
open Go renaming undef->A0
open Go.Ending renaming returned->Abn
open Go.Exit renaming inBlock->Aau
open Go.Result renaming andThen_ok->Aa
open Go.Sem renaming run_bind->Am,run_map->Abc,run_pure->Ap
open Go.Value renaming bool->TZ
open List renaming cons_append->LH,contains_eq_mem->Em,getD_eq_getElem?_getD->Z,getElem?_append_left->AA,getElem?_append_right->AO,getElem?_eq_none->AS,getElem?_eq_some_iff->AZ,getElem_cons_zero->Bk,getElem_toArray->DV,length->C,length_cons->BF,length_nil->Ev,mapM_cons->EX,mapM_nil->Ary,size_toArray->Cr
open Nat renaming add_zero->Bn,le_refl->Ar,lt_or_ge->C6,not_le_of_lt->Ge,strongRecOn->qR,zero_add->AJ
open Option renaming map_eq_some_iff->S,map_some->Al
open Option.some renaming inj->AM,injEq->Ab
open Prod.mk renaming injEq->BP
def EO(P:Program)(roots:List (Nat × Nat)):Code->ICode->Bool
 | .skip,.skip=>true
 | .label _,.skip=>true
 | .region _ ops g,.region d io=>g==d&&LV P roots ops ops.toList io&&(!g || Q1 ops io)
 | .seq a b,.seq a' b'=>EO P roots a a'&&EO P roots b b'
 | .cond c a b,.cond e a' b'=>Bh c e&&EO P roots a a'&&EO P roots b b'
 | .block id c,.block f e=>id==f&&EO P roots c e
 | .loop c,.loop e=>EO P roots c e
 | .scope c,.scope e=>EO P roots c e
 | .exit id,.exit f=>id==f
 | .ret,.ret=>true
 | _,_=>false
def Q4:Ex->Exit
 | .norm => .normal
 | .exit id => .exit id
 | .ret => .ret
theorem P3{p:Nat->Prop}(h:∃ n,p n):∃ n,p n/\∀ m,p m->n<=m:=by
 obtain⟨n,hn⟩:=h;induction n using qR with
 | _ n c =>
  by_cases b:∃ m,m<n/\p m
  ·obtain⟨m,d,a⟩:=b;exact c m d a
  ·exact⟨n,hn,fun m a=>Nat.le_of_not_lt fun e=>b ⟨m,e,a⟩⟩
section
variable {P:Program} {Y X0:Nat->Prop} {roots:List (Nat × Nat)} {w0:Base}
theorem simC(J:P.follows .mixedOrders=true){F:Bf}(C:G1 P F):∀ (n:Nat) (c:Code) (t:ICode) (s s':V) (ex:Ex) (a:Act) (w:World) (Q:Exit->Act->World->Prop),EO P roots c t=true ->
  Rel Y X0 roots w0 s a w->B1 F n t s=some (ex,s')->(∀ a' w',Rel Y X0 roots w0 s' a' w'->Q (Q4 ex) a' w')->c.wp P Q a w:=by
 intro n;induction n using qR with
 | _ n q =>
  intro c t s s' ex a w Q e h f g;cases n with
  | zero=>simp[B1] at f
  | succ n =>
   cases t with
   | skip =>
    cases c <;> simp only[EO] at e <;> try cases e
    all_goals
     simp only[B1,Ab,BP] at f;obtain⟨rfl,rfl⟩:=f;first | exact wp_skip (g _ _ h) | exact wp_label (g _ _ h)
   | region d io =>
    cases c <;> simp only[EO] at e <;> try cases e
    rename_i id ops K;simp only[U,AW] at e;obtain⟨⟨rfl,h1⟩,h2⟩:=e;simp only[B1,S] at f;obtain⟨l,D,A⟩:=f;cases A;cases K with
    | false=>exact Abk C h1 h D g
    | true=>exact Abj J C h1 (by simpa using h2) h D g
   | seq x y =>
    cases c <;> simp only[EO] at e <;> try cases e
    rename_i c1 c2;simp only[U] at e;simp only[B1] at f;refine wp_seq ?_;split at f
    next l h1=>refine q n (by omega) c1 x s l .norm a w _ e.1 h h1 fun a' w' j => ?_;exact q n (by omega) c2 y l s' ex a' w' Q e.2 j f g
    ·rename_i h1;refine q n (by omega) c1 x s s' ex a w _ e.1 h f fun a' w' j => ?_;cases ex with
     | norm=>exact absurd f (h1 s')
     | exit id=>exact g _ _ j
     | ret=>exact g _ _ j
   | cond o x y =>
    cases c <;> simp only[EO] at e <;> try cases e
    rename_i o' c1 c2;simp only[U] at e;obtain⟨⟨h1,h2⟩,L⟩:=e;simp only[B1] at f;have E:∀ b,J8 s o=some b->a.eval o' = .bool b:=by
     intro b hb;unfold J8 at hb;split at hb
     next b' hav=>cases hb;have:=B2 h h1 hav;generalize a.eval o'=v at this;cases this;rfl
     ·cases hb
    split at f
    next hc=>exact wp_cond_true (E true hc) (q n (by omega) c1 x s s' ex a w Q h2 h f g)
    next hc=>exact wp_cond_false (E false hc) (q n (by omega) c2 y s s' ex a w Q L h f g)
    ·cases f
   | block id x =>
    cases c <;> simp only[EO] at e <;> try cases e
    rename_i N c1;simp only[U,AW] at e;obtain⟨rfl,e⟩:=e;simp only[B1] at f;refine wp_block ?_;split at f
    ·rename_i i l h1;refine q n (by omega) c1 x s l (.exit i) a w _ e h h1 fun a' w' j => ?_;simp only[Q4,Aau];split at f
     next hi=>cases f;rw[Af hi];exact g _ _ j
     next hi=>cases f;rw[Ak hi];exact g _ _ j
    ·rename_i h1;refine q n (by omega) c1 x s s' ex a w _ e h f fun a' w' j => ?_;cases ex with
     | norm=>exact g _ _ j
     | exit i=>exact absurd f (h1 i s')
     | ret=>exact g _ _ j
   | scope x =>
    cases c <;> simp only[EO] at e <;> try cases e
    simp only[B1] at f;refine wp_scope_straight ?_;refine q n (by omega) _ x s s' ex a w _ e h f fun a' w' j => ?_;cases ex with
    | norm=>exact g _ _ j
    | exit i=>exact g _ _ j
    | ret=>exact g _ _ j
   | loop x =>
    cases c <;> simp only[EO] at e <;> try cases e
    rename_i c1;let p:Act->World->Nat->Prop:=fun a w m=>m<=n+1/\∃ l,Rel Y X0 roots w0 l a w/\B1 F m (.loop x) l=some (ex,s')
    let μ:Act->World->Nat:=fun a w=>@Agg Nat ⟨0⟩ fun m=>p a w m/\∀ k,p a w k->m<=k
    have G:∀ a w,(∃ m,p a w m)->p a w (μ a w)/\∀ k,p a w k->μ a w<=k:=fun a w A=>@iA Nat ⟨0⟩ _ (P3 A);refine wp_loop (fun a w=>∃ m,p a w m) μ ⟨n+1,Ar _,s,h,f⟩ ?_;intro u z M;obtain⟨⟨O,l,H,r⟩,R⟩:=G u z M;generalize T:μ u z=m at *
    cases m with
    | zero=>simp[B1] at r
    | succ m =>
     simp only[B1] at r;split at r
     next I h2=>refine q m (by omega) c1 x l I .norm u z _ e H h2 fun a' w' j => ?_;have B:p a' w' m:=⟨by omega,I,j,r⟩;refine⟨⟨m,B⟩,?_⟩;have:=(G a' w' ⟨m,B⟩).2 m B;omega
     ·rename_i h2;refine q m (by omega) c1 x l s' ex u z _ e H r fun a' w' j => ?_;cases ex with
      | norm=>exact absurd r (h2 s')
      | exit i=>exact g _ _ j
      | ret=>exact g _ _ j
   | exit id =>
    cases c <;> simp only[EO] at e <;> try cases e
    simp only[AW] at e;subst e;simp only[B1,Ab,BP] at f;obtain⟨rfl,rfl⟩:=f;exact wp_exit (g _ _ h)
   | ret =>
    cases c <;> simp only[EO] at e <;> try cases e
    simp only[B1,Ab,BP] at f;obtain⟨rfl,rfl⟩:=f;exact wp_ret (g _ _ h)
end
def KI(P:Program):ResultVar->IRes->Bool
 | .tmp t,.tmp t'=>t==t'
 | .cell t a,.cell t' n one=>t==t'&&Gk P a n one
 | _,_=>false
def E2(P:Program):List ResultVar->List IRes->Bool
 | [],[]=>true
 | r::l,r'::a=>KI P r r'&&E2 P l a
 | _,_=>false
def UK(P:Program)(roots:List (Nat × Nat))(fn:Func)(a:IFunc):Bool :=
 (match fn.body with | some c=>EO P roots c a.body | none=>false)&&fn.ntmps==a.slots&&E2 P fn.results.toList (Agt a.res)&&decide (a.params<=a.slots)
section
variable {P:Program} {Y X0:Nat->Prop} {roots:List (Nat × Nat)} {w0:Base}
def Ha(tm:Array Value):ResultVar->Sem Value
 | .tmp t=>pure (tm.getD t A0)
 | .cell a t=>do loadVar t (<- asAddr (tm.getD a A0))
theorem Th(fn:Func)(tm:Array Value):results fn tm=(fn.results.mapM (Ha tm)) >>= fun vs=>pure (if h:vs.size=1 then vs[0] else .tuple vs):=by
 unfold results;congr 1
theorem Nr{s:V}{a:Act}{w:World}(h:Rel Y X0 roots w0 s a w):∀ {l:List ResultVar} {m:List IRes} {xs:List AV},E2 P l m=true->CB s m=some xs ->
  ∃ vs:List Value,(l.mapM (Ha a.tmps)).run P w = .ok vs w/\C vs=C xs /\
   ∀ (i:Nat) (h1:i<C vs) (h2:i<C xs),Rd Y X0 w vs[i] xs[i]
 | [],[],xs,_,e=>by
  simp only[CB,Ab] at e;subst e;exact⟨[],rfl,rfl,fun i h1 _=>(by simp at h1)⟩
 | r::l,r'::m,xs,f,e=>by
  simp only[E2,U] at f;simp only[CB] at e;cases h1:DK s r' with
  | none=>rw[h1] at e;cases e
  | some x =>
   rw[h1] at e;cases h2:CB s m with
   | none=>rw[h2] at e;cases e
   | some E =>
    rw[h2] at e;cases e;obtain⟨vs,o,p,q⟩:=Nr h f.2 h2;have one:∃ v,(Ha a.tmps r).run P w = .ok v w/\Rd Y X0 w v x:=by
     have hr:=f.1;cases r with
     | tmp t =>
      cases r' with
      | cell _ _ _=>cases hr
      | giv=>cases hr
      | tmp t' =>
       simp only[KI,AW] at hr;subst hr;have h0:=h.reg t;simp only[DK] at h1;cases d:Ag s t with
       | val y=>rw[d] at h1 h0;cases h1;exact⟨_,rfl,Rd.mono h0 fun b hb => .inl (.inl hb)⟩
       | box _=>rw[d] at h1;cases h1
       | ptr _ _=>rw[d] at h1;cases h1
       | mem _=>rw[d] at h1;cases h1
       | own k n cs =>
        rw[d] at h1 h0;cases h1;exact⟨_,rfl,Ez.frozen h0 (fun b hb => .inl (.inl hb)) (fun c hc hX=>h.low c hX (Ez.block h0 hc).1) h.lowY⟩
       | agn _ _ _ _=>rw[d] at h1;cases h1
       | bxl _=>rw[d] at h1;cases h1
       | dup _=>rw[d] at h1;cases h1
       | sub _ _ _ _=>rw[d] at h1;cases h1
       | bxh _ _=>rw[d] at h1;cases h1
       | agh _ _=>rw[d] at h1;cases h1
       | bxg _=>rw[d] at h1;cases h1
       | dead=>rw[d] at h1;cases h1
     | cell t F =>
      cases r' with
      | tmp _=>cases hr
      | giv=>cases hr
      | cell t' n one =>
       simp only[KI,U,AW] at hr;obtain⟨rfl,hr⟩:=hr;have h0:=h.reg t;simp only[DK] at h1;cases d:Ag s t with
       | box cs =>
        rw[d] at h1 h0;obtain⟨b,g,_,u⟩:=h0;obtain⟨v,j,z⟩:=Ng (P:=P) hr u.mem h1;refine⟨v,?_,z.mono fun b hb => .inl (.inl hb)⟩;simp only[Bn] at j;simp only[Ha,Am,g,asAddr,Ap,Aa,j]
       | val _=>rw[d] at h1;cases h1
       | ptr _ _=>rw[d] at h1;cases h1
       | mem _=>rw[d] at h1;cases h1
       | own _ _ _=>rw[d] at h1;cases h1
       | agn _ _ _ _=>rw[d] at h1;cases h1
       | bxl _=>rw[d] at h1;cases h1
       | dup _=>rw[d] at h1;cases h1
       | sub _ _ _ _=>rw[d] at h1;cases h1
       | bxh _ _=>rw[d] at h1;cases h1
       | agh _ _=>rw[d] at h1;cases h1
       | bxg _=>rw[d] at h1;cases h1
       | dead=>rw[d] at h1;cases h1
    obtain⟨v,A,B⟩:=one;refine⟨v::vs,?_,by simp[p],fun i g D => ?_⟩
    ·simp only[EX,Am,A,o,Aa,Ap]
    ·cases i with
     | zero=>exact B
     | succ i=>exact q i (by simpa using g) (by simpa using D)
 | [],_::_,_,f,_=>by cases f
 | _::_,[],_,f,_=>by cases f
theorem rP{Y X O:Nat->Prop}{B:Nat->Prop}{tm:Array Value}{w:World}{t:Nat}{v:Value}{x:AV}(a:∀ b,O b->B b)(h:aV Y X O w v x):F9 Y (fun c=>X c\/O c) B O roots tm w t v (OC x):=by
 cases x
 case pt cs=>exact Agv h
 case fresh k n cs=>exact Ez.lower h a
 case gb cs=>obtain⟨b,e,d,f⟩:=h;exact⟨b,e,⟨a b d,d⟩,f⟩
 all_goals exact h
theorem Abl(x:AV):Cd (OC x)=Lc x:=by cases x <;> rfl
theorem Abm{a:IFunc}{Y X:Nat->Prop}{w:World}{vs:Array Value}{args:List AV}(j:∀ b,X b->b<w.heap.size/\¬ D2 args vs b)(k:∀ b,Y b->b<w.heap.size/\¬ D2 args vs b)(hs:vs.size=C args)(r:C args<=a.slots)
  (hr:∀ (i:Nat) (h1:i<vs.size) (h2:i<C args),aV Y X (D2 args vs) w vs[i] args[i]) (o:∀ (i:Nat) (h:i<C args),Lc args[i]=true->i=0) :
  Rel Y X roots ⟨w,D2 args vs⟩ (CX a args) { tmps:=vs++Dq (a.slots-vs.size) A0,defers:=[] } w:=by
 have m:∀ t,(∃ x,Ag (CX a args) t=OC x/\args[t]? = some x)\/(Ag (CX a args) t = .val .undef/\C args<=t)\/Ag (CX a args) t = .dead:=by
  intro t;simp only[Ag,CX,Z];rcases C6 t (C args) with h1 | h1
  ·refine .inl ⟨args[t],?_,by simp[h1]⟩;rw[AA (by simpa using h1)];simp[h1]
  ·refine .inr ?_;rw[AO (by simpa using h1)];rcases C6 (t-C (args.map OC)) (a.slots-C args) with h2 | h2
   ·rw[List.getElem?_replicate_of_lt h2];exact .inl ⟨rfl,h1⟩
   ·rw[AS (by simpa using h2)];exact .inr rfl
 have n:∀ t,(h:t<C args)->(vs++Dq (a.slots-vs.size) A0).getD t A0=vs[t]'(by omega):=by
  intro t h;rw[Av,RI (by omega),A4 (by omega)];rfl
 have d:∀ t,Cd (Ag (CX a args) t)=true->t=0/\∃ (h:0<C args),Lc args[0]=true:=by
  intro t h0;rcases m t with ⟨x,h1,h2⟩ | ⟨h1,_⟩ | h1 <;> rw[h1] at h0
  ·rw[Abl] at h0;obtain⟨c,f⟩:=AZ.1 h2;subst f;have:=o t c h0;subst this;exact⟨rfl,c,h0⟩
  ·cases h0
  ·cases h0
 have p:∀ b,XS (CX a args) (vs++Dq (a.slots-vs.size) A0) b->D2 args vs b:=by
  rintro b ⟨t,h1,h2⟩;obtain⟨rfl,c,g⟩:=d t h1;rw[n 0 c] at h2;refine⟨?_,by rw[Av,A4 (by omega)];exact h2⟩;cases args with
  | nil=>cases c
  | cons x l=>exact⟨x,l,rfl,by simpa using g⟩
 refine⟨rfl,by simp[CX];omega,⟨rfl,rfl,rfl,Ar _,fun _ _=>rfl⟩,fun b hb e=>e.elim (Ge (j b hb).1) (j b hb).2,fun b hb e=>e.elim (Ge (k b hb).1) (k b hb).2,fun t => ?_,fun t t' b h1 h2 _ _=>(d t h1).1.trans (d t' h2).1.symm⟩;rcases m t with ⟨x,h1,h2⟩ | ⟨h1,h2⟩ | h1
 ·rw[h1];obtain⟨c,f⟩:=AZ.1 h2;have g:=hr t (by omega) c;rw[n t c,<- f];have q:=rP (roots:=roots) (tm:=vs++Dq (a.slots-vs.size) A0) (t:=t) (B:=Base.mine ⟨w,D2 args vs⟩) (fun b hb => .inr hb) g;exact q.monoX fun b hb=>hb.imp id (p b)
 ·rw[h1];have:(vs++Dq (a.slots-vs.size) A0).getD t A0=A0:=by
   rw[Av,Array.getElem?_append_right (by omega),Array.getElem?_replicate];split <;> rfl
  rw[this];exact .undef
 ·rw[h1];trivial
def Lg(P:Program)(f:Nat)(fn:IFunc):Prop :=
 ∀ (F:Bf) (n:Nat) (args:List AV) (x:AV),(if C args=fn.params then (match B1 F n fn.body (CX fn args) with
   | some (.exit _,_)=>none
   | some (_,s)=>EY s fn.res
   | none=>none) else none)=some x->∀ (Y X:Nat->Prop) (w:World) (vs:Array Value),vs.size=C args ->
  (∀ (i:Nat) (h1:i<vs.size) (h2:i<C args),aV Y X (D2 args vs) w vs[i] args[i])->Calls P f vs w fun e w'=>∃ v,e = .returned v/\Grown ⟨w,D2 args vs⟩ w'/\Ee Y X (Base.mine ⟨w,D2 args vs⟩) w' v x/\Qx Y X args vs w' v x
theorem simT(hm:P.follows .mixedOrders=true){a5:Nat->Option IFunc}(hp:∀ f E,a5 f=some E->(∃ fn roots,P.funcs[f]? = some fn/\UK P roots fn E=true)\/Lg P f E):∀ n,G1 P (Ia a5 n):=by
 intro n;induction n with
 | zero=>intro f args x h;simp[Ia] at h
 | succ n ih =>
  intro f args x h Y X w vs b1 b3 hs hr p;simp only[Ia] at h;split at h
  ·cases h
  ·rename_i E b4;rcases hp f E b4 with ⟨fn,roots,b5,a6⟩ | ht;rotate_left
   ·exact ht _ _ _ _ h Y X w vs hs hr
   split at h
   ·rename_i d1;simp only[UK,U,AW,Dm] at a6;obtain⟨⟨⟨h1,h2⟩,a⟩,h4⟩:=a6;split at h1
    ·rename_i c hc;have b6:Rel Y X roots ⟨w,D2 args vs⟩ (CX E args) { tmps:=vs++Dq (fn.ntmps-vs.size) A0,defers:=[] } w:=by
      rw[h2];exact Abm b1 b3 hs (by omega) hr p
     refine calls_of_wp b5 hc ?_;have b7:∀ (s:V) (a':Act) (w':World),Rel Y X roots ⟨w,D2 args vs⟩ s a' w'->EY s E.res=some x ->
       a'.defers=[]/\∃ v,(results fn a'.tmps).run P w' = .ok v w'/\∃ I,Abn v = .returned I/\Grown ⟨w,D2 args vs⟩ w'/\Ee Y X (Base.mine ⟨w,D2 args vs⟩) w' I x/\Qx Y X args vs w' I x:=by
      intro s a' w' o A;refine⟨o.dfr,?_⟩;have J:∀ (us:List Value),(fn.results.toList.mapM (Ha a'.tmps)).run P w' = .ok us w' ->
        (results fn a'.tmps).run P w' = .ok (if h:us.toArray.size=1 then us.toArray[0] else .tuple us.toArray) w':=by
       intro us b8;rw[Th,Ke];simp only[Am,Abc,b8,Aa,Ap]
      have plain:∀ (R:List IRes),E2 P fn.results.toList R=true->GV s R=some x->∃ v,(results fn a'.tmps).run P w' = .ok v w'/\∃ I,Abn v = .returned I/\Grown ⟨w,D2 args vs⟩ w'/\Ee Y X (Base.mine ⟨w,D2 args vs⟩) w' I x:=by
       intro R a A;unfold GV at A;split at A
       ·rename_i y g;cases A;generalize hl:R=lres at g a;unfold G_ at g;split at g
        ·rename_i t;split at g
         ·rename_i cs hr;cases g;cases p:fn.results.toList with
          | nil=>rw[p] at a;cases a
          | cons r D =>
           rw[p] at a;cases D with
           | cons _ _=>simp only[E2,Fz] at a;cases a
           | nil =>
            simp only[E2,FX] at a;cases r with
            | cell _ _=>cases a
            | tmp t' =>
             simp only[KI,AW] at a;subst a;refine⟨_,J [a'.tmps.getD t' A0] (by rw[p];rfl),_,rfl,o.below,?_⟩;simp only[Cr,BF,Ev,AJ,dite_true];have h0:=o.reg t';have K:∀ c,At (a'.tmps.getD t' A0)=some c->XS s a'.tmps c:=fun c hc=>⟨t',by rw[hr];rfl,hc⟩;rw[hr] at h0;obtain⟨b,L,O,Q⟩:=h0;exact⟨b,L,O,Q.mono fun c hc => .inl (hc.imp id (K c))⟩
         ·rename_i k n cs hr;cases g;cases p:fn.results.toList with
          | nil=>rw[p] at a;cases a
          | cons r D =>
           rw[p] at a;cases D with
           | cons _ _=>simp only[E2,Fz] at a;cases a
           | nil =>
            simp only[E2,FX] at a;cases r with
            | cell _ _=>cases a
            | tmp t' =>
             simp only[KI,AW] at a;subst a;refine⟨_,J [a'.tmps.getD t' A0] (by rw[p];rfl),_,rfl,o.below,?_⟩;simp only[Cr,BF,Ev,AJ,dite_true];rcases o.ownLow hr with b9 | ⟨b,cap,L,O,Q,e4,e5,e6,c0⟩
             ·exact .inl b9
             refine .inr ⟨b,cap,L,O,Q,e4,e5.mono fun c hc => .inl ?_,e6⟩;rcases hc with hc | hc
             ·exact .inl hc
             ·simp only[L,At,CN,DV,Bk,Al,Ab] at hc;exact .inr (hc ▸ c0)
         ·rename_i G k n cs hr;cases g;cases p:fn.results.toList with
          | nil=>rw[p] at a;cases a
          | cons r D =>
           rw[p] at a;cases D with
           | cons _ _=>simp only[E2,Fz] at a;cases a
           | nil =>
            simp only[E2,FX] at a;cases r with
            | cell _ _=>cases a
            | tmp t' =>
             simp only[KI,AW] at a;subst a;refine⟨_,J [a'.tmps.getD t' A0] (by rw[p];rfl),_,rfl,o.below,?_⟩;simp only[Cr,BF,Ev,AJ,dite_true];have h0:=o.reg t';rw[hr] at h0;have K:∀ c,At (a'.tmps.getD t' A0)=some c->XS s a'.tmps c:=fun c hc=>⟨t',by rw[hr];rfl,hc⟩;exact IS.own h0 K
         ·cases g
        ·rename_i t u;split at g
         ·rename_i k n cs hr;split at g
          ·rename_i G c1;cases g;cases p:fn.results.toList with
           | nil=>rw[p] at a;cases a
           | cons r D =>
            rw[p] at a;cases D with
            | nil=>simp only[E2,Fz] at a;cases a
            | cons r2 D =>
             cases D with
             | cons _ _=>simp only[E2,Fz] at a;cases a
             | nil =>
              simp only[E2,FX,U] at a;obtain⟨a,T⟩:=a;cases r with
              | cell _ _=>cases a
              | tmp t' =>
               cases r2 with
               | cell _ _=>cases T
               | tmp W =>
                simp only[KI,AW] at a T;subst a T;have Z:=o.reg W;rw[c1] at Z;have c2:a'.tmps.getD W A0 = .bool G:=by
                 generalize a'.tmps.getD W A0=q at Z;cases Z;rfl
                refine⟨_,J [a'.tmps.getD t' A0,.bool G] (by rw[p,<- c2];rfl),_,rfl,o.below,?_⟩;have h0:=o.reg t';rw[hr] at h0;have K:∀ c,At (a'.tmps.getD t' A0)=some c->XS s a'.tmps c:=fun c hc=>⟨t',by rw[hr];rfl,hc⟩;have c3:IS Y (fun c=>X c\/XS s a'.tmps c) (Base.mine ⟨w,D2 args vs⟩) w' (.tuple #[a'.tmps.getD t' A0,.bool G]) (.tp G) k n cs:=⟨_,rfl,h0⟩;exact IS.own c3 (fun c hc=>K c (by rw[<- hc];exact (Er (.tp G) h0).symm))
          ·cases g
         ·cases g
        ·rename_i t n one;split at g
         ·rename_i d hr;split at g
          ·rename_i G k m cs a7;split at g
           ·rename_i hn;obtain⟨rfl,rfl⟩:=hn;cases g;cases p:fn.results.toList with
            | nil=>rw[p] at a;cases a
            | cons r D =>
             rw[p] at a;cases D with
             | cons _ _=>simp only[E2,Fz] at a;cases a
             | nil =>
              simp only[E2,FX] at a;cases r with
              | tmp _=>cases a
              | cell t' ty =>
               simp only[KI,U,AW] at a;obtain⟨rfl,a⟩:=a;have h0:=o.reg t';rw[hr] at h0;obtain⟨_,b,F,_,_,M⟩:=h0;have h5:=o.reg d;rw[a7] at h5;obtain⟨u,hu,d2⟩:=id h5;obtain⟨q1,q2⟩:=Ed a;rw[hu] at M;have hl:=run_loadCells (P:=P) w' ⟨b,0,none⟩ 2 (fun i=>#[TZ G,u].getD i A0) (fun j hj=>by
                rw[Dk,AJ,M j hj];match j,hj with
                | 0,_=>rfl
                | 1,_=>rfl)
               have c4:(Ha a'.tmps (.cell t' ty)).run P w' = .ok (.agg #[.bool G,u]) w':=by
                simp only[Ha,Am,F,asAddr,Ap,Aa,loadVar,q1,q2,hl,Bool.not_false,if_true];rfl
               refine⟨_,J [.agg #[.bool G,u]] (by rw[p];simp only[EX,Ary,Am,c4,Aa,Ap]),_,rfl,o.below,?_⟩;have K:∀ c,At (a'.tmps.getD d A0)=some c->XS s a'.tmps c:=fun c hc=>⟨d,by rw[a7];rfl,hc⟩;have:=IS.own h5 K;rw[hu] at this;exact this
           ·cases g
          ·cases g
         ·cases g
        ·cases g
       split at A
       ·rename_i y g;cases A;obtain⟨us,F,H,N⟩:=Nr o a g;refine⟨_,J us F,_,rfl,o.below,?_⟩;have hl:us.toArray.size=1:=by simpa using H
        rw[dif_pos hl];have:=N 0 (by simp at H;omega) (by simp);exact .of_rd (by simpa using this)
       ·rename_i ys c5 g;cases A;obtain⟨us,F,H,N⟩:=Nr o a g;refine⟨_,J us F,_,rfl,o.below,?_⟩;have hl:¬ us.toArray.size=1:=by
         intro hh;have:C ys=1:=by rw[<- H];simpa using hh
         match ys,this with
         | [y],_=>exact c5 y rfl
        rw[dif_neg hl];exact .of_rd (.tup _ _ (by simpa using H) (fun i h1 h2=>by simpa using N i (by simpa using h1) h2))
       ·cases A
      unfold EY at A;split at A
      ·rename_i rr c6;rw[c6] at a;split at A
       ·rename_i cs y a1 g;cases A;have a8:=o.reg 0;rw[a1] at a8;obtain⟨b,L,O,Q⟩:=a8;have B:E2 P fn.results.toList [rr]=true:=a;cases a2:fn.results.toList with
        | nil=>rw[a2] at B;cases B
        | cons r D =>
         rw[a2] at B;cases D with
         | cons _ _=>simp only[E2,Fz] at B;cases B
         | nil =>
          simp only[E2,FX] at B;have one:∃ v,(Ha a'.tmps r).run P w' = .ok v w'/\Rd Y (fun c=>X c\/XS s a'.tmps c) w' v y:=by
           cases r with
           | tmp t =>
            cases rr with
            | cell _ _ _=>cases B
            | giv=>cases B
            | tmp t' =>
             simp only[KI,AW] at B;subst B;simp only[Zi] at g;split at g
             next z a3=>cases g;have:=o.reg t;rw[a3] at this;exact⟨_,rfl,this⟩
             ·cases g
           | cell t ty =>
            cases rr with
            | tmp _=>cases B
            | giv=>cases B
            | cell t' n one =>
             simp only[KI,U,AW] at B;obtain⟨rfl,B⟩:=B;simp only[Zi] at g;split at g
             next d3 a3=>have:=o.reg t;rw[a3] at this;obtain⟨b2,F,_,N⟩:=this;obtain⟨v,M,g5⟩:=Ng (P:=P) B N.mem g;refine⟨v,?_,g5⟩;simp only[Bn] at M;simp only[Ha,Am,F,asAddr,Ap,Aa,M]
             ·cases g
          obtain⟨v,F,H⟩:=one;have hv:=J [v] (by rw[a2];simp only[EX,Ary,Am,F,Aa,Ap]);refine⟨v,hv,v,rfl,o.below,H.mono fun c hc => .inl (.inl hc),fun d4 la d5 y' ea e => ?_⟩;cases e;obtain⟨hg,S⟩:=O.2;subst ea;have a9:=hr 0 (by rw[hs];simp) (by simp);have b0:vs.getD 0 A0=vs[0]'(by rw[hs];simp):=by rw[Av,A4];rfl
          rw[b0] at S;simp only[Bk] at a9;refine⟨b,?_,Q.mono fun c hc => .inl (hc.imp id fun e => ?_),H.mono fun c hc => .inl (hc.imp id fun e => ?_)⟩
          ·rw[b0];obtain⟨b',k1,_,_⟩:=a9;rw[k1] at S |-;simp only[At,CN,Al,Ab] at S;rw[S]
          ·exact⟨0,by rw[a1];rfl,by rw[L,e];rfl⟩
          ·exact⟨0,by rw[a1];rfl,by rw[L,e];rfl⟩
       ·cases A
      ·have hx:∃ z,GV s E.res=some z/\Ags (some z)=some x:=by
        cases hb:GV s E.res with
        | none=>rw[hb] at A;cases A
        | some z=>rw[hb] at A;exact⟨z,rfl,A⟩
       obtain⟨z,hz,a4⟩:=hx;have c7:z=x/\∀ cs y,x ≠ .io cs y:=by
        cases z <;> first | (cases a4;done) | (simp only[Ags,Ab] at a4;subst a4;exact⟨rfl,fun _ _ e=>by cases e⟩)
       obtain⟨rfl,c8⟩:=c7;obtain⟨v,F,I,H,N,M⟩:=plain E.res (by
        cases hl:E.res with
        | nil=>rw[hl] at a;exact a
        | cons r l =>
         rw[hl] at a hz;cases r with
         | giv=>simp[GV,G_,CB,DK] at hz
         | tmp _=>exact a
         | cell _ _ _=>exact a) hz
       exact⟨v,F,I,H,N,M,fun _ _ cs y _ e=>absurd e (c8 cs y)⟩
     split at h
     ·cases h
     ·rename_i ex s c9 d0;refine simC hm ih n c E.body _ s ex _ w _ h1 b6 d0 fun a' w' o => ?_;have:=b7 s a' w' o h;cases ex with
      | norm=>exact this
      | ret=>exact this
      | exit i=>exact (c9 i rfl).elim
     ·cases h
    ·cases h1
   ·cases h
end
def Le(F G:Bf):Prop:=∀ f args r,F f args=some r->G f args=some r
theorem Arz{F G:Bf}(h:Le F G){s:V}{k:K}{p:Reg × List (Nat × Reg)}(a:A2 F s k=some p):A2 G s k=some p:=by
 cases k
 case call f xs =>
  simp only[A2] at a |-;split at a
  next vs g=>simp only[S] at a |-;obtain⟨v,b,c⟩:=a;exact⟨v,h f vs v b,c⟩
  ·cases a
 case clo f xs =>
  simp only[A2] at a |-;split at a
  next vs g=>simp only[S] at a |-;obtain⟨v,b,c⟩:=a;exact⟨v,h f vs v b,c⟩
  ·cases a
 case cln f xs ls =>
  simp only[A2] at a |-;split at a
  ·rename_i vs g;split at a
   next hl=>rw[Af hl];simp only[S] at a |-;obtain⟨v,b,c⟩:=a;exact⟨v,h f vs v b,c⟩
   ·cases a
  ·cases a
 case brw f x d =>
  simp only[A2] at a |-;split at a
  ·split at a
   ·rename_i hd;rw[Af hd];split at a
    ·split at a
     ·rename_i hc;rw[Af hc];split at a
      next y e=>rw[h _ _ _ e];exact a
      ·cases a
     ·cases a
    ·cases a
   ·cases a
  ·cases a
 case cao f k x xs =>
  simp only[A2] at a |-;repeat' split at a
  all_goals first
   | (simp only[S] at a |-;obtain⟨v,b,c⟩:=a;exact⟨v,h f _ v b,c⟩)
   | cases a
 case clw f xs d ls =>
  simp only[A2] at a |-;split at a
  ·rename_i vs g;split at a
   next hl=>rw[Af hl];simp only[S] at a |-;obtain⟨v,b,c⟩:=a;exact⟨v,h f vs v b,c⟩
   ·cases a
  ·cases a
 case bwh f xs us =>
  simp only[A2] at a |-;split at a
  ·split at a
   next y e=>rw[h _ _ _ e];exact a
   ·cases a
  ·cases a
 case cab f x d xs =>
  simp only[A2] at a |-;split at a
  ·split at a
   ·rename_i hd;rw[Af hd];split at a
    ·split at a
     next e=>rw[h _ _ _ e];exact a
     ·cases a
    ·split at a
     next e=>rw[h _ _ _ e];exact a
     ·cases a
    ·cases a
   ·cases a
  ·cases a
 all_goals exact a
theorem UL{F G:Bf}(h:Le F G){o:IOp}{s s':V}(a:Dz F o s=some s'):Dz G o s=some s':=by
 simp only[Dz,Gi] at a |-;split at a
 ·cases a
 ·exact a
 ·split at a
  ·cases a
  next r l b=>rw[Arz h b];exact a
theorem J1{F G:Bf}(h:Le F G):∀ {l:List IOp} {s s':V},Cx F l s=some s'->Cx G l s=some s'
 | [],_,_,a=>a
 | o::l,s,s',a=>by
  simp only[Cx] at a |-;cases h1:Dz F o s with
  | none=>rw[h1] at a;cases a
  | some b =>
   rw[h1] at a;rw[UL h h1];exact J1 h a
theorem EP{F G:Bf}(h:Le F G):∀ {n m:Nat},n<=m->∀ {c:ICode} {s:V} {r:Ex × V},B1 F n c s=some r->B1 G m c s=some r:=by
 intro n;induction n with
 | zero=>intro m _ c s r e;simp[B1] at e
 | succ n f =>
  intro m l c s r e;obtain⟨m,rfl⟩:∃ j,m=j+1:=⟨m-1,by omega⟩;have g:n<=m:=by omega
  cases c with
  | skip=>exact e
  | region d ops =>
   simp only[B1,S] at e |-;obtain⟨s',h1,h2⟩:=e;exact⟨s',J1 h h1,h2⟩
  | seq a b =>
   simp only[B1] at e |-;cases h1:B1 F n a s with
   | none=>rw[h1] at e;cases e
   | some p =>
    rw[h1] at e;rw[f g h1];obtain⟨ex,k⟩:=p;cases ex with
    | norm=>exact f g e
    | exit i=>exact e
    | ret=>exact e
  | cond c a b =>
   simp only[B1] at e |-;split at e
   ·exact f g e
   ·exact f g e
   ·cases e
  | block id c =>
   simp only[B1] at e |-;cases h1:B1 F n c s with
   | none=>rw[h1] at e;cases e
   | some p =>
    rw[h1] at e;rw[f g h1];exact e
  | scope c=>exact f g e
  | loop c =>
   simp only[B1] at e |-;cases h1:B1 F n c s with
   | none=>rw[h1] at e;cases e
   | some p =>
    rw[h1] at e;rw[f g h1];obtain⟨ex,k⟩:=p;cases ex with
    | norm=>exact f g e
    | exit i=>exact e
    | ret=>exact e
  | exit id=>exact e
  | ret=>exact e
section
variable(a:Nat->Option IFunc)
theorem Dn:∀ {n m:Nat},n<=m->Le (Ia a n) (Ia a m):=by
 intro n;induction n with
 | zero=>intro m _ f args r h;simp[Ia] at h
 | succ n d =>
  intro m g f args r h;obtain⟨m,rfl⟩:∃ e,m=e+1:=⟨m-1,by omega⟩;have b:n<=m:=by omega
  simp only[Ia] at h |-;split at h
  ·cases h
  ·rename_i fn i;split at h
   ·rename_i hl;rw[Af hl];cases h1:B1 (Ia a n) n fn.body (CX fn args) with
    | none=>rw[h1] at h;cases h
    | some p =>
     rw[h1] at h;rw[EP (d b) b h1];exact h
   ·cases h
def EZ(f:Nat)(args:List AV)(r:AV):Prop:=∃ n,Ia a n f args=some r
def CO(c:ICode)(s:V)(ex:Ex)(s':V):Prop:=∃ n,B1 (Ia a n) n c s=some (ex,s')
end
theorem KJ{a:Nat->Option IFunc}{f:Nat}{fn:IFunc}{args:List AV}{s:V}{ex:Ex}{r:AV}(hf:a f=some fn)(hl:C args=fn.params)(h:CO a fn.body (CX fn args) ex s)
  (b:∀ i,ex ≠ .exit i) (hr:EY s fn.res=some r):EZ a f args r:=by
 obtain⟨n,h⟩:=h;refine⟨n+1,?_⟩;simp only[Ia,hf,Af hl,h];cases ex with
 | norm=>exact hr
 | ret=>exact hr
 | exit i=>exact absurd rfl (b i)
section
variable{prog:Nat->Option IFunc}
theorem CO.seq{a b:ICode}{s e s':V}{ex:Ex}(h1:CO prog a s .norm e)(h2:CO prog b e ex s'):CO prog (.seq a b) s ex s':=by
 obtain⟨n,h1⟩:=h1;obtain⟨m,h2⟩:=h2;refine⟨max n m+1,?_⟩;have d:=EP (Dn prog (show n<=max n m+1 by omega)) (show n<=max n m by omega) h1;have f:=EP (Dn prog (show m<=max n m+1 by omega)) (show m<=max n m by omega) h2;simp only[B1,d,f]
theorem Eg{a b:ICode}{s s':V}{ex:Ex}(h1:CO prog a s ex s')(g:ex ≠ .norm):CO prog (.seq a b) s ex s':=by
 obtain⟨n,h1⟩:=h1;refine⟨n+1,?_⟩;have d:=EP (Dn prog (show n<=n+1 by omega)) (show n<=n by omega) h1;simp only[B1,d];cases ex with
 | norm=>exact absurd rfl g
 | exit i=>rfl
 | ret=>rfl
theorem CO.scope{c:ICode}{s s':V}{ex:Ex}(h:CO prog c s ex s'):CO prog (.scope c) s ex s':=by
 obtain⟨n,h⟩:=h;exact⟨n+1,by simp only[B1];exact EP (Dn prog (by omega)) (Ar _) h⟩
theorem CO.block{id:Nat}{c:ICode}{s s':V}(h:CO prog c s (.exit id) s'):CO prog (.block id c) s .norm s':=by
 obtain⟨n,h⟩:=h;refine⟨n+1,?_⟩;have d:=EP (Dn prog (show n<=n+1 by omega)) (show n<=n by omega) h;simp only[B1,d,if_true]
theorem Km{id:Nat}{c:ICode}{s s':V}(h:CO prog c s .norm s'):CO prog (.block id c) s .norm s':=by
 obtain⟨n,h⟩:=h;refine⟨n+1,?_⟩;have d:=EP (Dn prog (show n<=n+1 by omega)) (show n<=n by omega) h;simp only[B1,d]
theorem Lh{id i:Nat}{c:ICode}{s s':V}(h:CO prog c s (.exit i) s')(hi:i ≠ id):CO prog (.block id c) s (.exit i) s':=by
 obtain⟨n,h⟩:=h;refine⟨n+1,?_⟩;have d:=EP (Dn prog (show n<=n+1 by omega)) (show n<=n by omega) h;simp only[B1,d,Ak hi]
theorem Li{id:Nat}{c:ICode}{s s':V}(h:CO prog c s .ret s'):CO prog (.block id c) s .ret s':=by
 obtain⟨n,h⟩:=h;refine⟨n+1,?_⟩;have d:=EP (Dn prog (show n<=n+1 by omega)) (show n<=n by omega) h;simp only[B1,d]
theorem CO.loop{c:ICode}{s e s':V}{ex:Ex}(h1:CO prog c s .norm e)(h2:CO prog (.loop c) e ex s'):CO prog (.loop c) s ex s':=by
 obtain⟨n,h1⟩:=h1;obtain⟨m,h2⟩:=h2;refine⟨max n m+1,?_⟩;have d:=EP (Dn prog (show n<=max n m+1 by omega)) (show n<=max n m by omega) h1;have f:=EP (Dn prog (show m<=max n m+1 by omega)) (show m<=max n m by omega) h2;simp only[B1,d,f]
theorem M9{c:ICode}{s s':V}{ex:Ex}(h1:CO prog c s ex s')(g:ex ≠ .norm):CO prog (.loop c) s ex s':=by
 obtain⟨n,h1⟩:=h1;refine⟨n+1,?_⟩;have d:=EP (Dn prog (show n<=n+1 by omega)) (show n<=n by omega) h1;simp only[B1,d];cases ex with
 | norm=>exact absurd rfl g
 | exit i=>rfl
 | ret=>rfl
end
def rQ(a:Nat->Option IFunc)(F:Bf):Prop:=∀ f args r,F f args=some r->EZ a f args r
theorem Q5{p:Nat->Option IFunc}{F:Bf}(h:rQ p F):∀ {l:List IOp} {s s':V},Cx F l s=some s'->∃ n,Cx (Ia p n) l s=some s'
 | [],s,s',i=>⟨0,i⟩
 | o::l,s,s',i=>by
  simp only[Cx] at i;cases h1:Dz F o s with
  | none=>rw[h1] at i;cases i
  | some t =>
   rw[h1] at i;obtain⟨n,hn⟩:=Q5 h i;have u:∃ m,Dz (Ia p m) o s=some t:=by
    simp only[Dz,Gi] at h1 |-;generalize kill s o.ks=s at *
    split at h1
    ·cases h1
    ·exact⟨0,h1⟩
    ·split at h1
     ·cases h1
     ·rename_i r w a;have:∃ m,A2 (Ia p m) s o.k=some (r,w):=by
       cases c:o.k
       case call f xs =>
        rw[c] at a;simp only[A2] at a |-;split at a
        next vs q=>simp only[S] at a;obtain⟨v,g,e⟩:=a;obtain⟨m,b⟩:=h f vs v g;exact⟨m,by simp only[b,Al,e]⟩
        ·cases a
       case clo f xs =>
        rw[c] at a;simp only[A2] at a |-;split at a
        next vs q=>simp only[S] at a;obtain⟨v,g,e⟩:=a;obtain⟨m,b⟩:=h f vs v g;exact⟨m,by simp only[b,Al,e]⟩
        ·cases a
       case cln f xs ls =>
        rw[c] at a;simp only[A2] at a |-;split at a
        ·rename_i vs q;split at a
         next hl=>simp only[S] at a;obtain⟨v,g,e⟩:=a;obtain⟨m,b⟩:=h f vs v g;exact⟨m,by rw[Af hl,b];simp only[Al,e]⟩
         ·cases a
        ·cases a
       case brw f x d =>
        rw[c] at a;simp only[A2] at a |-;split at a
        ·split at a
         ·rename_i hd;split at a
          ·split at a
           ·rename_i hc;split at a
            next y j=>obtain⟨m,b⟩:=h _ _ _ j;exact⟨m,by rw[Af hd,Af hc,b];exact a⟩
            ·cases a
           ·cases a
          ·cases a
         ·cases a
        ·cases a
       case cao f k x xs =>
        rw[c] at a;simp only[A2] at a |-;repeat' split at a
        all_goals first
         | (simp only[S] at a;obtain⟨v,g,e⟩:=a;obtain⟨m,b⟩:=h f _ v g;exact⟨m,by simp only[b,Al,e]⟩)
         | cases a
       case clw f xs d ls =>
        rw[c] at a;simp only[A2] at a |-;split at a
        ·rename_i vs q;split at a
         next hl=>simp only[S] at a;obtain⟨v,g,e⟩:=a;obtain⟨m,b⟩:=h f vs v g;exact⟨m,by rw[Af hl,b];simp only[Al,e]⟩
         ·cases a
        ·cases a
       case bwh f xs us =>
        rw[c] at a;simp only[A2] at a |-;split at a
        ·split at a
         next y j=>obtain⟨m,b⟩:=h _ _ _ j;exact⟨m,by rw[b];exact a⟩
         ·cases a
        ·cases a
       case cab f x d xs =>
        rw[c] at a;simp only[A2] at a |-;split at a
        ·split at a
         ·rename_i hd;split at a
          ·split at a
           next j=>obtain⟨m,b⟩:=h _ _ _ j;exact⟨m,by rw[Af hd,b];exact a⟩
           ·cases a
          ·split at a
           next j=>obtain⟨m,b⟩:=h _ _ _ j;exact⟨m,by rw[Af hd,b];exact a⟩
           ·cases a
          ·cases a
         ·cases a
        ·cases a
       all_goals (rw[c] at a;exact⟨0,a⟩)
      obtain⟨m,b⟩:=this;exact⟨m,by rw[b];exact h1⟩
   obtain⟨m,b⟩:=u;refine⟨max n m,?_⟩;simp only[Cx,UL (Dn p (show m<=max n m by omega)) b];exact J1 (Dn p (show n<=max n m by omega)) hn
section
variable{j:Nat->Option IFunc}
theorem rR{F:Bf}(h:rQ j F):∀ (n:Nat) {c:ICode} {s:V} {ex:Ex} {s':V},B1 F n c s=some (ex,s')->CO j c s ex s':=by
 intro n;induction n with
 | zero=>intro c s ex s' e;simp[B1] at e
 | succ n g =>
  intro c s ex s' e;cases c with
  | skip=>exact⟨1,e⟩
  | region d ops =>
   simp only[B1,S] at e;obtain⟨l,h1,h2⟩:=e;obtain⟨m,k⟩:=Q5 h h1;refine⟨m+1,?_⟩;simp only[B1,J1 (Dn j (show m<=m+1 by omega)) k,Al,h2]
  | seq a b =>
   simp only[B1] at e;split at e
   next l h1=>exact CO.seq (g h1) (g e)
   next h1=>exact Eg (g e) (by rintro rfl;exact h1 s' e)
  | cond c a b =>
   simp only[B1] at e;split at e
   next hc=>obtain⟨m,k⟩:=g e;exact⟨m+1,by simp only[B1,hc];exact EP (Dn j (by omega)) (Ar _) k⟩
   next hc=>obtain⟨m,k⟩:=g e;exact⟨m+1,by simp only[B1,hc];exact EP (Dn j (by omega)) (Ar _) k⟩
   ·cases e
  | block id c =>
   simp only[B1] at e;split at e
   ·rename_i i l h1;split at e
    next hi=>cases e;subst hi;exact CO.block (g h1)
    next hi=>cases e;exact Lh (g h1) hi
   ·rename_i h1;cases ex with
    | norm=>exact Km (g e)
    | exit i=>exact absurd e (h1 i s')
    | ret=>exact Li (g e)
  | scope c =>
   simp only[B1] at e;exact CO.scope (g e)
  | loop c =>
   simp only[B1] at e;split at e
   next l h1=>exact CO.loop (g h1) (g e)
   next h1=>exact M9 (g e) (by rintro rfl;exact h1 s' e)
  | exit id=>exact⟨1,e⟩
  | ret=>exact⟨1,e⟩
theorem EZ.unique{f:Nat}{args:List AV}{r r':AV}(h:EZ j f args r)(o:EZ j f args r'):r=r':=by
 obtain⟨n,h⟩:=h;obtain⟨m,o⟩:=o;have q:=Dn j (show n<=max n m by omega) f args r h;have p:=Dn j (show m<=max n m by omega) f args r' o;rw[q] at p;exact AM p
end
open Classical in
noncomputable def UM (a:Nat->Option IFunc):Bf:=fun f args=>if h:∃ r,EZ a f args r then some h.choose else none
theorem E'{a:Nat->Option IFunc}{f:Nat}{args:List AV}{r:AV}(h:EZ a f args r):UM a f args=some r:=by
 have b:∃ r,EZ a f args r:=⟨r,h⟩;simp only[UM,dif_pos b];exact congrArg some (b.choose_spec.unique h)
theorem rS(a:Nat->Option IFunc):rQ a (UM a):=by
 intro f args r h;unfold UM at h;split at h
 next b=>cases h;exact b.choose_spec
 ·cases h
abbrev Bo:=List (Nat × (List AV->Option (AV × List Prop)))
def Dl:List Prop->Prop
 | []=>True
 | p::l=>p/\Dl l
def Yz(T:Bo)(f:Nat)(args:List AV):Option (AV × List Prop) :=
 match T.lookup f with
 | some g=>g args
 | none=>none
section
variable(a:Nat->Option IFunc)
def AQ(T:Bo):Prop:=∀ f args r ps,Yz T f args=some (r,ps)->Dl ps->EZ a f args r
theorem AQ.nil:AQ a []:=fun f args r ps h=>by simp [Yz] at h
end
theorem AQ.cons{a:Nat->Option IFunc}{T:Bo}{f:Nat}{g:List AV->Option (AV × List Prop)}(h:AQ a T)(c:∀ args r ps,g args=some (r,ps)->Dl ps->EZ a f args r):AQ a ((f,g)::T):=by
 intro b args r ps hr;simp only[Yz,List.lookup] at hr;by_cases hf:b=f
 ·subst hf;simp at hr;exact c args r ps hr
 ·have:(b==f)=false:=by simpa using hf
  simp only[this] at hr;exact h b args r ps hr
theorem EZ.callsT{P:Program}{c:Nat->Option IFunc}{f:Nat}{args:List AV}{r:AV}(d:P.follows .mixedOrders=true)
  (g:∀ f a,c f=some a->(∃ fn roots,P.funcs[f]? = some fn/\UK P roots fn a=true)\/Lg P f a) (h:EZ c f args r) (X:Nat->Prop) (w:World) (vs:Array Value)
  (hX:∀ b,X b->b<w.heap.size) (hs:vs.size=C args) (hr:∀ (i:Nat) (h1:i<vs.size) (h2:i<C args),Rd (fun _=>False) X w vs[i] args[i]) :
  Calls P f vs w fun e w'=>∃ v,e = .returned v/\Below w.heap.size w w'/\Rd (fun _=>False) X w' v (KZ r):=by
 obtain⟨n,h⟩:=h;exact ((simT d g n).plain f args r h _ X w vs hX (fun _ h=>h.elim) hs hr).mono fun e w' ⟨v,h1,h2,j⟩=>⟨v,h1,h2,j.thawed (fun b hb=>Ge (hX b hb)) (fun _ h=>h.elim)⟩
inductive Sc where
 | b (x:Bool)
 | v (x:AV)
 | l (cs:List AV)
 | r (x:AV)
theorem E_:∀ {l m:List Prop},Dl (l++m)↔Dl l/\Dl m
 | [],m=>by simp[Dl]
 | p::l,m=>by simp only[LH,Dl,E_ (l:=l),and_assoc]
abbrev R3(α:Type):=Option (α × List Sc × List Prop)
def UN(op:BinOp)(k c:IntKind)(a b:Int):Option (AV × List Prop) :=
 match op with
 | .quo=>if k=c then some (.int k (k.wrap (a.tdiv b)),[¬ b=0]) else none
 | .rem=>if k=c then some (.int k (a.tmod b),[¬ b=0]) else none
 | .shl=>some (.int k (k.wrap (a*2^(min b.toNat k.bits))),[¬ b<0])
 | .shr=>some (.int k (a.fdiv (2^(min b.toNat k.bits))),[¬ b<0])
 | op=>(J7 op (.int k a) (.int c b)).map fun v=>(v,[])
theorem Ahx{op:BinOp}{k f:IntKind}{a b:Int}{v:AV}{ps:List Prop}(h:UN op k f a b=some (v,ps))(c:Dl ps):J7 op (.int k a) (.int f b)=some v:=by
 cases op
 case quo =>
  simp only[UN] at h;split at h
  next d=>cases h;simp only[J7,GT,d,U2];simp only[AC,if_false,if_true,Ak c.1]
  ·cases h
 case rem =>
  simp only[UN] at h;split at h
  next d=>cases h;simp only[J7,GT,d,U2];simp only[AC,if_false,if_true,Ak c.1]
  ·cases h
 case shl =>
  simp only[UN] at h;cases h;simp only[J7,GT,if_true,TX,Ak c.1]
 case shr =>
  simp only[UN] at h;cases h;simp only[J7,GT,if_true,TX,Ak c.1]
 all_goals
  simp only[UN,S] at h;obtain⟨u,hu,e⟩:=h;cases e;exact hu
abbrev GX:=Option (Nat × Bool)
def GX.is(m:GX)(t:Nat):Option Bool :=
 match m with
 | some (u,x)=>if u=t then some x else none
 | none=>none
def GX.opd(m:GX):Opd->Option Bool
 | .t n=>m.is n
 | .c _=>none
def GX.Ok(s:V)(m:GX):Prop:=∀ t x,m=some (t,x)->Ag s t = .val (.bool x)
theorem LW{s:V}{m:GX}(h:m.Ok s){o:Opd}{x:Bool}(ho:m.opd o=some x):o.av s=some (.bool x):=by
 cases o with
 | c y=>cases ho
 | t n =>
  simp only[GX.opd,GX.is] at ho;split at ho
  ·rename_i u y;split at ho
   next hu=>cases ho;subst hu;simp only[Opd.av,Opd.reg,h _ _ rfl]
   ·cases ho
  ·cases ho
def Zy(s:V)(d:Nat):Option Opd->Option (Nat × List Prop)
 | none=>some (d,[])
 | some o=>match o.av s with
  | some (.int _ i)=>some (i.toNat,[0<=i])
  | _=>none
theorem UO{s:V}{d:Nat}{o:Option Opd}{n:Nat}{ps:List Prop}(h:Zy s d o=some (n,ps))(a:Dl ps):GU s d o=some n:=by
 cases o with
 | none=>simp only[Zy,Ab,BP] at h;rw[<- h.1];rfl
 | some o =>
  simp only[Zy] at h;simp only[GU];split at h
  next k i hi=>cases h;rw[hi];simp only[Af a.1]
  ·cases h
def FQ(q:Nat->Option IFunc)(T:Bo)(s:V)(m:GX)(k:K)(e:List Sc):R3 (Reg × List (Nat × Reg)) :=
 match k with
 | .pick c a b =>
  match m.opd c with
  | some true=>(a.av s).map fun v=>((.val v,[]),e,[])
  | some false=>(b.av s).map fun v=>((.val v,[]),e,[])
  | none=>match c.av s,e with
  | some (.bool c),.b t::e=>(match t with | true=>(a.av s) | false=>b.av s).map fun v=>((.val v,[]),e,[c=t])
  | _,_=>none
 | .bin op x y =>
  match x.av s,y.av s with
  | some (.int k a),some (.int o b)=>(UN op k o a b).map fun p=>((.val p.1,[]),e,p.2)
  | _,_=>none
 | .ixa x i k =>
  match i.av s,Ag s x with
  | some (.int _ i),.val (.sl n cs)=>some ((.mem (cs.drop (i.toNat*k)),[]),e,[0<=i/\i<n])
  | _,_=>none
 | .ld x d n one =>
  match Ag s x,e with
  | .mem cs,.v u::e=>some ((.val u,[]),e,[Ae cs 0 n one=some u])
  | .ptr w off,e=>if w=d then (match Ag s d,e with
   | .own _ _ cs,.v u::e=>some ((.val u,[]),e,[Ae cs off n one=some u])
   | .box cs,e=>(Ae cs off n one).map fun v=>((.val v,[]),e,[])
   | .bxg cs,e=>(Ae cs off n one).map fun v=>((.val v,[]),e,[])
   | _,_=>none) else none
  | _,e=>(A2 (fun _ _=>none) s (.ld x d n one)).map fun p=>(p,e,[])
 | .six x i =>
  match x.av s,i.av s,e with
  | some (.str b),some (.int _ i),.v (.int .u8 n)::e=>some ((.val (.int .u8 n),[]),e,[((if 0<=i then b[i.toNat]? else none).map fun c=>(c.toNat:Int))=some n])
  | _,_,_=>none
 | .call f xs =>
  match avs s xs with
  | some vs=>(match Yz T f vs with
   | some p=>some ((.val (KZ p.1),[]),e,p.2)
   | none=>(match e with
    | .r r::e=>some ((.val (KZ r),[]),e,[EZ q f vs r])
    | _=>none))
  | none=>none
 | .st x d n v =>
  match v.av s with
  | none=>none
  | some a=>match Gz a n with
   | none=>none
   | some g=>match Ag s x with
    | .box cs=>if x=d then (BE cs 0 g).map fun j=>((.dead,[(d,.box j)]),e,[]) else none
    | .ptr w off=>if w=d then (match Ag s d,e with
     | .own k m cs,.l j::e=>some ((.dead,[(d,.own k m j)]),e,[BE cs off g=some j])
     | .box cs,e=>(BE cs off g).map fun j=>((.dead,[(d,.box j)]),e,[])
     | .bxg cs,e=>(BE cs off g).map fun j=>((.dead,[(d,.bxg j)]),e,[])
     | _,_=>none) else none
    | _=>none
 | .ixo x d i k =>
  match i.av s with
  | some (.int _ i)=>(match Ag s x with
   | .val (.sl n cs)=>some ((.mem (cs.drop (i.toNat*k)),[]),e,[0<=i/\i<n])
   | .dup w=>if w=d then (match Ag s d with
    | .own o n _=>if o=k then some ((.ptr d (i.toNat*k),[]),e,[0<=i/\i<n]) else none
    | _=>none) else none
   | _=>none)
  | _=>none
 | .mks z n =>
  match n.av s with
  | some (.int _ m)=>some ((.own (C z) m.toNat (CE z m.toNat),[]),e,[0<=m/\m<=1048576])
  | _=>none
 | .apd ow x y k B =>
  match y.av s with
  | some (.sl m g)=>(match x.reg s,e with
   | .val .nil,e=>some ((if ow then .own k m g else .val (.sl m g),[]),e,[C g=m*k,m<=B])
   | .own o n cs,e=>if o=k then some ((if ow then .own k (n+m) (cs++g) else .val (.sl (n+m) (cs++g)),U3 x),e,[C g=m*k,n+m<=B]) else none
   | _,_=>none)
  | _=>(A2 (fun _ _=>none) s (.apd ow x y k B)).map fun p=>(p,e,[])
 | .sli x lo hi mx k =>
  match x.av s with
  | some (.sl n cs)=>(match Zy s n mx,Zy s n hi,Zy s 0 lo with
   | some (m,A),some (h,D),some (l,E)=>some ((.val (.sl (h-l) ((cs.drop (l*k)).take ((h-l)*k))),[]),e,A++(D++(E++[l<=h/\h<=m/\m<=n/\(mx.isSome->hi.isSome)])))
   | _,_,_=>none)
  | _=>(A2 (fun _ _=>none) s (.sli x lo hi mx k)).map fun p=>(p,e,[])
 | .clo f xs =>
  match avs s xs with
  | some vs=>(match Yz T f vs with
   | some p=>some ((Fp p.1,[]),e,p.2)
   | none=>(match e with
    | .r r::e=>some ((Fp r,[]),e,[EZ q f vs r])
    | _=>none))
  | none=>none
 | .cln f xs ls =>
  match avs s xs with
  | some vs=>if ls.all (fun t=>Ew (Ag s t)) then (match Yz T f vs with
   | some p=>some ((Fp p.1,[]),e,p.2)
   | none=>(match e with
    | .r r::e=>some ((Fp r,[]),e,[EZ q f vs r])
    | _=>none)) else none
  | none=>none
 | .brw f x d =>
  match Ag s x with
  | .dup w=>if w=d then (match Ag s d with
   | .own _ n cs=>(match Yz T f [.sl n cs] with
    | some p=>some ((.val (KZ p.1),[]),e,[cs.all (fun c => !isI c)=true,KY (KZ p.1)=true]++p.2)
    | none=>(match e with
     | .r r::e=>some ((.val (KZ r),[]),e,[cs.all (fun c => !isI c)=true,KY (KZ r)=true,EZ q f [.sl n cs] r])
     | _=>none))
   | _=>none) else none
  | _=>none
 | .slo x hi k =>
  match hi.av s with
  | some (.int _ h)=>(match Ag s x with
   | .own o n cs=>if o=k then some ((.own k h.toNat (cs.take (h.toNat*k)),[(x,.dead)]),e,[0<=h/\h<=n]) else none
   | _=>none)
  | _=>none
 | .cao f k x xs =>
  match avs s xs with
  | some vs=>(match x with
   | .t m=>(match Ag s m with
    | .own o n cs=>(match Yz T f (.fresh o n cs::vs) with
     | some p=>some ((Fp p.1,[(m,.dead)]),e,p.2)
     | none=>(match e with
      | .r r::e=>some ((Fp r,[(m,.dead)]),e,[EZ q f (.fresh o n cs::vs) r])
      | _=>none))
    | _=>none)
   | .c (.sl 0 [])=>(match Yz T f (.fresh k 0 []::vs) with
    | some p=>some ((Fp p.1,[]),e,p.2)
    | none=>(match e with
     | .r r::e=>some ((Fp r,[]),e,[EZ q f (.fresh k 0 []::vs) r])
     | _=>none))
   | _=>none)
  | none=>none
 | .aph x y k B d us =>
  match y.av s with
  | some (.sl m g)=>(match Ag s d,Ag s x with
   | .box _,.val .nil=>some ((.own k m g,[]),e,[C g=m*k,m<=B])
   | .bxh _ [],.val .nil=>some ((.own k m g,[]),e,[C g=m*k,m<=B])
   | .bxh cs [(off,u)],.dup F=>if F=u/\us.contains u then (match Ag s u with
    | .own o n es=>if o=k then some ((.own k (n+m) (es++g),[(x,.dead),(d,.bxh (cs.set off .undef) []),(u,.dead)]),e,[C g=m*k,n+m<=B]) else none
    | _=>none) else none
   | _,_=>none)
  | _=>none
 | .mkw z n l =>
  match n.av s with
  | some (.int _ m)=>if l.all (fun t=>Ew (Ag s t)) then some ((.own (C z) m.toNat (CE z m.toNat),[]),e,[0<=m/\m<=1048576]) else none
  | _=>none
 | .clw f xs d l =>
  match avs s xs with
  | some vs=>if l.all (fun t=>KX (Ag s t) d) then (match Yz T f vs with
   | some p=>some ((Fp p.1,[]),e,p.2)
   | none=>(match e with
    | .r r::e=>some ((Fp r,[]),e,[EZ q f vs r])
    | _=>none)) else none
  | none=>none
 | .bwh f xs us =>
  match avsH s us xs with
  | some vs=>(match e with
   | .r r::e=>if RM r then some ((.val r,[]),e,[EZ q f vs r]) else none
   | _=>none)
  | none=>none
 | .cab f x d xs =>
  match Ag s x with
  | .ptr w 0=>if w=d then (match Ag s d,avs s xs,e with
   | .box cs,some vs,.r (.io j y)::e=>some ((.val y,[(d,.box j)]),e,[EZ q f (.gb cs::vs) (.io j y)])
   | .bxg cs,some vs,.r (.io j y)::e=>some ((.val y,[(d,.bxg j)]),e,[EZ q f (.gb cs::vs) (.io j y)])
   | _,_,_=>none) else none
  | _=>none
 | .sbn op x y =>
  match x.av s,y.av s,op with
  | some (.str a),some (.str b),.add=>some ((.val (.str (a++b)),[]),e,[a.size+b.size<=9223372036854775807])
  | some (.str a),some (.str b),op=>(Zh op a b).map fun v=>((.val v,[]),e,[])
  | _,_,_=>none
 | k=>(A2 (fun _ _=>none) s k).map fun p=>(p,e,[])
theorem Ahy{L:Nat->Option IFunc}{T:Bo}(F:AQ L T){s:V}{m:GX}(M:m.Ok s){k:K}{W X:List Sc}{p:Reg × List (Nat × Reg)}{ps:List Prop}(h:FQ L T s m k W=some (p,X,ps))(g:Dl ps):A2 (UM L) s k=some p:=by
 cases k
 case pick c a b =>
  simp only[FQ] at h;split at h
  next hmo=>simp only[S] at h;obtain⟨v,o,e⟩:=h;cases e;simp only[A2,LW M hmo,o,Al]
  next hmo=>simp only[S] at h;obtain⟨v,o,e⟩:=h;cases e;simp only[A2,LW M hmo,o,Al]
  split at h
  ·rename_i N t C hc;simp only[S] at h;obtain⟨v,o,e⟩:=h;cases e;have:N=t:=g.1;subst this;cases N with
   | true=>simp only[A2,hc];simp only at o;rw[o];rfl
   | false=>simp only[A2,hc];simp only at o;rw[o];rfl
  ·cases h
 case bin op x y =>
  simp only[FQ] at h;split at h
  next I a k2 b j D=>simp only[S] at h;obtain⟨⟨v,a1⟩,o,e⟩:=h;cases e;simp only[A2,j,D,Ahx o g,Al]
  ·cases h
 case ixa x i k =>
  simp only[FQ] at h;split at h
  next I G n cs hi j=>cases h;simp only[A2,hi,j,Af g.1]
  ·cases h
 case ld x d n one =>
  simp only[FQ] at h;split at h
  next cs u C j=>cases h;simp only[A2,j,g.1,Al]
  ·rename_i J off j;split at h
   ·rename_i hd;split at h
    next k m cs u C hr=>cases h;simp only[A2,j,Af hd,hr,g.1,Al]
    next cs hr=>simp only[S] at h;obtain⟨q,A,e⟩:=h;cases e;simp only[A2,j,Af hd,hr,A,Al]
    next cs hr=>simp only[S] at h;obtain⟨q,A,e⟩:=h;cases e;simp only[A2,j,Af hd,hr,A,Al]
    ·cases h
   ·cases h
  ·simp only[S] at h;obtain⟨q,A,e⟩:=h;cases e;exact A
 case st x d n v =>
  simp only[FQ] at h;split at h
  ·cases h
  ·rename_i a Y;split at h
   ·cases h
   ·rename_i O Z;simp only[A2,Y,Z];split at h
    ·rename_i cs j;rw[j];dsimp only;split at h
     next hd=>simp only[S] at h;obtain⟨q,A,e⟩:=h;cases e;simp only[Af hd,A,Al]
     ·cases h
    ·rename_i J off j;rw[j];dsimp only;split at h
     ·rename_i hd;rw[Af hd];split at h
      next k m cs P C hr=>cases h;simp only[hr,g.1,Al]
      next cs hr=>simp only[S] at h;obtain⟨q,A,e⟩:=h;cases e;simp only[hr,A,Al]
      next cs hr=>simp only[S] at h;obtain⟨q,A,e⟩:=h;cases e;simp only[hr,A,Al]
      ·cases h
     ·cases h
    ·cases h
 case ixo x d i k =>
  simp only[FQ] at h;split at h
  ·rename_i I G hi;split at h
   next n cs j=>cases h;simp only[A2,hi,j,Af g.1]
   ·rename_i J j;split at h
    ·rename_i hd;split at h
     ·rename_i E n cs hr;split at h
      next H=>cases h;simp only[A2,hi,j,Af hd,hr,Af (show E=k/\0<=G/\G<(n:Int) from ⟨H,g.1⟩)]
      ·cases h
     ·cases h
    ·cases h
   ·cases h
  ·cases h
 case mks z n =>
  simp only[FQ] at h;split at h
  next I m hn=>cases h;simp only[A2,hn,Af g.1]
  ·cases h
 case apd ow x y k B =>
  simp only[FQ] at h;split at h
  ·rename_i m O D;split at h
   next j=>cases h;simp only[A2,D,Af g.1,j,Af g.2.1]
   ·rename_i E n cs j;split at h
    next H=>cases h;simp only[A2,D,Af g.1,j,Af (show E=k/\n+m<=B from ⟨H,g.2.1⟩)]
    ·cases h
   ·cases h
  ·simp only[S] at h;obtain⟨q,A,e⟩:=h;cases e;exact A
 case sli x lo hi mx k =>
  simp only[FQ] at h;split at h
  ·rename_i n cs j;split at h
   next m1 p1 h1 p2 l1 p3 b1 b2 b3=>cases h;rw[E_,E_,E_] at g;simp only[A2,j,UO b1 g.1,UO b2 g.2.1,UO b3 g.2.2.1,Af g.2.2.2.1]
   ·cases h
  ·simp only[S] at h;obtain⟨q,A,e⟩:=h;cases e;exact A
 case six x i =>
  simp only[FQ] at h;split at h
  next b I G n C j hi=>cases h;have:=g.1;simp only[S] at this;obtain⟨c,hc,rfl⟩:=this;simp only[A2,j,hi,hc,Al]
  ·cases h
 case call f xs =>
  simp only[FQ] at h;split at h
  ·rename_i vs w;split at h
   next q o=>cases h;simp only[A2,w,E' (F f vs q.1 q.2 o g),Al]
   ·split at h
    next r C=>cases h;simp only[A2,w,E' g.1,Al]
    ·cases h
  ·cases h
 case clo f xs =>
  simp only[FQ] at h;split at h
  ·rename_i vs w;split at h
   next q o=>cases h;simp only[A2,w,E' (F f vs q.1 q.2 o g),Al]
   ·split at h
    next r C=>cases h;simp only[A2,w,E' g.1,Al]
    ·cases h
  ·cases h
 case cln f xs ls =>
  simp only[FQ] at h;split at h
  ·rename_i vs w;split at h
   ·rename_i hl;split at h
    next q o=>cases h;simp only[A2,w,Af hl,E' (F f vs q.1 q.2 o g),Al]
    ·split at h
     next r C=>cases h;simp only[A2,w,Af hl,E' g.1,Al]
     ·cases h
   ·cases h
  ·cases h
 case brw f x d =>
  simp only[FQ] at h;split at h
  ·rename_i J Q;split at h
   ·rename_i R;split at h
    ·rename_i k n cs U;split at h
     next q o=>cases h;have h1:=g.1;have h2:=g.2.1;have h3:=g.2.2;simp only[A2,Q,R,U,if_true,h1,E' (F f _ q.1 q.2 o h3),h2]
     ·split at h
      next r C=>cases h;have h1:=g.1;have h2:=g.2.1;simp only[A2,Q,R,U,if_true,h1,E' g.2.2.1,h2]
      ·cases h
    ·cases h
   ·cases h
  ·cases h
 case slo x hi k =>
  simp only[FQ] at h;split at h
  ·rename_i I G hi;split at h
   ·rename_i E n cs j;split at h
    next H=>cases h;simp only[A2,hi,j,Af (show E=k/\0<=G/\G<=(n:Int) from ⟨H,g.1⟩)]
    ·cases h
   ·cases h
  ·cases h
 case cao f k x xs =>
  simp only[FQ] at h;split at h
  ·rename_i vs w;split at h
   ·split at h
    ·rename_i E n cs j;split at h
     next q o=>cases h;simp only[A2,w,j,E' (F f _ q.1 q.2 o g),Al]
     ·split at h
      next r C=>cases h;simp only[A2,w,j,E' g.1,Al]
      ·cases h
    ·cases h
   ·split at h
    next q o=>cases h;simp only[A2,w,E' (F f _ q.1 q.2 o g),Al]
    ·split at h
     next r C=>cases h;simp only[A2,w,E' g.1,Al]
     ·cases h
   ·cases h
  ·cases h
 case aph x y k B d us =>
  simp only[FQ] at h;split at h
  case h_2=>cases h
  rename_i m O D;split at h
  next hd j=>cases h;simp only[A2,D,Af g.1,hd,j,aph0,Af g.2.1]
  next hd j=>cases h;simp only[A2,D,Af g.1,hd,j,aph0,Af g.2.1]
  ·rename_i cs off u u' hd j;split at h
   case isFalse=>cases h
   rename_i hu;split at h
   case h_2=>cases h
   rename_i E n es hr;split at h
   case isFalse=>cases h
   rename_i H;cases h;simp only[A2,D,Af g.1,hd,j,Af hu,hr,iG,Af (show E=k/\n+m<=B from ⟨H,g.2.1⟩)]
  ·cases h
 case mkw z n l =>
  simp only[FQ] at h;split at h
  ·rename_i I m hn;split at h
   next hl=>cases h;simp only[A2,hn,Af hl,Af g.1]
   ·cases h
  ·cases h
 case clw f xs d l =>
  simp only[FQ] at h;split at h
  ·rename_i vs w;split at h
   ·rename_i hl;split at h
    next q o=>cases h;simp only[A2,w,Af hl,E' (F f vs q.1 q.2 o g),Al]
    ·split at h
     next r C=>cases h;simp only[A2,w,Af hl,E' g.1,Al]
     ·cases h
   ·cases h
  ·cases h
 case bwh f xs us =>
  simp only[FQ] at h;split at h
  case h_2=>cases h
  rename_i vs w;split at h
  case h_2=>cases h
  rename_i r C;split at h
  case isFalse=>cases h
  rename_i hs;cases h;simp only[A2,w,E' g.1,Af hs]
 case cab f x d xs =>
  simp only[FQ] at h;split at h
  case h_2=>cases h
  rename_i J j;split at h
  case isFalse=>cases h
  rename_i hd;split at h
  next cs vs P y C hr w=>cases h;simp only[A2,j,Af hd,hr,w,E' g.1]
  next cs vs P y C hr w=>cases h;simp only[A2,j,Af hd,hr,w,E' g.1]
  ·cases h
 case sbn op x y =>
  simp only[FQ] at h;split at h
  next a b j D=>cases h;simp only[A2,j,D,Zh,Af g.1,Al]
  next a b j D _=>simp only[S] at h;obtain⟨q,A,e⟩:=h;cases e;simp only[A2,j,D,A,Al]
  ·cases h
 all_goals
  simp only[FQ,S] at h;obtain⟨q,A,e⟩:=h;cases e;exact A
def rT(s:V)(m:GX)(g:Option (Nat × Bool))(a:List Sc):R3 (Bool × GX) :=
 match g with
 | none=>some ((true,m),a,[])
 | some (t,b) =>
  match m.is t with
  | some x=>some ((x==b,m),a,[])
  | none=>match Ag s t,a with
   | .val (.bool c),.b x::a=>some ((x==b,some (t,x)),a,[c=x])
   | .val .undef,a=>some ((false,m),a,[])
   | _,_=>none
theorem Zz{s:V}{m d:GX}(a:m.Ok s){g:Option (Nat × Bool)}{f i:List Sc}{r:Bool}{ps:List Prop}(h:rT s m g f=some ((r,d),i,ps))(j:Dl ps):Eb s g=some r/\d.Ok s:=by
 unfold rT at h;split at h
 ·cases h;exact⟨rfl,a⟩
 ·rename_i t b;split at h
  ·rename_i x k;cases h;refine⟨?_,a⟩;have:=LW a (o := .t t) k;simp only[Opd.av,Opd.reg] at this;simp only[Eb];split at this
   next y l=>cases this;rw[l]
   ·cases this
  ·split at h
   next c x n hr=>cases h;have:c=x:=j.1;subst this;refine⟨by simp only[Eb,hr],fun u y e => ?_⟩;cases e;exact hr
   next hr=>cases h;exact⟨by simp only[Eb,hr],a⟩
   ·cases h
def GX.after(m:GX)(wr:List Nat):GX :=
 match m with
 | some (t,x)=>if wr.contains t then none else some (t,x)
 | none=>none
section
variable(b:Nat->Option IFunc)(T:Bo)(o:IOp)(s:V)(m:GX)(a:List Sc)
def bC:R3 (V × GX) :=
 match rT s m o.g a with
 | none=>none
 | some ((false,m),a,ps)=>some ((BD s o.dst (.val .undef),m.after o.wr),a,ps)
 | some ((true,m),a,ps)=>match FQ b T s m o.k a with
  | none=>none
  | some ((r,l),a,qs)=>some ((BD (AE s l) o.dst r,m.after o.wr),a,ps++qs)
def rU:R3 (V × GX):=bC b T o (kill s o.ks) (m.after o.ks) a
end
theorem Y0{s:V}{m:GX}(a:m.Ok s)(ks:List Nat):(m.after ks).Ok (kill s ks):=by
 intro t x e;unfold GX.after at e;split at e
 ·rename_i t' b;split at e
  ·cases e
  next hn=>cases e;rw[Dx,Ak (by simpa using hn)];exact a _ _ rfl
 ·cases e
theorem Ns{F:Bf}{o:IOp}{s s':V}{m:GX}(a:m.Ok s)(h:Gi F o s=some s'):(m.after o.wr).Ok s':=by
 intro t x e;unfold GX.after at e;split at e
 ·rename_i t' d;split at e
  ·cases e
  ·rename_i hn;cases e;rw[Zk] at h;simp only[S] at h;obtain⟨l,hl,rfl⟩:=h;have b:=U7 hl;rw[Ht (fun p c e => ?_)]
   ·exact a _ _ rfl
   ·subst e;have:=b p c;simp only[Em,this,decide_true,not_true_eq_false] at hn
 ·cases e
section
variable{a:Nat->Option IFunc}{T:Bo}
theorem rV(f:AQ a T){o:IOp}{s s':V}{m c:GX}(e:m.Ok s){g i:List Sc}{ps:List Prop}(h:bC a T o s m g=some ((s',c),i,ps))(b:Dl ps):Gi (UM a) o s=some s'/\c.Ok s':=by
 unfold bC at h;split at h
 ·cases h
 ·rename_i k n p j;cases h;obtain⟨h1,h2⟩:=Zz e j b;have d:Gi (UM a) o s=some (BD s o.dst (.val .undef)):=by simp only[Gi,h1]
  exact⟨d,Ns h2 d⟩
 ·rename_i k n p j;split at h
  ·cases h
  ·rename_i r l t qs q;cases h;rw[E_] at b;obtain⟨h1,h2⟩:=Zz e j b.1;have d:Gi (UM a) o s=some (BD (AE s l) o.dst r):=by simp only[Gi,h1,Ahy f h2 q b.2]
   exact⟨d,Ns h2 d⟩
theorem Abo(f:AQ a T){o:IOp}{s s':V}{m c:GX}(e:m.Ok s){g i:List Sc}{ps:List Prop}(h:rU a T o s m g=some ((s',c),i,ps))(b:Dl ps):Dz (UM a) o s=some s'/\c.Ok s' :=
 rV f (Y0 e o.ks) h b
end
def Q6(b:Nat->Option IFunc)(T:Bo):List IOp->V->GX->List Sc->List Prop->R3 V
 | [],s,_,a,ps=>some (s,a,ps)
 | o::l,s,m,a,ps=>match rU b T o s m a with
  | none=>none
  | some ((s',c),d,qs)=>Q6 b T l s' c d (ps++qs)
theorem UP{a:Nat->Option IFunc}{T:Bo}(f:AQ a T):∀ {l:List IOp} {s s':V} {m:GX} {b d:List Sc} {ps c:List Prop},Q6 a T l s m b ps=some (s',d,c)->Dl c->Dl ps/\(m.Ok s->Cx (UM a) l s=some s')
 | [],s,s',m,b,d,ps,c,h,e=>by
  simp only[Q6,Ab,BP] at h;obtain⟨rfl,_,rfl⟩:=h;exact⟨e,fun _=>rfl⟩
 | o::l,s,s',m,b,d,ps,c,h,e=>by
  simp only[Q6] at h;cases h1:rU a T o s m b with
  | none=>rw[h1] at h;cases h
  | some q =>
   obtain⟨⟨n,p⟩,r,qs⟩:=q;rw[h1] at h;obtain⟨h2,g⟩:=UP f h e;rw[E_] at h2;refine⟨h2.1,fun i => ?_⟩;obtain⟨j,k⟩:=Abo f i h1 h2.2;simp only[Cx,j];exact g k
def GG(g:Nat->Option IFunc)(T:Bo):Nat->ICode->V->List Sc->List Prop->R3 (Ex × V)
 | 0,_,_,_,_=>none
 | _+1,.skip,s,d,ps=>some ((.norm,s),d,ps)
 | _+1,.region _ ops,s,d,ps=>match Q6 g T ops s none d ps with
  | none=>none
  | some (s',e,f)=>some ((.norm,s'),e,f)
 | n+1,.seq a b,s,d,ps=>match GG g T n a s d ps with
  | none=>none
  | some ((.norm,s'),e,f)=>GG g T n b s' e f
  | some ((.exit i,s'),e,f)=>some ((.exit i,s'),e,f)
  | some ((.ret,s'),e,f)=>some ((.ret,s'),e,f)
 | n+1,.cond c a b,s,d,ps=>match c.av s,d with
  | some (.bool v),.b true::d=>GG g T n a s d (ps++[v=true])
  | some (.bool v),.b false::d=>GG g T n b s d (ps++[v=false])
  | _,_=>none
 | n+1,.block id c,s,d,ps=>match GG g T n c s d ps with
  | none=>none
  | some ((.exit i,s'),e,f)=>if i=id then some ((.norm,s'),e,f) else some ((.exit i,s'),e,f)
  | some ((.norm,s'),e,f)=>some ((.norm,s'),e,f)
  | some ((.ret,s'),e,f)=>some ((.ret,s'),e,f)
 | n+1,.loop c,s,d,ps=>match GG g T n c s d ps with
  | none=>none
  | some ((.norm,s'),e,f)=>GG g T n (.loop c) s' e f
  | some ((.exit i,s'),e,f)=>some ((.exit i,s'),e,f)
  | some ((.ret,s'),e,f)=>some ((.ret,s'),e,f)
 | n+1,.scope c,s,d,ps=>GG g T n c s d ps
 | _+1,.exit id,s,d,ps=>some ((.exit id,s),d,ps)
 | _+1,.ret,s,d,ps=>some ((.ret,s),d,ps)
theorem Ahz{r:Nat->Option IFunc}{T:Bo}(z:AQ r T):∀ (n:Nat) {c:ICode} {s s':V} {ex:Ex} {u w:List Sc} {ps q:List Prop},GG r T n c s u ps=some ((ex,s'),w,q)->Dl q->Dl ps/\B1 (UM r) n c s=some (ex,s'):=by
 intro n;induction n with
 | zero=>intro c s s' ex u w ps q h;simp[GG] at h
 | succ n k =>
  intro c s s' ex u w ps q h j;cases c with
  | skip=>simp only[GG,Ab,BP] at h;obtain⟨⟨rfl,rfl⟩,_,rfl⟩:=h;exact⟨j,rfl⟩
  | region d ops =>
   simp only[GG] at h;split at h
   ·cases h
   next m l o h1=>cases h;obtain⟨h2,p⟩:=UP z h1 j;have f:=p (fun t x e=>(by cases e));exact⟨h2,by simp only[B1,f,Al]⟩
  | seq a b =>
   simp only[GG] at h;split at h
   ·cases h
   next m l o h1=>obtain⟨h2,p⟩:=k h j;obtain⟨f,g⟩:=k h1 h2;exact⟨f,by simp only[B1,g];exact p⟩
   next i m l o h1=>cases h;obtain⟨f,g⟩:=k h1 j;exact⟨f,by simp only[B1,g]⟩
   next m l o h1=>cases h;obtain⟨f,g⟩:=k h1 j;exact⟨f,by simp only[B1,g]⟩
  | cond c a b =>
   simp only[GG] at h;split at h
   next v l hc=>obtain⟨h2,p⟩:=k h j;rw[E_] at h2;have y:v=true:=h2.2.1;exact⟨h2.1,by simp only[B1,J8,hc,y];exact p⟩
   next v l hc=>obtain⟨h2,p⟩:=k h j;rw[E_] at h2;have y:v=false:=h2.2.1;exact⟨h2.1,by simp only[B1,J8,hc,y];exact p⟩
   ·cases h
  | block id c =>
   simp only[GG] at h;split at h
   ·cases h
   ·rename_i i m l o h1;split at h
    next hi=>cases h;obtain⟨f,g⟩:=k h1 j;exact⟨f,by simp only[B1,g,Af hi]⟩
    next hi=>cases h;obtain⟨f,g⟩:=k h1 j;exact⟨f,by simp only[B1,g,Ak hi]⟩
   next m l o h1=>cases h;obtain⟨f,g⟩:=k h1 j;exact⟨f,by simp only[B1,g]⟩
   next m l o h1=>cases h;obtain⟨f,g⟩:=k h1 j;exact⟨f,by simp only[B1,g]⟩
  | scope c =>
   simp only[GG] at h;obtain⟨f,g⟩:=k h j;exact⟨f,by simp only[B1];exact g⟩
  | loop c =>
   simp only[GG] at h;split at h
   ·cases h
   next m l o h1=>obtain⟨h2,p⟩:=k h j;obtain⟨f,g⟩:=k h1 h2;exact⟨f,by simp only[B1,g];exact p⟩
   next i m l o h1=>cases h;obtain⟨f,g⟩:=k h1 j;exact⟨f,by simp only[B1,g]⟩
   next m l o h1=>cases h;obtain⟨f,g⟩:=k h1 j;exact⟨f,by simp only[B1,g]⟩
  | exit id=>simp only[GG,Ab,BP] at h;obtain⟨⟨rfl,rfl⟩,_,rfl⟩:=h;exact⟨j,rfl⟩
  | ret=>simp only[GG,Ab,BP] at h;obtain⟨⟨rfl,rfl⟩,_,rfl⟩:=h;exact⟨j,rfl⟩
theorem KK{a:Nat->Option IFunc}{T:Bo}(b:AQ a T)(n:Nat){c:ICode}{s s':V}{ex:Ex}(d:List Sc){ps:List Prop}
  (h:GG a T n c s d []=some ((ex,s'),[],ps)) (e:Dl ps):CO a c s ex s':=rR (rS a) n (Ahz b n h e).2
def Aia(a:Nat->Option IFunc)(T:Bo)(n:Nat)(fn:IFunc)(args:List AV)(b:List Sc):Option (AV × List Prop) :=
 match GG a T n fn.body (CX fn args) b [] with
 | some ((.ret,s),[],ps)=>(EY s fn.res).map fun r=>(r,ps)
 | some ((.norm,s),[],ps)=>(EY s fn.res).map fun r=>(r,ps)
 | _=>none
theorem N{a:Nat->Option IFunc}{T:Bo}(c:AQ a T){f:Nat}{fn:IFunc}(hf:a f=some fn)(n:Nat){args:List AV}(hl:C args=fn.params)(b:List Sc){r:AV}{ps:List Prop}
  (h:Aia a T n fn args b=some (r,ps)) (d:Dl ps):EZ a f args r:=by
 unfold Aia at h;split at h
 next s g h1=>simp only[S] at h;obtain⟨r',hr,e⟩:=h;cases e;exact KJ hf hl (KK c n b h1 d) (fun i=>(by nofun)) hr
 next s g h1=>simp only[S] at h;obtain⟨r',hr,e⟩:=h;cases e;exact KJ hf hl (KK c n b h1 d) (fun i=>(by nofun)) hr
 ·cases h
end Go.Ai
namespace Go.Ai
open List renaming all_eq_true->A6,mem_cons_of_mem->AI,mem_cons_self->A1
open Nat renaming beq->Au,ble->CM,div->qU,eq_of_beq_eq_true->Aj,mul->P4,rec->Nu
structure Fx where
 fn:Func
 params:Nat
 slots:Nat
 res:List IRes
 rs:List (Nat × List Nat)
 ex:List (Nat × K)
noncomputable def fx (fn:Func) (n m:Nat) (r:List IRes) (rs:List (Nat × List Nat)) (ex:List (Nat × K)):Fx:=⟨fn,n,m,r,rs,ex⟩
def inL(n:Nat):List Nat->Bool
 | []=>false
 | m::l=>cond (Au m n) true (inL n l)
def lk{α:Type}:List (Nat × α)->Nat->Option α
 | [],_=>none
 | (n,x)::l,f=>cond (Au n f) (some x) (lk l f)
def Aib(t:Nat):List (Nat × List Nat)->Option Nat
 | []=>none
 | (r,l)::m=>cond (inL t l) (some r) (Aib t m)
def Nt(t:Nat)(m:List (Nat × List Nat)):Option Nat:=match Aib t m with
 | some r=>cond (CM 1000 r) none (some r)
 | none=>none
def Fx.roots(x:Fx):List (Nat × Nat):=x.rs.flatMap fun p=>cond (CM 1000 p.1) [] (p.2.map fun t=>(t,p.1))
def Fx.has(x:Fx)(k d:Nat):Bool:=match lk x.rs k with | some l=>inL d l | none=>false
def cA:Value->AV
 | .int k n => .int k n
 | .bool b => .bool b
 | .string s => .str s
 | .slice none _ _ => .sl 0 []
 | _ => .undef
def FE:Operand->Opd
 | .tmp t => .t t
 | .const v => .c (cA v)
 | _ => .c .undef
def MQ:Operand->Nat
 | .tmp t=>t
 | _=>0
def Auj(z:List AV):Nat->List AV
 | 0=>[]
 | n+1=>z++Auj z n
section
variable (P:Program)
section
variable(t:TypeId)
def bD:List AV:=match P.info? t with | some { zero:=some v, .. }=>v.cells.toList.map cA | _=>[]
def Auk:Bool:=match P.underlying t with | some d => !(aP d) | none=>true
def JE:Nat:=match P.underlying t with | some (.slice e)=>e | some (.array _ e)=>e | _=>0
def OH(i:Nat):Nat × Nat:=match P.underlying t with | some (.struct fs)=>(match fs[i]? with | some f=>(f.offset,f.type) | none=>(0,0)) | _=>(0,0)
end
def Aye(x:Fx)(d f:Nat)(l:List Operand):K :=
 match l with
 | .tmp t::a=>cond (x.has 1004 t) (.cab f t ((Nt t x.rs).getD 0) (a.map FE)) (cond (x.has 1002 d) (.clo f (l.map FE)) (.call f (l.map FE)))
 | _ =>
 cond (x.has 1002 d) (.clo f (l.map FE)) (.call f (l.map FE))
def xH(t:TypeId):Bool:=match P.underlying t with | some .string=>true | _=>false
def Aic(x:Fx)(t:Nat):Nat:=match Nt t x.rs with | some r=>cond (Au r x.slots) t r | none=>t
def kT(x:Fx)(d:Nat)(g:TypeId)(op:Op):K :=
 match op with
 | .nilCheck y => .mvp (MQ y) ((Nt d x.rs).getD 0)
 | .move y=>cond (x.has 1004 d) (.mvp (MQ y) ((Nt d x.rs).getD 0)) <| cond (x.has 1000 d) (.tra (MQ y)) (cond (x.has 1001 d) (.frz (MQ y)) (match Nt d x.rs with | some _ => .cpy (MQ y) | none => .mov (FE y)))
 | .assign y=>cond (x.has 1000 d) (match y with | .tmp t => .tra t | .const (.pointer none) => .npt | _ => .nlo (P.cellsOf (JE P g))) (.mov (FE y))
 | .pick c a b => .pick (FE c) (FE a) (FE b)
 | .binOp o t a b _=>cond (Nh P t) (.eqb (o == .neq) (FE a) (FE b)) (cond (xH P t) (.sbn o (FE a) (FE b)) (.bin o (FE a) (FE b)))
 | .unOp o _ a => .un o (FE a)
 | .convert _ t a=>(match P.underlying t with | some (.int k) => .cv k (FE a) | _ => .bad)
 | .alloc t => .new (bD P t) ((lk x.rs d).getD [])
 | .box _ a => .box (FE a) ((lk x.rs d).getD [])
 | .build t ps => .bld (bD P t) (ps.toList.map fun p=>((OH P t p.1).1,P.cellsOf (OH P t p.1).2,FE p.2))
 | .buildSlice t n ps=>(fun k (z:List AV) (qs:List (Nat × Nat × Opd))=>cond (x.has 1002 d) (.blo k n z qs) (.bls n z qs)) (P.cellsOf (JE P t)) (Auj (bD P (JE P t)) n) (ps.toList.map fun p=>(p.1*P.cellsOf (JE P t),P.cellsOf (JE P t),FE p.2))
 | .fieldAddr t a i => .adr (MQ a) ((Nt d x.rs).getD x.slots) (OH P t i).1
 | .load t a => .ld (MQ a) (Aic x (MQ a)) (P.cellsOf t) (Auk P t)
 | .store t a v=>match lk x.ex (1000000+1000*MQ a+MQ v) with | some k=>k | none=>cond (x.has 1003 (MQ v)) (.stl (MQ a) (MQ v)) <| .st (MQ a) (Aic x (MQ a)) (P.cellsOf t) (FE v)
 | .field t a i => .fld (FE a) (OH P t i).1 (P.cellsOf (OH P t i).2) (Auk P (OH P t i).2)
 | .indexAddr t a i=>(match Nt (MQ a) x.rs with | some r => .ixo (MQ a) r (FE i) (P.cellsOf (JE P t)) | none => .ixa (MQ a) (FE i) (P.cellsOf (JE P t)))
 | .index _ a i => .six (FE a) (FE i)
 | .extract a i => .ext (FE a) i
 | .makeSlice t n _ => .mks (bD P (JE P t)) (FE n)
 | .slice t a lo hi m => .sli (FE a) (lo.map FE) (hi.map FE) (m.map FE) (P.cellsOf (JE P t))
 | .call { callee := .value (.func f),args:=l,argTypes:=_ }=>Aye x d f l.toList
 | .call { callee := .builtin .len,args:=l,argTypes:=e }=>cond (match e.toList with | t::_=>xH P t | _=>false) (match l.toList with | a::_ => .sln (FE a) | [] => .bad) <| (match l.toList with | a::_=>(match a with | .tmp t=>(match Nt t x.rs with | some r => .lno t r | none => .len (.t t)) | _ => .len (FE a)) | [] => .bad)
 | .call { callee := .builtin .max,args:=l,argTypes:=_ } => .mx (l.toList.map FE)
 | .call { callee := .builtin .append,args:=l,argTypes:=e }=>(match l.toList,e.toList with
  | a::b::_,t::_ => .apd (x.has 1002 d) (FE a) (FE b) (P.cellsOf (JE P t)) (cond (Qw P (JE P t)) 35184372088832 1048576)
  | _,_ => .bad)
 | _ => .bad
def ioT(x:Fx)(ops:Array Oper)(o:Oper):IOp :=
 (fun (k:K)=>⟨o.dst,k,o.guard.map fun p=>(((ops[p.1]?).bind (·.dst)).getD 0,p.2),match k with | .new _ _=>[] | .box _ _=>[] | .bdo _ _ _=>[] | .cln _ _ _=>[] | .aph a _ _ _ b _=>(match o.dst with | some d=>((lk x.rs d).getD []).filter (fun t => !(Au t a || Au t b)) | none=>[]) | .mkw _ _ l=>(match o.dst with | some d=>((lk x.rs d).getD []).filter (fun t => !(inL t l)) | none=>[]) | .clw _ _ _ l=>(match o.dst with | some d=>((lk x.rs d).getD []).filter (fun t => !(inL t l)) | none=>[]) | _=>(match o.dst with | some d=>(lk x.rs d).getD [] | none=>[])⟩)
  (match o.dst with | some d=>(match lk x.ex d with | some k=>k | none=>kT P x d o.type o.op) | none=>kT P x x.slots o.type o.op)
def chd(i:Nat):Code->Code
 | .seq a b=>cond (Au i 0) a b
 | .cond _ a b=>cond (Au i 0) a b
 | .block _ c=>c
 | .loop c=>c
 | .scope c=>c
 | _ => .skip
noncomputable def cAt (f:Func) (n:Nat):Nat->Code :=
 Nu (motive:=fun _=>Nat->Code) (fun _ => .skip) (fun _ a p=>cond (CM p 1) (match f.body with | some c=>c | none => .skip) (chd (Nat.mod p 2) (a (qU p 2)))) n
def cS(x:Fx)(a:Nat->ICode)(p:Nat):Code->ICode
 | .region _ ops b => .region b (ops.toList.map (ioT P x ops))
 | .seq _ _ => .seq (a (P4 2 p)) (a (Nat.add (P4 2 p) 1))
 | .cond c _ _ => .cond (FE c) (a (P4 2 p)) (a (Nat.add (P4 2 p) 1))
 | .block i _ => .block i (a (P4 2 p))
 | .loop _ => .loop (a (P4 2 p))
 | .scope _ => .scope (a (P4 2 p))
 | .exit i => .exit i
 | .ret => .ret
 | _ => .skip
noncomputable def cP (x:Fx) (n:Nat):Nat->ICode :=
 Nu (motive:=fun _=>Nat->ICode) (fun _ => .skip) (fun _ a p=>cS P x a p (cAt x.fn 99 p)) n
noncomputable def iF (x:Fx):IFunc:=⟨x.params,x.slots,x.res,cP P x 99 1⟩
noncomputable def rW (p:Nat × Fx):Bool:=match P.funcs[p.1]? with | some fn=>UK P p.2.roots fn (iF P p.2) | none=>false
end
theorem xI{α:Type}{f:Nat}{x:α}:∀ {l:List (Nat × α)},lk l f=some x->(f,x)∈l
 | [],h=>by cases h
 | (g,y)::l,h=>by
  unfold lk at h;cases a:Au g f
  ·rw[a] at h;exact AI _ (xI h)
  ·rw[a] at h;cases h;rw[Aj a];exact A1
theorem Aid{P:Program}{l:List (Nat × Fx)}(h:l.all (rW P)=true)(f:Nat)(a:IFunc)(hf:(lk l f).map (iF P)=some a):∃ fn roots,P.funcs[f]? = some fn/\UK P roots fn a=true:=by
 cases hl:lk l f with
 | none=>rw[hl] at hf;cases hf
 | some p =>
  rw[hl] at hf;cases hf;have h1:=A6.1 h _ (xI hl);unfold rW at h1;split at h1
  ·exact⟨_,_,by assumption,h1⟩
  ·cases h1
end Go.Ai
