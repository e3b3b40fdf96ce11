/- Texts of the proof of ContactStates: part 4 of 18. -/
import Derived.Scope
import Derived.Test.YtenfgdobfjofkaaGreatCst3
namespace Go.Ai
open Go.RowKit
open _root_.Array renaming getD_eq_getD_getElem?->A4,getElem?_append_left->U8,getElem?_eq_getElem->AE,mapM_eq_mapM_toList->L5,replicate->DY
open Bool renaming and_eq_true->U,and_false->Fe,and_true->D5,false_eq_true->AC
open Classical renaming epsilon->Avh,epsilon_spec_aux->vV
open Go renaming undef->A9
open Go.Ending renaming returned->Aqg
open Go.Exit renaming inBlock->Apm
open Go.Result renaming andThen_ok->W
open Go.Sem renaming run_bind->Aj,run_map->Apv,run_pure->An
open Go.Value renaming bool->SW
open List renaming cons_append->HZ,contains_eq_mem->CX,getD_eq_getElem?_getD->Z,getElem?_append_left->AO,getElem?_append_right->A_,getElem?_eq_none->AX,getElem?_eq_some_iff->Az,getElem_cons_zero->Bk,getElem_toArray->EI,length->C,length_cons->B1,length_nil->Fr,mapM_cons->Gz,mapM_nil->iT,size_toArray->CS
open Nat renaming add_zero->Bv,le_of_not_lt->vU,le_refl->Ay,lt_or_ge->CH,not_le_of_lt->Ip,strongRecOn->WQ,zero_add->AH
open Option renaming map_eq_some_iff->S,map_some->Am
open Option.some renaming inj->AY,injEq->Ac
open Prod.mk renaming injEq->Cc
def FG(P:Program)(roots:List (Nat × Nat)):Code->ICode->Bool
 | .skip,.skip=>true
 | .label _,.skip=>true
 | .region _ ops g,.region d io=>g==d&&NM P roots ops ops.toList io&&(!g || Tn ops io)
 | .seq a b,.seq a' b'=>FG P roots a a'&&FG P roots b b'
 | .cond c a b,.cond e a' b'=>Bm c e&&FG P roots a a'&&FG P roots b b'
 | .block id c,.block f e=>id==f&&FG P roots c e
 | .loop c,.loop e=>FG P roots c e
 | .scope c,.scope e=>FG P roots c e
 | .exit id,.exit f=>id==f
 | .ret,.ret=>true
 | _,_=>false
def Tq:Ex->Exit
 | .norm => .normal
 | .exit id => .exit id
 | .ret => .ret
theorem RN{p:Nat->Prop}(h:∃ n,p n):∃ n,p n/\∀ m,p m->n<=m:=by
 obtain⟨n,hn⟩:=h;induction n using WQ with
 | _ n c =>
  by_cases b:∃ m,m<n/\p m
  ·obtain⟨m,d,a⟩:=b;exact c m d a
  ·exact⟨n,hn,fun m a=>vU fun e=>b ⟨m,e,a⟩⟩
section
variable {P:Program} {Y X0:Nat->Prop} {roots:List (Nat × Nat)} {w0:Base}
theorem simC[Looks P](K:P.follows .mixedOrders=true){F:Bh}(C:GA P F):∀ (n:Nat) (c:Code) (t:ICode) (s s':H) (ex:Ex) (a:Act) (w:World) (Q:Exit->Act->World->Prop),FG P roots c t=true ->
  Rel Y X0 roots w0 s a w->BJ F n t s=some (ex,s')->(∀ a' w',Rel Y X0 roots w0 s' a' w'->Q (Tq ex) a' w')->c.wp P Q a w:=by
 intro n;induction n using WQ with
 | _ n q =>
  intro c t s s' ex a w Q e h f g;cases n with
  | zero=>simp[BJ] at f
  | succ n =>
   cases t with
   | skip =>
    cases c <;> simp only[FG] at e <;> try cases e
    all_goals
     simp only[BJ,Ac,Cc] at f;obtain⟨rfl,rfl⟩:=f;first | exact wp_skip (g _ _ h) | exact wp_label (g _ _ h)
   | region d io =>
    cases c <;> simp only[FG] at e <;> try cases e
    rename_i id ops L;simp only[U,AM] at e;obtain⟨⟨rfl,h1⟩,h2⟩:=e;simp only[BJ,S] at f;obtain⟨l,D,A⟩:=f;cases A;cases L with
    | false=>exact Aqd C h1 h D g
    | true=>exact Aqc K C h1 (by simpa using h2) h D g
   | seq x y =>
    cases c <;> simp only[FG] at e <;> try cases e
    rename_i c1 c2;simp only[U] at e;simp only[BJ] at f;refine wp_seq ?_;split at f
    next l h1=>refine q n (by omega) c1 x s l .norm a w _ e.1 h h1 fun a' w' j => ?_;exact q n (by omega) c2 y l s' ex a' w' Q e.2 j f g
    ·rename_i h1;refine q n (by omega) c1 x s s' ex a w _ e.1 h f fun a' w' j => ?_;cases ex with
     | norm=>exact absurd f (h1 s')
     | exit id=>exact g _ _ j
     | ret=>exact g _ _ j
   | cond o x y =>
    cases c <;> simp only[FG] at e <;> try cases e
    rename_i o' c1 c2;simp only[U] at e;obtain⟨⟨h1,h2⟩,M⟩:=e;simp only[BJ] at f;have E:∀ b,KO s o=some b->a.eval o' = .bool b:=by
     intro b hb;unfold KO at hb;split at hb
     next b' hav=>cases hb;have:=BG h h1 hav;generalize a.eval o'=v at this;cases this;rfl
     ·cases hb
    split at f
    next hc=>exact wp_cond_true (E true hc) (q n (by omega) c1 x s s' ex a w Q h2 h f g)
    next hc=>exact wp_cond_false (E false hc) (q n (by omega) c2 y s s' ex a w Q M h f g)
    ·cases f
   | block id x =>
    cases c <;> simp only[FG] at e <;> try cases e
    rename_i O c1;simp only[U,AM] at e;obtain⟨rfl,e⟩:=e;simp only[BJ] at f;refine wp_block ?_;split at f
    ·rename_i i l h1;refine q n (by omega) c1 x s l (.exit i) a w _ e h h1 fun a' w' j => ?_;simp only[Tq,Apm];split at f
     next hi=>cases f;rw[Ae hi];exact g _ _ j
     next hi=>cases f;rw[Al hi];exact g _ _ j
    ·rename_i h1;refine q n (by omega) c1 x s s' ex a w _ e h f fun a' w' j => ?_;cases ex with
     | norm=>exact g _ _ j
     | exit i=>exact absurd f (h1 i s')
     | ret=>exact g _ _ j
   | scope x =>
    cases c <;> simp only[FG] at e <;> try cases e
    simp only[BJ] at f;refine wp_scope_straight ?_;refine q n (by omega) _ x s s' ex a w _ e h f fun a' w' j => ?_;cases ex with
    | norm=>exact g _ _ j
    | exit i=>exact g _ _ j
    | ret=>exact g _ _ j
   | loop x =>
    cases c <;> simp only[FG] at e <;> try cases e
    rename_i c1;let p:Act->World->Nat->Prop:=fun a w m=>m<=n+1/\∃ l,Rel Y X0 roots w0 l a w/\BJ F m (.loop x) l=some (ex,s')
    let μ:Act->World->Nat:=fun a w=>@Avh Nat ⟨0⟩ fun m=>p a w m/\∀ k,p a w k->m<=k
    have G:∀ a w,(∃ m,p a w m)->p a w (μ a w)/\∀ k,p a w k->μ a w<=k:=fun a w A=>@vV Nat ⟨0⟩ _ (RN A);refine wp_loop (fun a w=>∃ m,p a w m) μ ⟨n+1,Ay _,s,h,f⟩ ?_;intro u z N;obtain⟨⟨R,l,I,r⟩,T⟩:=G u z N;generalize V:μ u z=m at *
    cases m with
    | zero=>simp[BJ] at r
    | succ m =>
     simp only[BJ] at r;split at r
     next J h2=>refine q m (by omega) c1 x l J .norm u z _ e I h2 fun a' w' j => ?_;have B:p a' w' m:=⟨by omega,J,j,r⟩;refine⟨⟨m,B⟩,?_⟩;have:=(G a' w' ⟨m,B⟩).2 m B;omega
     ·rename_i h2;refine q m (by omega) c1 x l s' ex u z _ e I r fun a' w' j => ?_;cases ex with
      | norm=>exact absurd r (h2 s')
      | exit i=>exact g _ _ j
      | ret=>exact g _ _ j
   | exit id =>
    cases c <;> simp only[FG] at e <;> try cases e
    simp only[AM] at e;subst e;simp only[BJ,Ac,Cc] at f;obtain⟨rfl,rfl⟩:=f;exact wp_exit (g _ _ h)
   | ret =>
    cases c <;> simp only[FG] at e <;> try cases e
    simp only[BJ,Ac,Cc] at f;obtain⟨rfl,rfl⟩:=f;exact wp_ret (g _ _ h)
end
def KR(P:Program):ResultVar->IRes->Bool
 | .tmp t,.tmp t'=>t==t'
 | .cell t a,.cell t' n one=>t==t'&&G7 P a n one
 | _,_=>false
def EO(P:Program):List ResultVar->List IRes->Bool
 | [],[]=>true
 | r::l,r'::a=>KR P r r'&&EO P l a
 | _,_=>false
def lJ(P:Program)(roots:List (Nat × Nat))(fn:Func)(a:IFunc):Bool :=
 (match fn.body with | some c=>FG P roots c a.body | none=>false)&&fn.ntmps==a.slots&&EO P fn.results.toList (Avx a.res)&&decide (a.params<=a.slots)
section
variable {P:Program} {Y X0:Nat->Prop} {roots:List (Nat × Nat)} {w0:Base}
def G_(tm:Array Value):ResultVar->Sem Value
 | .tmp t=>pure (tm.getD t A9)
 | .cell a t=>do loadVar t (<- asAddr (tm.getD a A9))
theorem Wp(fn:Func)(tm:Array Value):results fn tm=(fn.results.mapM (G_ tm)) >>= fun vs=>pure (if h:vs.size=1 then vs[0] else .tuple vs):=by
 unfold results;congr 1
theorem Ph{s:H}{a:Act}{w:World}(h:Rel Y X0 roots w0 s a w):∀ {l:List ResultVar} {m:List IRes} {xs:List AV},EO P l m=true->CF s m=some xs ->
  ∃ vs:List Value,(l.mapM (G_ a.tmps)).run P w = .ok vs w/\C vs=C xs /\
   ∀ (i:Nat) (h1:i<C vs) (h2:i<C xs),Rd Y X0 w vs[i] xs[i]
 | [],[],xs,_,e=>by
  simp only[CF,Ac] at e;subst e;exact⟨[],rfl,rfl,fun i h1 _=>(by simp at h1)⟩
 | r::l,r'::m,xs,f,e=>by
  simp only[EO,U] at f;simp only[CF] at e;cases h1:DA s r' with
  | none=>rw[h1] at e;cases e
  | some x =>
   rw[h1] at e;cases h2:CF s m with
   | none=>rw[h2] at e;cases e
   | some E =>
    rw[h2] at e;cases e;obtain⟨vs,o,p,q⟩:=Ph h f.2 h2;have one:∃ v,(G_ a.tmps r).run P w = .ok v w/\Rd Y X0 w v x:=by
     have hr:=f.1;cases r with
     | tmp t =>
      cases r' with
      | cell _ _ _=>cases hr
      | giv=>cases hr
      | tmp t' =>
       simp only[KR,AM] at hr;subst hr;have h0:=h.reg t;simp only[DA] at h1;cases d:Ag s t with
       | val y=>rw[d] at h1 h0;cases h1;exact⟨_,rfl,Rd.mono h0 fun b hb => .inl (.inl hb)⟩
       | box _=>rw[d] at h1;cases h1
       | ptr _ _=>rw[d] at h1;cases h1
       | mem _=>rw[d] at h1;cases h1
       | own k n cs =>
        rw[d] at h1 h0;cases h1;exact⟨_,rfl,EG.frozen h0 (fun b hb => .inl (.inl hb)) (fun c hc hX=>h.low c hX (EG.block h0 hc).1) h.lowY⟩
       | agn _ _ _ _=>rw[d] at h1;cases h1
       | bxl _=>rw[d] at h1;cases h1
       | dup _=>rw[d] at h1;cases h1
       | sub _ _ _ _=>rw[d] at h1;cases h1
       | bxh _ _=>rw[d] at h1;cases h1
       | agh _ _=>rw[d] at h1;cases h1
       | mp _=>rw[d] at h1;cases h1
       | agf _ _=>rw[d] at h1;cases h1
       | bxf _ _=>rw[d] at h1;cases h1
       | bxg _=>rw[d] at h1;cases h1
       | dead=>rw[d] at h1;cases h1
     | cell t F =>
      cases r' with
      | tmp _=>cases hr
      | giv=>cases hr
      | cell t' n one =>
       simp only[KR,U,AM] at hr;obtain⟨rfl,hr⟩:=hr;have h0:=h.reg t;simp only[DA] at h1;cases d:Ag s t with
       | box cs =>
        rw[d] at h1 h0;obtain⟨b,g,_,u⟩:=h0;obtain⟨v,j,z⟩:=MM (P:=P) hr u.mem h1;refine⟨v,?_,z.mono fun b hb => .inl (.inl hb)⟩;simp only[Bv] at j;simp only[G_,Aj,g,asAddr,An,W,j]
       | val _=>rw[d] at h1;cases h1
       | ptr _ _=>rw[d] at h1;cases h1
       | mem _=>rw[d] at h1;cases h1
       | own _ _ _=>rw[d] at h1;cases h1
       | agn _ _ _ _=>rw[d] at h1;cases h1
       | bxl _=>rw[d] at h1;cases h1
       | dup _=>rw[d] at h1;cases h1
       | sub _ _ _ _=>rw[d] at h1;cases h1
       | bxh _ _=>rw[d] at h1;cases h1
       | agh _ _=>rw[d] at h1;cases h1
       | mp _=>rw[d] at h1;cases h1
       | agf _ _=>rw[d] at h1;cases h1
       | bxf _ _=>rw[d] at h1;cases h1
       | bxg _=>rw[d] at h1;cases h1
       | dead=>rw[d] at h1;cases h1
    obtain⟨v,A,B⟩:=one;refine⟨v::vs,?_,by simp[p],fun i g D => ?_⟩
    ·simp only[Gz,Aj,A,o,W,An]
    ·cases i with
     | zero=>exact B
     | succ i=>exact q i (by simpa using g) (by simpa using D)
 | [],_::_,_,f,_=>by cases f
 | _::_,[],_,f,_=>by cases f
theorem Afp{Y X O:Nat->Prop}{B:Nat->Prop}{tm:Array Value}{w:World}{t:Nat}{v:Value}{x:AV}(a:∀ b,O b->B b)(h:oA Y X O w v x):FN Y (fun c=>X c\/O c) B O roots tm w t v (Q5 x):=by
 cases x
 case pt cs=>exact Avz h
 case fresh k n cs=>exact EG.lower h a
 case gb cs=>obtain⟨b,e,d,f⟩:=h;exact⟨b,e,⟨a b d,d⟩,f⟩
 all_goals exact h
theorem Aqe(x:AV):Cm (Q5 x)=MR x:=by cases x <;> rfl
theorem Aqf{a:IFunc}{Y X:Nat->Prop}{w:World}{vs:Array Value}{args:List AV}(j:∀ b,X b->b<w.heap.size/\¬ Ei args vs b)(k:∀ b,Y b->b<w.heap.size/\¬ Ei args vs b)(hs:vs.size=C args)(r:C args<=a.slots)
  (hr:∀ (i:Nat) (h1:i<vs.size) (h2:i<C args),oA Y X (Ei args vs) w vs[i] args[i]) (o:∀ (i:Nat) (h:i<C args),MR args[i]=true->i=0) :
  Rel Y X roots ⟨w,Ei args vs⟩ (CL a args) { tmps:=vs++DY (a.slots-vs.size) A9,defers:=[] } w:=by
 have m:∀ t,(∃ x,Ag (CL a args) t=Q5 x/\args[t]? = some x)\/(Ag (CL a args) t = .val .undef/\C args<=t)\/Ag (CL a args) t = .dead:=by
  intro t;simp only[Ag,CL,Z];rcases CH t (C args) with h1 | h1
  ·refine .inl ⟨args[t],?_,by simp[h1]⟩;rw[AO (by simpa using h1)];simp[h1]
  ·refine .inr ?_;rw[A_ (by simpa using h1)];rcases CH (t-C (args.map Q5)) (a.slots-C args) with h2 | h2
   ·rw[List.getElem?_replicate_of_lt h2];exact .inl ⟨rfl,h1⟩
   ·rw[AX (by simpa using h2)];exact .inr rfl
 have n:∀ t,(h:t<C args)->(vs++DY (a.slots-vs.size) A9).getD t A9=vs[t]'(by omega):=by
  intro t h;rw[A4,U8 (by omega),AE (by omega)];rfl
 have d:∀ t,Cm (Ag (CL a args) t)=true->t=0/\∃ (h:0<C args),MR args[0]=true:=by
  intro t h0;rcases m t with ⟨x,h1,h2⟩ | ⟨h1,_⟩ | h1 <;> rw[h1] at h0
  ·rw[Aqe] at h0;obtain⟨c,f⟩:=Az.1 h2;subst f;have:=o t c h0;subst this;exact⟨rfl,c,h0⟩
  ·cases h0
  ·cases h0
 have p:∀ b,XS (CL a args) (vs++DY (a.slots-vs.size) A9) b->Ei args vs b:=by
  rintro b ⟨t,h1,h2⟩;obtain⟨rfl,c,g⟩:=d t h1;rw[n 0 c] at h2;refine⟨?_,by rw[A4,AE (by omega)];exact h2⟩;cases args with
  | nil=>cases c
  | cons x l=>exact⟨x,l,rfl,by simpa using g⟩
 refine⟨rfl,by simp[CL];omega,⟨rfl,rfl,rfl,Ay _,fun _ _=>rfl⟩,fun b hb e=>e.elim (Ip (j b hb).1) (j b hb).2,fun b hb e=>e.elim (Ip (k b hb).1) (k b hb).2,fun t => ?_,fun t t' b h1 h2 _ _=>(d t h1).1.trans (d t' h2).1.symm⟩;rcases m t with ⟨x,h1,h2⟩ | ⟨h1,h2⟩ | h1
 ·rw[h1];obtain⟨c,f⟩:=Az.1 h2;have g:=hr t (by omega) c;rw[n t c,<- f];have q:=Afp (roots:=roots) (tm:=vs++DY (a.slots-vs.size) A9) (t:=t) (B:=Base.mine ⟨w,Ei args vs⟩) (fun b hb => .inr hb) g;exact q.monoX fun b hb=>hb.imp id (p b)
 ·rw[h1];have:(vs++DY (a.slots-vs.size) A9).getD t A9=A9:=by
   rw[A4,Array.getElem?_append_right (by omega),Array.getElem?_replicate];split <;> rfl
  rw[this];exact .undef
 ·rw[h1];trivial
def QB(P:Program)(f:Nat)(fn:IFunc):Prop :=
 ∀ (F:Bh) (n:Nat) (args:List AV) (x:AV),(if C args=fn.params then (match BJ F n fn.body (CL fn args) with
   | some (.exit _,_)=>none
   | some (_,s)=>FU s fn.res
   | none=>none) else none)=some x->∀ (Y X:Nat->Prop) (w:World) (vs:Array Value),vs.size=C args ->
  (∀ (i:Nat) (h1:i<vs.size) (h2:i<C args),oA Y X (Ei args vs) w vs[i] args[i])->Calls P f vs w fun e w'=>∃ v,e = .returned v/\Grown ⟨w,Ei args vs⟩ w'/\Eh Y X (Base.mine ⟨w,Ei args vs⟩) w' v x/\Ti Y X args vs w' v x
theorem simT[Looks P](hm:P.follows .mixedOrders=true){a7:Nat->Option IFunc}(hp:∀ f F,a7 f=some F->(∃ fn roots,P.funcs[f]? = some fn/\lJ P roots fn F=true)\/QB P f F):∀ n,GA P (Jm a7 n):=by
 intro n;induction n with
 | zero=>intro f args x h;simp[Jm] at h
 | succ n ih =>
  intro f args x h Y X w vs b4 b5 hs hr o;simp only[Jm] at h;split at h
  ·cases h
  ·rename_i F b6;rcases hp f F b6 with ⟨fn,roots,b7,a8⟩ | ht;rotate_left
   ·exact ht _ _ _ _ h Y X w vs hs hr
   split at h
   ·rename_i d2;simp only[lJ,U,AM,DI] at a8;obtain⟨⟨⟨h1,h2⟩,a⟩,h4⟩:=a8;split at h1
    ·rename_i c hc;have b8:Rel Y X roots ⟨w,Ei args vs⟩ (CL F args) { tmps:=vs++DY (fn.ntmps-vs.size) A9,defers:=[] } w:=by
      rw[h2];exact Aqf b4 b5 hs (by omega) hr o
     refine calls_of_wp b7 hc ?_;have b9:∀ (s:H) (a':Act) (w':World),Rel Y X roots ⟨w,Ei args vs⟩ s a' w'->FU s F.res=some x ->
       a'.defers=[]/\∃ v,(results fn a'.tmps).run P w' = .ok v w'/\∃ L,Aqg v = .returned L/\Grown ⟨w,Ei args vs⟩ w'/\Eh Y X (Base.mine ⟨w,Ei args vs⟩) w' L x/\Ti Y X args vs w' L x:=by
      intro s a' w' p A;refine⟨p.dfr,?_⟩;have J:∀ (us:List Value),(fn.results.toList.mapM (G_ a'.tmps)).run P w' = .ok us w' ->
        (results fn a'.tmps).run P w' = .ok (if h:us.toArray.size=1 then us.toArray[0] else .tuple us.toArray) w':=by
       intro us c0;rw[Wp,L5];simp only[Aj,Apv,c0,W,An]
      have plain:∀ (S:List IRes),EO P fn.results.toList S=true->Ib s S=some x->∃ v,(results fn a'.tmps).run P w' = .ok v w'/\∃ L,Aqg v = .returned L/\Grown ⟨w,Ei args vs⟩ w'/\Eh Y X (Base.mine ⟨w,Ei args vs⟩) w' L x:=by
       intro S a A;unfold Ib at A;split at A
       ·rename_i y g;cases A;generalize hl:S=lres at g a;unfold Ii at g;split at g
        ·rename_i t;split at g
         ·rename_i cs hr;cases g;cases o:fn.results.toList with
          | nil=>rw[o] at a;cases a
          | cons r D =>
           rw[o] at a;cases D with
           | cons _ _=>simp only[EO,Fe] at a;cases a
           | nil =>
            simp only[EO,D5] at a;cases r with
            | cell _ _=>cases a
            | tmp t' =>
             simp only[KR,AM] at a;subst a;refine⟨_,J [a'.tmps.getD t' A9] (by rw[o];rfl),_,rfl,p.below,?_⟩;simp only[CS,B1,Fr,AH,dite_true];have h0:=p.reg t';have M:∀ c,Ax (a'.tmps.getD t' A9)=some c->XS s a'.tmps c:=fun c hc=>⟨t',by rw[hr];rfl,hc⟩;rw[hr] at h0;obtain⟨b,N,Q,R⟩:=h0;exact⟨b,N,Q,R.mono fun c hc => .inl (hc.imp id (M c))⟩
         ·rename_i k n cs hr;cases g;cases o:fn.results.toList with
          | nil=>rw[o] at a;cases a
          | cons r D =>
           rw[o] at a;cases D with
           | cons _ _=>simp only[EO,Fe] at a;cases a
           | nil =>
            simp only[EO,D5] at a;cases r with
            | cell _ _=>cases a
            | tmp t' =>
             simp only[KR,AM] at a;subst a;refine⟨_,J [a'.tmps.getD t' A9] (by rw[o];rfl),_,rfl,p.below,?_⟩;simp only[CS,B1,Fr,AH,dite_true];rcases p.ownLow hr with c1 | ⟨b,cap,N,Q,R,e4,e5,e6,c2⟩
             ·exact .inl c1
             refine .inr ⟨b,cap,N,Q,R,e4,e5.mono fun c hc => .inl ?_,e6⟩;rcases hc with hc | hc
             ·exact .inl hc
             ·simp only[N,Ax,C6,EI,Bk,Am,Ac] at hc;exact .inr (hc ▸ c2)
         ·rename_i I k n cs hr;cases g;cases o:fn.results.toList with
          | nil=>rw[o] at a;cases a
          | cons r D =>
           rw[o] at a;cases D with
           | cons _ _=>simp only[EO,Fe] at a;cases a
           | nil =>
            simp only[EO,D5] at a;cases r with
            | cell _ _=>cases a
            | tmp t' =>
             simp only[KR,AM] at a;subst a;refine⟨_,J [a'.tmps.getD t' A9] (by rw[o];rfl),_,rfl,p.below,?_⟩;simp only[CS,B1,Fr,AH,dite_true];have h0:=p.reg t';rw[hr] at h0;have M:∀ c,Ax (a'.tmps.getD t' A9)=some c->XS s a'.tmps c:=fun c hc=>⟨t',by rw[hr];rfl,hc⟩;exact Kb.own h0 M
         ·cases g
        ·rename_i t u;split at g
         ·rename_i k n cs hr;split at g
          ·rename_i I c3;cases g;cases o:fn.results.toList with
           | nil=>rw[o] at a;cases a
           | cons r D =>
            rw[o] at a;cases D with
            | nil=>simp only[EO,Fe] at a;cases a
            | cons r2 D =>
             cases D with
             | cons _ _=>simp only[EO,Fe] at a;cases a
             | nil =>
              simp only[EO,D5,U] at a;obtain⟨a,Z⟩:=a;cases r with
              | cell _ _=>cases a
              | tmp t' =>
               cases r2 with
               | cell _ _=>cases Z
               | tmp u' =>
                simp only[KR,AM] at a Z;subst a Z;have a1:=p.reg u';rw[c3] at a1;have c4:a'.tmps.getD u' A9 = .bool I:=by
                 generalize a'.tmps.getD u' A9=q at a1;cases a1;rfl
                refine⟨_,J [a'.tmps.getD t' A9,.bool I] (by rw[o,<- c4];rfl),_,rfl,p.below,?_⟩;have h0:=p.reg t';rw[hr] at h0;have M:∀ c,Ax (a'.tmps.getD t' A9)=some c->XS s a'.tmps c:=fun c hc=>⟨t',by rw[hr];rfl,hc⟩;have c5:Kb Y (fun c=>X c\/XS s a'.tmps c) (Base.mine ⟨w,Ei args vs⟩) w' (.tuple #[a'.tmps.getD t' A9,.bool I]) (.tp I) k n cs:=⟨_,rfl,h0⟩;exact Kb.own c5 (fun c hc=>M c (by rw[<- hc];exact (Fg (.tp I) h0).symm))
          ·cases g
         ·cases g
        ·rename_i t n one;split at g
         ·rename_i d hr;split at g
          ·rename_i I k m cs a9;split at g
           ·rename_i hn;obtain⟨rfl,rfl⟩:=hn;cases g;cases o:fn.results.toList with
            | nil=>rw[o] at a;cases a
            | cons r D =>
             rw[o] at a;cases D with
             | cons _ _=>simp only[EO,Fe] at a;cases a
             | nil =>
              simp only[EO,D5] at a;cases r with
              | tmp _=>cases a
              | cell t' T =>
               simp only[KR,U,AM] at a;obtain⟨rfl,a⟩:=a;have h0:=p.reg t';rw[hr] at h0;obtain⟨_,b,E,_,_,O⟩:=h0;have h5:=p.reg d;rw[a9] at h5;obtain⟨u,hu,d3⟩:=id h5;obtain⟨q1,q2⟩:=E6 a;rw[hu] at O;have hl:=run_loadCells (P:=P) w' ⟨b,0,none⟩ 2 (fun i=>#[SW I,u].getD i A9) (fun j hj=>by
                rw[Du,AH,O j hj];match j,hj with
                | 0,_=>rfl
                | 1,_=>rfl)
               have a2:(G_ a'.tmps (.cell t' T)).run P w' = .ok (.agg #[.bool I,u]) w':=by
                simp only[G_,Aj,E,asAddr,An,W,loadVar,q1,q2,hl,Bool.not_false,if_true];rfl
               refine⟨_,J [.agg #[.bool I,u]] (by rw[o];simp only[Gz,iT,Aj,a2,W,An]),_,rfl,p.below,?_⟩;have M:∀ c,Ax (a'.tmps.getD d A9)=some c->XS s a'.tmps c:=fun c hc=>⟨d,by rw[a9];rfl,hc⟩;have:=Kb.own h5 M;rw[hu] at this;exact this
           ·cases g
          ·cases g
         ·rename_i cs ls hr;split at g
          case isFalse=>cases g
          rename_i hn;obtain⟨rfl,rfl⟩:=hn;cases o:fn.results.toList with
          | nil=>rw[o] at a;cases a
          | cons r D =>
           rw[o] at a;cases D with
           | cons _ _=>simp only[EO,Fe] at a;cases a
           | nil =>
            simp only[EO,D5] at a;cases r with
            | tmp _=>cases a
            | cell t' T =>
             simp only[KR,U,AM] at a;obtain⟨rfl,a⟩:=a;obtain⟨xs,rfl⟩:∃ xs,x = .frh xs:=by
              unfold XW at g;split at g <;> cases g;exact⟨_,rfl⟩
             obtain⟨b,v,E,G,K⟩:=p.frh (P:=P) hr g a;have a2:(G_ a'.tmps (.cell t' T)).run P w' = .ok v w':=by
              simp only[G_,Aj,E,asAddr,An,W,G]
             exact⟨_,J [v] (by rw[o];simp only[Gz,iT,Aj,a2,W,An]),_,rfl,p.below,K⟩
         ·cases g
        ·cases g
       split at A
       ·rename_i y g;cases A;obtain⟨us,E,G,K⟩:=Ph p a g;refine⟨_,J us E,_,rfl,p.below,?_⟩;have hl:us.toArray.size=1:=by simpa using G
        rw[dif_pos hl];have:=K 0 (by simp at G;omega) (by simp);exact .of_rd (by simpa using this)
       ·rename_i ys c6 g;cases A;obtain⟨us,E,G,K⟩:=Ph p a g;refine⟨_,J us E,_,rfl,p.below,?_⟩;have hl:¬ us.toArray.size=1:=by
         intro hh;have:C ys=1:=by rw[<- G];simpa using hh
         match ys,this with
         | [y],_=>exact c6 y rfl
        rw[dif_neg hl];exact .of_rd (.tup _ _ (by simpa using G) (fun i h1 h2=>by simpa using K i (by simpa using h1) h2))
       ·cases A
      unfold FU at A;split at A
      ·rename_i rr c7;rw[c7] at a;split at A
       ·rename_i cs y a3 g;cases A;have b0:=p.reg 0;rw[a3] at b0;obtain⟨b,N,Q,R⟩:=b0;have B:EO P fn.results.toList [rr]=true:=a;cases a4:fn.results.toList with
        | nil=>rw[a4] at B;cases B
        | cons r D =>
         rw[a4] at B;cases D with
         | cons _ _=>simp only[EO,Fe] at B;cases B
         | nil =>
          simp only[EO,D5] at B;have one:∃ v,(G_ a'.tmps r).run P w' = .ok v w'/\Rd Y (fun c=>X c\/XS s a'.tmps c) w' v y:=by
           cases r with
           | tmp t =>
            cases rr with
            | cell _ _ _=>cases B
            | giv=>cases B
            | tmp t' =>
             simp only[KR,AM] at B;subst B;simp only[kQ] at g;split at g
             next z a5=>cases g;have:=p.reg t;rw[a5] at this;exact⟨_,rfl,this⟩
             ·cases g
           | cell t T =>
            cases rr with
            | tmp _=>cases B
            | giv=>cases B
            | cell t' n one =>
             simp only[KR,U,AM] at B;obtain⟨rfl,B⟩:=B;simp only[kQ] at g;split at g
             next d4 a5=>have:=p.reg t;rw[a5] at this;obtain⟨b2,E,_,K⟩:=this;obtain⟨v,O,g5⟩:=MM (P:=P) B K.mem g;refine⟨v,?_,g5⟩;simp only[Bv] at O;simp only[G_,Aj,E,asAddr,An,W,O]
             ·cases g
          obtain⟨v,E,G⟩:=one;have hv:=J [v] (by rw[a4];simp only[Gz,iT,Aj,E,W,An]);refine⟨v,hv,v,rfl,p.below,G.mono fun c hc => .inl (.inl hc),fun d5 la d6 y' ea e => ?_⟩;cases e;obtain⟨hg,V⟩:=Q.2;subst ea;have b1:=hr 0 (by rw[hs];simp) (by simp);have b3:vs.getD 0 A9=vs[0]'(by rw[hs];simp):=by rw[A4,AE];rfl
          rw[b3] at V;simp only[Bk] at b1;refine⟨b,?_,R.mono fun c hc => .inl (hc.imp id fun e => ?_),G.mono fun c hc => .inl (hc.imp id fun e => ?_)⟩
          ·rw[b3];obtain⟨b',k1,_,_⟩:=b1;rw[k1] at V |-;simp only[Ax,C6,Am,Ac] at V;rw[V]
          ·exact⟨0,by rw[a3];rfl,by rw[N,e];rfl⟩
          ·exact⟨0,by rw[a3];rfl,by rw[N,e];rfl⟩
       ·cases A
      ·have hx:∃ z,Ib s F.res=some z/\Avw (some z)=some x:=by
        cases hb:Ib s F.res with
        | none=>rw[hb] at A;cases A
        | some z=>rw[hb] at A;exact⟨z,rfl,A⟩
       obtain⟨z,hz,a6⟩:=hx;have c8:z=x/\∀ cs y,x ≠ .io cs y:=by
        cases z <;> first | (cases a6;done) | (simp only[Avw,Ac] at a6;subst a6;exact⟨rfl,fun _ _ e=>by cases e⟩)
       obtain⟨rfl,c9⟩:=c8;obtain⟨v,E,L,G,K,O⟩:=plain F.res (by
        cases hl:F.res with
        | nil=>rw[hl] at a;exact a
        | cons r l =>
         rw[hl] at a hz;cases r with
         | giv=>simp[Ib,Ii,CF,DA] at hz
         | tmp _=>exact a
         | cell _ _ _=>exact a) hz
       exact⟨v,E,L,G,K,O,fun _ _ cs y _ e=>absurd e (c9 cs y)⟩
     split at h
     ·cases h
     ·rename_i ex s d0 d1;refine simC hm ih n c F.body _ s ex _ w _ h1 b8 d1 fun a' w' p => ?_;have:=b9 s a' w' p h;cases ex with
      | norm=>exact this
      | ret=>exact this
      | exit i=>exact (d0 i rfl).elim
     ·cases h
    ·cases h1
   ·cases h
end
def Le(F G:Bh):Prop:=∀ f args r,F f args=some r->G f args=some r
theorem A8y{F G:Bh}(h:Le F G){s:H}{k:K}{p:Reg × List (Nat × Reg)}(a:A8 F s k=some p):A8 G s k=some p:=by
 cases k
 case call f xs =>
  simp only[A8] at a |-;split at a
  next vs g=>simp only[S] at a |-;obtain⟨v,c,e⟩:=a;exact⟨v,h f vs v c,e⟩
  ·cases a
 case clo f xs =>
  simp only[A8] at a |-;split at a
  next vs g=>simp only[S] at a |-;obtain⟨v,c,e⟩:=a;exact⟨v,h f vs v c,e⟩
  ·cases a
 case clw f xs d ls =>
  simp only[A8] at a |-;split at a
  ·rename_i vs g;split at a
   next hl=>rw[Ae hl];simp only[S] at a |-;obtain⟨v,c,e⟩:=a;exact⟨v,h f vs v c,e⟩
   ·cases a
  ·cases a
 case bwh f xs us =>
  simp only[A8] at a |-;split at a
  ·split at a
   next y b=>rw[h _ _ _ b];exact a
   ·cases a
  ·cases a
 case cab f x d xs =>
  simp only[A8] at a |-;split at a
  ·split at a
   ·rename_i hd;rw[Ae hd];split at a
    ·split at a
     next b=>rw[h _ _ _ b];exact a
     ·cases a
    ·split at a
     next b=>rw[h _ _ _ b];exact a
     ·cases a
    ·cases a
   ·cases a
  ·cases a
 case cpf f xs us =>
  simp only[A8] at a |-;split at a
  ·split at a
   next b=>rw[h _ _ _ b];exact a
   ·cases a
  ·cases a
 all_goals exact a
theorem Yp{F G:Bh}(h:Le F G){o:IOp}{s s':H}(a:Ee F o s=some s'):Ee G o s=some s':=by
 simp only[Ee,Hh] at a |-;split at a
 ·cases a
 ·exact a
 ·split at a
  ·cases a
  next r l b=>rw[A8y h b];exact a
theorem KJ{F G:Bh}(h:Le F G):∀ {l:List IOp} {s s':H},CY F l s=some s'->CY G l s=some s'
 | [],_,_,a=>a
 | o::l,s,s',a=>by
  simp only[CY] at a |-;cases h1:Ee F o s with
  | none=>rw[h1] at a;cases a
  | some b =>
   rw[h1] at a;rw[Yp h h1];exact KJ h a
theorem FH{F G:Bh}(h:Le F G):∀ {n m:Nat},n<=m->∀ {c:ICode} {s:H} {r:Ex × H},BJ F n c s=some r->BJ G m c s=some r:=by
 intro n;induction n with
 | zero=>intro m _ c s r e;simp[BJ] at e
 | succ n f =>
  intro m l c s r e;obtain⟨m,rfl⟩:∃ j,m=j+1:=⟨m-1,by omega⟩;have g:n<=m:=by omega
  cases c with
  | skip=>exact e
  | region d ops =>
   simp only[BJ,S] at e |-;obtain⟨s',h1,h2⟩:=e;exact⟨s',KJ h h1,h2⟩
  | seq a b =>
   simp only[BJ] at e |-;cases h1:BJ F n a s with
   | none=>rw[h1] at e;cases e
   | some p =>
    rw[h1] at e;rw[f g h1];obtain⟨ex,k⟩:=p;cases ex with
    | norm=>exact f g e
    | exit i=>exact e
    | ret=>exact e
  | cond c a b =>
   simp only[BJ] at e |-;split at e
   ·exact f g e
   ·exact f g e
   ·cases e
  | block id c =>
   simp only[BJ] at e |-;cases h1:BJ F n c s with
   | none=>rw[h1] at e;cases e
   | some p =>
    rw[h1] at e;rw[f g h1];exact e
  | scope c=>exact f g e
  | loop c =>
   simp only[BJ] at e |-;cases h1:BJ F n c s with
   | none=>rw[h1] at e;cases e
   | some p =>
    rw[h1] at e;rw[f g h1];obtain⟨ex,k⟩:=p;cases ex with
    | norm=>exact f g e
    | exit i=>exact e
    | ret=>exact e
  | exit id=>exact e
  | ret=>exact e
section
variable(a:Nat->Option IFunc)
theorem DW:∀ {n m:Nat},n<=m->Le (Jm a n) (Jm a m):=by
 intro n;induction n with
 | zero=>intro m _ f args r h;simp[Jm] at h
 | succ n d =>
  intro m g f args r h;obtain⟨m,rfl⟩:∃ e,m=e+1:=⟨m-1,by omega⟩;have b:n<=m:=by omega
  simp only[Jm] at h |-;split at h
  ·cases h
  ·rename_i fn i;split at h
   ·rename_i hl;rw[Ae hl];cases h1:BJ (Jm a n) n fn.body (CL fn args) with
    | none=>rw[h1] at h;cases h
    | some p =>
     rw[h1] at h;rw[FH (d b) b h1];exact h
   ·cases h
def FW(f:Nat)(args:List AV)(r:AV):Prop:=∃ n,Jm a n f args=some r
def Dv(c:ICode)(s:H)(ex:Ex)(s':H):Prop:=∃ n,BJ (Jm a n) n c s=some (ex,s')
end
theorem Ms{a:Nat->Option IFunc}{f:Nat}{fn:IFunc}{args:List AV}{s:H}{ex:Ex}{r:AV}(hf:a f=some fn)(hl:C args=fn.params)(h:Dv a fn.body (CL fn args) ex s)
  (b:∀ i,ex ≠ .exit i) (hr:FU s fn.res=some r):FW a f args r:=by
 obtain⟨n,h⟩:=h;refine⟨n+1,?_⟩;simp only[Jm,hf,Ae hl,h];cases ex with
 | norm=>exact hr
 | ret=>exact hr
 | exit i=>exact absurd rfl (b i)
section
variable{prog:Nat->Option IFunc}
theorem Dv.seq{a b:ICode}{s e s':H}{ex:Ex}(h1:Dv prog a s .norm e)(h2:Dv prog b e ex s'):Dv prog (.seq a b) s ex s':=by
 obtain⟨n,h1⟩:=h1;obtain⟨m,h2⟩:=h2;refine⟨max n m+1,?_⟩;have d:=FH (DW prog (show n<=max n m+1 by omega)) (show n<=max n m by omega) h1;have f:=FH (DW prog (show m<=max n m+1 by omega)) (show m<=max n m by omega) h2;simp only[BJ,d,f]
theorem EX{a b:ICode}{s s':H}{ex:Ex}(h1:Dv prog a s ex s')(g:ex ≠ .norm):Dv prog (.seq a b) s ex s':=by
 obtain⟨n,h1⟩:=h1;refine⟨n+1,?_⟩;have d:=FH (DW prog (show n<=n+1 by omega)) (show n<=n by omega) h1;simp only[BJ,d];cases ex with
 | norm=>exact absurd rfl g
 | exit i=>rfl
 | ret=>rfl
theorem Dv.scope{c:ICode}{s s':H}{ex:Ex}(h:Dv prog c s ex s'):Dv prog (.scope c) s ex s':=by
 obtain⟨n,h⟩:=h;exact⟨n+1,by simp only[BJ];exact FH (DW prog (by omega)) (Ay _) h⟩
theorem Dv.block{id:Nat}{c:ICode}{s s':H}(h:Dv prog c s (.exit id) s'):Dv prog (.block id c) s .norm s':=by
 obtain⟨n,h⟩:=h;refine⟨n+1,?_⟩;have d:=FH (DW prog (show n<=n+1 by omega)) (show n<=n by omega) h;simp only[BJ,d,if_true]
theorem LF{id:Nat}{c:ICode}{s s':H}(h:Dv prog c s .norm s'):Dv prog (.block id c) s .norm s':=by
 obtain⟨n,h⟩:=h;refine⟨n+1,?_⟩;have d:=FH (DW prog (show n<=n+1 by omega)) (show n<=n by omega) h;simp only[BJ,d]
theorem MT{id i:Nat}{c:ICode}{s s':H}(h:Dv prog c s (.exit i) s')(hi:i ≠ id):Dv prog (.block id c) s (.exit i) s':=by
 obtain⟨n,h⟩:=h;refine⟨n+1,?_⟩;have d:=FH (DW prog (show n<=n+1 by omega)) (show n<=n by omega) h;simp only[BJ,d,Al hi]
theorem MU{id:Nat}{c:ICode}{s s':H}(h:Dv prog c s .ret s'):Dv prog (.block id c) s .ret s':=by
 obtain⟨n,h⟩:=h;refine⟨n+1,?_⟩;have d:=FH (DW prog (show n<=n+1 by omega)) (show n<=n by omega) h;simp only[BJ,d]
theorem Dv.loop{c:ICode}{s e s':H}{ex:Ex}(h1:Dv prog c s .norm e)(h2:Dv prog (.loop c) e ex s'):Dv prog (.loop c) s ex s':=by
 obtain⟨n,h1⟩:=h1;obtain⟨m,h2⟩:=h2;refine⟨max n m+1,?_⟩;have d:=FH (DW prog (show n<=max n m+1 by omega)) (show n<=max n m by omega) h1;have f:=FH (DW prog (show m<=max n m+1 by omega)) (show m<=max n m by omega) h2;simp only[BJ,d,f]
theorem O6{c:ICode}{s s':H}{ex:Ex}(h1:Dv prog c s ex s')(g:ex ≠ .norm):Dv prog (.loop c) s ex s':=by
 obtain⟨n,h1⟩:=h1;refine⟨n+1,?_⟩;have d:=FH (DW prog (show n<=n+1 by omega)) (show n<=n by omega) h1;simp only[BJ,d];cases ex with
 | norm=>exact absurd rfl g
 | exit i=>rfl
 | ret=>rfl
end
def Afq(a:Nat->Option IFunc)(F:Bh):Prop:=∀ f args r,F f args=some r->FW a f args r
theorem Ts{j:Nat->Option IFunc}{F:Bh}(h:Afq j F):∀ {l:List IOp} {s s':H},CY F l s=some s'->∃ n,CY (Jm j n) l s=some s'
 | [],s,s',c=>⟨0,c⟩
 | o::l,s,s',c=>by
  simp only[CY] at c;cases h1:Ee F o s with
  | none=>rw[h1] at c;cases c
  | some t =>
   rw[h1] at c;obtain⟨n,hn⟩:=Ts h c;have u:∃ m,Ee (Jm j m) o s=some t:=by
    simp only[Ee,Hh] at h1 |-;generalize kill s o.ks=s at *
    split at h1
    ·cases h1
    ·exact⟨0,h1⟩
    ·split at h1
     ·cases h1
     ·rename_i r w a;have:∃ m,A8 (Jm j m) s o.k=some (r,w):=by
       cases g:o.k
       case call f xs =>
        rw[g] at a;simp only[A8] at a |-;split at a
        next vs q=>simp only[S] at a;obtain⟨v,p,e⟩:=a;obtain⟨m,b⟩:=h f vs v p;exact⟨m,by simp only[b,Am,e]⟩
        ·cases a
       case clo f xs =>
        rw[g] at a;simp only[A8] at a |-;split at a
        next vs q=>simp only[S] at a;obtain⟨v,p,e⟩:=a;obtain⟨m,b⟩:=h f vs v p;exact⟨m,by simp only[b,Am,e]⟩
        ·cases a
       case clw f xs d ls =>
        rw[g] at a;simp only[A8] at a |-;split at a
        ·rename_i vs q;split at a
         next hl=>simp only[S] at a;obtain⟨v,p,e⟩:=a;obtain⟨m,b⟩:=h f vs v p;exact⟨m,by rw[Ae hl,b];simp only[Am,e]⟩
         ·cases a
        ·cases a
       case bwh f xs us =>
        rw[g] at a;simp only[A8] at a |-;split at a
        ·split at a
         next y i=>obtain⟨m,b⟩:=h _ _ _ i;exact⟨m,by rw[b];exact a⟩
         ·cases a
        ·cases a
       case cab f x d xs =>
        rw[g] at a;simp only[A8] at a |-;split at a
        ·split at a
         ·rename_i hd;split at a
          ·split at a
           next i=>obtain⟨m,b⟩:=h _ _ _ i;exact⟨m,by rw[Ae hd,b];exact a⟩
           ·cases a
          ·split at a
           next i=>obtain⟨m,b⟩:=h _ _ _ i;exact⟨m,by rw[Ae hd,b];exact a⟩
           ·cases a
          ·cases a
         ·cases a
        ·cases a
       case cpf f xs us =>
        rw[g] at a;simp only[A8] at a |-;split at a
        ·split at a
         next i=>obtain⟨m,b⟩:=h _ _ _ i;exact⟨m,by rw[b];exact a⟩
         ·cases a
        ·cases a
       all_goals (rw[g] at a;exact⟨0,a⟩)
      obtain⟨m,b⟩:=this;exact⟨m,by rw[b];exact h1⟩
   obtain⟨m,b⟩:=u;refine⟨max n m,?_⟩;simp only[CY,Yp (DW j (show m<=max n m by omega)) b];exact KJ (DW j (show n<=max n m by omega)) hn
section
variable{j:Nat->Option IFunc}
theorem Afr{F:Bh}(h:Afq j F):∀ (n:Nat) {c:ICode} {s:H} {ex:Ex} {s':H},BJ F n c s=some (ex,s')->Dv j c s ex s':=by
 intro n;induction n with
 | zero=>intro c s ex s' e;simp[BJ] at e
 | succ n g =>
  intro c s ex s' e;cases c with
  | skip=>exact⟨1,e⟩
  | region d ops =>
   simp only[BJ,S] at e;obtain⟨l,h1,h2⟩:=e;obtain⟨m,k⟩:=Ts h h1;refine⟨m+1,?_⟩;simp only[BJ,KJ (DW j (show m<=m+1 by omega)) k,Am,h2]
  | seq a b =>
   simp only[BJ] at e;split at e
   next l h1=>exact Dv.seq (g h1) (g e)
   next h1=>exact EX (g e) (by rintro rfl;exact h1 s' e)
  | cond c a b =>
   simp only[BJ] at e;split at e
   next hc=>obtain⟨m,k⟩:=g e;exact⟨m+1,by simp only[BJ,hc];exact FH (DW j (by omega)) (Ay _) k⟩
   next hc=>obtain⟨m,k⟩:=g e;exact⟨m+1,by simp only[BJ,hc];exact FH (DW j (by omega)) (Ay _) k⟩
   ·cases e
  | block id c =>
   simp only[BJ] at e;split at e
   ·rename_i i l h1;split at e
    next hi=>cases e;subst hi;exact Dv.block (g h1)
    next hi=>cases e;exact MT (g h1) hi
   ·rename_i h1;cases ex with
    | norm=>exact LF (g e)
    | exit i=>exact absurd e (h1 i s')
    | ret=>exact MU (g e)
  | scope c =>
   simp only[BJ] at e;exact Dv.scope (g e)
  | loop c =>
   simp only[BJ] at e;split at e
   next l h1=>exact Dv.loop (g h1) (g e)
   next h1=>exact O6 (g e) (by rintro rfl;exact h1 s' e)
  | exit id=>exact⟨1,e⟩
  | ret=>exact⟨1,e⟩
theorem FW.unique{f:Nat}{args:List AV}{r r':AV}(h:FW j f args r)(o:FW j f args r'):r=r':=by
 obtain⟨n,h⟩:=h;obtain⟨m,o⟩:=o;have q:=DW j (show n<=max n m by omega) f args r h;have p:=DW j (show m<=max n m by omega) f args r' o;rw[q] at p;exact AY p
end
open Classical in
noncomputable def Yq (a:Nat->Option IFunc):Bh:=fun f args=>if h:∃ r,FW a f args r then some h.choose else none
theorem FI{a:Nat->Option IFunc}{f:Nat}{args:List AV}{r:AV}(h:FW a f args r):Yq a f args=some r:=by
 have b:∃ r,FW a f args r:=⟨r,h⟩;simp only[Yq,dif_pos b];exact congrArg some (b.choose_spec.unique h)
theorem Afs(a:Nat->Option IFunc):Afq a (Yq a):=by
 intro f args r h;unfold Yq at h;split at h
 next b=>cases h;exact b.choose_spec
 ·cases h
abbrev Bx:=List (Nat × (List AV->Option (AV × List Prop)))
def DQ:List Prop->Prop
 | []=>True
 | p::l=>p/\DQ l
def iU(T:Bx)(f:Nat)(args:List AV):Option (AV × List Prop) :=
 match T.lookup f with
 | some g=>g args
 | none=>none
section
variable(a:Nat->Option IFunc)
def Be(T:Bx):Prop:=∀ f args r ps,iU T f args=some (r,ps)->DQ ps->FW a f args r
theorem Be.nil:Be a []:=fun f args r ps h=>by simp [iU] at h
end
theorem Be.cons{a:Nat->Option IFunc}{T:Bx}{f:Nat}{g:List AV->Option (AV × List Prop)}(h:Be a T)(c:∀ args r ps,g args=some (r,ps)->DQ ps->FW a f args r):Be a ((f,g)::T):=by
 intro b args r ps hr;simp only[iU,List.lookup] at hr;by_cases hf:b=f
 ·subst hf;simp at hr;exact c args r ps hr
 ·have:(b==f)=false:=by simpa using hf
  simp only[this] at hr;exact h b args r ps hr
theorem FW.callsT{P:Program}[Looks P]{c:Nat->Option IFunc}{f:Nat}{args:List AV}{r:AV}(d:P.follows .mixedOrders=true)
  (g:∀ f a,c f=some a->(∃ fn roots,P.funcs[f]? = some fn/\lJ P roots fn a=true)\/QB P f a) (h:FW c f args r) (X:Nat->Prop) (w:World) (vs:Array Value)
  (hX:∀ b,X b->b<w.heap.size) (hs:vs.size=C args) (hr:∀ (i:Nat) (h1:i<vs.size) (h2:i<C args),Rd (fun _=>False) X w vs[i] args[i]) :
  Calls P f vs w fun e w'=>∃ v,e = .returned v/\Below w.heap.size w w'/\Rd (fun _=>False) X w' v (O5 r):=by
 obtain⟨n,h⟩:=h;exact ((simT d g n).plain f args r h _ X w vs hX (fun _ h=>h.elim) hs hr).mono fun e w' ⟨v,h1,h2,j⟩=>⟨v,h1,h2,j.thawed (fun b hb=>Ip (hX b hb)) (fun _ h=>h.elim)⟩
inductive Sc where
 | b (x:Bool)
 | v (x:AV)
 | l (cs:List AV)
 | r (x:AV)
theorem FX:∀ {l m:List Prop},DQ (l++m)↔DQ l/\DQ m
 | [],m=>by simp[DQ]
 | p::l,m=>by simp only[HZ,DQ,FX (l:=l),and_assoc]
abbrev R3(α:Type):=Option (α × List Sc × List Prop)
def Yr(op:BinOp)(k c:IntKind)(a b:Int):Option (AV × List Prop) :=
 match op with
 | .quo=>if k=c then some (.int k (k.wrap (a.tdiv b)),[¬ b=0]) else none
 | .rem=>if k=c then some (.int k (a.tmod b),[¬ b=0]) else none
 | .shl=>some (.int k (k.wrap (a*2^(min b.toNat k.bits))),[¬ b<0])
 | .shr=>some (.int k (a.fdiv (2^(min b.toNat k.bits))),[¬ b<0])
 | op=>(KN op (.int k a) (.int c b)).map fun v=>(v,[])
theorem Axl{op:BinOp}{k f:IntKind}{a b:Int}{v:AV}{ps:List Prop}(h:Yr op k f a b=some (v,ps))(c:DQ ps):KN op (.int k a) (.int f b)=some v:=by
 cases op
 case quo =>
  simp only[Yr] at h;split at h
  next d=>cases h;simp only[KN,H',d,XR];simp only[AC,if_false,if_true,Al c.1]
  ·cases h
 case rem =>
  simp only[Yr] at h;split at h
  next d=>cases h;simp only[KN,H',d,XR];simp only[AC,if_false,if_true,Al c.1]
  ·cases h
 case shl =>
  simp only[Yr] at h;cases h;simp only[KN,H',if_true,Xo,Al c.1]
 case shr =>
  simp only[Yr] at h;cases h;simp only[KN,H',if_true,Xo,Al c.1]
 all_goals
  simp only[Yr,S] at h;obtain⟨u,hu,e⟩:=h;cases e;exact hu
abbrev Ih:=Option (Nat × Bool)
def Ih.is(m:Ih)(t:Nat):Option Bool :=
 match m with
 | some (u,x)=>if u=t then some x else none
 | none=>none
def Ih.opd(m:Ih):Opd->Option Bool
 | .t n=>m.is n
 | .c _=>none
def Ih.Ok(s:H)(m:Ih):Prop:=∀ t x,m=some (t,x)->Ag s t = .val (.bool x)
theorem NN{s:H}{m:Ih}(h:m.Ok s){o:Opd}{x:Bool}(ho:m.opd o=some x):o.av s=some (.bool x):=by
 cases o with
 | c y=>cases ho
 | t n =>
  simp only[Ih.opd,Ih.is] at ho;split at ho
  ·rename_i u y;split at ho
   next hu=>cases ho;subst hu;simp only[Opd.av,Opd.reg,h _ _ rfl]
   ·cases ho
  ·cases ho
def lK(s:H)(d:Nat):Option Opd->Option (Nat × List Prop)
 | none=>some (d,[])
 | some o=>match o.av s with
  | some (.int _ i)=>some (i.toNat,[0<=i])
  | _=>none
theorem Ys{s:H}{d:Nat}{o:Option Opd}{n:Nat}{ps:List Prop}(h:lK s d o=some (n,ps))(a:DQ ps):H_ s d o=some n:=by
 cases o with
 | none=>simp only[lK,Ac,Cc] at h;rw[<- h.1];rfl
 | some o =>
  simp only[lK] at h;simp only[H_];split at h
  next k i hi=>cases h;rw[hi];simp only[Ae a.1]
  ·cases h
def FD(w:Nat->Option IFunc)(T:Bx)(s:H)(m:Ih)(k:K)(e:List Sc):R3 (Reg × List (Nat × Reg)) :=
 match k with
 | .pick c a b =>
  match m.opd c with
  | some true=>(a.av s).map fun v=>((.val v,[]),e,[])
  | some false=>(b.av s).map fun v=>((.val v,[]),e,[])
  | none=>match c.av s,e with
  | some (.bool c),.b t::e=>(match t with | true=>(a.av s) | false=>b.av s).map fun v=>((.val v,[]),e,[c=t])
  | _,_=>none
 | .bin op x y =>
  match x.av s,y.av s with
  | some (.int k a),some (.int q b)=>(Yr op k q a b).map fun p=>((.val p.1,[]),e,p.2)
  | _,_=>none
 | .ixa x i k =>
  match i.av s,Ag s x with
  | some (.int _ i),.val (.sl n cs)=>some ((.mem (cs.drop (i.toNat*k)),[]),e,[0<=i/\i<n])
  | _,_=>none
 | .ld x d n one =>
  match Ag s x,e with
  | .mem cs,.v u::e=>some ((.val u,[]),e,[Ad cs 0 n one=some u])
  | .ptr j off,e=>if j=d then (match Ag s d,e with
   | .own _ _ cs,.v u::e=>some ((.val u,[]),e,[Ad cs off n one=some u])
   | .box cs,e=>(Ad cs off n one).map fun v=>((.val v,[]),e,[])
   | .bxg cs,e=>(Ad cs off n one).map fun v=>((.val v,[]),e,[])
   | _,_=>none) else none
  | _,e=>(A8 (fun _ _=>none) s (.ld x d n one)).map fun p=>(p,e,[])
 | .six x i =>
  match x.av s,i.av s,e with
  | some (.str b),some (.int _ i),.v (.int .u8 n)::e=>some ((.val (.int .u8 n),[]),e,[((if 0<=i then b[i.toNat]? else none).map fun c=>(c.toNat:Int))=some n])
  | _,_,_=>none
 | .call f xs =>
  match avs s xs with
  | some vs=>(match iU T f vs with
   | some p=>some ((.val (O5 p.1),[]),e,p.2)
   | none=>(match e with
    | .r r::e=>some ((.val (O5 r),[]),e,[FW w f vs r])
    | _=>none))
  | none=>none
 | .st x d n v =>
  match v.av s with
  | none=>none
  | some a=>match H2 a n with
   | none=>none
   | some g=>match Ag s x with
    | .box cs=>if x=d then (Cg cs 0 g).map fun o=>((.dead,[(d,.box o)]),e,[]) else none
    | .ptr j off=>if j=d then (match Ag s d,e with
     | .own k m cs,.l o::e=>some ((.dead,[(d,.own k m o)]),e,[Cg cs off g=some o])
     | .box cs,e=>(Cg cs off g).map fun o=>((.dead,[(d,.box o)]),e,[])
     | .bxg cs,e=>(Cg cs off g).map fun o=>((.dead,[(d,.bxg o)]),e,[])
     | _,_=>none) else none
    | _=>none
 | .ixo x d i k =>
  match i.av s with
  | some (.int _ i)=>(match Ag s x with
   | .val (.sl n cs)=>some ((.mem (cs.drop (i.toNat*k)),[]),e,[0<=i/\i<n])
   | .dup j=>if j=d then (match Ag s d with
    | .own q n _=>if q=k then some ((.ptr d (i.toNat*k),[]),e,[0<=i/\i<n]) else none
    | _=>none) else none
   | .own q n _=>if x=d/\q=k then some ((.ptr d (i.toNat*k),[]),e,[0<=i/\i<n]) else none
   | _=>none)
  | _=>none
 | .mks z n =>
  match n.av s with
  | some (.int _ m)=>some ((.own (C z) m.toNat (Gp z m.toNat),[]),e,[0<=m/\m<=1048576])
  | _=>none
 | .apd ow x y k B =>
  match y.av s with
  | some (.sl m g)=>(match x.reg s,e with
   | .val .nil,e=>some ((if ow then .own k m g else .val (.sl m g),[]),e,[C g=m*k,m<=B])
   | .own q n cs,e=>if q=k then some ((if ow then .own k (n+m) (cs++g) else .val (.sl (n+m) (cs++g)),XT x),e,[C g=m*k,n+m<=B]) else none
   | _,_=>none)
  | _=>(A8 (fun _ _=>none) s (.apd ow x y k B)).map fun p=>(p,e,[])
 | .apn y k B l =>
  match y.av s with
  | some (.sl m g)=>if l.all (fun t=>DV (Ag s t))=true then some ((.own k m g,[]),e,[C g=m*k,m<=B]) else none
  | _=>none
 | .sli x lo hi mx k =>
  match x.av s with
  | some (.sl n cs)=>(match lK s n mx,lK s n hi,lK s 0 lo with
   | some (m,E),some (h,F),some (l,G)=>some ((.val (.sl (h-l) ((cs.drop (l*k)).take ((h-l)*k))),[]),e,E++(F++(G++[l<=h/\h<=m/\m<=n/\(mx.isSome->hi.isSome)])))
   | _,_,_=>none)
  | _=>(A8 (fun _ _=>none) s (.sli x lo hi mx k)).map fun p=>(p,e,[])
 | .clo f xs =>
  match avs s xs with
  | some vs=>(match iU T f vs with
   | some p=>some ((Gl p.1,[]),e,p.2)
   | none=>(match e with
    | .r r::e=>some ((Gl r,[]),e,[FW w f vs r])
    | _=>none))
  | none=>none
 | .aph x y k B d us =>
  match y.av s with
  | some (.sl m g)=>(match Ag s d,Ag s x with
   | .box _,.val .nil=>some ((.own k m g,[]),e,[C g=m*k,m<=B])
   | .bxh _ [],.val .nil=>some ((.own k m g,[]),e,[C g=m*k,m<=B])
   | .bxh cs [(off,u)],.dup D=>if D=u/\us.contains u then (match Ag s u with
    | .own q n es=>if q=k then some ((.own k (n+m) (es++g),[(x,.dead),(d,.bxh (cs.set off .undef) []),(u,.dead)]),e,[C g=m*k,n+m<=B]) else none
    | _=>none) else none
   | _,_=>none)
  | _=>none
 | .mkw z n l =>
  match n.av s with
  | some (.int _ m)=>if l.all (fun t=>DV (Ag s t)) then some ((.own (C z) m.toNat (Gp z m.toNat),[]),e,[0<=m/\m<=1048576]) else none
  | _=>none
 | .clw f xs d l =>
  match avs s xs with
  | some vs=>if l.all (fun t=>MJ (Ag s t) d) then (match iU T f vs with
   | some p=>some ((Gl p.1,[]),e,p.2)
   | none=>(match e with
    | .r r::e=>some ((Gl r,[]),e,[FW w f vs r])
    | _=>none)) else none
  | none=>none
 | .bwh f xs us =>
  match avsH s us xs with
  | some vs=>(match e with
   | .r r::e=>if U9 r then some ((.val r,[]),e,[FW w f vs r]) else none
   | _=>none)
  | none=>none
 | .cab f x d xs =>
  match Ag s x with
  | .ptr j 0=>if j=d then (match Ag s d,avs s xs,e with
   | .box cs,some vs,.r (.io o y)::e=>some ((.val y,[(d,.box o)]),e,[FW w f (.gb cs::vs) (.io o y)])
   | .bxg cs,some vs,.r (.io o y)::e=>some ((.val y,[(d,.bxg o)]),e,[FW w f (.gb cs::vs) (.io o y)])
   | _,_,_=>none) else none
  | _=>none
 | .sbn op x y =>
  match x.av s,y.av s,op with
  | some (.str a),some (.str b),.add=>some ((.val (.str (a++b)),[]),e,[a.size+b.size<=9223372036854775807])
  | some (.str a),some (.str b),op=>(kO op a b).map fun v=>((.val v,[]),e,[])
  | _,_,_=>none
 | .cpf f xs us=>match avs s xs,XU s us,e with
  | some vs,some l,.r (.frh cs)::e=>some ((.agf cs l,[]),e,[FW w f vs (.frh cs)])
  | _,_,_=>none
 | .mlk sk x d k=>match Ag s x,k.av s with
  | .dup j,some c=>if j=d/\Se sk c=true then (match Ag s d,e with
   | .mp ks,.b t::e=>some ((.val (.bool t),[]),e,[FT ks c=some t])
   | _,_=>none) else none
  | _,_=>none
 | .mup sk x d k=>match Ag s x,k.av s with
  | .dup j,some c=>if j=d/\Se sk c=true then (match Ag s d with
   | .mp ks=>some ((.dead,[(d,.mp (ks++[c]))]),e,[FT ks c=some false])
   | _=>none) else none
  | _,_=>none
 | .lok f x d u xs=>match Ag s x,avs s xs with
  | .ptr j off,some [.str nm,.bool I,.bool J]=>if j=d/\off=0 then (match Ag s d,Ag s u with
   | .bxh [_,.int .i64 0] [(0,D)],.mp ks=>if D=u then some ((.dead,[(u,.mp (ks++[.str nm]))]),e,[I=true/\J=true,Kp f nm=true,FT ks (.str nm)=some false]) else none
   | _,_=>none) else none
  | _,_=>none
 | .ldf x d y c hi n us kp=>match Ag s x with
  | .ptr j off=>if j=d then (match Ag s d with
   | .bxf cs A=>(match Ag s c,cs[off]?,e with
    | .val (.sl _ (.int _ c0::_)),some v,.b t::e=>(match t,v with
     | true,.fresh k m es=>if n=C s/\y<n/\cs.all XV=true/\A.all (fun p=>us.contains p.1)=true/\kp.all (fun t=>UA (Ag s t))=true then
       some ((.own k m es,Is n (d::(kp++A.map (·.1)))++A.map (fun p=>(p.1,.val p.2))++[(d,.bxh ((cs.map G').set off .undef) [(off,y)])]),e,[decide (c0.emod 20<=hi)=true,cs.all CC=true]) else none
     | false,v=>if XV v&&A.all (fun p=>us.contains p.1) then some ((.val (G' v),[]),e,[decide (c0.emod 20<=hi)=false]) else none
     | _,_=>none)
    | _,_,_=>none)
   | .bxh cs ls=>(IK s d off false us cs ls).map fun p=>(p,e,[])
   | _=>none) else none
  | _=>none
 | k=>(A8 (fun _ _=>none) s k).map fun p=>(p,e,[])
theorem Axm{N:Nat->Option IFunc}{T:Bx}(O:Be N T){s:H}{m:Ih}(Q:m.Ok s){k:K}{sc a1:List Sc}{p:Reg × List (Nat × Reg)}{ps:List Prop}(h:FD N T s m k sc=some (p,a1,ps))(g:DQ ps):A8 (Yq N) s k=some p:=by
 cases k
 case pick c a b =>
  simp only[FD] at h;split at h
  next hmo=>simp only[S] at h;obtain⟨v,o,e⟩:=h;cases e;simp only[A8,NN Q hmo,o,Am]
  next hmo=>simp only[S] at h;obtain⟨v,o,e⟩:=h;cases e;simp only[A8,NN Q hmo,o,Am]
  split at h
  ·rename_i R t D hc;simp only[S] at h;obtain⟨v,o,e⟩:=h;cases e;have:R=t:=g.1;subst this;cases R with
   | true=>simp only[A8,hc];simp only at o;rw[o];rfl
   | false=>simp only[A8,hc];simp only at o;rw[o];rfl
  ·cases h
 case bin op x y =>
  simp only[FD] at h;split at h
  next J a k2 b j C=>simp only[S] at h;obtain⟨⟨v,a5⟩,o,e⟩:=h;cases e;simp only[A8,j,C,Axl o g,Am]
  ·cases h
 case ixa x i k =>
  simp only[FD] at h;split at h
  next J I n cs hi j=>cases h;simp only[A8,hi,j,Ae g.1]
  ·cases h
 case ld x d n one =>
  simp only[FD] at h;split at h
  next cs u D j=>cases h;simp only[A8,j,g.1,Am]
  ·rename_i L off j;split at h
   ·rename_i hd;split at h
    next k m cs u D hr=>cases h;simp only[A8,j,Ae hd,hr,g.1,Am]
    next cs hr=>simp only[S] at h;obtain⟨q,w,e⟩:=h;cases e;simp only[A8,j,Ae hd,hr,w,Am]
    next cs hr=>simp only[S] at h;obtain⟨q,w,e⟩:=h;cases e;simp only[A8,j,Ae hd,hr,w,Am]
    ·cases h
   ·cases h
  ·simp only[S] at h;obtain⟨q,w,e⟩:=h;cases e;exact w
 case st x d n v =>
  simp only[FD] at h;split at h
  ·cases h
  ·rename_i a ha;split at h
   ·cases h
   ·rename_i U a2;simp only[A8,ha,a2];split at h
    ·rename_i cs j;rw[j];dsimp only;split at h
     next hd=>simp only[S] at h;obtain⟨q,w,e⟩:=h;cases e;simp only[Ae hd,w,Am]
     ·cases h
    ·rename_i L off j;rw[j];dsimp only;split at h
     ·rename_i hd;rw[Ae hd];split at h
      next k m cs V D hr=>cases h;simp only[hr,g.1,Am]
      next cs hr=>simp only[S] at h;obtain⟨q,w,e⟩:=h;cases e;simp only[hr,w,Am]
      next cs hr=>simp only[S] at h;obtain⟨q,w,e⟩:=h;cases e;simp only[hr,w,Am]
      ·cases h
     ·cases h
    ·cases h
 case ixo x d i k =>
  simp only[FD] at h;split at h
  ·rename_i J I hi;split at h
   next n cs j=>cases h;simp only[A8,hi,j,Ae g.1]
   ·rename_i L j;split at h
    ·rename_i hd;split at h
     ·rename_i G n cs hr;split at h
      next F=>cases h;simp only[A8,hi,j,Ae hd,hr,Ae (show G=k/\0<=I/\I<(n:Int) from ⟨F,g.1⟩)]
      ·cases h
     ·cases h
    ·cases h
   ·rename_i G n cs j;split at h
    next F=>cases h;simp only[A8,hi,j,Ae (show x=d/\G=k/\0<=I/\I<(n:Int) from ⟨F.1,F.2,g.1⟩)]
    ·cases h
   ·cases h
  ·cases h
 case mks z n =>
  simp only[FD] at h;split at h
  next J m hn=>cases h;simp only[A8,hn,Ae g.1]
  ·cases h
 case apd ow x y k B =>
  simp only[FD] at h;split at h
  ·rename_i m U C;split at h
   next j=>cases h;simp only[A8,C,Ae g.1,j,Ae g.2.1]
   ·rename_i G n cs j;split at h
    next F=>cases h;simp only[A8,C,Ae g.1,j,Ae (show G=k/\n+m<=B from ⟨F,g.2.1⟩)]
    ·cases h
   ·cases h
  ·simp only[S] at h;obtain⟨q,w,e⟩:=h;cases e;exact w
 case apn y k B l =>
  simp only[FD] at h;split at h
  case h_2=>cases h
  rename_i C;split at h
  case isFalse=>cases h
  rename_i hc;cases h;simp only[A8,C];exact Ae ⟨hc,g.1,g.2.1⟩
 case sli x lo hi mx k =>
  simp only[FD] at h;split at h
  ·rename_i n cs j;split at h
   next m1 W h1 X l1 p3 Y Z b3=>cases h;rw[FX,FX,FX] at g;simp only[A8,j,Ys Y g.1,Ys Z g.2.1,Ys b3 g.2.2.1,Ae g.2.2.2.1]
   ·cases h
  ·simp only[S] at h;obtain⟨q,w,e⟩:=h;cases e;exact w
 case six x i =>
  simp only[FD] at h;split at h
  next b J I n D j hi=>cases h;have:=g.1;simp only[S] at this;obtain⟨c,hc,rfl⟩:=this;simp only[A8,j,hi,hc,Am]
  ·cases h
 case call f xs =>
  simp only[FD] at h;split at h
  ·rename_i vs A;split at h
   next q o=>cases h;simp only[A8,A,FI (O f vs q.1 q.2 o g),Am]
   ·split at h
    next r D=>cases h;simp only[A8,A,FI g.1,Am]
    ·cases h
  ·cases h
 case clo f xs =>
  simp only[FD] at h;split at h
  ·rename_i vs A;split at h
   next q o=>cases h;simp only[A8,A,FI (O f vs q.1 q.2 o g),Am]
   ·split at h
    next r D=>cases h;simp only[A8,A,FI g.1,Am]
    ·cases h
  ·cases h
 case aph x y k B d us =>
  simp only[FD] at h;split at h
  case h_2=>cases h
  rename_i m U C;split at h
  next hd j=>cases h;simp only[A8,C,Ae g.1,hd,j,aph0,Ae g.2.1]
  next hd j=>cases h;simp only[A8,C,Ae g.1,hd,j,aph0,Ae g.2.1]
  ·rename_i cs off u u' hd j;split at h
   case isFalse=>cases h
   rename_i hu;split at h
   case h_2=>cases h
   rename_i G n es hr;split at h
   case isFalse=>cases h
   rename_i F;cases h;simp only[A8,C,Ae g.1,hd,j,Ae hu,hr,wA,Ae (show G=k/\n+m<=B from ⟨F,g.2.1⟩)]
  ·cases h
 case mkw z n l =>
  simp only[FD] at h;split at h
  ·rename_i J m hn;split at h
   next hl=>cases h;simp only[A8,hn,Ae hl,Ae g.1]
   ·cases h
  ·cases h
 case clw f xs d l =>
  simp only[FD] at h;split at h
  ·rename_i vs A;split at h
   ·rename_i hl;split at h
    next q o=>cases h;simp only[A8,A,Ae hl,FI (O f vs q.1 q.2 o g),Am]
    ·split at h
     next r D=>cases h;simp only[A8,A,Ae hl,FI g.1,Am]
     ·cases h
   ·cases h
  ·cases h
 case bwh f xs us =>
  simp only[FD] at h;split at h
  case h_2=>cases h
  rename_i vs A;split at h
  case h_2=>cases h
  rename_i r D;split at h
  case isFalse=>cases h
  rename_i hs;cases h;simp only[A8,A,FI g.1,Ae hs]
 case cab f x d xs =>
  simp only[FD] at h;split at h
  case h_2=>cases h
  rename_i L j;split at h
  case isFalse=>cases h
  rename_i hd;split at h
  next cs vs V y D hr A=>cases h;simp only[A8,j,Ae hd,hr,A,FI g.1]
  next cs vs V y D hr A=>cases h;simp only[A8,j,Ae hd,hr,A,FI g.1]
  ·cases h
 case cpf f xs us =>
  simp only[FD] at h;split at h
  case h_2=>cases h
  rename_i A a3;cases h;simp only[A8,A,a3,FI g.1]
 case mlk sk x d k =>
  simp only[FD] at h;split at h
  case h_2=>cases h
  rename_i hr o;split at h
  case isFalse=>cases h
  rename_i hd;split at h
  case h_2=>cases h
  rename_i E;cases h;simp only[A8,hr,o,Ae hd,E,g.1,Am]
 case mup sk x d k =>
  simp only[FD] at h;split at h
  case h_2=>cases h
  rename_i hr o;split at h
  case isFalse=>cases h
  rename_i hd;split at h
  case h_2=>cases h
  rename_i E;cases h;simp only[A8,hr,o,Ae hd,E,g.1]
 case lok f x d u xs =>
  simp only[FD] at h;split at h
  case h_2=>cases h
  rename_i L off nm Y Z hr o;split at h
  case isFalse=>cases h
  rename_i hd;split at h
  case h_2=>cases h
  rename_i E M;split at h
  case isFalse=>cases h
  rename_i hu;cases h;obtain⟨⟨rfl,rfl⟩,h2,h3,_⟩:=g;have a4:L=d/\off=0/\Kp f nm=true:=⟨hd.1,hd.2,h2⟩;simp only[A8,hr,o,Ae a4,E,M,Ae hu,h3]
 case ldf x d y c hi n us kp =>
  simp only[FD] at h;split at h
  case h_2=>cases h
  rename_i hr;split at h
  case isFalse=>cases h
  rename_i hd;split at h
  ·rename_i E;split at h
   case h_2=>cases h
   rename_i M o;split at h
   ·split at h
    case isFalse=>cases h
    rename_i hc;cases h;obtain⟨W,X,_⟩:=g;have P:=of_decide_eq_true W;simp only[A8,hr,Ae hd,E,M,o,Ae P];rw[Ae ⟨hc.1,hc.2.1,hc.2.2.1,hc.2.2.2.1,hc.2.2.2.2,X⟩]
   ·split at h
    case isFalse=>cases h
    rename_i hc;cases h;have P:=of_decide_eq_false g.1;simp only[A8,hr,Ae hd,E,M,o,Al P,Ae hc]
   ·cases h
  next E=>simp only[S] at h;obtain⟨q,h1,h2⟩:=h;cases h2;simp only[A8,hr,Ae hd,E,h1]
  ·cases h
 case sbn op x y =>
  simp only[FD] at h;split at h
  next a b j C=>cases h;simp only[A8,j,C,kO,Ae g.1,Am]
  next a b j C _=>simp only[S] at h;obtain⟨q,w,e⟩:=h;cases e;simp only[A8,j,C,w,Am]
  ·cases h
 all_goals
  simp only[FD,S] at h;obtain⟨q,w,e⟩:=h;cases e;exact w
def Aft(s:H)(m:Ih)(g:Option (Nat × Bool))(a:List Sc):R3 (Bool × Ih) :=
 match g with
 | none=>some ((true,m),a,[])
 | some (t,b) =>
  match m.is t with
  | some x=>some ((x==b,m),a,[])
  | none=>match Ag s t,a with
   | .val (.bool c),.b x::a=>some ((x==b,some (t,x)),a,[c=x])
   | .val .undef,a=>some ((false,m),a,[])
   | _,_=>none
theorem lL{s:H}{m d:Ih}(a:m.Ok s){g:Option (Nat × Bool)}{f i:List Sc}{r:Bool}{ps:List Prop}(h:Aft s m g f=some ((r,d),i,ps))(j:DQ ps):EF s g=some r/\d.Ok s:=by
 unfold Aft at h;split at h
 ·cases h;exact⟨rfl,a⟩
 ·rename_i t b;split at h
  ·rename_i x k;cases h;refine⟨?_,a⟩;have:=NN a (o := .t t) k;simp only[Opd.av,Opd.reg] at this;simp only[EF];split at this
   next y l=>cases this;rw[l]
   ·cases this
  ·split at h
   next c x n hr=>cases h;have:c=x:=j.1;subst this;refine⟨by simp only[EF,hr],fun u y e => ?_⟩;cases e;exact hr
   next hr=>cases h;exact⟨by simp only[EF,hr],a⟩
   ·cases h
def Ih.after(m:Ih)(wr:List Nat):Ih :=
 match m with
 | some (t,x)=>if wr.contains t then none else some (t,x)
 | none=>none
section
variable(b:Nat->Option IFunc)(T:Bx)(o:IOp)(s:H)(m:Ih)(a:List Sc)
def oL:R3 (H × Ih) :=
 match Aft s m o.g a with
 | none=>none
 | some ((false,m),a,ps)=>some ((BD s o.dst (.val .undef),m.after o.wr),a,ps)
 | some ((true,m),a,ps)=>match FD b T s m o.k a with
  | none=>none
  | some ((r,l),a,qs)=>some ((BD (A5 s l) o.dst r,m.after o.wr),a,ps++qs)
def Afu:R3 (H × Ih):=oL b T o (kill s o.ks) (m.after o.ks) a
end
theorem iV{s:H}{m:Ih}(a:m.Ok s)(ks:List Nat):(m.after ks).Ok (kill s ks):=by
 intro t x e;unfold Ih.after at e;split at e
 ·rename_i t' b;split at e
  ·cases e
  next hn=>cases e;rw[C_,Al (by simpa using hn)];exact a _ _ rfl
 ·cases e
theorem Pi{F:Bh}{o:IOp}{s s':H}{m:Ih}(a:m.Ok s)(h:Hh F o s=some s'):(m.after o.wr).Ok s':=by
 intro t x e;unfold Ih.after at e;split at e
 ·rename_i t' d;split at e
  ·cases e
  ·rename_i hn;cases e;rw[kU] at h;simp only[S] at h;obtain⟨l,hl,rfl⟩:=h;have b:=Yb hl;rw[G1 (fun p c e => ?_)]
   ·exact a _ _ rfl
   ·subst e;have:=b p c;simp only[CX,this,decide_true,not_true_eq_false] at hn
 ·cases e
section
variable{a:Nat->Option IFunc}{T:Bx}
theorem Afv(f:Be a T){o:IOp}{s s':H}{m c:Ih}(e:m.Ok s){g i:List Sc}{ps:List Prop}(h:oL a T o s m g=some ((s',c),i,ps))(b:DQ ps):Hh (Yq a) o s=some s'/\c.Ok s':=by
 unfold oL at h;split at h
 ·cases h
 ·rename_i k n p j;cases h;obtain⟨h1,h2⟩:=lL e j b;have d:Hh (Yq a) o s=some (BD s o.dst (.val .undef)):=by simp only[Hh,h1]
  exact⟨d,Pi h2 d⟩
 ·rename_i k n p j;split at h
  ·cases h
  ·rename_i r l t qs q;cases h;rw[FX] at b;obtain⟨h1,h2⟩:=lL e j b.1;have d:Hh (Yq a) o s=some (BD (A5 s l) o.dst r):=by simp only[Hh,h1,Axm f h2 q b.2]
   exact⟨d,Pi h2 d⟩
theorem Aqh(f:Be a T){o:IOp}{s s':H}{m c:Ih}(e:m.Ok s){g i:List Sc}{ps:List Prop}(h:Afu a T o s m g=some ((s',c),i,ps))(b:DQ ps):Ee (Yq a) o s=some s'/\c.Ok s' :=
 Afv f (iV e o.ks) h b
end
def Tt(b:Nat->Option IFunc)(T:Bx):List IOp->H->Ih->List Sc->List Prop->R3 H
 | [],s,_,a,ps=>some (s,a,ps)
 | o::l,s,m,a,ps=>match Afu b T o s m a with
  | none=>none
  | some ((s',c),d,qs)=>Tt b T l s' c d (ps++qs)
theorem Yt{a:Nat->Option IFunc}{T:Bx}(f:Be a T):∀ {l:List IOp} {s s':H} {m:Ih} {b d:List Sc} {ps c:List Prop},Tt a T l s m b ps=some (s',d,c)->DQ c->DQ ps/\(m.Ok s->CY (Yq a) l s=some s')
 | [],s,s',m,b,d,ps,c,h,e=>by
  simp only[Tt,Ac,Cc] at h;obtain⟨rfl,_,rfl⟩:=h;exact⟨e,fun _=>rfl⟩
 | o::l,s,s',m,b,d,ps,c,h,e=>by
  simp only[Tt] at h;cases h1:Afu a T o s m b with
  | none=>rw[h1] at h;cases h
  | some q =>
   obtain⟨⟨n,p⟩,r,qs⟩:=q;rw[h1] at h;obtain⟨h2,g⟩:=Yt f h e;rw[FX] at h2;refine⟨h2.1,fun i => ?_⟩;obtain⟨j,k⟩:=Aqh f i h1 h2.2;simp only[CY,j];exact g k
def HJ(g:Nat->Option IFunc)(T:Bx):Nat->ICode->H->List Sc->List Prop->R3 (Ex × H)
 | 0,_,_,_,_=>none
 | _+1,.skip,s,d,ps=>some ((.norm,s),d,ps)
 | _+1,.region _ ops,s,d,ps=>match Tt g T ops s none d ps with
  | none=>none
  | some (s',e,f)=>some ((.norm,s'),e,f)
 | n+1,.seq a b,s,d,ps=>match HJ g T n a s d ps with
  | none=>none
  | some ((.norm,s'),e,f)=>HJ g T n b s' e f
  | some ((.exit i,s'),e,f)=>some ((.exit i,s'),e,f)
  | some ((.ret,s'),e,f)=>some ((.ret,s'),e,f)
 | n+1,.cond c a b,s,d,ps=>match c.av s,d with
  | some (.bool v),.b true::d=>HJ g T n a s d (ps++[v=true])
  | some (.bool v),.b false::d=>HJ g T n b s d (ps++[v=false])
  | _,_=>none
 | n+1,.block id c,s,d,ps=>match HJ g T n c s d ps with
  | none=>none
  | some ((.exit i,s'),e,f)=>if i=id then some ((.norm,s'),e,f) else some ((.exit i,s'),e,f)
  | some ((.norm,s'),e,f)=>some ((.norm,s'),e,f)
  | some ((.ret,s'),e,f)=>some ((.ret,s'),e,f)
 | n+1,.loop c,s,d,ps=>match HJ g T n c s d ps with
  | none=>none
  | some ((.norm,s'),e,f)=>HJ g T n (.loop c) s' e f
  | some ((.exit i,s'),e,f)=>some ((.exit i,s'),e,f)
  | some ((.ret,s'),e,f)=>some ((.ret,s'),e,f)
 | n+1,.scope c,s,d,ps=>HJ g T n c s d ps
 | _+1,.exit id,s,d,ps=>some ((.exit id,s),d,ps)
 | _+1,.ret,s,d,ps=>some ((.ret,s),d,ps)
theorem Axn{r:Nat->Option IFunc}{T:Bx}(z:Be r T):∀ (n:Nat) {c:ICode} {s s':H} {ex:Ex} {u w:List Sc} {ps q:List Prop},HJ r T n c s u ps=some ((ex,s'),w,q)->DQ q->DQ ps/\BJ (Yq r) n c s=some (ex,s'):=by
 intro n;induction n with
 | zero=>intro c s s' ex u w ps q h;simp[HJ] at h
 | succ n k =>
  intro c s s' ex u w ps q h j;cases c with
  | skip=>simp only[HJ,Ac,Cc] at h;obtain⟨⟨rfl,rfl⟩,_,rfl⟩:=h;exact⟨j,rfl⟩
  | region d ops =>
   simp only[HJ] at h;split at h
   ·cases h
   next m l o h1=>cases h;obtain⟨h2,p⟩:=Yt z h1 j;have f:=p (fun t x e=>(by cases e));exact⟨h2,by simp only[BJ,f,Am]⟩
  | seq a b =>
   simp only[HJ] at h;split at h
   ·cases h
   next m l o h1=>obtain⟨h2,p⟩:=k h j;obtain⟨f,g⟩:=k h1 h2;exact⟨f,by simp only[BJ,g];exact p⟩
   next i m l o h1=>cases h;obtain⟨f,g⟩:=k h1 j;exact⟨f,by simp only[BJ,g]⟩
   next m l o h1=>cases h;obtain⟨f,g⟩:=k h1 j;exact⟨f,by simp only[BJ,g]⟩
  | cond c a b =>
   simp only[HJ] at h;split at h
   next v l hc=>obtain⟨h2,p⟩:=k h j;rw[FX] at h2;have y:v=true:=h2.2.1;exact⟨h2.1,by simp only[BJ,KO,hc,y];exact p⟩
   next v l hc=>obtain⟨h2,p⟩:=k h j;rw[FX] at h2;have y:v=false:=h2.2.1;exact⟨h2.1,by simp only[BJ,KO,hc,y];exact p⟩
   ·cases h
  | block id c =>
   simp only[HJ] at h;split at h
   ·cases h
   ·rename_i i m l o h1;split at h
    next hi=>cases h;obtain⟨f,g⟩:=k h1 j;exact⟨f,by simp only[BJ,g,Ae hi]⟩
    next hi=>cases h;obtain⟨f,g⟩:=k h1 j;exact⟨f,by simp only[BJ,g,Al hi]⟩
   next m l o h1=>cases h;obtain⟨f,g⟩:=k h1 j;exact⟨f,by simp only[BJ,g]⟩
   next m l o h1=>cases h;obtain⟨f,g⟩:=k h1 j;exact⟨f,by simp only[BJ,g]⟩
  | scope c =>
   simp only[HJ] at h;obtain⟨f,g⟩:=k h j;exact⟨f,by simp only[BJ];exact g⟩
  | loop c =>
   simp only[HJ] at h;split at h
   ·cases h
   next m l o h1=>obtain⟨h2,p⟩:=k h j;obtain⟨f,g⟩:=k h1 h2;exact⟨f,by simp only[BJ,g];exact p⟩
   next i m l o h1=>cases h;obtain⟨f,g⟩:=k h1 j;exact⟨f,by simp only[BJ,g]⟩
   next m l o h1=>cases h;obtain⟨f,g⟩:=k h1 j;exact⟨f,by simp only[BJ,g]⟩
  | exit id=>simp only[HJ,Ac,Cc] at h;obtain⟨⟨rfl,rfl⟩,_,rfl⟩:=h;exact⟨j,rfl⟩
  | ret=>simp only[HJ,Ac,Cc] at h;obtain⟨⟨rfl,rfl⟩,_,rfl⟩:=h;exact⟨j,rfl⟩
theorem Mt{a:Nat->Option IFunc}{T:Bx}(b:Be a T)(n:Nat){c:ICode}{s s':H}{ex:Ex}(d:List Sc){ps:List Prop}
  (h:HJ a T n c s d []=some ((ex,s'),[],ps)) (e:DQ ps):Dv a c s ex s':=Afr (Afs a) n (Axn b n h e).2
def Axo(a:Nat->Option IFunc)(T:Bx)(n:Nat)(fn:IFunc)(args:List AV)(b:List Sc):Option (AV × List Prop) :=
 match HJ a T n fn.body (CL fn args) b [] with
 | some ((.ret,s),[],ps)=>(FU s fn.res).map fun r=>(r,ps)
 | some ((.norm,s),[],ps)=>(FU s fn.res).map fun r=>(r,ps)
 | _=>none
theorem k{prog:Nat->Option IFunc}{T:Bx}(b:Be prog T){f:Nat}{fn:IFunc}(hf:prog f=some fn)(n:Nat){args:List AV}(hl:C args=fn.params)(a:List Sc){r:AV}{ps:List Prop}
  (h:Axo prog T n fn args a=some (r,ps)) (c:DQ ps):FW prog f args r:=by
 unfold Axo at h;split at h
 next s d h1=>simp only[S] at h;obtain⟨r',hr,e⟩:=h;cases e;exact Ms hf hl (Mt b n a h1 c) (fun i=>(by nofun)) hr
 next s d h1=>simp only[S] at h;obtain⟨r',hr,e⟩:=h;cases e;exact Ms hf hl (Mt b n a h1 c) (fun i=>(by nofun)) hr
 ·cases h
end Go.Ai
namespace Go.Ai
open List renaming all_eq_true->AKf,mem_cons_of_mem->AJ,mem_cons_self->AKh
open Nat renaming beq->AKi,ble->Dq,div->Aes,eq_of_beq_eq_true->Ao,mul->RO,rec->Pj
noncomputable section
structure Fx where
 fn:Func
 params:Nat
 slots:Nat
 res:List IRes
 rs:List (Nat × List Nat)
 ex:List (Nat × K)
noncomputable def fx (fn:Func) (n m:Nat) (r:List IRes) (rs:List (Nat × List Nat)) (ex:List (Nat × K)):Fx:=⟨fn,n,m,r,rs,ex⟩
def i:ICode->List IOp
 | .region _ l=>l
 | _=>[]
def inL(n:Nat):List Nat->Bool
 | []=>false
 | m::l=>cond (AKi m n) true (inL n l)
def lk{α:Type}:List (Nat × α)->Nat->Option α
 | [],_=>none
 | (n,x)::l,f=>cond (AKi n f) (some x) (lk l f)
def Axp(t:Nat):List (Nat × List Nat)->Option Nat
 | []=>none
 | (r,l)::m=>cond (inL t l) (some r) (Axp t m)
def Mv(t:Nat)(m:List (Nat × List Nat)):Option Nat:=match Axp t m with
 | some r=>cond (Dq 1000 r) none (some r)
 | none=>none
def Fx.roots(x:Fx):List (Nat × Nat):=x.rs.flatMap fun p=>cond (Dq 1000 p.1) [] (p.2.map fun t=>(t,p.1))
def Fx.has(x:Fx)(k d:Nat):Bool:=match lk x.rs k with | some l=>inL d l | none=>false
def cA:Value->AV
 | .int k n => .int k n
 | .bool b => .bool b
 | .string s => .str s
 | .slice none _ _ => .sl 0 []
 | _ => .undef
def Gr:Operand->Opd
 | .tmp t => .t t
 | .const v => .c (cA v)
 | _ => .c .undef
def L6:Operand->Nat
 | .tmp t=>t
 | _=>0
def ACe(z:List AV):Nat->List AV
 | 0=>[]
 | n+1=>z++ACe z n
section
variable (P:Program)
section
variable(t:TypeId)
def oO:List AV:=match P.info? t with | some { zero:=some v, .. }=>v.cells.toList.map cA | _=>[]
def oneT:Bool:=match P.underlying t with | some d => !(nT d) | none=>true
def KS:Nat:=match P.underlying t with | some (.slice e)=>e | some (.array _ e)=>e | _=>0
def QD(i:Nat):Nat × Nat:=match P.underlying t with | some (.struct fs)=>(match fs[i]? with | some f=>(f.offset,f.type) | none=>(0,0)) | _=>(0,0)
def ACg:Bool:=match P.underlying t with | some (.map a _)=>(match P.underlying a with | some .string=>true | _=>false) | _=>false
end
def AFu(x:Fx)(d f:Nat)(l:List Operand):K :=
 match l with
 | .tmp t::a=>cond (x.has 1004 t) (.cab f t ((Mv t x.rs).getD 0) (a.map Gr)) (cond (x.has 1002 d) (.clo f (l.map Gr)) (.call f (l.map Gr)))
 | _ =>
 cond (x.has 1002 d) (.clo f (l.map Gr)) (.call f (l.map Gr))
def Alo(t:TypeId):Bool:=match P.underlying t with | some .string=>true | _=>false
def Axq(x:Fx)(t:Nat):Nat:=match Mv t x.rs with | some r=>cond (AKi r x.slots) t r | none=>t
def kT(x:Fx)(d:Nat)(g:TypeId)(op:Op):K :=
 match op with
 | .nilCheck y => .mvp (L6 y) ((Mv d x.rs).getD 0)
 | .move y=>cond (x.has 1004 d) (.mvp (L6 y) ((Mv d x.rs).getD 0)) <| cond (x.has 1000 d) (.tra (L6 y)) (cond (x.has 1001 d) (.frz (L6 y)) (match Mv d x.rs with | some _ => .cpy (L6 y) | none => .mov (Gr y)))
 | .assign y=>cond (x.has 1000 d) (match y with | .tmp t => .tra t | .const (.pointer none) => .npt | _ => .nlo (P.cellsOf (KS P g))) (.mov (Gr y))
 | .pick c a b => .pick (Gr c) (Gr a) (Gr b)
 | .binOp o t a b _=>cond (O' P t) (.eqb (o == .neq) (Gr a) (Gr b)) (cond (Alo P t) (.sbn o (Gr a) (Gr b)) (.bin o (Gr a) (Gr b)))
 | .unOp o _ a => .un o (Gr a)
 | .convert _ t a=>(match P.underlying t with | some (.int k) => .cv k (Gr a) | _ => .bad)
 | .alloc t => .new (oO P t) ((lk x.rs d).getD [])
 | .box _ a => .box (Gr a) ((lk x.rs d).getD [])
 | .build t ps => .bld (oO P t) (ps.toList.map fun p=>((QD P t p.1).1,P.cellsOf (QD P t p.1).2,Gr p.2))
 | .buildSlice t n ps=>(fun k (z:List AV) (qs:List (Nat × Nat × Opd))=>cond (x.has 1002 d) (.blo k n z qs) (.bls n z qs)) (P.cellsOf (KS P t)) (ACe (oO P (KS P t)) n) (ps.toList.map fun p=>(p.1*P.cellsOf (KS P t),P.cellsOf (KS P t),Gr p.2))
 | .fieldAddr t a i => .adr (L6 a) ((Mv d x.rs).getD x.slots) (QD P t i).1
 | .load t a => .ld (L6 a) (Axq x (L6 a)) (P.cellsOf t) (oneT P t)
 | .store t a v=>match lk x.ex (1000000+1000*L6 a+L6 v) with | some k=>k | none=>cond (x.has 1003 (L6 v)) (.stl (L6 a) (L6 v)) <| .st (L6 a) (Axq x (L6 a)) (P.cellsOf t) (Gr v)
 | .indexAddr t a i=>(match Mv (L6 a) x.rs with | some r => .ixo (L6 a) r (Gr i) (P.cellsOf (KS P t)) | none => .ixa (L6 a) (Gr i) (P.cellsOf (KS P t)))
 | .index _ a i => .six (Gr a) (Gr i)
 | .extract a i => .ext (Gr a) i
 | .makeSlice t n _ => .mks (oO P (KS P t)) (Gr n)
 | .makeMap _ none => .mkm
 | .lookup t a k false => .mlk (ACg P t) (L6 a) ((Mv (L6 a) x.rs).getD 0) (Gr k)
 | .mapUpdate t a k _ => .mup (ACg P t) (L6 a) ((Mv (L6 a) x.rs).getD 0) (Gr k)
 | .slice t a lo hi m => .sli (Gr a) (lo.map Gr) (hi.map Gr) (m.map Gr) (P.cellsOf (KS P t))
 | .call { callee := .value (.func f),args:=l,argTypes:=_ }=>AFu x d f l.toList
 | .call { callee := .builtin .len,args:=l,argTypes:=e }=>cond (match e.toList with | t::_=>Alo P t | _=>false) (match l.toList with | a::_ => .sln (Gr a) | [] => .bad) <| (match l.toList with | a::_=>(match a with | .tmp t=>(match Mv t x.rs with | some r => .lno t r | none => .len (.t t)) | _ => .len (Gr a)) | [] => .bad)
 | .call { callee := .builtin .max,args:=l,argTypes:=_ } => .mx (l.toList.map Gr)
 | .call { callee := .builtin .append,args:=l,argTypes:=e }=>(match l.toList,e.toList with
  | a::b::_,t::_ => .apd (x.has 1002 d) (Gr a) (Gr b) (P.cellsOf (KS P t)) (cond (Th P (KS P t)) 35184372088832 1048576)
  | _,_ => .bad)
 | _ => .bad
def ioT(x:Fx)(ops:Array Oper)(o:Oper):IOp :=
 (fun (k:K)=>⟨o.dst,k,o.guard.map fun p=>(((ops[p.1]?).bind (·.dst)).getD 0,p.2),match k with | .new _ _=>[] | .box _ _=>[] | .bdo _ _ _=>[] | .aph a _ _ _ b _=>(match o.dst with | some d=>((lk x.rs d).getD []).filter (fun t => !(AKi t a || AKi t b)) | none=>[]) | .mkw _ _ l=>(match o.dst with | some d=>((lk x.rs d).getD []).filter (fun t => !(inL t l)) | none=>[]) | .ldf _ b _ _ _ _ _ _=>(match o.dst with | some d=>((lk x.rs d).getD []).filter (fun t => !(AKi t b)) | none=>[]) | .apn _ _ _ l=>(match o.dst with | some d=>((lk x.rs d).getD []).filter (fun t => !(inL t l)) | none=>[]) | .clw _ _ _ l=>(match o.dst with | some d=>((lk x.rs d).getD []).filter (fun t => !(inL t l)) | none=>[]) | _=>(match o.dst with | some d=>(lk x.rs d).getD [] | none=>[])⟩)
  (match o.dst with | some d=>(match lk x.ex d with | some k=>k | none=>kT P x d o.type o.op) | none=>kT P x x.slots o.type o.op)
def chd(i:Nat):Code->Code
 | .seq a b=>cond (AKi i 0) a b
 | .cond _ a b=>cond (AKi i 0) a b
 | .block _ c=>c
 | .loop c=>c
 | .scope c=>c
 | _ => .skip
noncomputable def cAt (f:Func) (n:Nat):Nat->Code :=
 Pj (motive:=fun _=>Nat->Code) (fun _ => .skip) (fun _ a p=>cond (Dq p 1) (match f.body with | some c=>c | none => .skip) (chd (Nat.mod p 2) (a (Aes p 2)))) n
def cS(x:Fx)(a:Nat->ICode)(p:Nat):Code->ICode
 | .region _ ops b => .region b (ops.toList.map (ioT P x ops))
 | .seq _ _ => .seq (a (RO 2 p)) (a (Nat.add (RO 2 p) 1))
 | .cond c _ _ => .cond (Gr c) (a (RO 2 p)) (a (Nat.add (RO 2 p) 1))
 | .block i _ => .block i (a (RO 2 p))
 | .loop _ => .loop (a (RO 2 p))
 | .scope _ => .scope (a (RO 2 p))
 | .exit i => .exit i
 | .ret => .ret
 | _ => .skip
noncomputable def cP (x:Fx) (n:Nat):Nat->ICode :=
 Pj (motive:=fun _=>Nat->ICode) (fun _ => .skip) (fun _ a p=>cS P x a p (cAt x.fn 99 p)) n
noncomputable def iF (x:Fx):IFunc:=⟨x.params,x.slots,x.res,cP P x 99 1⟩
noncomputable def UF (p:Nat × Fx):Bool:=match P.funcs[p.1]? with | some fn=>lJ P p.2.roots fn (iF P p.2) | none=>false
end
theorem Alp{α:Type}{f:Nat}{x:α}:∀ {l:List (Nat × α)},lk l f=some x->(f,x)∈l
 | [],h=>by cases h
 | (g,y)::l,h=>by
  unfold lk at h;cases a:AKi g f
  ·rw[a] at h;exact AJ _ (Alp h)
  ·rw[a] at h;cases h;rw[Ao a];exact AKh
theorem Axr{P:Program}{l:List (Nat × Fx)}(h:l.all (UF P)=true)(f:Nat)(a:IFunc)(hf:(lk l f).map (iF P)=some a):∃ fn roots,P.funcs[f]? = some fn/\lJ P roots fn a=true:=by
 cases hl:lk l f with
 | none=>rw[hl] at hf;cases hf
 | some p =>
  rw[hl] at hf;cases hf;have h1:=AKf.1 h _ (Alp hl);unfold UF at h1;split at h1
  ·exact⟨_,_,by assumption,h1⟩
  ·cases h1
end
end Go.Ai
