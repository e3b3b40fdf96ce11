/- Texts of the proof of EntryWithin: part 4 of 13. -/
import Derived.Scope
import Derived.Test.YtajompaehjkgkaaGreatEwn3
namespace Go.Ai
open Go.RowKit
open _root_.Array renaming getD_eq_getD_getElem?->Dq,getElem?_eq_getElem->Ep,mapM_eq_mapM_toList->W0,replicate->K7
open Bool renaming and_eq_true->At,and_false->Li,and_true->Ob,false_eq_true->CI
open Go renaming undef->BU
open Go.Result renaming andThen_ok->AQ
open Go.Sem renaming run_bind->Bq,run_map->AJk,run_pure->BV
open Go.Value renaming bool->YI
open List renaming cons_append->Ks,contains_eq_mem->Lf,getD_eq_getElem?_getD->Ad,getElem?_append_left->B2,getElem?_append_right->BN,getElem?_eq_none->Bi,getElem?_eq_some_iff->GY,getElem?_replicate_of_lt->Axq,getElem_cons_zero->H4,getElem_toArray->QT,length->F,length_cons->BM,length_nil->IP,mapM_cons->OP,size_toArray->KD
open Nat renaming add_zero->Gb,le_of_not_lt->QY,le_refl->A2,lt_or_ge->CN,not_le_of_lt->IM,strongRecOn->Y4,zero_add->Cv
open Option renaming map_eq_some_iff->A0,map_some->AY
open Option.some renaming inj->Pj,injEq->AS
open Prod.mk renaming injEq->E6
def GS(P:Program)(roots:List (Nat × Nat)):Code->ICode->Bool
 | .skip,.skip=>true
 | .label _,.skip=>true
 | .region _ ops i,.region d j=>i==d&&PX P roots ops ops.toList j&&(!i || Vb ops j)
 | .seq a b,.seq f g=>GS P roots a f&&GS P roots b g
 | .cond c a b,.cond e f g=>CS c e&&GS P roots a f&&GS P roots b g
 | .block id c,.block h e=>id==h&&GS P roots c e
 | .loop c,.loop e=>GS P roots c e
 | .scope c,.scope e=>GS P roots c e
 | .exit id,.exit h=>id==h
 | .ret,.ret=>true
 | _,_=>false
def Aiy:Ex->Exit
 | .norm => .normal
 | .exit id => .exit id
 | .ret => .ret
theorem eJ{p:Nat->Prop}(h:∃ n,p n):∃ n,p n/\∀ m,p m->n<=m:=by
 obtain⟨n,hn⟩:=h;induction n using Y4 with
 | _ n b =>
  by_cases a:∃ m,m<n/\p m
  ·obtain⟨m,c,hp⟩:=a;exact b m c hp
  ·exact⟨n,hn,fun m hp=>QY fun d=>a ⟨m,d,hp⟩⟩
section
variable {P:Program} {Y X0:Nat->Prop} {roots:List (Nat × Nat)} {w0:Base}
theorem simC(Q:P.follows .mixedOrders=true){e:C4}(I:LJ P e):∀ (n:Nat) (c:Code) (D:ICode) (s t:Az) (ex:Ex) (a:Act) (w:World) (f:Exit->Act->World->Prop),GS P roots c D=true ->
  Rel Y X0 roots w0 s a w->g e n D s=some (ex,t)->(∀ u z,Rel Y X0 roots w0 t u z->f (Aiy ex) u z)->c.wp P f a w:=by
 intro n;induction n using Y4 with
 | _ n B =>
  intro c D s t ex a w f j h l q;cases n with
  | zero=>simp[g] at l
  | succ n =>
   cases D with
   | skip =>
    cases c <;> simp only[GS] at j <;> try cases j
    all_goals
     simp only[g,AS,E6] at l;obtain⟨rfl,rfl⟩:=l;first | exact wp_skip (q _ _ h) | exact wp_label (q _ _ h)
   | region d U =>
    cases c <;> simp only[GS] at j <;> try cases j
    rename_i id ops R;simp only[At,BJ] at j;obtain⟨⟨rfl,h1⟩,h2⟩:=j;simp only[g,A0] at l;obtain⟨A,J,G⟩:=l;cases G;cases R with
    | false=>exact Amc I h1 h J q
    | true=>exact Amb Q I h1 (by simpa using h2) h J q
   | seq x y =>
    cases c <;> simp only[GS] at j <;> try cases j
    rename_i c1 H;simp only[At] at j;simp only[g] at l;refine wp_seq ?_;split at l
    next A h1=>refine B n (by omega) c1 x s A .norm a w _ j.1 h h1 fun u z r => ?_;exact B n (by omega) H y A t ex u z f j.2 r l q
    ·rename_i h1;refine B n (by omega) c1 x s t ex a w _ j.1 h l fun u z r => ?_;cases ex with
     | norm=>exact absurd l (h1 t)
     | exit id=>exact q _ _ r
     | ret=>exact q _ _ r
   | cond o x y =>
    cases c <;> simp only[GS] at j <;> try cases j
    rename_i K c1 H;simp only[At] at j;obtain⟨⟨h1,h2⟩,S⟩:=j;simp only[g] at l;have L:∀ b,My s o=some b->a.eval K = .bool b:=by
     intro b hb;unfold My at hb;split at hb
     next V hav=>cases hb;have:=D6 h h1 hav;generalize a.eval K=v at this;cases this;rfl
     ·cases hb
    split at l
    next hc=>exact wp_cond_true (L true hc) (B n (by omega) c1 x s t ex a w f h2 h l q)
    next hc=>exact wp_cond_false (L false hc) (B n (by omega) H y s t ex a w f S h l q)
    ·cases l
   | block id x =>
    cases c <;> simp only[GS] at j <;> try cases j
    rename_i W c1;simp only[At,BJ] at j;obtain⟨rfl,j⟩:=j;simp only[g] at l;refine wp_block ?_;split at l
    ·rename_i i A h1;refine B n (by omega) c1 x s A (.exit i) a w _ j h h1 fun u z r => ?_;simp only[Aiy,Exit.inBlock];split at l
     next hi=>cases l;rw[Ar hi];exact q _ _ r
     next hi=>cases l;rw[Aw hi];exact q _ _ r
    ·rename_i h1;refine B n (by omega) c1 x s t ex a w _ j h l fun u z r => ?_;cases ex with
     | norm=>exact q _ _ r
     | exit i=>exact absurd l (h1 i t)
     | ret=>exact q _ _ r
   | scope x =>
    cases c <;> simp only[GS] at j <;> try cases j
    simp only[g] at l;refine wp_scope_straight ?_;refine B n (by omega) _ x s t ex a w _ j h l fun u z r => ?_;cases ex with
    | norm=>exact q _ _ r
    | exit i=>exact q _ _ r
    | ret=>exact q _ _ r
   | loop x =>
    cases c <;> simp only[GS] at j <;> try cases j
    rename_i c1;let p:Act->World->Nat->Prop:=fun a w m=>m<=n+1/\∃ A,Rel Y X0 roots w0 A a w/\g e m (.loop x) A=some (ex,t)
    let μ:Act->World->Nat:=fun a w=>@Classical.epsilon Nat ⟨0⟩ fun m=>p a w m/\∀ k,p a w k->m<=k
    have M:∀ a w,(∃ m,p a w m)->p a w (μ a w)/\∀ k,p a w k->μ a w<=k:=fun a w G=>@Classical.epsilon_spec_aux Nat ⟨0⟩ _ (eJ G);refine wp_loop (fun a w=>∃ m,p a w m) μ ⟨n+1,A2 _,s,h,l⟩ ?_;intro E F T;obtain⟨⟨X,A,N,C⟩,Z⟩:=M E F T;generalize a2:μ E F=m at *
    cases m with
    | zero=>simp[g] at C
    | succ m =>
     simp only[g] at C;split at C
     next O h2=>refine B m (by omega) c1 x A O .norm E F _ j N h2 fun u z r => ?_;have hp:p u z m:=⟨by omega,O,r,C⟩;refine⟨⟨m,hp⟩,?_⟩;have:=(M u z ⟨m,hp⟩).2 m hp;omega
     ·rename_i h2;refine B m (by omega) c1 x A t ex E F _ j N C fun u z r => ?_;cases ex with
      | norm=>exact absurd C (h2 t)
      | exit i=>exact q _ _ r
      | ret=>exact q _ _ r
   | exit id =>
    cases c <;> simp only[GS] at j <;> try cases j
    simp only[BJ] at j;subst j;simp only[g,AS,E6] at l;obtain⟨rfl,rfl⟩:=l;exact wp_exit (q _ _ h)
   | ret =>
    cases c <;> simp only[GS] at j <;> try cases j
    simp only[g,AS,E6] at l;obtain⟨rfl,rfl⟩:=l;exact wp_ret (q _ _ h)
end
def Uk(P:Program):ResultVar->IRes->Bool
 | .tmp t,.tmp t'=>t==t'
 | .cell t a,.cell t' n one=>t==t'&&PR P a n one
 | _,_=>false
def Jk(P:Program):List ResultVar->List IRes->Bool
 | [],[]=>true
 | r::l,a::b=>Uk P r a&&Jk P l b
 | _,_=>false
def gN(P:Program)(roots:List (Nat × Nat))(fn:Func)(a:IFunc):Bool :=
 (match fn.body with | some c=>GS P roots c a.body | none=>false)&&fn.ntmps==a.slots&&Jk P fn.results.toList a.res&&decide (a.params<=a.slots)
section
variable {P:Program} {Y X0:Nat->Prop} {roots:List (Nat × Nat)} {w0:Base}
def PY(b:Array Value):ResultVar->Sem Value
 | .tmp t=>pure (b.getD t BU)
 | .cell a t=>do loadVar t (<- asAddr (b.getD a BU))
theorem rZ(fn:Func)(a:Array Value):results fn a=(fn.results.mapM (PY a)) >>= fun vs=>pure (if h:vs.size=1 then vs[0] else .tuple vs):=by
 unfold results;congr 1
theorem R9{s:Az}{a:Act}{w:World}(h:Rel Y X0 roots w0 s a w):∀ {l:List ResultVar} {m:List IRes} {xs:List AV},Jk P l m=true->E' s m=some xs ->
  ∃ vs:List Value,(l.mapM (PY a.tmps)).run P w = .ok vs w/\F vs=F xs /\
   ∀ (i:Nat) (h1:i<F vs) (h2:i<F xs),Rd Y X0 w vs[i] xs[i]
 | [],[],xs,_,hx=>by
  simp only[E',AS] at hx;subst hx;exact⟨[],rfl,rfl,fun i h1 _=>(by simp at h1)⟩
 | r::l,g::m,xs,f,hx=>by
  simp only[Jk,At] at f;simp only[E'] at hx;cases h1:Gt s g with
  | none=>rw[h1] at hx;cases hx
  | some x =>
   rw[h1] at hx;cases h2:E' s m with
   | none=>rw[h2] at hx;cases hx
   | some E =>
    rw[h2] at hx;cases hx;obtain⟨vs,p,q,u⟩:=R9 h f.2 h2;have one:∃ v,(PY a.tmps r).run P w = .ok v w/\Rd Y X0 w v x:=by
     have hr:=f.1;cases r with
     | tmp t =>
      cases g with
      | cell _ _ _=>cases hr
      | tmp t' =>
       simp only[Uk,BJ] at hr;subst hr;have e:=h.reg t;simp only[Gt] at h1;cases d:AR s t with
       | val y=>rw[d] at h1 e;cases h1;exact⟨_,rfl,Rd.mono e fun b hb => .inl (.inl hb)⟩
       | box _=>rw[d] at h1;cases h1
       | ptr _ _=>rw[d] at h1;cases h1
       | mem _=>rw[d] at h1;cases h1
       | own k n cs =>
        rw[d] at h1 e;cases h1;exact⟨_,rfl,GD.frozen e (fun b hb => .inl (.inl hb)) (fun c hc hX=>h.low c hX (GD.block e hc).1) h.lowY⟩
       | agn _ _ _ _=>rw[d] at h1;cases h1
       | bxl _=>rw[d] at h1;cases h1
       | dup _=>rw[d] at h1;cases h1
       | sub _ _ _ _=>rw[d] at h1;cases h1
       | dead=>rw[d] at h1;cases h1
     | cell t G =>
      cases g with
      | tmp _=>cases hr
      | cell t' n one =>
       simp only[Uk,At,BJ] at hr;obtain⟨rfl,hr⟩:=hr;have e:=h.reg t;simp only[Gt] at h1;cases d:AR s t with
       | box cs =>
        rw[d] at h1 e;obtain⟨b,j,_,z⟩:=e;obtain⟨v,o,A⟩:=rO (P:=P) hr z.mem h1;refine⟨v,?_,A.mono fun b hb => .inl (.inl hb)⟩;simp only[Gb] at o;simp only[PY,Bq,j,asAddr,BV,AQ,o]
       | val _=>rw[d] at h1;cases h1
       | ptr _ _=>rw[d] at h1;cases h1
       | mem _=>rw[d] at h1;cases h1
       | own _ _ _=>rw[d] at h1;cases h1
       | agn _ _ _ _=>rw[d] at h1;cases h1
       | bxl _=>rw[d] at h1;cases h1
       | dup _=>rw[d] at h1;cases h1
       | sub _ _ _ _=>rw[d] at h1;cases h1
       | dead=>rw[d] at h1;cases h1
    obtain⟨v,B,C⟩:=one;refine⟨v::vs,?_,by simp[q],fun i j D => ?_⟩
    ·simp only[OP,Bq,B,p,AQ,BV]
    ·cases i with
     | zero=>exact C
     | succ i=>exact u i (by simpa using j) (by simpa using D)
 | [],_::_,_,f,_=>by cases f
 | _::_,[],_,f,_=>by cases f
theorem zW{Y e a:Nat->Prop}{B:Nat->Prop}{tm:Array Value}{w:World}{t:Nat}{v:Value}{x:AV}(d:∀ b,a b->B b)(h:zL Y e a w v x):Ke Y (fun c=>e c\/a c) B roots tm w t v (Oq x):=by
 cases x
 case pt cs=>exact Ayb h
 case fresh k n cs=>exact GD.lower h d
 all_goals exact h
theorem Amd(x:AV):E_ (Oq x)=Rz x:=by cases x <;> rfl
theorem Ame{d:IFunc}{Y a:Nat->Prop}{w:World}{vs:Array Value}{c:List AV}(m:∀ b,a b->b<w.heap.size/\¬ HG c vs b)(n:∀ b,Y b->b<w.heap.size/\¬ HG c vs b)(hs:vs.size=F c)(u:F c<=d.slots)
  (hr:∀ (i:Nat) (h1:i<vs.size) (h2:i<F c),zL Y a (HG c vs) w vs[i] c[i]) (q:∀ (i:Nat) (h:i<F c),Rz c[i]=true->i=0) :
  Rel Y a roots ⟨w,HG c vs⟩ (I5 d c) { tmps:=vs++K7 (d.slots-vs.size) BU,defers:=[] } w:=by
 have o:∀ t,(∃ x,AR (I5 d c) t=Oq x/\c[t]? = some x)\/AR (I5 d c) t = .dead:=by
  intro t;simp only[AR,I5,Ad];rcases CN t (F c) with h1 | h1
  ·refine .inl ⟨c[t],?_,by simp[h1]⟩;rw[B2 (by simpa using h1)];simp[h1]
  ·refine .inr ?_;rw[BN (by simpa using h1)];rcases CN (t-F (c.map Oq)) (d.slots-F c) with h2 | h2
   ·rw[Axq h2];rfl
   ·rw[Bi (by simpa using h2)];rfl
 have p:∀ t,(h:t<F c)->(vs++K7 (d.slots-vs.size) BU).getD t BU=vs[t]'(by omega):=by
  intro t h;rw[Dq,Array.getElem?_append_left (by omega),Ep (by omega)];rfl
 have j:∀ t,E_ (AR (I5 d c) t)=true->t=0/\∃ (h:0<F c),Rz c[0]=true:=by
  intro t g;rcases o t with ⟨x,h1,h2⟩ | h1 <;> rw[h1] at g
  ·rw[Amd] at g;obtain⟨f,hx⟩:=GY.1 h2;subst hx;have:=q t f g;subst this;exact⟨rfl,f,g⟩
  ·cases g
 have r:∀ b,XS (I5 d c) (vs++K7 (d.slots-vs.size) BU) b->HG c vs b:=by
  rintro b ⟨t,h1,h2⟩;obtain⟨rfl,f,k⟩:=j t h1;rw[p 0 f] at h2;refine⟨?_,by rw[Dq,Ep (by omega)];exact h2⟩;cases c with
  | nil=>cases f
  | cons x l=>cases x <;> first | exact⟨_,_,_,l,rfl⟩ | cases k
 refine⟨rfl,by simp[I5];omega,⟨rfl,rfl,rfl,A2 _,fun _ _=>rfl⟩,fun b hb e=>e.elim (IM (m b hb).1) (m b hb).2,fun b hb e=>e.elim (IM (n b hb).1) (n b hb).2,fun t => ?_,fun t t' b h1 h2 _ _=>(j t h1).1.trans (j t' h2).1.symm⟩;rcases o t with ⟨x,h1,h2⟩ | h1
 ·rw[h1];obtain⟨f,hx⟩:=GY.1 h2;have k:=hr t (by omega) f;rw[p t f,<- hx];have s:=zW (roots:=roots) (tm:=vs++K7 (d.slots-vs.size) BU) (t:=t) (B:=Base.mine ⟨w,HG c vs⟩) (fun b hb => .inr hb) k;exact s.monoX fun b hb=>hb.imp id (r b)
 ·rw[h1];trivial
theorem simF(hm:P.follows .mixedOrders=true){R:Nat->Option IFunc}(hp:∀ f C,R f=some C->∃ fn roots,P.funcs[f]? = some fn/\gN P roots fn C=true):∀ n,LJ P (Ru R n):=by
 intro n;induction n with
 | zero=>intro f D x h;simp[Ru] at h
 | succ n ih =>
  intro f D x h Y a w vs a1 a2 hs hr l;simp only[Ru] at h;split at h
  ·cases h
  ·rename_i C a3;split at h
   ·rename_i b7;obtain⟨fn,roots,a4,S⟩:=hp f C a3;simp only[gN,At,BJ,AZ] at S;obtain⟨⟨⟨h1,h2⟩,e⟩,h4⟩:=S;split at h1
    ·rename_i c hc;have a5:Rel Y a roots ⟨w,HG D vs⟩ (I5 C D) { tmps:=vs++K7 (fn.ntmps-vs.size) BU,defers:=[] } w:=by
      rw[h2];exact Ame a1 a2 hs (by omega) hr l
     refine calls_of_wp a4 hc ?_;have a6:∀ (s:Az) (g:Act) (p:World),Rel Y a roots ⟨w,HG D vs⟩ s g p->In s C.res=some x ->
       g.defers=[]/\∃ v,(results fn g.tmps).run P p = .ok v p/\∃ T,Ending.returned v = .returned T/\Grown ⟨w,HG D vs⟩ p/\KE Y a (Base.mine ⟨w,HG D vs⟩) p T x:=by
      intro s g p o E;refine⟨o.dfr,?_⟩;unfold In at E;have G:∀ (us:List Value),(fn.results.toList.mapM (PY g.tmps)).run P p = .ok us p ->
        (results fn g.tmps).run P p = .ok (if h:us.toArray.size=1 then us.toArray[0] else .tuple us.toArray) p:=by
       intro us a7;rw[rZ,W0];simp only[Bq,AJk,a7,AQ,BV]
      split at E
      ·rename_i y hy;cases E;generalize H:C.res=lres at hy e;unfold JT at hy;split at hy
       ·rename_i t;split at hy
        ·rename_i k n cs hr;cases hy;cases l:fn.results.toList with
         | nil=>rw[l] at e;cases e
         | cons r A =>
          rw[l] at e;cases A with
          | cons _ _=>simp only[Jk,Li] at e;cases e
          | nil =>
           simp only[Jk,Ob] at e;cases r with
           | cell _ _=>cases e
           | tmp t' =>
            simp only[Uk,BJ] at e;subst e;refine⟨_,G [g.tmps.getD t' BU] (by rw[l];rfl),_,rfl,o.below,?_⟩;simp only[KD,BM,IP,Cv,dite_true];rcases o.ownLow hr with a8 | ⟨b,cap,U,e2,e3,e4,e5,e6,a9⟩
            ·exact .inl a8
            refine .inr ⟨b,cap,U,e2,e3,e4,e5.mono fun c hc => .inl ?_,e6⟩;rcases hc with hc | hc
            ·exact .inl hc
            ·simp only[U,Bp,IB,QT,H4,AY,AS] at hc;exact .inr (hc ▸ a9)
        ·rename_i z k n cs hr;cases hy;cases l:fn.results.toList with
         | nil=>rw[l] at e;cases e
         | cons r A =>
          rw[l] at e;cases A with
          | cons _ _=>simp only[Jk,Li] at e;cases e
          | nil =>
           simp only[Jk,Ob] at e;cases r with
           | cell _ _=>cases e
           | tmp t' =>
            simp only[Uk,BJ] at e;subst e;refine⟨_,G [g.tmps.getD t' BU] (by rw[l];rfl),_,rfl,o.below,?_⟩;simp only[KD,BM,IP,Cv,dite_true];have B:=o.reg t';rw[hr] at B;have I:∀ c,Bp (g.tmps.getD t' BU)=some c->XS s g.tmps c:=fun c hc=>⟨t',by rw[hr];rfl,hc⟩;exact M0.own B I
        ·cases hy
       ·rename_i t u;split at hy
        ·rename_i k n cs hr;split at hy
         ·rename_i z b0;cases hy;cases l:fn.results.toList with
          | nil=>rw[l] at e;cases e
          | cons r A =>
           rw[l] at e;cases A with
           | nil=>simp only[Jk,Li] at e;cases e
           | cons r2 A =>
            cases A with
            | cons _ _=>simp only[Jk,Li] at e;cases e
            | nil =>
             simp only[Jk,Ob,At] at e;obtain⟨e,L⟩:=e;cases r with
             | cell _ _=>cases e
             | tmp t' =>
              cases r2 with
              | cell _ _=>cases L
              | tmp M =>
               simp only[Uk,BJ] at e L;subst e L;have N:=o.reg M;rw[b0] at N;have b1:g.tmps.getD M BU = .bool z:=by
                generalize g.tmps.getD M BU=q at N;cases N;rfl
               refine⟨_,G [g.tmps.getD t' BU,.bool z] (by rw[l,<- b1];rfl),_,rfl,o.below,?_⟩;have B:=o.reg t';rw[hr] at B;have I:∀ c,Bp (g.tmps.getD t' BU)=some c->XS s g.tmps c:=fun c hc=>⟨t',by rw[hr];rfl,hc⟩;have b2:M0 Y (fun c=>a c\/XS s g.tmps c) (Base.mine ⟨w,HG D vs⟩) p (.tuple #[g.tmps.getD t' BU,.bool z]) (.tp z) k n cs:=⟨_,rfl,B⟩;exact M0.own b2 (fun c hc=>I c (by rw[<- hc];exact (Hx (.tp z) B).symm))
         ·cases hy
        ·cases hy
       ·rename_i t n one;split at hy
        ·rename_i d hr;split at hy
         ·rename_i z k m cs V;split at hy
          ·rename_i hn;obtain⟨rfl,rfl⟩:=hn;cases hy;cases l:fn.results.toList with
           | nil=>rw[l] at e;cases e
           | cons r A =>
            rw[l] at e;cases A with
            | cons _ _=>simp only[Jk,Li] at e;cases e
            | nil =>
             simp only[Jk,Ob] at e;cases r with
             | tmp _=>cases e
             | cell t' ty =>
              simp only[Uk,At,BJ] at e;obtain⟨rfl,e⟩:=e;have B:=o.reg t';rw[hr] at B;obtain⟨_,b,J,_,_,W⟩:=B;have O:=o.reg d;rw[V] at O;obtain⟨u,X,b8⟩:=id O;obtain⟨q1,q2⟩:=Ot e;rw[X] at W;have H:=run_loadCells (P:=P) p ⟨b,0,none⟩ 2 (fun i=>#[YI z,u].getD i BU) (fun j hj=>by
               rw[Ix,Cv,W j hj];match j,hj with
               | 0,_=>rfl
               | 1,_=>rfl)
              have b3:(PY g.tmps (.cell t' ty)).run P p = .ok (.agg #[.bool z,u]) p:=by
               simp only[PY,Bq,J,asAddr,BV,AQ,loadVar,q1,q2,H,Bool.not_false,if_true];rfl
              refine⟨_,G [.agg #[.bool z,u]] (by rw[l];simp only[OP,List.mapM_nil,Bq,b3,AQ,BV]),_,rfl,o.below,?_⟩;have I:∀ c,Bp (g.tmps.getD d BU)=some c->XS s g.tmps c:=fun c hc=>⟨d,by rw[V];rfl,hc⟩;have:=M0.own O I;rw[X] at this;exact this
          ·cases hy
         ·cases hy
        ·cases hy
       ·cases hy
      split at E
      ·rename_i y hy;cases E;obtain⟨us,J,K,Q⟩:=R9 o e hy;refine⟨_,G us J,_,rfl,o.below,?_⟩;have H:us.toArray.size=1:=by simpa using K
       rw[dif_pos H];have:=Q 0 (by simp at K;omega) (by simp);exact .of_rd (by simpa using this)
      ·rename_i Z b4 hy;cases E;obtain⟨us,J,K,Q⟩:=R9 o e hy;refine⟨_,G us J,_,rfl,o.below,?_⟩;have H:¬ us.toArray.size=1:=by
        intro hh;have:F Z=1:=by rw[<- K];simpa using hh
        match Z,this with
        | [y],_=>exact b4 y rfl
       rw[dif_neg H];exact .of_rd (.tup _ _ (by simpa using K) (fun i h1 h2=>by simpa using Q i (by simpa using h1) h2))
      ·cases E
     split at h
     ·cases h
     ·rename_i ex s b5 b6;refine simC hm ih n c C.body _ s ex _ w _ h1 a5 b6 fun g p o => ?_;have:=a6 s g p o h;cases ex with
      | norm=>exact this
      | ret=>exact this
      | exit i=>exact (b5 i rfl).elim
     ·cases h
    ·cases h1
   ·cases h
end
def Le(a b:C4):Prop:=∀ f c r,a f c=some r->b f c=some r
theorem ACc{a b:C4}(h:Le a b){s:Az}{k:K}{p:Reg × List (Nat × Reg)}(c:Cj a s k=some p):Cj b s k=some p:=by
 cases k
 case call f xs =>
  simp only[Cj] at c |-;split at c
  next vs g=>simp only[A0] at c |-;obtain⟨v,hv,e⟩:=c;exact⟨v,h f vs v hv,e⟩
  ·cases c
 case clo f xs =>
  simp only[Cj] at c |-;split at c
  next vs g=>simp only[A0] at c |-;obtain⟨v,hv,e⟩:=c;exact⟨v,h f vs v hv,e⟩
  ·cases c
 case cln f xs ls =>
  simp only[Cj] at c |-;split at c
  ·rename_i vs g;split at c
   next i=>rw[Ar i];simp only[A0] at c |-;obtain⟨v,hv,e⟩:=c;exact⟨v,h f vs v hv,e⟩
   ·cases c
  ·cases c
 case brw f x d =>
  simp only[Cj] at c |-;split at c
  ·split at c
   ·rename_i hd;rw[Ar hd];split at c
    ·split at c
     ·rename_i hc;rw[Ar hc];split at c
      next y hy=>rw[h _ _ _ hy];exact c
      ·cases c
     ·cases c
    ·cases c
   ·cases c
  ·cases c
 case cao f k x xs =>
  simp only[Cj] at c |-;repeat' split at c
  all_goals first
   | (simp only[A0] at c |-;obtain⟨v,hv,e⟩:=c;exact⟨v,h f _ v hv,e⟩)
   | cases c
 all_goals exact c
theorem sA{a b:C4}(h:Le a b){o:IOp}{s d:Az}(c:HE a o s=some d):HE b o s=some d:=by
 simp only[HE,KB] at c |-;split at c
 ·cases c
 ·exact c
 ·split at c
  ·cases c
  next r l e=>rw[ACc h e];exact c
theorem SO{a b:C4}(h:Le a b):∀ {l:List IOp} {s d:Az},Fw a l s=some d->Fw b l s=some d
 | [],_,_,c=>c
 | o::l,s,d,c=>by
  simp only[Fw] at c |-;cases h1:HE a o s with
  | none=>rw[h1] at c;cases c
  | some e =>
   rw[h1] at c;rw[sA h h1];exact SO h c
theorem Hj{e f:C4}(h:Le e f):∀ {n m:Nat},n<=m->∀ {c:ICode} {s:Az} {r:Ex × Az},g e n c s=some r->g f m c s=some r:=by
 intro n;induction n with
 | zero=>intro m _ c s r j;simp[g] at j
 | succ n k =>
  intro m u c s r j;obtain⟨m,rfl⟩:∃ o,m=o+1:=⟨m-1,by omega⟩;have l:n<=m:=by omega
  cases c with
  | skip=>exact j
  | region d ops =>
   simp only[g,A0] at j |-;obtain⟨q,h1,h2⟩:=j;exact⟨q,SO h h1,h2⟩
  | seq a b =>
   simp only[g] at j |-;cases h1:g e n a s with
   | none=>rw[h1] at j;cases j
   | some p =>
    rw[h1] at j;rw[k l h1];obtain⟨ex,t⟩:=p;cases ex with
    | norm=>exact k l j
    | exit i=>exact j
    | ret=>exact j
  | cond c a b =>
   simp only[g] at j |-;split at j
   ·exact k l j
   ·exact k l j
   ·cases j
  | block id c =>
   simp only[g] at j |-;cases h1:g e n c s with
   | none=>rw[h1] at j;cases j
   | some p =>
    rw[h1] at j;rw[k l h1];exact j
  | scope c=>exact k l j
  | loop c =>
   simp only[g] at j |-;cases h1:g e n c s with
   | none=>rw[h1] at j;cases j
   | some p =>
    rw[h1] at j;rw[k l h1];obtain⟨ex,t⟩:=p;cases ex with
    | norm=>exact k l j
    | exit i=>exact j
    | ret=>exact j
  | exit id=>exact j
  | ret=>exact j
section
variable(a:Nat->Option IFunc)
theorem FR:∀ {n m:Nat},n<=m->Le (Ru a n) (Ru a m):=by
 intro n;induction n with
 | zero=>intro m _ f b r h;simp[Ru] at h
 | succ n e =>
  intro m l f b r h;obtain⟨m,rfl⟩:∃ i,m=i+1:=⟨m-1,by omega⟩;have d:n<=m:=by omega
  simp only[Ru] at h |-;split at h
  ·cases h
  ·rename_i fn o;split at h
   ·rename_i j;rw[Ar j];cases h1:g (Ru a n) n fn.body (I5 fn b) with
    | none=>rw[h1] at h;cases h
    | some p =>
     rw[h1] at h;rw[Hj (e d) d h1];exact h
   ·cases h
def Io(f:Nat)(b:List AV)(r:AV):Prop:=∃ n,Ru a n f b=some r
def EL(c:ICode)(s:Az)(ex:Ex)(k:Az):Prop:=∃ n,g (Ru a n) n c s=some (ex,k)
end
theorem JL{a:Nat->Option IFunc}{f:Nat}{fn:IFunc}{b:List AV}{s:Az}{ex:Ex}{r:AV}(c:a f=some fn)(d:F b=fn.params)(h:EL a fn.body (I5 fn b) ex s)
  (e:∀ i,ex ≠ .exit i) (hr:In s fn.res=some r):Io a f b r:=by
 obtain⟨n,h⟩:=h;refine⟨n+1,?_⟩;simp only[Ru,c,Ar d,h];cases ex with
 | norm=>exact hr
 | ret=>exact hr
 | exit i=>exact absurd rfl (e i)
section
variable{prog:Nat->Option IFunc}
theorem EL.seq{a b:ICode}{s f d:Az}{ex:Ex}(h1:EL prog a s .norm f)(h2:EL prog b f ex d):EL prog (.seq a b) s ex d:=by
 obtain⟨n,h1⟩:=h1;obtain⟨m,h2⟩:=h2;refine⟨max n m+1,?_⟩;have e:=Hj (FR prog (show n<=max n m+1 by omega)) (show n<=max n m by omega) h1;have j:=Hj (FR prog (show m<=max n m+1 by omega)) (show m<=max n m by omega) h2;simp only[g,e,j]
theorem FW{a b:ICode}{s d:Az}{ex:Ex}(h1:EL prog a s ex d)(k:ex ≠ .norm):EL prog (.seq a b) s ex d:=by
 obtain⟨n,h1⟩:=h1;refine⟨n+1,?_⟩;have e:=Hj (FR prog (show n<=n+1 by omega)) (show n<=n by omega) h1;simp only[g,e];cases ex with
 | norm=>exact absurd rfl k
 | exit i=>rfl
 | ret=>rfl
theorem EL.scope{c:ICode}{s d:Az}{ex:Ex}(h:EL prog c s ex d):EL prog (.scope c) s ex d:=by
 obtain⟨n,h⟩:=h;exact⟨n+1,by simp only[g];exact Hj (FR prog (by omega)) (A2 _) h⟩
theorem EL.block{id:Nat}{c:ICode}{s d:Az}(h:EL prog c s (.exit id) d):EL prog (.block id c) s .norm d:=by
 obtain⟨n,h⟩:=h;refine⟨n+1,?_⟩;have e:=Hj (FR prog (show n<=n+1 by omega)) (show n<=n by omega) h;simp only[g,e,if_true]
theorem Ow{id:Nat}{c:ICode}{s d:Az}(h:EL prog c s .norm d):EL prog (.block id c) s .norm d:=by
 obtain⟨n,h⟩:=h;refine⟨n+1,?_⟩;have e:=Hj (FR prog (show n<=n+1 by omega)) (show n<=n by omega) h;simp only[g,e]
theorem Pt{id i:Nat}{c:ICode}{s d:Az}(h:EL prog c s (.exit i) d)(hi:i ≠ id):EL prog (.block id c) s (.exit i) d:=by
 obtain⟨n,h⟩:=h;refine⟨n+1,?_⟩;have e:=Hj (FR prog (show n<=n+1 by omega)) (show n<=n by omega) h;simp only[g,e,Aw hi]
theorem Pu{id:Nat}{c:ICode}{s d:Az}(h:EL prog c s .ret d):EL prog (.block id c) s .ret d:=by
 obtain⟨n,h⟩:=h;refine⟨n+1,?_⟩;have e:=Hj (FR prog (show n<=n+1 by omega)) (show n<=n by omega) h;simp only[g,e]
theorem EL.loop{c:ICode}{s f d:Az}{ex:Ex}(h1:EL prog c s .norm f)(h2:EL prog (.loop c) f ex d):EL prog (.loop c) s ex d:=by
 obtain⟨n,h1⟩:=h1;obtain⟨m,h2⟩:=h2;refine⟨max n m+1,?_⟩;have e:=Hj (FR prog (show n<=max n m+1 by omega)) (show n<=max n m by omega) h1;have j:=Hj (FR prog (show m<=max n m+1 by omega)) (show m<=max n m by omega) h2;simp only[g,e,j]
theorem QZ{c:ICode}{s d:Az}{ex:Ex}(h1:EL prog c s ex d)(k:ex ≠ .norm):EL prog (.loop c) s ex d:=by
 obtain⟨n,h1⟩:=h1;refine⟨n+1,?_⟩;have e:=Hj (FR prog (show n<=n+1 by omega)) (show n<=n by omega) h1;simp only[g,e];cases ex with
 | norm=>exact absurd rfl k
 | exit i=>rfl
 | ret=>rfl
end
def RA(c:Nat->Option IFunc)(a:C4):Prop:=∀ f b r,a f b=some r->Io c f b r
theorem Ve{i:Nat->Option IFunc}{a:C4}(h:RA i a):∀ {l:List IOp} {s p:Az},Fw a l s=some p->∃ n,Fw (Ru i n) l s=some p
 | [],s,p,g=>⟨0,g⟩
 | o::l,s,p,g=>by
  simp only[Fw] at g;cases h1:HE a o s with
  | none=>rw[h1] at g;cases g
  | some t =>
   rw[h1] at g;obtain⟨n,hn⟩:=Ve h g;have u:∃ m,HE (Ru i m) o s=some t:=by
    simp only[HE,KB] at h1 |-;generalize kill s o.ks=s at *
    split at h1
    ·cases h1
    ·exact⟨0,h1⟩
    ·split at h1
     ·cases h1
     ·rename_i r w b;have:∃ m,Cj (Ru i m) s o.k=some (r,w):=by
       cases j:o.k
       case call f xs =>
        rw[j] at b;simp only[Cj] at b |-;split at b
        next vs q=>simp only[A0] at b;obtain⟨v,hv,e⟩:=b;obtain⟨m,c⟩:=h f vs v hv;exact⟨m,by simp only[c,AY,e]⟩
        ·cases b
       case clo f xs =>
        rw[j] at b;simp only[Cj] at b |-;split at b
        next vs q=>simp only[A0] at b;obtain⟨v,hv,e⟩:=b;obtain⟨m,c⟩:=h f vs v hv;exact⟨m,by simp only[c,AY,e]⟩
        ·cases b
       case cln f xs ls =>
        rw[j] at b;simp only[Cj] at b |-;split at b
        ·rename_i vs q;split at b
         next z=>simp only[A0] at b;obtain⟨v,hv,e⟩:=b;obtain⟨m,c⟩:=h f vs v hv;exact⟨m,by rw[Ar z,c];simp only[AY,e]⟩
         ·cases b
        ·cases b
       case brw f x d =>
        rw[j] at b;simp only[Cj] at b |-;split at b
        ·split at b
         ·rename_i hd;split at b
          ·split at b
           ·rename_i hc;split at b
            next y hy=>obtain⟨m,c⟩:=h _ _ _ hy;exact⟨m,by rw[Ar hd,Ar hc,c];exact b⟩
            ·cases b
           ·cases b
          ·cases b
         ·cases b
        ·cases b
       case cao f k x xs =>
        rw[j] at b;simp only[Cj] at b |-;repeat' split at b
        all_goals first
         | (simp only[A0] at b;obtain⟨v,hv,e⟩:=b;obtain⟨m,c⟩:=h f _ v hv;exact⟨m,by simp only[c,AY,e]⟩)
         | cases b
       all_goals (rw[j] at b;exact⟨0,b⟩)
      obtain⟨m,c⟩:=this;exact⟨m,by rw[c];exact h1⟩
   obtain⟨m,c⟩:=u;refine⟨max n m,?_⟩;simp only[Fw,sA (FR i (show m<=max n m by omega)) c];exact SO (FR i (show n<=max n m by omega)) hn
section
variable{l:Nat->Option IFunc}
theorem Zz{e:C4}(h:RA l e):∀ (n:Nat) {c:ICode} {s:Az} {ex:Ex} {o:Az},g e n c s=some (ex,o)->EL l c s ex o:=by
 intro n;induction n with
 | zero=>intro c s ex o j;simp[g] at j
 | succ n k =>
  intro c s ex o j;cases c with
  | skip=>exact⟨1,j⟩
  | region d ops =>
   simp only[g,A0] at j;obtain⟨t,h1,h2⟩:=j;obtain⟨m,p⟩:=Ve h h1;refine⟨m+1,?_⟩;simp only[g,SO (FR l (show m<=m+1 by omega)) p,AY,h2]
  | seq a b =>
   simp only[g] at j;split at j
   next t h1=>exact EL.seq (k h1) (k j)
   next h1=>exact FW (k j) (by rintro rfl;exact h1 o j)
  | cond c a b =>
   simp only[g] at j;split at j
   next hc=>obtain⟨m,p⟩:=k j;exact⟨m+1,by simp only[g,hc];exact Hj (FR l (by omega)) (A2 _) p⟩
   next hc=>obtain⟨m,p⟩:=k j;exact⟨m+1,by simp only[g,hc];exact Hj (FR l (by omega)) (A2 _) p⟩
   ·cases j
  | block id c =>
   simp only[g] at j;split at j
   ·rename_i i t h1;split at j
    next hi=>cases j;subst hi;exact EL.block (k h1)
    next hi=>cases j;exact Pt (k h1) hi
   ·rename_i h1;cases ex with
    | norm=>exact Ow (k j)
    | exit i=>exact absurd j (h1 i o)
    | ret=>exact Pu (k j)
  | scope c =>
   simp only[g] at j;exact EL.scope (k j)
  | loop c =>
   simp only[g] at j;split at j
   next t h1=>exact EL.loop (k h1) (k j)
   next h1=>exact QZ (k j) (by rintro rfl;exact h1 o j)
  | exit id=>exact⟨1,j⟩
  | ret=>exact⟨1,j⟩
theorem Io.unique{f:Nat}{q:List AV}{r u:AV}(h:Io l f q r)(v:Io l f q u):r=u:=by
 obtain⟨n,h⟩:=h;obtain⟨m,v⟩:=v;have x:=FR l (show n<=max n m by omega) f q r h;have w:=FR l (show m<=max n m by omega) f q u v;rw[x] at w;exact Pj w
end
open Classical in
noncomputable def Z0 (a:Nat->Option IFunc):C4:=fun f b=>if h:∃ r,Io a f b r then some h.choose else none
theorem JV{a:Nat->Option IFunc}{f:Nat}{b:List AV}{r:AV}(h:Io a f b r):Z0 a f b=some r:=by
 have c:∃ r,Io a f b r:=⟨r,h⟩;simp only[Z0,dif_pos c];exact congrArg some (c.choose_spec.unique h)
theorem zX(a:Nat->Option IFunc):RA a (Z0 a):=by
 intro f c r h;unfold Z0 at h;split at h
 next b=>cases h;exact b.choose_spec
 ·cases h
abbrev Dd:=List (Nat × (List AV->Option (AV × List Prop)))
def Fl:List Prop->Prop
 | []=>True
 | p::l=>p/\Fl l
def lY(a:Dd)(f:Nat)(b:List AV):Option (AV × List Prop) :=
 match a.lookup f with
 | some g=>g b
 | none=>none
section
variable(c:Nat->Option IFunc)
def CT(a:Dd):Prop:=∀ f b r ps,lY a f b=some (r,ps)->Fl ps->Io c f b r
theorem CT.nil:CT c []:=fun f b r ps h=>by simp [lY] at h
end
theorem CT.cons{c:Nat->Option IFunc}{a:Dd}{f:Nat}{g:List AV->Option (AV × List Prop)}(h:CT c a)(i:∀ b r ps,g b=some (r,ps)->Fl ps->Io c f b r):CT c ((f,g)::a):=by
 intro d b r ps hr;simp only[lY,List.lookup] at hr;by_cases e:d=f
 ·subst e;simp at hr;exact i b r ps hr
 ·have:(d==f)=false:=by simpa using e
  simp only[this] at hr;exact h d b r ps hr
theorem Io.calls{P:Program}{g:Nat->Option IFunc}{f:Nat}{c:List AV}{r:AV}(k:P.follows .mixedOrders=true)
  (hp:∀ f j,g f=some j->∃ fn roots,P.funcs[f]? = some fn/\gN P roots fn j=true) (h:Io g f c r) (a:Nat->Prop) (w:World) (vs:Array Value)
  (hX:∀ b,a b->b<w.heap.size) (hs:vs.size=F c) (hr:∀ (i:Nat) (h1:i<vs.size) (h2:i<F c),Rd (fun _=>False) a w vs[i] c[i]) :
  Calls P f vs w fun e d=>∃ v,e = .returned v/\Below w.heap.size w d/\Rd (fun _=>False) a d v (N5 r):=by
 obtain⟨n,h⟩:=h;exact ((simF k hp n).plain f c r h _ a w vs hX (fun _ h=>h.elim) hs hr).mono fun e d ⟨v,h1,h2,l⟩=>⟨v,h1,h2,l.thawed (fun b hb=>IM (hX b hb)) (fun _ h=>h.elim)⟩
inductive Sc where
 | b (x:Bool)
 | v (x:AV)
 | l (cs:List AV)
 | r (x:AV)
theorem FS:∀ {l m:List Prop},Fl (l++m)↔Fl l/\Fl m
 | [],m=>by simp[Fl]
 | p::l,m=>by simp only[Ks,Fl,FS (l:=l),and_assoc]
abbrev R3(α:Type):=Option (α × List Sc × List Prop)
def Z1(op:BinOp)(k c:IntKind)(a b:Int):Option (AV × List Prop) :=
 match op with
 | .quo=>if k=c then some (.int k (k.wrap (a.tdiv b)),[¬ b=0]) else none
 | .rem=>if k=c then some (.int k (a.tmod b),[¬ b=0]) else none
 | .shl=>some (.int k (k.wrap (a*2^(min b.toNat k.bits))),[¬ b<0])
 | .shr=>some (.int k (a.fdiv (2^(min b.toNat k.bits))),[¬ b<0])
 | op=>(Pm op (.int k a) (.int c b)).map fun v=>(v,[])
theorem Ayn{op:BinOp}{k d:IntKind}{a b:Int}{v:AV}{ps:List Prop}(h:Z1 op k d a b=some (v,ps))(hp:Fl ps):Pm op (.int k a) (.int d b)=some v:=by
 cases op
 case quo =>
  simp only[Z1] at h;split at h
  next c=>cases h;simp only[Pm,Mb,c,rH];simp only[CI,if_false,if_true,Aw hp.1]
  ·cases h
 case rem =>
  simp only[Z1] at h;split at h
  next c=>cases h;simp only[Pm,Mb,c,rH];simp only[CI,if_false,if_true,Aw hp.1]
  ·cases h
 case shl =>
  simp only[Z1] at h;cases h;simp only[Pm,Mb,if_true,UY,Aw hp.1]
 case shr =>
  simp only[Z1] at h;cases h;simp only[Pm,Mb,if_true,UY,Aw hp.1]
 all_goals
  simp only[Z1,A0] at h;obtain⟨u,f,e⟩:=h;cases e;exact f
abbrev JM:=Option (Nat × Bool)
def JM.is(m:JM)(t:Nat):Option Bool :=
 match m with
 | some (u,x)=>if u=t then some x else none
 | none=>none
def JM.opd(m:JM):Opd->Option Bool
 | .t n=>m.is n
 | .c _=>none
def JM.Ok(s:Az)(m:JM):Prop:=∀ t x,m=some (t,x)->AR s t = .val (.bool x)
theorem PZ{s:Az}{m:JM}(h:m.Ok s){o:Opd}{x:Bool}(a:m.opd o=some x):o.av s=some (.bool x):=by
 cases o with
 | c y=>cases a
 | t n =>
  simp only[JM.opd,JM.is] at a;split at a
  ·rename_i u y;split at a
   next b=>cases a;subst b;simp only[Opd.av,Opd.reg,h _ _ rfl]
   ·cases a
  ·cases a
def XH(s:Az)(d:Nat):Option Opd->Option (Nat × List Prop)
 | none=>some (d,[])
 | some o=>match o.av s with
  | some (.int _ i)=>some (i.toNat,[0<=i])
  | _=>none
theorem RB{s:Az}{d:Nat}{o:Option Opd}{n:Nat}{ps:List Prop}(h:XH s d o=some (n,ps))(hp:Fl ps):Im s d o=some n:=by
 cases o with
 | none=>simp only[XH,AS,E6] at h;rw[<- h.1];rfl
 | some o =>
  simp only[XH] at h;simp only[Im];split at h
  next k i hi=>cases h;rw[hi];simp only[Ar hp.1]
  ·cases h
def Jy(A:Nat->Option IFunc)(g:Dd)(s:Az)(m:JM)(k:K)(sc:List Sc):R3 (Reg × List (Nat × Reg)) :=
 match k with
 | .pick c a b =>
  match m.opd c with
  | some true=>(a.av s).map fun v=>((.val v,[]),sc,[])
  | some false=>(b.av s).map fun v=>((.val v,[]),sc,[])
  | none=>match c.av s,sc with
  | some (.bool c),.b t::sc=>(match t with | true=>(a.av s) | false=>b.av s).map fun v=>((.val v,[]),sc,[c=t])
  | _,_=>none
 | .bin op x y =>
  match x.av s,y.av s with
  | some (.int k a),some (.int j b)=>(Z1 op k j a b).map fun p=>((.val p.1,[]),sc,p.2)
  | _,_=>none
 | .ixa x i k =>
  match i.av s,AR s x with
  | some (.int _ i),.val (.sl n cs)=>some ((.mem (cs.drop (i.toNat*k)),[]),sc,[0<=i/\i<n])
  | _,_=>none
 | .ld x d n one =>
  match AR s x,sc with
  | .mem cs,.v u::sc=>some ((.val u,[]),sc,[BQ cs 0 n one=some u])
  | .ptr q off,sc=>if q=d then (match AR s d,sc with
   | .own _ _ cs,.v u::sc=>some ((.val u,[]),sc,[BQ cs off n one=some u])
   | .box cs,sc=>(BQ cs off n one).map fun v=>((.val v,[]),sc,[])
   | _,_=>none) else none
  | _,sc=>(Cj (fun _ _=>none) s (.ld x d n one)).map fun p=>(p,sc,[])
 | .six x i =>
  match x.av s,i.av s,sc with
  | some (.str b),some (.int _ i),.v (.int .u8 n)::sc=>some ((.val (.int .u8 n),[]),sc,[((if 0<=i then b[i.toNat]? else none).map fun c=>(c.toNat:Int))=some n])
  | _,_,_=>none
 | .call f xs =>
  match avs s xs with
  | some vs=>(match lY g f vs with
   | some p=>some ((.val (N5 p.1),[]),sc,p.2)
   | none=>(match sc with
    | .r r::sc=>some ((.val (N5 r),[]),sc,[Io A f vs r])
    | _=>none))
  | none=>none
 | .st x d n v =>
  match v.av s with
  | none=>none
  | some a=>match HY a n with
   | none=>none
   | some o=>match AR s x with
    | .box cs=>if x=d then (Di cs 0 o).map fun w=>((.dead,[(d,.box w)]),sc,[]) else none
    | .ptr q off=>if q=d then (match AR s d,sc with
     | .own k m cs,.l w::sc=>some ((.dead,[(d,.own k m w)]),sc,[Di cs off o=some w])
     | .box cs,sc=>(Di cs off o).map fun w=>((.dead,[(d,.box w)]),sc,[])
     | _,_=>none) else none
    | _=>none
 | .ixo x d i k =>
  match i.av s with
  | some (.int _ i)=>(match AR s x with
   | .val (.sl n cs)=>some ((.mem (cs.drop (i.toNat*k)),[]),sc,[0<=i/\i<n])
   | .dup q=>if q=d then (match AR s d with
    | .own j n _=>if j=k then some ((.ptr d (i.toNat*k),[]),sc,[0<=i/\i<n]) else none
    | _=>none) else none
   | _=>none)
  | _=>none
 | .mks z n =>
  match n.av s with
  | some (.int _ m)=>some ((.own (F z) m.toNat (C_ z m.toNat),[]),sc,[0<=m/\m<=1048576])
  | _=>none
 | .apd ow x y k e =>
  match y.av s with
  | some (.sl m o)=>(match x.reg s,sc with
   | .val .nil,sc=>some ((if ow then .own k m o else .val (.sl m o),[]),sc,[F o=m*k,m<=e])
   | .own j n cs,sc=>if j=k then some ((if ow then .own k (n+m) (cs++o) else .val (.sl (n+m) (cs++o)),Uf x),sc,[F o=m*k,n+m<=e]) else none
   | _,_=>none)
  | _=>(Cj (fun _ _=>none) s (.apd ow x y k e)).map fun p=>(p,sc,[])
 | .sli x lo hi mx k =>
  match x.av s with
  | some (.sl n cs)=>(match XH s n mx,XH s n hi,XH s 0 lo with
   | some (m,B),some (h,C),some (l,E)=>some ((.val (.sl (h-l) ((cs.drop (l*k)).take ((h-l)*k))),[]),sc,B++(C++(E++[l<=h/\h<=m/\m<=n/\(mx.isSome->hi.isSome)])))
   | _,_,_=>none)
  | _=>(Cj (fun _ _=>none) s (.sli x lo hi mx k)).map fun p=>(p,sc,[])
 | .clo f xs =>
  match avs s xs with
  | some vs=>(match lY g f vs with
   | some p=>some ((Hi p.1,[]),sc,p.2)
   | none=>(match sc with
    | .r r::sc=>some ((Hi r,[]),sc,[Io A f vs r])
    | _=>none))
  | none=>none
 | .cln f xs ls =>
  match avs s xs with
  | some vs=>if ls.all (fun t=>HX (AR s t)) then (match lY g f vs with
   | some p=>some ((Hi p.1,[]),sc,p.2)
   | none=>(match sc with
    | .r r::sc=>some ((Hi r,[]),sc,[Io A f vs r])
    | _=>none)) else none
  | none=>none
 | .brw f x d =>
  match AR s x with
  | .dup q=>if q=d then (match AR s d with
   | .own _ n cs=>(match lY g f [.sl n cs] with
    | some p=>some ((.val (N5 p.1),[]),sc,[cs.all (fun c => !Zm c)=true,Iw (N5 p.1)=true]++p.2)
    | none=>(match sc with
     | .r r::sc=>some ((.val (N5 r),[]),sc,[cs.all (fun c => !Zm c)=true,Iw (N5 r)=true,Io A f [.sl n cs] r])
     | _=>none))
   | _=>none) else none
  | _=>none
 | .slo x hi k =>
  match hi.av s with
  | some (.int _ h)=>(match AR s x with
   | .own j n cs=>if j=k then some ((.own k h.toNat (cs.take (h.toNat*k)),[(x,.dead)]),sc,[0<=h/\h<=n]) else none
   | _=>none)
  | _=>none
 | .cao f k x xs =>
  match avs s xs with
  | some vs=>(match x with
   | .t m=>(match AR s m with
    | .own j n cs=>(match lY g f (.fresh j n cs::vs) with
     | some p=>some ((Hi p.1,[(m,.dead)]),sc,p.2)
     | none=>(match sc with
      | .r r::sc=>some ((Hi r,[(m,.dead)]),sc,[Io A f (.fresh j n cs::vs) r])
      | _=>none))
    | _=>none)
   | .c (.sl 0 [])=>(match lY g f (.fresh k 0 []::vs) with
    | some p=>some ((Hi p.1,[]),sc,p.2)
    | none=>(match sc with
     | .r r::sc=>some ((Hi r,[]),sc,[Io A f (.fresh k 0 []::vs) r])
     | _=>none))
   | _=>none)
  | none=>none
 | .sub x d lo hi k =>
  match AR s x with
  | .dup q=>if q=d then (match AR s d with
   | .own j n _=>(match XH s n hi,XH s 0 lo with
    | some (h,B),some (l,C)=>if j=k then some ((.sub d k l h,[]),sc,B++(C++[l<=h/\h<=n])) else none
    | _,_=>none)
   | _=>none) else none
  | _=>none
 | .app ow x d y k =>
  match AR s x with
  | .sub q j l h=>if q=d/\j=k/\l=0 then (match AR s d with
   | .own D n cs=>if D=k then (match y.av s with
    | some (.sl m o)=>some ((if ow then .own k (h+m) (cs.take (h*k)++o) else .val (.sl (h+m) (cs.take (h*k)++o)),[(d,.dead),(x,.dead)]),sc,[h<=n,F o=m*k/\h+m<=1048576])
    | _=>none) else none
   | _=>none) else none
  | _=>none
 | .apb ow x y d k =>
  match AR s x with
  | .own G n cs=>(match AR s y with
   | .sub q j l h=>if q=d/\j=k/\G=k then (match AR s d with
    | .own D H w=>if D=k then some ((if ow then .own k (n+(h-l)) (cs++(w.drop (l*k)).take ((h-l)*k)) else .val (.sl (n+(h-l)) (cs++(w.drop (l*k)).take ((h-l)*k))),[(x,.dead)]),sc,[h<=H/\n+(h-l)<=1048576]) else none
    | _=>none) else none
   | _=>none)
  | _=>none
 | k=>(Cj (fun _ _=>none) s k).map fun p=>(p,sc,[])
theorem Ayo{I:Nat->Option IFunc}{j:Dd}(D:CT I j){s:Az}{m:JM}(N:m.Ok s){k:K}{sc U:List Sc}{p:Reg × List (Nat × Reg)}{ps:List Prop}(h:Jy I j s m k sc=some (p,U,ps))(hp:Fl ps):Cj (Z0 I) s k=some p:=by
 cases k
 case pick c a b =>
  simp only[Jy] at h;split at h
  next J=>simp only[A0] at h;obtain⟨v,hv,e⟩:=h;cases e;simp only[Cj,PZ N J,hv,AY]
  next J=>simp only[A0] at h;obtain⟨v,hv,e⟩:=h;cases e;simp only[Cj,PZ N J,hv,AY]
  split at h
  ·rename_i O t A hc;simp only[A0] at h;obtain⟨v,hv,e⟩:=h;cases e;have:O=t:=hp.1;subst this;cases O with
   | true=>simp only[Cj,hc];simp only at hv;rw[hv];rfl
   | false=>simp only[Cj,hc];simp only at hv;rw[hv];rfl
  ·cases h
 case bin op x y =>
  simp only[Jy] at h;split at h
  next F a H b hx hy=>simp only[A0] at h;obtain⟨⟨v,a1⟩,hv,e⟩:=h;cases e;simp only[Cj,hx,hy,Ayn hv hp,AY]
  ·cases h
 case ixa x i k =>
  simp only[Jy] at h;split at h
  next F C n cs hi hx=>cases h;simp only[Cj,hi,hx,Ar hp.1]
  ·cases h
 case ld x d n one =>
  simp only[Jy] at h;split at h
  next cs u A hx=>cases h;simp only[Cj,hx,hp.1,AY]
  ·rename_i E off hx;split at h
   ·rename_i hd;split at h
    next k m cs u A hr=>cases h;simp only[Cj,hx,Ar hd,hr,hp.1,AY]
    next cs hr=>simp only[A0] at h;obtain⟨q,l,e⟩:=h;cases e;simp only[Cj,hx,Ar hd,hr,l,AY]
    ·cases h
   ·cases h
  ·simp only[A0] at h;obtain⟨q,l,e⟩:=h;cases e;exact l
 case st x d n v =>
  simp only[Jy] at h;split at h
  ·cases h
  ·rename_i a V;split at h
   ·cases h
   ·rename_i P W;simp only[Cj,V,W];split at h
    ·rename_i cs hx;rw[hx];dsimp only;split at h
     next hd=>simp only[A0] at h;obtain⟨q,l,e⟩:=h;cases e;simp only[Ar hd,l,AY]
     ·cases h
    ·rename_i E off hx;rw[hx];dsimp only;split at h
     ·rename_i hd;rw[Ar hd];split at h
      next k m cs a2 A hr=>cases h;simp only[hr,hp.1,AY]
      next cs hr=>simp only[A0] at h;obtain⟨q,l,e⟩:=h;cases e;simp only[hr,l,AY]
      ·cases h
     ·cases h
    ·cases h
 case ixo x d i k =>
  simp only[Jy] at h;split at h
  ·rename_i F C hi;split at h
   next n cs hx=>cases h;simp only[Cj,hi,hx,Ar hp.1]
   ·rename_i E hx;split at h
    ·rename_i hd;split at h
     ·rename_i B n cs hr;split at h
      next w=>cases h;simp only[Cj,hi,hx,Ar hd,hr,Ar (show B=k/\0<=C/\C<(n:Int) from ⟨w,hp.1⟩)]
      ·cases h
     ·cases h
    ·cases h
   ·cases h
  ·cases h
 case mks z n =>
  simp only[Jy] at h;split at h
  next F m hn=>cases h;simp only[Cj,hn,Ar hp.1]
  ·cases h
 case apd ow x y k g =>
  simp only[Jy] at h;split at h
  ·rename_i m P hy;split at h
   next hx=>cases h;simp only[Cj,hy,Ar hp.1,hx,Ar hp.2.1]
   ·rename_i B n cs hx;split at h
    next w=>cases h;simp only[Cj,hy,Ar hp.1,hx,Ar (show B=k/\n+m<=g from ⟨w,hp.2.1⟩)]
    ·cases h
   ·cases h
  ·simp only[A0] at h;obtain⟨q,l,e⟩:=h;cases e;exact l
 case sli x lo hi mx k =>
  simp only[Jy] at h;split at h
  ·rename_i n cs hx;split at h
   next m1 X h1 Y G p3 L M Z=>cases h;rw[FS,FS,FS] at hp;simp only[Cj,hx,RB L hp.1,RB M hp.2.1,RB Z hp.2.2.1,Ar hp.2.2.2.1]
   ·cases h
  ·simp only[A0] at h;obtain⟨q,l,e⟩:=h;cases e;exact l
 case six x i =>
  simp only[Jy] at h;split at h
  next b F C n A hx hi=>cases h;have:=hp.1;simp only[A0] at this;obtain⟨c,hc,rfl⟩:=this;simp only[Cj,hx,hi,hc,AY]
  ·cases h
 case call f xs =>
  simp only[Jy] at h;split at h
  ·rename_i vs o;split at h
   next q hv=>cases h;simp only[Cj,o,JV (D f vs q.1 q.2 hv hp),AY]
   ·split at h
    next r A=>cases h;simp only[Cj,o,JV hp.1,AY]
    ·cases h
  ·cases h
 case clo f xs =>
  simp only[Jy] at h;split at h
  ·rename_i vs o;split at h
   next q hv=>cases h;simp only[Cj,o,JV (D f vs q.1 q.2 hv hp),AY]
   ·split at h
    next r A=>cases h;simp only[Cj,o,JV hp.1,AY]
    ·cases h
  ·cases h
 case cln f xs ls =>
  simp only[Jy] at h;split at h
  ·rename_i vs o;split at h
   ·rename_i Q;split at h
    next q hv=>cases h;simp only[Cj,o,Ar Q,JV (D f vs q.1 q.2 hv hp),AY]
    ·split at h
     next r A=>cases h;simp only[Cj,o,Ar Q,JV hp.1,AY]
     ·cases h
   ·cases h
  ·cases h
 case brw f x d =>
  simp only[Jy] at h;split at h
  ·rename_i E R;split at h
   ·rename_i S;split at h
    ·rename_i k n cs T;split at h
     next q hv=>cases h;have h1:=hp.1;have h2:=hp.2.1;have h3:=hp.2.2;simp only[Cj,R,S,T,if_true,h1,JV (D f _ q.1 q.2 hv h3),h2]
     ·split at h
      next r A=>cases h;have h1:=hp.1;have h2:=hp.2.1;simp only[Cj,R,S,T,if_true,h1,JV hp.2.2.1,h2]
      ·cases h
    ·cases h
   ·cases h
  ·cases h
 case slo x hi k =>
  simp only[Jy] at h;split at h
  ·rename_i F C hi;split at h
   ·rename_i B n cs hx;split at h
    next w=>cases h;simp only[Cj,hi,hx,Ar (show B=k/\0<=C/\C<=(n:Int) from ⟨w,hp.1⟩)]
    ·cases h
   ·cases h
  ·cases h
 case cao f k x xs =>
  simp only[Jy] at h;split at h
  ·rename_i vs o;split at h
   ·split at h
    ·rename_i B n cs hx;split at h
     next q hv=>cases h;simp only[Cj,o,hx,JV (D f _ q.1 q.2 hv hp),AY]
     ·split at h
      next r A=>cases h;simp only[Cj,o,hx,JV hp.1,AY]
      ·cases h
    ·cases h
   ·split at h
    next q hv=>cases h;simp only[Cj,o,JV (D f _ q.1 q.2 hv hp),AY]
    ·split at h
     next r A=>cases h;simp only[Cj,o,JV hp.1,AY]
     ·cases h
   ·cases h
  ·cases h
 case sub x d lo hi k =>
  simp only[Jy] at h;split at h
  ·rename_i E hx;split at h
   ·rename_i hd;split at h
    ·rename_i B n cs hr;split at h
     ·rename_i h1 X G Y L M;split at h
      next w=>cases h;rw[FS,FS] at hp;simp only[Cj,hx,Ar hd,hr,RB L hp.1,RB M hp.2.1,Ar (show B=k/\G<=h1/\h1<=n from ⟨w,hp.2.2.1⟩)]
      ·cases h
     ·cases h
    ·cases h
   ·cases h
  ·cases h
 case app ow x d y k =>
  simp only[Jy] at h;split at h
  ·rename_i E B G h1 hx;split at h
   ·rename_i hd;split at h
    ·rename_i H n cs hr;split at h
     ·rename_i w;split at h
      next m P hy=>cases h;simp only[Cj,hx,Ar hd,hr,Ar (show H=k/\h1<=n from ⟨w,hp.1⟩),hy,Ar hp.2.1]
      ·cases h
     ·cases h
    ·cases h
   ·cases h
  ·cases h
 case apb ow x y d k =>
  simp only[Jy] at h;split at h
  ·rename_i k0 n cs hx;split at h
   ·rename_i E B G h1 hy;split at h
    ·rename_i hd;split at h
     ·rename_i H n2 a3 hr;split at h
      next w=>cases h;simp only[Cj,hx,hy,Ar hd,hr,Ar (show H=k/\h1<=n2/\n+(h1-G)<=1048576 from ⟨w,hp.1⟩)]
      ·cases h
     ·cases h
    ·cases h
   ·cases h
  ·cases h
 all_goals
  simp only[Jy,A0] at h;obtain⟨q,l,e⟩:=h;cases e;exact l
def zY(s:Az)(m:JM)(g:Option (Nat × Bool))(sc:List Sc):R3 (Bool × JM) :=
 match g with
 | none=>some ((true,m),sc,[])
 | some (t,b) =>
  match m.is t with
  | some x=>some ((x==b,m),sc,[])
  | none=>match AR s t,sc with
   | .val (.bool c),.b x::sc=>some ((x==b,some (t,x)),sc,[c=x])
   | .val .undef,sc=>some ((false,m),sc,[])
   | _,_=>none
theorem gO{s:Az}{m d:JM}(a:m.Ok s){g:Option (Nat × Bool)}{sc f:List Sc}{r:Bool}{ps:List Prop}(h:zY s m g sc=some ((r,d),f,ps))(hp:Fl ps):IR s g=some r/\d.Ok s:=by
 unfold zY at h;split at h
 ·cases h;exact⟨rfl,a⟩
 ·rename_i t b;split at h
  ·rename_i x hx;cases h;refine⟨?_,a⟩;have:=PZ a (o := .t t) hx;simp only[Opd.av,Opd.reg] at this;simp only[IR];split at this
   next y hy=>cases this;rw[hy]
   ·cases this
  ·split at h
   next c x i hr=>cases h;have:c=x:=hp.1;subst this;refine⟨by simp only[IR,hr],fun u y e => ?_⟩;cases e;exact hr
   next hr=>cases h;exact⟨by simp only[IR,hr],a⟩
   ·cases h
def JM.after(m:JM)(wr:List Nat):JM :=
 match m with
 | some (t,x)=>if wr.contains t then none else some (t,x)
 | none=>none
section
variable(b:Nat->Option IFunc)(a:Dd)(o:IOp)(s:Az)(m:JM)(sc:List Sc)
def lZ:R3 (Az × JM) :=
 match zY s m o.g sc with
 | none=>none
 | some ((false,m),sc,ps)=>some ((EI s o.dst (.val .undef),m.after o.wr),sc,ps)
 | some ((true,m),sc,ps)=>match Jy b a s m o.k sc with
  | none=>none
  | some ((r,l),sc,c)=>some ((EI (CE s l) o.dst r,m.after o.wr),sc,ps++c)
def zZ:R3 (Az × JM):=lZ b a o (kill s o.ks) (m.after o.ks) sc
end
theorem eO{s:Az}{m:JM}(a:m.Ok s)(ks:List Nat):(m.after ks).Ok (kill s ks):=by
 intro t x e;unfold JM.after at e;split at e
 ·rename_i t' b;split at e
  ·cases e
  next hn=>cases e;rw[Hw,Aw (by simpa using hn)];exact a _ _ rfl
 ·cases e
theorem RC{a:C4}{o:IOp}{s b:Az}{m:JM}(c:m.Ok s)(h:KB a o s=some b):(m.after o.wr).Ok b:=by
 intro t x e;unfold JM.after at e;split at e
 ·rename_i t' g;split at e
  ·cases e
  ·rename_i hn;cases e;rw[gG] at h;simp only[A0] at h;obtain⟨l,d,rfl⟩:=h;have f:=Zt d;rw[Rv (fun p hp e => ?_)]
   ·exact c _ _ rfl
   ·subst e;have:=f p hp;simp only[Lf,this,decide_true,not_true_eq_false] at hn
 ·cases e
section
variable{b:Nat->Option IFunc}{a:Dd}
theorem Aaa(g:CT b a){o:IOp}{s c:Az}{m d:JM}(f:m.Ok s){sc i:List Sc}{ps:List Prop}(h:lZ b a o s m sc=some ((c,d),i,ps))(hp:Fl ps):KB (Z0 b) o s=some c/\d.Ok c:=by
 unfold lZ at h;split at h
 ·cases h
 ·rename_i m1 k n j;cases h;obtain⟨h1,h2⟩:=gO f j hp;have e:KB (Z0 b) o s=some (EI s o.dst (.val .undef)):=by simp only[KB,h1]
  exact⟨e,RC h2 e⟩
 ·rename_i m1 k n j;split at h
  ·cases h
  ·rename_i r l q t p;cases h;rw[FS] at hp;obtain⟨h1,h2⟩:=gO f j hp.1;have e:KB (Z0 b) o s=some (EI (CE s l) o.dst r):=by simp only[KB,h1,Ayo g h2 p hp.2]
   exact⟨e,RC h2 e⟩
theorem Amf(g:CT b a){o:IOp}{s c:Az}{m d:JM}(f:m.Ok s){sc i:List Sc}{ps:List Prop}(h:zZ b a o s m sc=some ((c,d),i,ps))(hp:Fl ps):HE (Z0 b) o s=some c/\d.Ok c :=
 Aaa g (eO f o.ks) h hp
end
def Vf(b:Nat->Option IFunc)(a:Dd):List IOp->Az->JM->List Sc->List Prop->R3 Az
 | [],s,_,sc,ps=>some (s,sc,ps)
 | o::l,s,m,sc,ps=>match zZ b a o s m sc with
  | none=>none
  | some ((c,d),e,f)=>Vf b a l c d e (ps++f)
theorem Z2{b:Nat->Option IFunc}{a:Dd}(f:CT b a):∀ {l:List IOp} {s c:Az} {m:JM} {sc e:List Sc} {ps d:List Prop},Vf b a l s m sc ps=some (c,e,d)->Fl d->Fl ps/\(m.Ok s->Fw (Z0 b) l s=some c)
 | [],s,c,m,sc,e,ps,d,h,hp=>by
  simp only[Vf,AS,E6] at h;obtain⟨rfl,_,rfl⟩:=h;exact⟨hp,fun _=>rfl⟩
 | o::l,s,c,m,sc,e,ps,d,h,hp=>by
  simp only[Vf] at h;cases h1:zZ b a o s m sc with
  | none=>rw[h1] at h;cases h
  | some q =>
   obtain⟨⟨n,m1⟩,p,r⟩:=q;rw[h1] at h;obtain⟨h2,g⟩:=Z2 f h hp;rw[FS] at h2;refine⟨h2.1,fun i => ?_⟩;obtain⟨j,k⟩:=Amf f i h1 h2.2;simp only[Fw,j];exact g k
def Jz(h:Nat->Option IFunc)(e:Dd):Nat->ICode->Az->List Sc->List Prop->R3 (Ex × Az)
 | 0,_,_,_,_=>none
 | _+1,.skip,s,sc,ps=>some ((.norm,s),sc,ps)
 | _+1,.region _ ops,s,sc,ps=>match Vf h e ops s none sc ps with
  | none=>none
  | some (d,f,g)=>some ((.norm,d),f,g)
 | n+1,.seq a b,s,sc,ps=>match Jz h e n a s sc ps with
  | none=>none
  | some ((.norm,d),f,g)=>Jz h e n b d f g
  | some ((.exit i,d),f,g)=>some ((.exit i,d),f,g)
  | some ((.ret,d),f,g)=>some ((.ret,d),f,g)
 | n+1,.cond c a b,s,sc,ps=>match c.av s,sc with
  | some (.bool v),.b true::sc=>Jz h e n a s sc (ps++[v=true])
  | some (.bool v),.b false::sc=>Jz h e n b s sc (ps++[v=false])
  | _,_=>none
 | n+1,.block id c,s,sc,ps=>match Jz h e n c s sc ps with
  | none=>none
  | some ((.exit i,d),f,g)=>if i=id then some ((.norm,d),f,g) else some ((.exit i,d),f,g)
  | some ((.norm,d),f,g)=>some ((.norm,d),f,g)
  | some ((.ret,d),f,g)=>some ((.ret,d),f,g)
 | n+1,.loop c,s,sc,ps=>match Jz h e n c s sc ps with
  | none=>none
  | some ((.norm,d),f,g)=>Jz h e n (.loop c) d f g
  | some ((.exit i,d),f,g)=>some ((.exit i,d),f,g)
  | some ((.ret,d),f,g)=>some ((.ret,d),f,g)
 | n+1,.scope c,s,sc,ps=>Jz h e n c s sc ps
 | _+1,.exit id,s,sc,ps=>some ((.exit id,s),sc,ps)
 | _+1,.ret,s,sc,ps=>some ((.ret,s),sc,ps)
theorem Ayp{w:Nat->Option IFunc}{f:Dd}(z:CT w f):∀ (n:Nat) {c:ICode} {s r:Az} {ex:Ex} {sc y:List Sc} {ps u:List Prop},Jz w f n c s sc ps=some ((ex,r),y,u)->Fl u->Fl ps/\g (Z0 w) n c s=some (ex,r):=by
 intro n;induction n with
 | zero=>intro c s r ex sc y ps u h;simp[Jz] at h
 | succ n l =>
  intro c s r ex sc y ps u h hp;cases c with
  | skip=>simp only[Jz,AS,E6] at h;obtain⟨⟨rfl,rfl⟩,_,rfl⟩:=h;exact⟨hp,rfl⟩
  | region d ops =>
   simp only[Jz] at h;split at h
   ·cases h
   next o m p h1=>cases h;obtain⟨h2,q⟩:=Z2 z h1 hp;have j:=q (fun t x e=>(by cases e));exact⟨h2,by simp only[g,j,AY]⟩
  | seq a b =>
   simp only[Jz] at h;split at h
   ·cases h
   next o m p h1=>obtain⟨h2,q⟩:=l h hp;obtain⟨j,k⟩:=l h1 h2;exact⟨j,by simp only[g,k];exact q⟩
   next i o m p h1=>cases h;obtain⟨j,k⟩:=l h1 hp;exact⟨j,by simp only[g,k]⟩
   next o m p h1=>cases h;obtain⟨j,k⟩:=l h1 hp;exact⟨j,by simp only[g,k]⟩
  | cond c a b =>
   simp only[Jz] at h;split at h
   next v m hc=>obtain⟨h2,q⟩:=l h hp;rw[FS] at h2;have hv:v=true:=h2.2.1;exact⟨h2.1,by simp only[g,My,hc,hv];exact q⟩
   next v m hc=>obtain⟨h2,q⟩:=l h hp;rw[FS] at h2;have hv:v=false:=h2.2.1;exact⟨h2.1,by simp only[g,My,hc,hv];exact q⟩
   ·cases h
  | block id c =>
   simp only[Jz] at h;split at h
   ·cases h
   ·rename_i i o m p h1;split at h
    next hi=>cases h;obtain⟨j,k⟩:=l h1 hp;exact⟨j,by simp only[g,k,Ar hi]⟩
    next hi=>cases h;obtain⟨j,k⟩:=l h1 hp;exact⟨j,by simp only[g,k,Aw hi]⟩
   next o m p h1=>cases h;obtain⟨j,k⟩:=l h1 hp;exact⟨j,by simp only[g,k]⟩
   next o m p h1=>cases h;obtain⟨j,k⟩:=l h1 hp;exact⟨j,by simp only[g,k]⟩
  | scope c =>
   simp only[Jz] at h;obtain⟨j,k⟩:=l h hp;exact⟨j,by simp only[g];exact k⟩
  | loop c =>
   simp only[Jz] at h;split at h
   ·cases h
   next o m p h1=>obtain⟨h2,q⟩:=l h hp;obtain⟨j,k⟩:=l h1 h2;exact⟨j,by simp only[g,k];exact q⟩
   next i o m p h1=>cases h;obtain⟨j,k⟩:=l h1 hp;exact⟨j,by simp only[g,k]⟩
   next o m p h1=>cases h;obtain⟨j,k⟩:=l h1 hp;exact⟨j,by simp only[g,k]⟩
  | exit id=>simp only[Jz,AS,E6] at h;obtain⟨⟨rfl,rfl⟩,_,rfl⟩:=h;exact⟨hp,rfl⟩
  | ret=>simp only[Jz,AS,E6] at h;obtain⟨⟨rfl,rfl⟩,_,rfl⟩:=h;exact⟨hp,rfl⟩
theorem OV{b:Nat->Option IFunc}{a:Dd}(e:CT b a)(n:Nat){c:ICode}{s d:Az}{ex:Ex}(sc:List Sc){ps:List Prop}
  (h:Jz b a n c s sc []=some ((ex,d),[],ps)) (hp:Fl ps):EL b c s ex d:=Zz (zX b) n (Ayp e n h hp).2
def Ayq(b:Nat->Option IFunc)(a:Dd)(n:Nat)(fn:IFunc)(c:List AV)(sc:List Sc):Option (AV × List Prop) :=
 match Jz b a n fn.body (I5 fn c) sc [] with
 | some ((.ret,s),[],ps)=>(In s fn.res).map fun r=>(r,ps)
 | some ((.norm,s),[],ps)=>(In s fn.res).map fun r=>(r,ps)
 | _=>none
theorem Cl{b:Nat->Option IFunc}{a:Dd}(d:CT b a){f:Nat}{fn:IFunc}(g:b f=some fn)(n:Nat){c:List AV}(j:F c=fn.params)(sc:List Sc){r:AV}{ps:List Prop}
  (h:Ayq b a n fn c sc=some (r,ps)) (hp:Fl ps):Io b f c r:=by
 unfold Ayq at h;split at h
 next s k h1=>simp only[A0] at h;obtain⟨l,hr,e⟩:=h;cases e;exact JL g j (OV d n sc h1 hp) (fun i=>(by nofun)) hr
 next s k h1=>simp only[A0] at h;obtain⟨l,hr,e⟩:=h;cases e;exact JL g j (OV d n sc h1 hp) (fun i=>(by nofun)) hr
 ·cases h
end Go.Ai
namespace Go.Ai
open List renaming all_eq_true->CG,mem_cons_of_mem->Bg,mem_cons_self->Ba
open Nat renaming beq->DF,ble->Wu,div->Oc,eq_of_beq_eq_true->DZ,mod->Wv,mul->TK,rec->PP
structure Fx where
 fn:Func
 params:Nat
 slots:Nat
 res:List IRes
 rs:List (Nat × List Nat)
 ex:List (Nat × K)
noncomputable def i (fn:Func) (n m:Nat) (r:List IRes) (rs:List (Nat × List Nat)) (ex:List (Nat × K)):Fx:=⟨fn,n,m,r,rs,ex⟩
def inL(n:Nat):List Nat->Bool
 | []=>false
 | m::l=>cond (DF m n) true (inL n l)
def lk{α:Type}:List (Nat × α)->Nat->Option α
 | [],_=>none
 | (n,x)::l,f=>cond (DF n f) (some x) (lk l f)
def Ayr(t:Nat):List (Nat × List Nat)->Option Nat
 | []=>none
 | (r,l)::m=>cond (inL t l) (some r) (Ayr t m)
def Z3(t:Nat)(m:List (Nat × List Nat)):Option Nat:=match Ayr t m with
 | some r=>cond (Wu 1000 r) none (some r)
 | none=>none
def Fx.roots(x:Fx):List (Nat × Nat):=x.rs.flatMap fun p=>cond (Wu 1000 p.1) [] (p.2.map fun t=>(t,p.1))
def Fx.has(x:Fx)(k d:Nat):Bool:=match lk x.rs k with | some l=>inL d l | none=>false
def cA:Value->AV
 | .int k n => .int k n
 | .bool b => .bool b
 | .string s => .str s
 | .slice none _ _ => .sl 0 []
 | _ => .undef
def J4:Operand->Opd
 | .tmp t => .t t
 | .const v => .c (cA v)
 | _ => .c .undef
def Vg:Operand->Nat
 | .tmp t=>t
 | _=>0
def AGi(z:List AV):Nat->List AV
 | 0=>[]
 | n+1=>z++AGi z n
section
variable (P:Program)
section
variable(t:TypeId)
def mA:List AV:=match P.info? t with | some { zero:=some v, .. }=>v.cells.toList.map cA | _=>[]
def AGj:Bool:=match P.underlying t with | some d => !(Aiq d) | none=>true
def N9:Nat:=match P.underlying t with | some (.slice e)=>e | some (.array _ e)=>e | _=>0
def SP(i:Nat):Nat × Nat:=match P.underlying t with | some (.struct fs)=>(match fs[i]? with | some f=>(f.offset,f.type) | none=>(0,0)) | _=>(0,0)
end
def AHw(x:Fx)(d f:Nat)(l:List Operand):K :=
 cond (x.has 1002 d) (.clo f (l.map J4)) (.call f (l.map J4))
def Ays(x:Fx)(t:Nat):Nat:=match Z3 t x.rs with | some r=>cond (DF r x.slots) t r | none=>t
def kT(x:Fx)(d:Nat)(g:TypeId)(op:Op):K :=
 match op with
 | .move y=>cond (x.has 1000 d) (.tra (Vg y)) (cond (x.has 1001 d) (.frz (Vg y)) (match Z3 d x.rs with | some _ => .cpy (Vg y) | none => .mov (J4 y)))
 | .assign y=>cond (x.has 1000 d) (match y with | .tmp t => .tra t | _ => .nlo (P.cellsOf (N9 P g))) (.mov (J4 y))
 | .pick c a b => .pick (J4 c) (J4 a) (J4 b)
 | .binOp o t a b _=>cond (Zu P t) (.eqb (o == .neq) (J4 a) (J4 b)) (.bin o (J4 a) (J4 b))
 | .unOp o _ a => .un o (J4 a)
 | .convert _ t a=>(match P.underlying t with | some (.int k) => .cv k (J4 a) | _ => .bad)
 | .alloc t => .new (mA P t) ((lk x.rs d).getD [])
 | .box _ a => .box (J4 a) ((lk x.rs d).getD [])
 | .build t ps => .bld (mA P t) (ps.toList.map fun p=>((SP P t p.1).1,P.cellsOf (SP P t p.1).2,J4 p.2))
 | .buildSlice t n ps=>(fun k (z:List AV) (e:List (Nat × Nat × Opd))=>cond (x.has 1002 d) (.blo k n z e) (.bls n z e)) (P.cellsOf (N9 P t)) (AGi (mA P (N9 P t)) n) (ps.toList.map fun p=>(p.1*P.cellsOf (N9 P t),P.cellsOf (N9 P t),J4 p.2))
 | .fieldAddr t a i => .adr (Vg a) ((Z3 d x.rs).getD x.slots) (SP P t i).1
 | .load t a => .ld (Vg a) (Ays x (Vg a)) (P.cellsOf t) (AGj P t)
 | .store t a v=>cond (x.has 1003 (Vg v)) (.stl (Vg a) (Vg v)) <| .st (Vg a) (Ays x (Vg a)) (P.cellsOf t) (J4 v)
 | .field t a i => .fld (J4 a) (SP P t i).1 (P.cellsOf (SP P t i).2) (AGj P (SP P t i).2)
 | .indexAddr t a i=>(match Z3 (Vg a) x.rs with | some r => .ixo (Vg a) r (J4 i) (P.cellsOf (N9 P t)) | none => .ixa (Vg a) (J4 i) (P.cellsOf (N9 P t)))
 | .index _ a i => .six (J4 a) (J4 i)
 | .extract a i => .ext (J4 a) i
 | .makeSlice t n _ => .mks (mA P (N9 P t)) (J4 n)
 | .slice t a lo hi m => .sli (J4 a) (lo.map J4) (hi.map J4) (m.map J4) (P.cellsOf (N9 P t))
 | .call { callee := .value (.func f),args:=l,argTypes:=_ }=>AHw x d f l.toList
 | .call { callee := .builtin .len,args:=l,argTypes:=_ }=>(match l.toList with | a::_=>(match a with | .tmp t=>(match Z3 t x.rs with | some r => .lno t r | none => .len (.t t)) | _ => .len (J4 a)) | [] => .bad)
 | .call { callee := .builtin .max,args:=l,argTypes:=_ } => .mx (l.toList.map J4)
 | .call { callee := .builtin .append,args:=l,argTypes:=ts }=>(match l.toList,ts.toList with
  | a::b::_,t::_ => .apd (x.has 1002 d) (J4 a) (J4 b) (P.cellsOf (N9 P t)) (cond (lP P (N9 P t)) 35184372088832 1048576)
  | _,_ => .bad)
 | _ => .bad
def ioT(x:Fx)(ops:Array Oper)(o:Oper):IOp :=
 (fun (k:K)=>⟨o.dst,k,o.guard.map fun p=>(((ops[p.1]?).bind (·.dst)).getD 0,p.2),match k with | .new _ _=>[] | .box _ _=>[] | .bdo _ _ _=>[] | .cln _ _ _=>[] | _=>(match o.dst with | some d=>(lk x.rs d).getD [] | none=>[])⟩)
  (match o.dst with | some d=>(match lk x.ex d with | some k=>k | none=>kT P x d o.type o.op) | none=>kT P x x.slots o.type o.op)
def chd(i:Nat):Code->Code
 | .seq a b=>cond (DF i 0) a b
 | .cond _ a b=>cond (DF i 0) a b
 | .block _ c=>c
 | .loop c=>c
 | .scope c=>c
 | _ => .skip
noncomputable def cAt (f:Func) (n:Nat):Nat->Code :=
 PP (motive:=fun _=>Nat->Code) (fun _ => .skip) (fun _ a p=>cond (Wu p 1) (match f.body with | some c=>c | none => .skip) (chd (Wv p 2) (a (Oc p 2)))) n
def cS(x:Fx)(a:Nat->ICode)(p:Nat):Code->ICode
 | .region _ ops b => .region b (ops.toList.map (ioT P x ops))
 | .seq _ _ => .seq (a (TK 2 p)) (a (Nat.add (TK 2 p) 1))
 | .cond c _ _ => .cond (J4 c) (a (TK 2 p)) (a (Nat.add (TK 2 p) 1))
 | .block i _ => .block i (a (TK 2 p))
 | .loop _ => .loop (a (TK 2 p))
 | .scope _ => .scope (a (TK 2 p))
 | .exit i => .exit i
 | .ret => .ret
 | _ => .skip
noncomputable def cP (x:Fx) (n:Nat):Nat->ICode :=
 PP (motive:=fun _=>Nat->ICode) (fun _ => .skip) (fun _ a p=>cS P x a p (cAt x.fn 99 p)) n
noncomputable def iF (x:Fx):IFunc:=⟨x.params,x.slots,x.res,cP P x 99 1⟩
noncomputable def tOk (p:Nat × Fx):Bool:=match P.funcs[p.1]? with | some fn=>gN P p.2.roots fn (iF P p.2) | none=>false
end
theorem Aiz{α:Type}{f:Nat}{x:α}:∀ {l:List (Nat × α)},lk l f=some x->(f,x)∈l
 | [],h=>by cases h
 | (g,y)::l,h=>by
  unfold lk at h;cases a:DF g f
  ·rw[a] at h;exact Bg _ (Aiz h)
  ·rw[a] at h;cases h;rw[DZ a];exact Ba
theorem Ayt{P:Program}{l:List (Nat × Fx)}(h:l.all (tOk P)=true)(f:Nat)(c:IFunc)(a:(lk l f).map (iF P)=some c):∃ fn roots,P.funcs[f]? = some fn/\gN P roots fn c=true:=by
 cases b:lk l f with
 | none=>rw[b] at a;cases a
 | some p =>
  rw[b] at a;cases a;have h1:=CG.1 h _ (Aiz b);unfold tOk at h1;split at h1
  ·exact⟨_,_,by assumption,h1⟩
  ·cases h1
end Go.Ai
