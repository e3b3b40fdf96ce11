/- Texts of the proof of RootIsolates: part 4 of 13. -/
import Derived.Scope
import Derived.Test.YtajompaehjkgkaaGreatRis3
namespace Go.Ai
open Go.RowKit
open _root_.Array renaming getD_eq_getD_getElem?->Ct,getElem?_eq_getElem->Dm,mapM_eq_mapM_toList->RH,replicate->H_
open Bool renaming and_eq_true->Ad,and_false->ID,and_true->KO,false_eq_true->Cf
open Go renaming undef->Br
open Go.Result renaming andThen_ok->Az
open Go.Sem renaming run_bind->AK,run_map->A6v,run_pure->Bk
open Go.Value renaming bool->Ue
open List renaming cons_append->HT,contains_eq_mem->I5,getD_eq_getElem?_getD->Z,getElem?_append_left->AN,getElem?_append_right->AT,getElem?_eq_none->AE,getElem?_eq_some_iff->Fz,getElem?_replicate_of_lt->Aez,getElem_cons_zero->FN,getElem_toArray->Nn,length_cons->Bv,length_nil->Ib,mapM_cons->L6,size_toArray->Ij
open Nat renaming add_zero->FR,le_of_not_lt->Np,le_refl->Ap,lt_or_ge->Cp,not_le_of_lt->GI,strongRecOn->TN,zero_add->B_
open Option renaming map_eq_some_iff->Aj,map_some->A3
open Option.some renaming inj->LU,injEq->A1
open Prod.mk renaming injEq->D0
def Fv(P:Program)(roots:List (Nat × Nat)):Code->ICode->Bool
 | .skip,.skip=>true
 | .label _,.skip=>true
 | .region _ ops draw,.region d io=>draw==d&&M8 P roots ops ops.toList io&&(!draw || QF ops io)
 | .seq a b,.seq a' b'=>Fv P roots a a'&&Fv P roots b b'
 | .cond c a b,.cond c' a' b'=>Cb c c'&&Fv P roots a a'&&Fv P roots b b'
 | .block id c,.block id' c'=>id==id'&&Fv P roots c c'
 | .loop c,.loop c'=>Fv P roots c c'
 | .scope c,.scope c'=>Fv P roots c c'
 | .exit id,.exit id'=>id==id'
 | .ret,.ret=>true
 | _,_=>false
def rF:Ex->Exit
 | .norm => .normal
 | .exit id => .exit id
 | .ret => .ret
theorem WX{p:Nat->Prop}(h:∃ n,p n):∃ n,p n/\∀ m,p m->n<=m:=by
 obtain⟨n,hn⟩:=h;induction n using TN with
 | _ n ih =>
  by_cases hh:∃ m,m<n/\p m
  ·obtain⟨m,hm,hp⟩:=hh;exact ih m hm hp
  ·exact⟨n,hn,fun m hp=>Np fun hlt=>hh ⟨m,hlt,hp⟩⟩
section
variable {P:Program} {Y X0:Nat->Prop} {roots:List (Nat × Nat)} {w0:Base}
theorem simC(hm:P.follows .mixedOrders=true){F:B7}(hF:Ja P F):∀ (n:Nat) (c:Code) (ic:ICode) (s s':Al) (ex:Ex) (a:Act) (w:World) (Q:Exit->Act->World->Prop),Fv P roots c ic=true ->
  Rel Y X0 roots w0 s a w->Cm F n ic s=some (ex,s')->(∀ a' w',Rel Y X0 roots w0 s' a' w'->Q (rF ex) a' w')->c.wp P Q a w:=by
 intro n;induction n using TN with
 | _ n ih =>
  intro c ic s s' ex a w Q hok h hev hQ;cases n with
  | zero=>simp[Cm] at hev
  | succ n =>
   cases ic with
   | skip =>
    cases c <;> simp only[Fv] at hok <;> try cases hok
    all_goals
     simp only[Cm,A1,D0] at hev;obtain⟨rfl,rfl⟩:=hev;first | exact wp_skip (hQ _ _ h) | exact wp_label (hQ _ _ h)
   | region d io =>
    cases c <;> simp only[Fv] at hok <;> try cases hok
    rename_i id ops draw;simp only[Ad,beq_iff_eq] at hok;obtain⟨⟨rfl,h1⟩,h2⟩:=hok;simp only[Cm,Aj] at hev;obtain⟨s1,hs1,he⟩:=hev;cases he;cases draw with
    | false=>exact tS hF h1 h hs1 hQ
    | true=>exact tR hm hF h1 (by simpa using h2) h hs1 hQ
   | seq x y =>
    cases c <;> simp only[Fv] at hok <;> try cases hok
    rename_i c1 c2;simp only[Ad] at hok;simp only[Cm] at hev;refine wp_seq ?_;split at hev
    ·rename_i s1 h1;refine ih n (by omega) c1 x s s1 .norm a w _ hok.1 h h1 fun a' w' h' => ?_;exact ih n (by omega) c2 y s1 s' ex a' w' Q hok.2 h' hev hQ
    ·rename_i h1;refine ih n (by omega) c1 x s s' ex a w _ hok.1 h hev fun a' w' h' => ?_;cases ex with
     | norm=>exact absurd hev (h1 s')
     | exit id=>exact hQ _ _ h'
     | ret=>exact hQ _ _ h'
   | cond o x y =>
    cases c <;> simp only[Fv] at hok <;> try cases hok
    rename_i o' c1 c2;simp only[Ad] at hok;obtain⟨⟨h1,h2⟩,h3⟩:=hok;simp only[Cm] at hev;have key:∀ b,J7 s o=some b->a.eval o' = .bool b:=by
     intro b hb;unfold J7 at hb;split at hb
     ·rename_i b' hav;cases hb;have:=CB h h1 hav;generalize a.eval o'=v at this;cases this;rfl
     ·cases hb
    split at hev
    ·rename_i hc;exact wp_cond_true (key true hc) (ih n (by omega) c1 x s s' ex a w Q h2 h hev hQ)
    ·rename_i hc;exact wp_cond_false (key false hc) (ih n (by omega) c2 y s s' ex a w Q h3 h hev hQ)
    ·cases hev
   | block id x =>
    cases c <;> simp only[Fv] at hok <;> try cases hok
    rename_i id' c1;simp only[Ad,beq_iff_eq] at hok;obtain⟨rfl,hok⟩:=hok;simp only[Cm] at hev;refine wp_block ?_;split at hev
    ·rename_i i s1 h1;refine ih n (by omega) c1 x s s1 (.exit i) a w _ hok h h1 fun a' w' h' => ?_;simp only[rF,Exit.inBlock];split at hev
     ·rename_i hi;cases hev;rw[if_pos hi];exact hQ _ _ h'
     ·rename_i hi;cases hev;rw[if_neg hi];exact hQ _ _ h'
    ·rename_i h1;refine ih n (by omega) c1 x s s' ex a w _ hok h hev fun a' w' h' => ?_;cases ex with
     | norm=>exact hQ _ _ h'
     | exit i=>exact absurd hev (h1 i s')
     | ret=>exact hQ _ _ h'
   | scope x =>
    cases c <;> simp only[Fv] at hok <;> try cases hok
    simp only[Cm] at hev;refine wp_scope_straight ?_;refine ih n (by omega) _ x s s' ex a w _ hok h hev fun a' w' h' => ?_;cases ex with
    | norm=>exact hQ _ _ h'
    | exit i=>exact hQ _ _ h'
    | ret=>exact hQ _ _ h'
   | loop x =>
    cases c <;> simp only[Fv] at hok <;> try cases hok
    rename_i c1;let p:Act->World->Nat->Prop:=fun a w m=>m<=n+1/\∃ s1,Rel Y X0 roots w0 s1 a w/\Cm F m (.loop x) s1=some (ex,s')
    let μ:Act->World->Nat:=fun a w=>@Classical.epsilon Nat ⟨0⟩ fun m=>p a w m/\∀ k,p a w k->m<=k
    have hμ:∀ a w,(∃ m,p a w m)->p a w (μ a w)/\∀ k,p a w k->μ a w<=k:=fun a w he=>@Classical.epsilon_spec_aux Nat ⟨0⟩ _ (WX he);refine wp_loop (fun a w=>∃ m,p a w m) μ ⟨n+1,Ap _,s,h,hev⟩ ?_;intro a1 w1 hI;obtain⟨⟨hle,s1,hr1,hev1⟩,hmin⟩:=hμ a1 w1 hI;generalize hmm:μ a1 w1=m at *
    cases m with
    | zero=>simp[Cm] at hev1
    | succ m =>
     simp only[Cm] at hev1;split at hev1
     ·rename_i s2 h2;refine ih m (by omega) c1 x s1 s2 .norm a1 w1 _ hok hr1 h2 fun a' w' h' => ?_;have hp:p a' w' m:=⟨by omega,s2,h',hev1⟩;refine⟨⟨m,hp⟩,?_⟩;have:=(hμ a' w' ⟨m,hp⟩).2 m hp;omega
     ·rename_i h2;refine ih m (by omega) c1 x s1 s' ex a1 w1 _ hok hr1 hev1 fun a' w' h' => ?_;cases ex with
      | norm=>exact absurd hev1 (h2 s')
      | exit i=>exact hQ _ _ h'
      | ret=>exact hQ _ _ h'
   | exit id =>
    cases c <;> simp only[Fv] at hok <;> try cases hok
    simp only[beq_iff_eq] at hok;subst hok;simp only[Cm,A1,D0] at hev;obtain⟨rfl,rfl⟩:=hev;exact wp_exit (hQ _ _ h)
   | ret =>
    cases c <;> simp only[Fv] at hok <;> try cases hok
    simp only[Cm,A1,D0] at hev;obtain⟨rfl,rfl⟩:=hev;exact wp_ret (hQ _ _ h)
end
def PG(P:Program):ResultVar->IRes->Bool
 | .tmp t,.tmp t'=>t==t'
 | .cell t ty,.cell t' n one=>t==t'&&M1 P ty n one
 | _,_=>false
def Hl(P:Program):List ResultVar->List IRes->Bool
 | [],[]=>true
 | r::l,r'::l'=>PG P r r'&&Hl P l l'
 | _,_=>false
def AU(P:Program)(roots:List (Nat × Nat))(fn:Func)(ifn:IFunc):Bool :=
 (match fn.body with | some c=>Fv P roots c ifn.body | none=>false)&&fn.ntmps==ifn.slots&&Hl P fn.results.toList ifn.res&&decide (ifn.params<=ifn.slots)
section
variable {P:Program} {Y X0:Nat->Prop} {roots:List (Nat × Nat)} {w0:Base}
def M9(tm:Array Value):ResultVar->Sem Value
 | .tmp t=>pure (tm.getD t Br)
 | .cell a t=>do loadVar t (<- asAddr (tm.getD a Br))
theorem bB(fn:Func)(tm:Array Value):results fn tm=(fn.results.mapM (M9 tm)) >>= fun vs=>pure (if h:vs.size=1 then vs[0] else .tuple vs):=by
 unfold results;congr 1
theorem NM{s:Al}{a:Act}{w:World}(h:Rel Y X0 roots w0 s a w):∀ {l:List ResultVar} {m:List IRes} {xs:List AV},Hl P l m=true->DT s m=some xs ->
  ∃ vs:List Value,(l.mapM (M9 a.tmps)).run P w = .ok vs w/\vs.length=xs.length /\
   ∀ (i:Nat) (h1:i<vs.length) (h2:i<xs.length),Rd Y X0 w vs[i] xs[i]
 | [],[],xs,_,hx=>by
  simp only[DT,A1] at hx;subst hx;exact⟨[],rfl,rfl,fun i h1 _=>(by simp at h1)⟩
 | r::l,r'::m,xs,hok,hx=>by
  simp only[Hl,Ad] at hok;simp only[DT] at hx;cases h1:EW s r' with
  | none=>rw[h1] at hx;cases hx
  | some x =>
   rw[h1] at hx;cases h2:DT s m with
   | none=>rw[h2] at hx;cases hx
   | some xs' =>
    rw[h2] at hx;cases hx;obtain⟨vs,e1,e2,e3⟩:=NM h hok.2 h2;have one:∃ v,(M9 a.tmps r).run P w = .ok v w/\Rd Y X0 w v x:=by
     have hr:=hok.1;cases r with
     | tmp t =>
      cases r' with
      | cell _ _ _=>cases hr
      | tmp t' =>
       simp only[PG,beq_iff_eq] at hr;subst hr;have h0:=h.reg t;simp only[EW] at h1;cases hrg:A4 s t with
       | val y=>rw[hrg] at h1 h0;cases h1;exact⟨_,rfl,Rd.mono h0 fun b hb => .inl (.inl hb)⟩
       | box _=>rw[hrg] at h1;cases h1
       | ptr _ _=>rw[hrg] at h1;cases h1
       | mem _=>rw[hrg] at h1;cases h1
       | own k n cs =>
        rw[hrg] at h1 h0;cases h1;exact⟨_,rfl,Fp.frozen h0 (fun b hb => .inl (.inl hb)) (fun c hc hX=>h.low c hX (Fp.block h0 hc).1) h.lowY⟩
       | agn _ _ _ _=>rw[hrg] at h1;cases h1
       | bxl _=>rw[hrg] at h1;cases h1
       | dup _=>rw[hrg] at h1;cases h1
       | sub _ _ _ _=>rw[hrg] at h1;cases h1
       | dead=>rw[hrg] at h1;cases h1
     | cell t ty =>
      cases r' with
      | tmp _=>cases hr
      | cell t' n one =>
       simp only[PG,Ad,beq_iff_eq] at hr;obtain⟨rfl,hr⟩:=hr;have h0:=h.reg t;simp only[EW] at h1;cases hrg:A4 s t with
       | box cs =>
        rw[hrg] at h1 h0;obtain⟨b,g1,_,g3⟩:=h0;obtain⟨v,g4,g5⟩:=aQ (P:=P) hr g3.mem h1;refine⟨v,?_,g5.mono fun b hb => .inl (.inl hb)⟩;simp only[FR] at g4;simp only[M9,AK,g1,asAddr,Bk,Az,g4]
       | val _=>rw[hrg] at h1;cases h1
       | ptr _ _=>rw[hrg] at h1;cases h1
       | mem _=>rw[hrg] at h1;cases h1
       | own _ _ _=>rw[hrg] at h1;cases h1
       | agn _ _ _ _=>rw[hrg] at h1;cases h1
       | bxl _=>rw[hrg] at h1;cases h1
       | dup _=>rw[hrg] at h1;cases h1
       | sub _ _ _ _=>rw[hrg] at h1;cases h1
       | dead=>rw[hrg] at h1;cases h1
    obtain⟨v,e4,e5⟩:=one;refine⟨v::vs,?_,by simp[e2],fun i g1 g2 => ?_⟩
    ·simp only[L6,AK,e4,e1,Az,Bk]
    ·cases i with
     | zero=>exact e5
     | succ i=>exact e3 i (by simpa using g1) (by simpa using g2)
 | [],_::_,_,hok,_=>by cases hok
 | _::_,[],_,hok,_=>by cases hok
theorem jR{Y X O:Nat->Prop}{B:Nat->Prop}{tm:Array Value}{w:World}{t:Nat}{v:Value}{x:AV}(hO:∀ b,O b->B b)(h:jK Y X O w v x):HJ Y (fun c=>X c\/O c) B roots tm w t v (KV x):=by
 cases x
 case pt cs=>exact Afj h
 case fresh k n cs=>exact Fp.lower h hO
 all_goals exact h
theorem tT(x:AV):DU (KV x)=NC x:=by cases x <;> rfl
theorem tU{ifn:IFunc}{Y X:Nat->Prop}{w:World}{vs:Array Value}{args:List AV}(hlow:∀ b,X b->b<w.heap.size/\¬ FZ args vs b)(hlowY:∀ b,Y b->b<w.heap.size/\¬ FZ args vs b)(hs:vs.size=args.length)(hpar:args.length<=ifn.slots)
  (hr:∀ (i:Nat) (h1:i<vs.size) (h2:i<args.length),jK Y X (FZ args vs) w vs[i] args[i]) (hfr:∀ (i:Nat) (h:i<args.length),NC args[i]=true->i=0) :
  Rel Y X roots ⟨w,FZ args vs⟩ (GO ifn args) { tmps:=vs++H_ (ifn.slots-vs.size) Br,defers:=[] } w:=by
 have key:∀ t,(∃ x,A4 (GO ifn args) t=KV x/\args[t]? = some x)\/A4 (GO ifn args) t = .dead:=by
  intro t;simp only[A4,GO,Z];rcases Cp t args.length with h1 | h1
  ·refine .inl ⟨args[t],?_,by simp[h1]⟩;rw[AN (by simpa using h1)];simp[h1]
  ·refine .inr ?_;rw[AT (by simpa using h1)];rcases Cp (t-(args.map KV).length) (ifn.slots-args.length) with h2 | h2
   ·rw[Aez h2];rfl
   ·rw[AE (by simpa using h2)];rfl
 have hval:∀ t,(h:t<args.length)->(vs++H_ (ifn.slots-vs.size) Br).getD t Br=vs[t]'(by omega):=by
  intro t h;rw[Ct,Array.getElem?_append_left (by omega),Dm (by omega)];rfl
 have hne:∀ t,DU (A4 (GO ifn args) t)=true->t=0/\∃ (h:0<args.length),NC args[0]=true:=by
  intro t h0;rcases key t with ⟨x,h1,h2⟩ | h1 <;> rw[h1] at h0
  ·rw[tT] at h0;obtain⟨hlt,hx⟩:=Fz.1 h2;subst hx;have:=hfr t hlt h0;subst this;exact⟨rfl,hlt,h0⟩
  ·cases h0
 have hXS:∀ b,XS (GO ifn args) (vs++H_ (ifn.slots-vs.size) Br) b->FZ args vs b:=by
  rintro b ⟨t,h1,h2⟩;obtain⟨rfl,hlt,h3⟩:=hne t h1;rw[hval 0 hlt] at h2;refine⟨?_,by rw[Ct,Dm (by omega)];exact h2⟩;cases args with
  | nil=>cases hlt
  | cons x l=>cases x <;> first | exact⟨_,_,_,l,rfl⟩ | cases h3
 refine⟨rfl,by simp[GO];omega,⟨rfl,rfl,rfl,Ap _,fun _ _=>rfl⟩,fun b hb e=>e.elim (GI (hlow b hb).1) (hlow b hb).2,fun b hb e=>e.elim (GI (hlowY b hb).1) (hlowY b hb).2,fun t => ?_,fun t t' b h1 h2 _ _=>(hne t h1).1.trans (hne t' h2).1.symm⟩;rcases key t with ⟨x,h1,h2⟩ | h1
 ·rw[h1];obtain⟨hlt,hx⟩:=Fz.1 h2;have h3:=hr t (by omega) hlt;rw[hval t hlt,<- hx];have h5:=jR (roots:=roots) (tm:=vs++H_ (ifn.slots-vs.size) Br) (t:=t) (B:=Base.mine ⟨w,FZ args vs⟩) (fun b hb => .inr hb) h3;exact h5.monoX fun b hb=>hb.imp id (hXS b)
 ·rw[h1];trivial
theorem simF(hm:P.follows .mixedOrders=true){prog:Nat->Option IFunc}(hp:∀ f ifn,prog f=some ifn->∃ fn roots,P.funcs[f]? = some fn/\AU P roots fn ifn=true):∀ n,Ja P (N6 prog n):=by
 intro n;induction n with
 | zero=>intro f args x h;simp[N6] at h
 | succ n ih =>
  intro f args x h Y X w vs hlow hlowY hs hr hfr;simp only[N6] at h;split at h
  ·cases h
  ·rename_i ifn hifn;split at h
   ·rename_i hpar;obtain⟨fn,roots,hfn,hok⟩:=hp f ifn hifn;simp only[AU,Ad,beq_iff_eq,decide_eq_true_eq] at hok;obtain⟨⟨⟨h1,h2⟩,h3⟩,h4⟩:=hok;split at h1
    ·rename_i c hc;have hrel:Rel Y X roots ⟨w,FZ args vs⟩ (GO ifn args) { tmps:=vs++H_ (fn.ntmps-vs.size) Br,defers:=[] } w:=by
      rw[h2];exact tU hlow hlowY hs (by omega) hr hfr
     refine calls_of_wp hfn hc ?_;have fin:∀ (s:Al) (a':Act) (w':World),Rel Y X roots ⟨w,FZ args vs⟩ s a' w'->GN s ifn.res=some x ->
       a'.defers=[]/\∃ v,(results fn a'.tmps).run P w' = .ok v w'/\∃ v',Ending.returned v = .returned v'/\Grown ⟨w,FZ args vs⟩ w'/\Ik Y X (Base.mine ⟨w,FZ args vs⟩) w' v' x:=by
      intro s a' w' hrel' hres;refine⟨hrel'.dfr,?_⟩;unfold GN at hres;have hrun:∀ (us:List Value),(fn.results.toList.mapM (M9 a'.tmps)).run P w' = .ok us w' ->
        (results fn a'.tmps).run P w' = .ok (if h:us.toArray.size=1 then us.toArray[0] else .tuple us.toArray) w':=by
       intro us hus;rw[bB,RH];simp only[AK,A6v,hus,Az,Bk]
      split at hres
      ·rename_i y hy;cases hres;generalize hl:ifn.res=lres at hy h3;unfold HC at hy;split at hy
       ·rename_i t;split at hy
        ·rename_i k n cs hr;cases hy;cases hfr:fn.results.toList with
         | nil=>rw[hfr] at h3;cases h3
         | cons r rest =>
          rw[hfr] at h3;cases rest with
          | cons _ _=>simp only[Hl,ID] at h3;cases h3
          | nil =>
           simp only[Hl,KO] at h3;cases r with
           | cell _ _=>cases h3
           | tmp t' =>
            simp only[PG,beq_iff_eq] at h3;subst h3;refine⟨_,hrun [a'.tmps.getD t' Br] (by rw[hfr];rfl),_,rfl,hrel'.below,?_⟩;simp only[Ij,Bv,Ib,B_,dite_true];rcases hrel'.ownLow hr with hnil | ⟨b,cap,e1,e2,e3,e4,e5,e6,hXb⟩
            ·exact .inl hnil
            refine .inr ⟨b,cap,e1,e2,e3,e4,e5.mono fun c hc => .inl ?_,e6⟩;rcases hc with hc | hc
            ·exact .inl hc
            ·simp only[e1,AI,GD,Nn,FN,A3,A1] at hc;exact .inr (hc ▸ hXb)
        ·rename_i bb k n cs hr;cases hy;cases hfr:fn.results.toList with
         | nil=>rw[hfr] at h3;cases h3
         | cons r rest =>
          rw[hfr] at h3;cases rest with
          | cons _ _=>simp only[Hl,ID] at h3;cases h3
          | nil =>
           simp only[Hl,KO] at h3;cases r with
           | cell _ _=>cases h3
           | tmp t' =>
            simp only[PG,beq_iff_eq] at h3;subst h3;refine⟨_,hrun [a'.tmps.getD t' Br] (by rw[hfr];rfl),_,rfl,hrel'.below,?_⟩;simp only[Ij,Bv,Ib,B_,dite_true];have h0:=hrel'.reg t';rw[hr] at h0;have hXS:∀ c,AI (a'.tmps.getD t' Br)=some c->XS s a'.tmps c:=fun c hc=>⟨t',by rw[hr];rfl,hc⟩;exact J8.own h0 hXS
        ·cases hy
       ·rename_i t u;split at hy
        ·rename_i k n cs hr;split at hy
         ·rename_i bb hru;cases hy;cases hfr:fn.results.toList with
          | nil=>rw[hfr] at h3;cases h3
          | cons r rest =>
           rw[hfr] at h3;cases rest with
           | nil=>simp only[Hl,ID] at h3;cases h3
           | cons r2 rest =>
            cases rest with
            | cons _ _=>simp only[Hl,ID] at h3;cases h3
            | nil =>
             simp only[Hl,KO,Ad] at h3;obtain⟨h3,h3'⟩:=h3;cases r with
             | cell _ _=>cases h3
             | tmp t' =>
              cases r2 with
              | cell _ _=>cases h3'
              | tmp u' =>
               simp only[PG,beq_iff_eq] at h3 h3';subst h3 h3';have hu0:=hrel'.reg u';rw[hru] at hu0;have hub:a'.tmps.getD u' Br = .bool bb:=by
                generalize a'.tmps.getD u' Br=q at hu0;cases hu0;rfl
               refine⟨_,hrun [a'.tmps.getD t' Br,.bool bb] (by rw[hfr,<- hub];rfl),_,rfl,hrel'.below,?_⟩;have h0:=hrel'.reg t';rw[hr] at h0;have hXS:∀ c,AI (a'.tmps.getD t' Br)=some c->XS s a'.tmps c:=fun c hc=>⟨t',by rw[hr];rfl,hc⟩;have hag:J8 Y (fun c=>X c\/XS s a'.tmps c) (Base.mine ⟨w,FZ args vs⟩) w' (.tuple #[a'.tmps.getD t' Br,.bool bb]) (.tp bb) k n cs:=⟨_,rfl,h0⟩;exact J8.own hag (fun c hc=>hXS c (by rw[<- hc];exact (FG (.tp bb) h0).symm))
         ·cases hy
        ·cases hy
       ·rename_i t n one;split at hy
        ·rename_i d hr;split at hy
         ·rename_i bb k m cs hrd;split at hy
          ·rename_i hn;obtain⟨rfl,rfl⟩:=hn;cases hy;cases hfr:fn.results.toList with
           | nil=>rw[hfr] at h3;cases h3
           | cons r rest =>
            rw[hfr] at h3;cases rest with
            | cons _ _=>simp only[Hl,ID] at h3;cases h3
            | nil =>
             simp only[Hl,KO] at h3;cases r with
             | tmp _=>cases h3
             | cell t' ty =>
              simp only[PG,Ad,beq_iff_eq] at h3;obtain⟨rfl,h3⟩:=h3;have h0:=hrel'.reg t';rw[hr] at h0;obtain⟨_,b,g1,_,_,g4⟩:=h0;have h5:=hrel'.reg d;rw[hrd] at h5;obtain⟨u,hu,h5'⟩:=id h5;obtain⟨q1,q2⟩:=KW h3;rw[hu] at g4;have hl:=run_loadCells (P:=P) w' ⟨b,0,none⟩ 2 (fun i=>#[Ue bb,u].getD i Br) (fun j hj=>by
               rw[Hj,B_,g4 j hj];match j,hj with
               | 0,_=>rfl
               | 1,_=>rfl)
              have hload:(M9 a'.tmps (.cell t' ty)).run P w' = .ok (.agg #[.bool bb,u]) w':=by
               simp only[M9,AK,g1,asAddr,Bk,Az,loadVar,q1,q2,hl,Bool.not_false,if_true];rfl
              refine⟨_,hrun [.agg #[.bool bb,u]] (by rw[hfr];simp only[L6,List.mapM_nil,AK,hload,Az,Bk]),_,rfl,hrel'.below,?_⟩;have hXS:∀ c,AI (a'.tmps.getD d Br)=some c->XS s a'.tmps c:=fun c hc=>⟨d,by rw[hrd];rfl,hc⟩;have:=J8.own h5 hXS;rw[hu] at this;exact this
          ·cases hy
         ·cases hy
        ·cases hy
       ·cases hy
      split at hres
      ·rename_i y hy;cases hres;obtain⟨us,g1,g2,g3⟩:=NM hrel' h3 hy;refine⟨_,hrun us g1,_,rfl,hrel'.below,?_⟩;have hl:us.toArray.size=1:=by simpa using g2
       rw[dif_pos hl];have:=g3 0 (by simp at g2;omega) (by simp);exact .of_rd (by simpa using this)
      ·rename_i ys hne hy;cases hres;obtain⟨us,g1,g2,g3⟩:=NM hrel' h3 hy;refine⟨_,hrun us g1,_,rfl,hrel'.below,?_⟩;have hl:¬ us.toArray.size=1:=by
        intro hh;have:ys.length=1:=by rw[<- g2];simpa using hh
        match ys,this with
        | [y],_=>exact hne y rfl
       rw[dif_neg hl];exact .of_rd (.tup _ _ (by simpa using g2) (fun i h1 h2=>by simpa using g3 i (by simpa using h1) h2))
      ·cases hres
     split at h
     ·cases h
     ·rename_i ex s hnot hev;refine simC hm ih n c ifn.body _ s ex _ w _ h1 hrel hev fun a' w' hrel' => ?_;have:=fin s a' w' hrel' h;cases ex with
      | norm=>exact this
      | ret=>exact this
      | exit i=>exact (hnot i rfl).elim
     ·cases h
    ·cases h1
   ·cases h
end
def Le(F G:B7):Prop:=∀ f args r,F f args=some r->G f args=some r
theorem Awx{F G:B7}(h:Le F G){s:Al}{k:K}{p:Reg × List (Nat × Reg)}(hk:B4 F s k=some p):B4 G s k=some p:=by
 cases k
 case call f xs =>
  simp only[B4] at hk |-;split at hk
  ·rename_i vs hvs;simp only[Aj] at hk |-;obtain⟨v,hv,he⟩:=hk;exact⟨v,h f vs v hv,he⟩
  ·cases hk
 case clo f xs =>
  simp only[B4] at hk |-;split at hk
  ·rename_i vs hvs;simp only[Aj] at hk |-;obtain⟨v,hv,he⟩:=hk;exact⟨v,h f vs v hv,he⟩
  ·cases hk
 case cln f xs ls =>
  simp only[B4] at hk |-;split at hk
  ·rename_i vs hvs;split at hk
   ·rename_i hl;rw[if_pos hl];simp only[Aj] at hk |-;obtain⟨v,hv,he⟩:=hk;exact⟨v,h f vs v hv,he⟩
   ·cases hk
  ·cases hk
 case brw f x d =>
  simp only[B4] at hk |-;split at hk
  ·split at hk
   ·rename_i hd;rw[if_pos hd];split at hk
    ·split at hk
     ·rename_i hc;rw[if_pos hc];split at hk
      ·rename_i y hy;rw[h _ _ _ hy];exact hk
      ·cases hk
     ·cases hk
    ·cases hk
   ·cases hk
  ·cases hk
 case cao f k x xs =>
  simp only[B4] at hk |-;repeat' split at hk
  all_goals first
   | (simp only[Aj] at hk |-;obtain⟨v,hv,he⟩:=hk;exact⟨v,h f _ v hv,he⟩)
   | cases hk
 all_goals exact hk
theorem bC{F G:B7}(h:Le F G){o:IOp}{s s':Al}(he:FX F o s=some s'):FX G o s=some s':=by
 simp only[FX,Ih] at he |-;split at he
 ·cases he
 ·exact he
 ·split at he
  ·cases he
  ·rename_i r l hk;rw[Awx h hk];exact he
theorem OH{F G:B7}(h:Le F G):∀ {l:List IOp} {s s':Al},Ej F l s=some s'->Ej G l s=some s'
 | [],_,_,he=>he
 | o::l,s,s',he=>by
  simp only[Ej] at he |-;cases h1:FX F o s with
  | none=>rw[h1] at he;cases he
  | some s1 =>
   rw[h1] at he;rw[bC h h1];exact OH h he
theorem F5{F G:B7}(h:Le F G):∀ {n m:Nat},n<=m->∀ {c:ICode} {s:Al} {r:Ex × Al},Cm F n c s=some r->Cm G m c s=some r:=by
 intro n;induction n with
 | zero=>intro m _ c s r he;simp[Cm] at he
 | succ n ih =>
  intro m hm c s r he;obtain⟨m,rfl⟩:∃ m',m=m'+1:=⟨m-1,by omega⟩;have hm':n<=m:=by omega
  cases c with
  | skip=>exact he
  | region d ops =>
   simp only[Cm,Aj] at he |-;obtain⟨s',h1,h2⟩:=he;exact⟨s',OH h h1,h2⟩
  | seq a b =>
   simp only[Cm] at he |-;cases h1:Cm F n a s with
   | none=>rw[h1] at he;cases he
   | some p =>
    rw[h1] at he;rw[ih hm' h1];obtain⟨ex,s1⟩:=p;cases ex with
    | norm=>exact ih hm' he
    | exit i=>exact he
    | ret=>exact he
  | cond c a b =>
   simp only[Cm] at he |-;split at he
   ·exact ih hm' he
   ·exact ih hm' he
   ·cases he
  | block id c =>
   simp only[Cm] at he |-;cases h1:Cm F n c s with
   | none=>rw[h1] at he;cases he
   | some p =>
    rw[h1] at he;rw[ih hm' h1];exact he
  | scope c=>exact ih hm' he
  | loop c =>
   simp only[Cm] at he |-;cases h1:Cm F n c s with
   | none=>rw[h1] at he;cases he
   | some p =>
    rw[h1] at he;rw[ih hm' h1];obtain⟨ex,s1⟩:=p;cases ex with
    | norm=>exact ih hm' he
    | exit i=>exact he
    | ret=>exact he
  | exit id=>exact he
  | ret=>exact he
theorem EA(prog:Nat->Option IFunc):∀ {n m:Nat},n<=m->Le (N6 prog n) (N6 prog m):=by
 intro n;induction n with
 | zero=>intro m _ f args r h;simp[N6] at h
 | succ n ih =>
  intro m hm f args r h;obtain⟨m,rfl⟩:∃ m',m=m'+1:=⟨m-1,by omega⟩;have hm':n<=m:=by omega
  simp only[N6] at h |-;split at h
  ·cases h
  ·rename_i fn hfn;split at h
   ·rename_i hl;rw[if_pos hl];cases h1:Cm (N6 prog n) n fn.body (GO fn args) with
    | none=>rw[h1] at h;cases h
    | some p =>
     rw[h1] at h;rw[F5 (ih hm') hm' h1];exact h
   ·cases h
def FK(prog:Nat->Option IFunc)(f:Nat)(args:List AV)(r:AV):Prop:=∃ n,N6 prog n f args=some r
def DG(prog:Nat->Option IFunc)(c:ICode)(s:Al)(ex:Ex)(s':Al):Prop:=∃ n,Cm (N6 prog n) n c s=some (ex,s')
theorem H6{prog:Nat->Option IFunc}{f:Nat}{fn:IFunc}{args:List AV}{s:Al}{ex:Ex}{r:AV}(hf:prog f=some fn)(hl:args.length=fn.params)(h:DG prog fn.body (GO fn args) ex s)
  (hex:∀ i,ex ≠ .exit i) (hr:GN s fn.res=some r):FK prog f args r:=by
 obtain⟨n,h⟩:=h;refine⟨n+1,?_⟩;simp only[N6,hf,if_pos hl,h];cases ex with
 | norm=>exact hr
 | ret=>exact hr
 | exit i=>exact absurd rfl (hex i)
theorem DG.seq{prog:Nat->Option IFunc}{a b:ICode}{s s1 s':Al}{ex:Ex}(h1:DG prog a s .norm s1)(h2:DG prog b s1 ex s'):DG prog (.seq a b) s ex s':=by
 obtain⟨n,h1⟩:=h1;obtain⟨m,h2⟩:=h2;refine⟨max n m+1,?_⟩;have e1:=F5 (EA prog (show n<=max n m+1 by omega)) (show n<=max n m by omega) h1;have e2:=F5 (EA prog (show m<=max n m+1 by omega)) (show m<=max n m by omega) h2;simp only[Cm,e1,e2]
theorem EE{prog:Nat->Option IFunc}{a b:ICode}{s s':Al}{ex:Ex}(h1:DG prog a s ex s')(hex:ex ≠ .norm):DG prog (.seq a b) s ex s':=by
 obtain⟨n,h1⟩:=h1;refine⟨n+1,?_⟩;have e1:=F5 (EA prog (show n<=n+1 by omega)) (show n<=n by omega) h1;simp only[Cm,e1];cases ex with
 | norm=>exact absurd rfl hex
 | exit i=>rfl
 | ret=>rfl
theorem DG.scope{prog:Nat->Option IFunc}{c:ICode}{s s':Al}{ex:Ex}(h:DG prog c s ex s'):DG prog (.scope c) s ex s':=by
 obtain⟨n,h⟩:=h;exact⟨n+1,by simp only[Cm];exact F5 (EA prog (by omega)) (Ap _) h⟩
theorem DG.block{prog:Nat->Option IFunc}{id:Nat}{c:ICode}{s s':Al}(h:DG prog c s (.exit id) s'):DG prog (.block id c) s .norm s':=by
 obtain⟨n,h⟩:=h;refine⟨n+1,?_⟩;have e1:=F5 (EA prog (show n<=n+1 by omega)) (show n<=n by omega) h;simp only[Cm,e1,if_true]
theorem KZ{prog:Nat->Option IFunc}{id:Nat}{c:ICode}{s s':Al}(h:DG prog c s .norm s'):DG prog (.block id c) s .norm s':=by
 obtain⟨n,h⟩:=h;refine⟨n+1,?_⟩;have e1:=F5 (EA prog (show n<=n+1 by omega)) (show n<=n by omega) h;simp only[Cm,e1]
theorem Mc{prog:Nat->Option IFunc}{id i:Nat}{c:ICode}{s s':Al}(h:DG prog c s (.exit i) s')(hi:i ≠ id):DG prog (.block id c) s (.exit i) s':=by
 obtain⟨n,h⟩:=h;refine⟨n+1,?_⟩;have e1:=F5 (EA prog (show n<=n+1 by omega)) (show n<=n by omega) h;simp only[Cm,e1,if_neg hi]
theorem Md{prog:Nat->Option IFunc}{id:Nat}{c:ICode}{s s':Al}(h:DG prog c s .ret s'):DG prog (.block id c) s .ret s':=by
 obtain⟨n,h⟩:=h;refine⟨n+1,?_⟩;have e1:=F5 (EA prog (show n<=n+1 by omega)) (show n<=n by omega) h;simp only[Cm,e1]
theorem DG.loop{prog:Nat->Option IFunc}{c:ICode}{s s1 s':Al}{ex:Ex}(h1:DG prog c s .norm s1)(h2:DG prog (.loop c) s1 ex s'):DG prog (.loop c) s ex s':=by
 obtain⟨n,h1⟩:=h1;obtain⟨m,h2⟩:=h2;refine⟨max n m+1,?_⟩;have e1:=F5 (EA prog (show n<=max n m+1 by omega)) (show n<=max n m by omega) h1;have e2:=F5 (EA prog (show m<=max n m+1 by omega)) (show m<=max n m by omega) h2;simp only[Cm,e1,e2]
theorem Nq{prog:Nat->Option IFunc}{c:ICode}{s s':Al}{ex:Ex}(h1:DG prog c s ex s')(hex:ex ≠ .norm):DG prog (.loop c) s ex s':=by
 obtain⟨n,h1⟩:=h1;refine⟨n+1,?_⟩;have e1:=F5 (EA prog (show n<=n+1 by omega)) (show n<=n by omega) h1;simp only[Cm,e1];cases ex with
 | norm=>exact absurd rfl hex
 | exit i=>rfl
 | ret=>rfl
def NN(prog:Nat->Option IFunc)(F:B7):Prop:=∀ f args r,F f args=some r->FK prog f args r
theorem QH{prog:Nat->Option IFunc}{F:B7}(h:NN prog F):∀ {l:List IOp} {s s':Al},Ej F l s=some s'->∃ n,Ej (N6 prog n) l s=some s'
 | [],s,s',he=>⟨0,he⟩
 | o::l,s,s',he=>by
  simp only[Ej] at he;cases h1:FX F o s with
  | none=>rw[h1] at he;cases he
  | some s1 =>
   rw[h1] at he;obtain⟨n,hn⟩:=QH h he;have key:∃ m,FX (N6 prog m) o s=some s1:=by
    simp only[FX,Ih] at h1 |-;generalize kill s o.ks=s at *
    split at h1
    ·cases h1
    ·exact⟨0,h1⟩
    ·split at h1
     ·cases h1
     ·rename_i r l' hk;have:∃ m,B4 (N6 prog m) s o.k=some (r,l'):=by
       cases hkk:o.k
       case call f xs =>
        rw[hkk] at hk;simp only[B4] at hk |-;split at hk
        ·rename_i vs hvs;simp only[Aj] at hk;obtain⟨v,hv,e⟩:=hk;obtain⟨m,hm⟩:=h f vs v hv;exact⟨m,by simp only[hm,A3,e]⟩
        ·cases hk
       case clo f xs =>
        rw[hkk] at hk;simp only[B4] at hk |-;split at hk
        ·rename_i vs hvs;simp only[Aj] at hk;obtain⟨v,hv,e⟩:=hk;obtain⟨m,hm⟩:=h f vs v hv;exact⟨m,by simp only[hm,A3,e]⟩
        ·cases hk
       case cln f xs ls =>
        rw[hkk] at hk;simp only[B4] at hk |-;split at hk
        ·rename_i vs hvs;split at hk
         ·rename_i hl;simp only[Aj] at hk;obtain⟨v,hv,e⟩:=hk;obtain⟨m,hm⟩:=h f vs v hv;exact⟨m,by rw[if_pos hl,hm];simp only[A3,e]⟩
         ·cases hk
        ·cases hk
       case brw f x d =>
        rw[hkk] at hk;simp only[B4] at hk |-;split at hk
        ·split at hk
         ·rename_i hd;split at hk
          ·split at hk
           ·rename_i hc;split at hk
            ·rename_i y hy;obtain⟨m,hm⟩:=h _ _ _ hy;exact⟨m,by rw[if_pos hd,if_pos hc,hm];exact hk⟩
            ·cases hk
           ·cases hk
          ·cases hk
         ·cases hk
        ·cases hk
       case cao f k x xs =>
        rw[hkk] at hk;simp only[B4] at hk |-;repeat' split at hk
        all_goals first
         | (simp only[Aj] at hk;obtain⟨v,hv,e⟩:=hk;obtain⟨m,hm⟩:=h f _ v hv;exact⟨m,by simp only[hm,A3,e]⟩)
         | cases hk
       all_goals (rw[hkk] at hk;exact⟨0,hk⟩)
      obtain⟨m,hm⟩:=this;exact⟨m,by rw[hm];exact h1⟩
   obtain⟨m,hm⟩:=key;refine⟨max n m,?_⟩;simp only[Ej,bC (EA prog (show m<=max n m by omega)) hm];exact OH (EA prog (show n<=max n m by omega)) hn
theorem U6{prog:Nat->Option IFunc}{F:B7}(h:NN prog F):∀ (n:Nat) {c:ICode} {s:Al} {ex:Ex} {s':Al},Cm F n c s=some (ex,s')->DG prog c s ex s':=by
 intro n;induction n with
 | zero=>intro c s ex s' he;simp[Cm] at he
 | succ n ih =>
  intro c s ex s' he;cases c with
  | skip=>exact⟨1,he⟩
  | region d ops =>
   simp only[Cm,Aj] at he;obtain⟨s1,h1,h2⟩:=he;obtain⟨m,hm⟩:=QH h h1;refine⟨m+1,?_⟩;simp only[Cm,OH (EA prog (show m<=m+1 by omega)) hm,A3,h2]
  | seq a b =>
   simp only[Cm] at he;split at he
   ·rename_i s1 h1;exact DG.seq (ih h1) (ih he)
   ·rename_i h1;exact EE (ih he) (by rintro rfl;exact h1 s' he)
  | cond c a b =>
   simp only[Cm] at he;split at he
   ·rename_i hc;obtain⟨m,hm⟩:=ih he;exact⟨m+1,by simp only[Cm,hc];exact F5 (EA prog (by omega)) (Ap _) hm⟩
   ·rename_i hc;obtain⟨m,hm⟩:=ih he;exact⟨m+1,by simp only[Cm,hc];exact F5 (EA prog (by omega)) (Ap _) hm⟩
   ·cases he
  | block id c =>
   simp only[Cm] at he;split at he
   ·rename_i i s1 h1;split at he
    ·rename_i hi;cases he;subst hi;exact DG.block (ih h1)
    ·rename_i hi;cases he;exact Mc (ih h1) hi
   ·rename_i h1;cases ex with
    | norm=>exact KZ (ih he)
    | exit i=>exact absurd he (h1 i s')
    | ret=>exact Md (ih he)
  | scope c =>
   simp only[Cm] at he;exact DG.scope (ih he)
  | loop c =>
   simp only[Cm] at he;split at he
   ·rename_i s1 h1;exact DG.loop (ih h1) (ih he)
   ·rename_i h1;exact Nq (ih he) (by rintro rfl;exact h1 s' he)
  | exit id=>exact⟨1,he⟩
  | ret=>exact⟨1,he⟩
theorem FK.unique{prog:Nat->Option IFunc}{f:Nat}{args:List AV}{r r':AV}(h:FK prog f args r)(h':FK prog f args r'):r=r':=by
 obtain⟨n,h⟩:=h;obtain⟨m,h'⟩:=h';have e1:=EA prog (show n<=max n m by omega) f args r h;have e2:=EA prog (show m<=max n m by omega) f args r' h';rw[e1] at e2;exact LU e2
open Classical in
noncomputable def U7 (prog:Nat->Option IFunc):B7:=fun f args=>if h:∃ r,FK prog f args r then some h.choose else none
theorem HE{prog:Nat->Option IFunc}{f:Nat}{args:List AV}{r:AV}(h:FK prog f args r):U7 prog f args=some r:=by
 have h':∃ r,FK prog f args r:=⟨r,h⟩;simp only[U7,dif_pos h'];exact congrArg some (h'.choose_spec.unique h)
theorem jS(prog:Nat->Option IFunc):NN prog (U7 prog):=by
 intro f args r h;unfold U7 at h;split at h
 ·rename_i h';cases h;exact h'.choose_spec
 ·cases h
abbrev Cn:=List (Nat × (List AV->Option (AV × List Prop)))
def Gk:List Prop->Prop
 | []=>True
 | p::l=>p/\Gk l
def Zb(T:Cn)(f:Nat)(args:List AV):Option (AV × List Prop) :=
 match T.lookup f with
 | some g=>g args
 | none=>none
def Ca(prog:Nat->Option IFunc)(T:Cn):Prop:=∀ f args r ps,Zb T f args=some (r,ps)->Gk ps->FK prog f args r
theorem Ca.nil(prog:Nat->Option IFunc):Ca prog []:=fun f args r ps h=>by simp [Zb] at h
theorem Ca.cons{prog:Nat->Option IFunc}{T:Cn}{f:Nat}{g:List AV->Option (AV × List Prop)}(h:Ca prog T)(hg:∀ args r ps,g args=some (r,ps)->Gk ps->FK prog f args r):Ca prog ((f,g)::T):=by
 intro f' args r ps hr;simp only[Zb,List.lookup] at hr;by_cases hf:f'=f
 ·subst hf;simp at hr;exact hg args r ps hr
 ·have:(f'==f)=false:=by simpa using hf
  simp only[this] at hr;exact h f' args r ps hr
theorem FK.calls{P:Program}{prog:Nat->Option IFunc}{f:Nat}{args:List AV}{r:AV}(hm:P.follows .mixedOrders=true)
  (hp:∀ f ifn,prog f=some ifn->∃ fn roots,P.funcs[f]? = some fn/\AU P roots fn ifn=true) (h:FK prog f args r) (X:Nat->Prop) (w:World) (vs:Array Value)
  (hX:∀ b,X b->b<w.heap.size) (hs:vs.size=args.length) (hr:∀ (i:Nat) (h1:i<vs.size) (h2:i<args.length),Rd (fun _=>False) X w vs[i] args[i]) :
  Calls P f vs w fun e w'=>∃ v,e = .returned v/\Below w.heap.size w w'/\Rd (fun _=>False) X w' v (K5 r):=by
 obtain⟨n,h⟩:=h;exact ((simF hm hp n).plain f args r h _ X w vs hX (fun _ h=>h.elim) hs hr).mono fun e w' ⟨v,h1,h2,h3⟩=>⟨v,h1,h2,h3.thawed (fun b hb=>GI (hX b hb)) (fun _ h=>h.elim)⟩
inductive Sc where
 | b (x:Bool)
 | v (x:AV)
 | l (cs:List AV)
 | r (x:AV)
theorem F6:∀ {l m:List Prop},Gk (l++m)↔Gk l/\Gk m
 | [],m=>by simp[Gk]
 | p::l,m=>by simp only[HT,Gk,F6 (l:=l),and_assoc]
abbrev R3(α:Type):=Option (α × List Sc × List Prop)
def U8(op:BinOp)(k k':IntKind)(a b:Int):Option (AV × List Prop) :=
 match op with
 | .quo=>if k=k' then some (.int k (k.wrap (a.tdiv b)),[¬ b=0]) else none
 | .rem=>if k=k' then some (.int k (a.tmod b),[¬ b=0]) else none
 | .shl=>some (.int k (k.wrap (a*2^(min b.toNat k.bits))),[¬ b<0])
 | .shr=>some (.int k (a.fdiv (2^(min b.toNat k.bits))),[¬ b<0])
 | op=>(LW op (.int k a) (.int k' b)).map fun v=>(v,[])
theorem Afw{op:BinOp}{k k':IntKind}{a b:Int}{v:AV}{ps:List Prop}(h:U8 op k k' a b=some (v,ps))(hp:Gk ps):LW op (.int k a) (.int k' b)=some v:=by
 cases op
 case quo =>
  simp only[U8] at h;split at h
  ·rename_i hk;cases h;simp only[LW,Jm,hk,aJ];simp only[Cf,if_false,if_true,if_neg hp.1]
  ·cases h
 case rem =>
  simp only[U8] at h;split at h
  ·rename_i hk;cases h;simp only[LW,Jm,hk,aJ];simp only[Cf,if_false,if_true,if_neg hp.1]
  ·cases h
 case shl =>
  simp only[U8] at h;cases h;simp only[LW,Jm,if_true,Q9,if_neg hp.1]
 case shr =>
  simp only[U8] at h;cases h;simp only[LW,Jm,if_true,Q9,if_neg hp.1]
 all_goals
  simp only[U8,Aj] at h;obtain⟨u,hu,e⟩:=h;cases e;exact hu
abbrev H7:=Option (Nat × Bool)
def H7.is(m:H7)(t:Nat):Option Bool :=
 match m with
 | some (u,x)=>if u=t then some x else none
 | none=>none
def H7.opd(m:H7):Opd->Option Bool
 | .t n=>m.is n
 | .c _=>none
def H7.Ok(s:Al)(m:H7):Prop:=∀ t x,m=some (t,x)->A4 s t = .val (.bool x)
theorem MA{s:Al}{m:H7}(h:m.Ok s){o:Opd}{x:Bool}(ho:m.opd o=some x):o.av s=some (.bool x):=by
 cases o with
 | c y=>cases ho
 | t n =>
  simp only[H7.opd,H7.is] at ho;split at ho
  ·rename_i u y;split at ho
   ·rename_i hu;cases ho;subst hu;simp only[Opd.av,Opd.reg,h _ _ rfl]
   ·cases ho
  ·cases ho
def XI(s:Al)(d:Nat):Option Opd->Option (Nat × List Prop)
 | none=>some (d,[])
 | some o=>match o.av s with
  | some (.int _ i)=>some (i.toNat,[0<=i])
  | _=>none
theorem U9{s:Al}{d:Nat}{o:Option Opd}{n:Nat}{ps:List Prop}(h:XI s d o=some (n,ps))(hp:Gk ps):GL s d o=some n:=by
 cases o with
 | none=>simp only[XI,A1,D0] at h;rw[<- h.1];rfl
 | some o =>
  simp only[XI] at h;simp only[GL];split at h
  ·rename_i k i hi;cases h;rw[hi];simp only[if_pos hp.1]
  ·cases h
def Im(prog:Nat->Option IFunc)(T:Cn)(s:Al)(m:H7)(k:K)(sc:List Sc):R3 (Reg × List (Nat × Reg)) :=
 match k with
 | .pick c a b =>
  match m.opd c with
  | some true=>(a.av s).map fun v=>((.val v,[]),sc,[])
  | some false=>(b.av s).map fun v=>((.val v,[]),sc,[])
  | none=>match c.av s,sc with
  | some (.bool c),.b t::sc=>(match t with | true=>(a.av s) | false=>(b.av s)).map fun v=>((.val v,[]),sc,[c=t])
  | _,_=>none
 | .bin op x y =>
  match x.av s,y.av s with
  | some (.int k a),some (.int k' b)=>(U8 op k k' a b).map fun p=>((.val p.1,[]),sc,p.2)
  | _,_=>none
 | .ixa x i k =>
  match i.av s,A4 s x with
  | some (.int _ i),.val (.sl n cs)=>some ((.mem (cs.drop (i.toNat*k)),[]),sc,[0<=i/\i<n])
  | _,_=>none
 | .ld x d n one =>
  match A4 s x,sc with
  | .mem cs,.v u::sc=>some ((.val u,[]),sc,[Bn cs 0 n one=some u])
  | .ptr d' off,sc=>if d'=d then (match A4 s d,sc with
   | .own _ _ cs,.v u::sc=>some ((.val u,[]),sc,[Bn cs off n one=some u])
   | .box cs,sc=>(Bn cs off n one).map fun v=>((.val v,[]),sc,[])
   | _,_=>none) else none
  | _,sc=>(B4 (fun _ _=>none) s (.ld x d n one)).map fun p=>(p,sc,[])
 | .six x i =>
  match x.av s,i.av s,sc with
  | some (.str b),some (.int _ i),.v (.int .u8 n)::sc=>some ((.val (.int .u8 n),[]),sc,[((if 0<=i then b[i.toNat]? else none).map fun c=>(c.toNat:Int))=some n])
  | _,_,_=>none
 | .call f xs =>
  match avs s xs with
  | some vs=>(match Zb T f vs with
   | some p=>some ((.val (K5 p.1),[]),sc,p.2)
   | none=>(match sc with
    | .r r::sc=>some ((.val (K5 r),[]),sc,[FK prog f vs r])
    | _=>none))
  | none=>none
 | .st x d n v =>
  match v.av s with
  | none=>none
  | some a=>match Gp a n with
   | none=>none
   | some ys=>match A4 s x with
    | .box cs=>if x=d then (C4 cs 0 ys).map fun cs'=>((.dead,[(d,.box cs')]),sc,[]) else none
    | .ptr d' off=>if d'=d then (match A4 s d,sc with
     | .own k m cs,.l cs'::sc=>some ((.dead,[(d,.own k m cs')]),sc,[C4 cs off ys=some cs'])
     | .box cs,sc=>(C4 cs off ys).map fun cs'=>((.dead,[(d,.box cs')]),sc,[])
     | _,_=>none) else none
    | _=>none
 | .ixo x d i k =>
  match i.av s with
  | some (.int _ i)=>(match A4 s x with
   | .val (.sl n cs)=>some ((.mem (cs.drop (i.toNat*k)),[]),sc,[0<=i/\i<n])
   | .dup d'=>if d'=d then (match A4 s d with
    | .own k' n _=>if k'=k then some ((.ptr d (i.toNat*k),[]),sc,[0<=i/\i<n]) else none
    | _=>none) else none
   | _=>none)
  | _=>none
 | .mks z n =>
  match n.av s with
  | some (.int _ m)=>some ((.own z.length m.toNat (Cu z m.toNat),[]),sc,[0<=m/\m<=1048576])
  | _=>none
 | .apd ow x y k B =>
  match y.av s with
  | some (.sl m ys)=>(match x.reg s,sc with
   | .val .nil,sc=>some ((if ow then .own k m ys else .val (.sl m ys),[]),sc,[ys.length=m*k,m<=B])
   | .own k' n cs,sc=>if k'=k then some ((if ow then .own k (n+m) (cs++ys) else .val (.sl (n+m) (cs++ys)),PB x),sc,[ys.length=m*k,n+m<=B]) else none
   | _,_=>none)
  | _=>(B4 (fun _ _=>none) s (.apd ow x y k B)).map fun p=>(p,sc,[])
 | .sli x lo hi mx k =>
  match x.av s with
  | some (.sl n cs)=>(match XI s n mx,XI s n hi,XI s 0 lo with
   | some (m,p1),some (h,p2),some (l,p3)=>some ((.val (.sl (h-l) ((cs.drop (l*k)).take ((h-l)*k))),[]),sc,p1++(p2++(p3++[l<=h/\h<=m/\m<=n/\(mx.isSome->hi.isSome)])))
   | _,_,_=>none)
  | _=>(B4 (fun _ _=>none) s (.sli x lo hi mx k)).map fun p=>(p,sc,[])
 | .clo f xs =>
  match avs s xs with
  | some vs=>(match Zb T f vs with
   | some p=>some ((F4 p.1,[]),sc,p.2)
   | none=>(match sc with
    | .r r::sc=>some ((F4 r,[]),sc,[FK prog f vs r])
    | _=>none))
  | none=>none
 | .cln f xs ls =>
  match avs s xs with
  | some vs=>if ls.all (fun t=>Gn (A4 s t)) then (match Zb T f vs with
   | some p=>some ((F4 p.1,[]),sc,p.2)
   | none=>(match sc with
    | .r r::sc=>some ((F4 r,[]),sc,[FK prog f vs r])
    | _=>none)) else none
  | none=>none
 | .brw f x d =>
  match A4 s x with
  | .dup d'=>if d'=d then (match A4 s d with
   | .own _ n cs=>(match Zb T f [.sl n cs] with
    | some p=>some ((.val (K5 p.1),[]),sc,[cs.all (fun c => !Ut c)=true,G6 (K5 p.1)=true]++p.2)
    | none=>(match sc with
     | .r r::sc=>some ((.val (K5 r),[]),sc,[cs.all (fun c => !Ut c)=true,G6 (K5 r)=true,FK prog f [.sl n cs] r])
     | _=>none))
   | _=>none) else none
  | _=>none
 | .slo x hi k =>
  match hi.av s with
  | some (.int _ h)=>(match A4 s x with
   | .own k' n cs=>if k'=k then some ((.own k h.toNat (cs.take (h.toNat*k)),[(x,.dead)]),sc,[0<=h/\h<=n]) else none
   | _=>none)
  | _=>none
 | .cao f k x xs =>
  match avs s xs with
  | some vs=>(match x with
   | .t m=>(match A4 s m with
    | .own k' n cs=>(match Zb T f (.fresh k' n cs::vs) with
     | some p=>some ((F4 p.1,[(m,.dead)]),sc,p.2)
     | none=>(match sc with
      | .r r::sc=>some ((F4 r,[(m,.dead)]),sc,[FK prog f (.fresh k' n cs::vs) r])
      | _=>none))
    | _=>none)
   | .c (.sl 0 [])=>(match Zb T f (.fresh k 0 []::vs) with
    | some p=>some ((F4 p.1,[]),sc,p.2)
    | none=>(match sc with
     | .r r::sc=>some ((F4 r,[]),sc,[FK prog f (.fresh k 0 []::vs) r])
     | _=>none))
   | _=>none)
  | none=>none
 | k=>(B4 (fun _ _=>none) s k).map fun p=>(p,sc,[])
theorem Afx{prog:Nat->Option IFunc}{T:Cn}(hT:Ca prog T){s:Al}{m:H7}(hm:m.Ok s){k:K}{sc sc':List Sc}{p:Reg × List (Nat × Reg)}{ps:List Prop}(h:Im prog T s m k sc=some (p,sc',ps))(hp:Gk ps):B4 (U7 prog) s k=some p:=by
 cases k
 case pick c a b =>
  simp only[Im] at h;split at h
  ·rename_i hmo;simp only[Aj] at h;obtain⟨v,hv,e⟩:=h;cases e;simp only[B4,MA hm hmo,hv,A3]
  ·rename_i hmo;simp only[Aj] at h;obtain⟨v,hv,e⟩:=h;cases e;simp only[B4,MA hm hmo,hv,A3]
  split at h
  ·rename_i c' t sc1 hc;simp only[Aj] at h;obtain⟨v,hv,e⟩:=h;cases e;have:c'=t:=hp.1;subst this;cases c' with
   | true=>simp only[B4,hc];simp only at hv;rw[hv];rfl
   | false=>simp only[B4,hc];simp only at hv;rw[hv];rfl
  ·cases h
 case bin op x y =>
  simp only[Im] at h;split at h
  ·rename_i k1 a k2 b hx hy;simp only[Aj] at h;obtain⟨⟨v,ps'⟩,hv,e⟩:=h;cases e;simp only[B4,hx,hy,Afw hv hp,A3]
  ·cases h
 case ixa x i k =>
  simp only[Im] at h;split at h
  ·rename_i k1 iv n cs hi hx;cases h;simp only[B4,hi,hx,if_pos hp.1]
  ·cases h
 case ld x d n one =>
  simp only[Im] at h;split at h
  ·rename_i cs u sc1 hx;cases h;simp only[B4,hx,hp.1,A3]
  ·rename_i d' off hx;split at h
   ·rename_i hd;split at h
    ·rename_i k m cs u sc1 hr;cases h;simp only[B4,hx,if_pos hd,hr,hp.1,A3]
    ·rename_i cs hr;simp only[Aj] at h;obtain⟨q,hq,e⟩:=h;cases e;simp only[B4,hx,if_pos hd,hr,hq,A3]
    ·cases h
   ·cases h
  ·simp only[Aj] at h;obtain⟨q,hq,e⟩:=h;cases e;exact hq
 case st x d n v =>
  simp only[Im] at h;split at h
  ·cases h
  ·rename_i a ha;split at h
   ·cases h
   ·rename_i ys hys;simp only[B4,ha,hys];split at h
    ·rename_i cs hx;rw[hx];dsimp only;split at h
     ·rename_i hd;simp only[Aj] at h;obtain⟨q,hq,e⟩:=h;cases e;simp only[if_pos hd,hq,A3]
     ·cases h
    ·rename_i d' off hx;rw[hx];dsimp only;split at h
     ·rename_i hd;rw[if_pos hd];split at h
      ·rename_i k m cs cs' sc1 hr;cases h;simp only[hr,hp.1,A3]
      ·rename_i cs hr;simp only[Aj] at h;obtain⟨q,hq,e⟩:=h;cases e;simp only[hr,hq,A3]
      ·cases h
     ·cases h
    ·cases h
 case ixo x d i k =>
  simp only[Im] at h;split at h
  ·rename_i k1 iv hi;split at h
   ·rename_i n cs hx;cases h;simp only[B4,hi,hx,if_pos hp.1]
   ·rename_i d' hx;split at h
    ·rename_i hd;split at h
     ·rename_i k' n cs hr;split at h
      ·rename_i hk;cases h;simp only[B4,hi,hx,if_pos hd,hr,if_pos (show k'=k/\0<=iv/\iv<(n:Int) from ⟨hk,hp.1⟩)]
      ·cases h
     ·cases h
    ·cases h
   ·cases h
  ·cases h
 case mks z n =>
  simp only[Im] at h;split at h
  ·rename_i k1 m hn;cases h;simp only[B4,hn,if_pos hp.1]
  ·cases h
 case apd ow x y k B =>
  simp only[Im] at h;split at h
  ·rename_i m ys hy;split at h
   ·rename_i hx;cases h;simp only[B4,hy,if_pos hp.1,hx,if_pos hp.2.1]
   ·rename_i k' n cs hx;split at h
    ·rename_i hk;cases h;simp only[B4,hy,if_pos hp.1,hx,if_pos (show k'=k/\n+m<=B from ⟨hk,hp.2.1⟩)]
    ·cases h
   ·cases h
  ·simp only[Aj] at h;obtain⟨q,hq,e⟩:=h;cases e;exact hq
 case sli x lo hi mx k =>
  simp only[Im] at h;split at h
  ·rename_i n cs hx;split at h
   ·rename_i m1 p1 h1 p2 l1 p3 b1 b2 b3;cases h;rw[F6,F6,F6] at hp;simp only[B4,hx,U9 b1 hp.1,U9 b2 hp.2.1,U9 b3 hp.2.2.1,if_pos hp.2.2.2.1]
   ·cases h
  ·simp only[Aj] at h;obtain⟨q,hq,e⟩:=h;cases e;exact hq
 case six x i =>
  simp only[Im] at h;split at h
  ·rename_i b k1 iv n sc1 hx hi;cases h;have:=hp.1;simp only[Aj] at this;obtain⟨c,hc,rfl⟩:=this;simp only[B4,hx,hi,hc,A3]
  ·cases h
 case call f xs =>
  simp only[Im] at h;split at h
  ·rename_i vs hvs;split at h
   ·rename_i q hv;cases h;simp only[B4,hvs,HE (hT f vs q.1 q.2 hv hp),A3]
   ·split at h
    ·rename_i r sc1;cases h;simp only[B4,hvs,HE hp.1,A3]
    ·cases h
  ·cases h
 case clo f xs =>
  simp only[Im] at h;split at h
  ·rename_i vs hvs;split at h
   ·rename_i q hv;cases h;simp only[B4,hvs,HE (hT f vs q.1 q.2 hv hp),A3]
   ·split at h
    ·rename_i r sc1;cases h;simp only[B4,hvs,HE hp.1,A3]
    ·cases h
  ·cases h
 case cln f xs ls =>
  simp only[Im] at h;split at h
  ·rename_i vs hvs;split at h
   ·rename_i hl;split at h
    ·rename_i q hv;cases h;simp only[B4,hvs,if_pos hl,HE (hT f vs q.1 q.2 hv hp),A3]
    ·split at h
     ·rename_i r sc1;cases h;simp only[B4,hvs,if_pos hl,HE hp.1,A3]
     ·cases h
   ·cases h
  ·cases h
 case brw f x d =>
  simp only[Im] at h;split at h
  ·rename_i d' hrx;split at h
   ·rename_i hdd;split at h
    ·rename_i k n cs hrd;split at h
     ·rename_i q hv;cases h;have h1:=hp.1;have h2:=hp.2.1;have h3:=hp.2.2;simp only[B4,hrx,hdd,hrd,if_true,h1,HE (hT f _ q.1 q.2 hv h3),h2]
     ·split at h
      ·rename_i r sc1;cases h;have h1:=hp.1;have h2:=hp.2.1;simp only[B4,hrx,hdd,hrd,if_true,h1,HE hp.2.2.1,h2]
      ·cases h
    ·cases h
   ·cases h
  ·cases h
 case slo x hi k =>
  simp only[Im] at h;split at h
  ·rename_i k1 iv hi;split at h
   ·rename_i k' n cs hx;split at h
    ·rename_i hk;cases h;simp only[B4,hi,hx,if_pos (show k'=k/\0<=iv/\iv<=(n:Int) from ⟨hk,hp.1⟩)]
    ·cases h
   ·cases h
  ·cases h
 case cao f k x xs =>
  simp only[Im] at h;split at h
  ·rename_i vs hvs;split at h
   ·split at h
    ·rename_i k' n cs hx;split at h
     ·rename_i q hv;cases h;simp only[B4,hvs,hx,HE (hT f _ q.1 q.2 hv hp),A3]
     ·split at h
      ·rename_i r sc1;cases h;simp only[B4,hvs,hx,HE hp.1,A3]
      ·cases h
    ·cases h
   ·split at h
    ·rename_i q hv;cases h;simp only[B4,hvs,HE (hT f _ q.1 q.2 hv hp),A3]
    ·split at h
     ·rename_i r sc1;cases h;simp only[B4,hvs,HE hp.1,A3]
     ·cases h
   ·cases h
  ·cases h
 all_goals
  simp only[Im,Aj] at h;obtain⟨q,hq,e⟩:=h;cases e;exact hq
def jT(s:Al)(m:H7)(g:Option (Nat × Bool))(sc:List Sc):R3 (Bool × H7) :=
 match g with
 | none=>some ((true,m),sc,[])
 | some (t,b) =>
  match m.is t with
  | some x=>some ((x==b,m),sc,[])
  | none=>match A4 s t,sc with
   | .val (.bool c),.b x::sc=>some ((x==b,some (t,x)),sc,[c=x])
   | .val .undef,sc=>some ((false,m),sc,[])
   | _,_=>none
theorem XJ{s:Al}{m m':H7}(hm:m.Ok s){g:Option (Nat × Bool)}{sc sc':List Sc}{r:Bool}{ps:List Prop}(h:jT s m g sc=some ((r,m'),sc',ps))(hp:Gk ps):GM s g=some r/\m'.Ok s:=by
 unfold jT at h;split at h
 ·cases h;exact⟨rfl,hm⟩
 ·rename_i t b;split at h
  ·rename_i x hx;cases h;refine⟨?_,hm⟩;have:=MA hm (o := .t t) hx;simp only[Opd.av,Opd.reg] at this;simp only[GM];split at this
   ·rename_i y hy;cases this;rw[hy]
   ·cases this
  ·split at h
   ·rename_i c x sc1 hr;cases h;have:c=x:=hp.1;subst this;refine⟨by simp only[GM,hr],fun u y e => ?_⟩;cases e;exact hr
   ·rename_i hr;cases h;exact⟨by simp only[GM,hr],hm⟩
   ·cases h
def H7.after(m:H7)(wr:List Nat):H7 :=
 match m with
 | some (t,x)=>if wr.contains t then none else some (t,x)
 | none=>none
def Zc(prog:Nat->Option IFunc)(T:Cn)(o:IOp)(s:Al)(m:H7)(sc:List Sc):R3 (Al × H7) :=
 match jT s m o.g sc with
 | none=>none
 | some ((false,m),sc,ps)=>some ((DL s o.dst (.val .undef),m.after o.wr),sc,ps)
 | some ((true,m),sc,ps)=>match Im prog T s m o.k sc with
  | none=>none
  | some ((r,l),sc,qs)=>some ((DL (BO s l) o.dst r,m.after o.wr),sc,ps++qs)
def jU(prog:Nat->Option IFunc)(T:Cn)(o:IOp)(s:Al)(m:H7)(sc:List Sc):R3 (Al × H7):=Zc prog T o (kill s o.ks) (m.after o.ks) sc
theorem WY{s:Al}{m:H7}(hm:m.Ok s)(ks:List Nat):(m.after ks).Ok (kill s ks):=by
 intro t x e;unfold H7.after at e;split at e
 ·rename_i t' x';split at e
  ·cases e
  ·rename_i hn;cases e;rw[FF,if_neg (by simpa using hn)];exact hm _ _ rfl
 ·cases e
theorem NO{F:B7}{o:IOp}{s s':Al}{m:H7}(hm:m.Ok s)(h:Ih F o s=some s'):(m.after o.wr).Ok s':=by
 intro t x e;unfold H7.after at e;split at e
 ·rename_i t' x';split at e
  ·cases e
  ·rename_i hn;cases e;rw[XB] at h;simp only[Aj] at h;obtain⟨l,hl,rfl⟩:=h;have hk:=U0 hl;rw[N8 (fun p hp e => ?_)]
   ·exact hm _ _ rfl
   ·subst e;have:=hk p hp;simp only[I5,this,decide_true,not_true_eq_false] at hn
 ·cases e
theorem jV{prog:Nat->Option IFunc}{T:Cn}(hT:Ca prog T){o:IOp}{s s':Al}{m m':H7}(hm:m.Ok s){sc sc':List Sc}{ps:List Prop}(h:Zc prog T o s m sc=some ((s',m'),sc',ps))(hp:Gk ps):Ih (U7 prog) o s=some s'/\m'.Ok s':=by
 unfold Zc at h;split at h
 ·cases h
 ·rename_i m1 sc1 ps1 hw;cases h;obtain⟨h1,h2⟩:=XJ hm hw hp;have h3:Ih (U7 prog) o s=some (DL s o.dst (.val .undef)):=by simp only[Ih,h1]
  exact⟨h3,NO h2 h3⟩
 ·rename_i m1 sc1 ps1 hw;split at h
  ·cases h
  ·rename_i r l sc2 qs hk;cases h;rw[F6] at hp;obtain⟨h1,h2⟩:=XJ hm hw hp.1;have h3:Ih (U7 prog) o s=some (DL (BO s l) o.dst r):=by simp only[Ih,h1,Afx hT h2 hk hp.2]
   exact⟨h3,NO h2 h3⟩
theorem tV{prog:Nat->Option IFunc}{T:Cn}(hT:Ca prog T){o:IOp}{s s':Al}{m m':H7}(hm:m.Ok s){sc sc':List Sc}{ps:List Prop}(h:jU prog T o s m sc=some ((s',m'),sc',ps))(hp:Gk ps):FX (U7 prog) o s=some s'/\m'.Ok s' :=
 jV hT (WY hm o.ks) h hp
def QI(prog:Nat->Option IFunc)(T:Cn):List IOp->Al->H7->List Sc->List Prop->R3 Al
 | [],s,_,sc,ps=>some (s,sc,ps)
 | o::l,s,m,sc,ps=>match jU prog T o s m sc with
  | none=>none
  | some ((s',m'),sc',qs)=>QI prog T l s' m' sc' (ps++qs)
theorem UA{prog:Nat->Option IFunc}{T:Cn}(hT:Ca prog T):∀ {l:List IOp} {s s':Al} {m:H7} {sc sc':List Sc} {ps ps':List Prop},QI prog T l s m sc ps=some (s',sc',ps')->Gk ps'->Gk ps/\(m.Ok s->Ej (U7 prog) l s=some s')
 | [],s,s',m,sc,sc',ps,ps',h,hp=>by
  simp only[QI,A1,D0] at h;obtain⟨rfl,_,rfl⟩:=h;exact⟨hp,fun _=>rfl⟩
 | o::l,s,s',m,sc,sc',ps,ps',h,hp=>by
  simp only[QI] at h;cases h1:jU prog T o s m sc with
  | none=>rw[h1] at h;cases h
  | some q =>
   obtain⟨⟨s1,m1⟩,sc1,qs⟩:=q;rw[h1] at h;obtain⟨h2,h3⟩:=UA hT h hp;rw[F6] at h2;refine⟨h2.1,fun hm => ?_⟩;obtain⟨h4,h5⟩:=tV hT hm h1 h2.2;simp only[Ej,h4];exact h3 h5
def Hs(prog:Nat->Option IFunc)(T:Cn):Nat->ICode->Al->List Sc->List Prop->R3 (Ex × Al)
 | 0,_,_,_,_=>none
 | _+1,.skip,s,sc,ps=>some ((.norm,s),sc,ps)
 | _+1,.region _ ops,s,sc,ps=>match QI prog T ops s none sc ps with
  | none=>none
  | some (s',sc',ps')=>some ((.norm,s'),sc',ps')
 | n+1,.seq a b,s,sc,ps=>match Hs prog T n a s sc ps with
  | none=>none
  | some ((.norm,s'),sc',ps')=>Hs prog T n b s' sc' ps'
  | some ((.exit i,s'),sc',ps')=>some ((.exit i,s'),sc',ps')
  | some ((.ret,s'),sc',ps')=>some ((.ret,s'),sc',ps')
 | n+1,.cond c a b,s,sc,ps=>match c.av s,sc with
  | some (.bool v),.b true::sc=>Hs prog T n a s sc (ps++[v=true])
  | some (.bool v),.b false::sc=>Hs prog T n b s sc (ps++[v=false])
  | _,_=>none
 | n+1,.block id c,s,sc,ps=>match Hs prog T n c s sc ps with
  | none=>none
  | some ((.exit i,s'),sc',ps')=>if i=id then some ((.norm,s'),sc',ps') else some ((.exit i,s'),sc',ps')
  | some ((.norm,s'),sc',ps')=>some ((.norm,s'),sc',ps')
  | some ((.ret,s'),sc',ps')=>some ((.ret,s'),sc',ps')
 | n+1,.loop c,s,sc,ps=>match Hs prog T n c s sc ps with
  | none=>none
  | some ((.norm,s'),sc',ps')=>Hs prog T n (.loop c) s' sc' ps'
  | some ((.exit i,s'),sc',ps')=>some ((.exit i,s'),sc',ps')
  | some ((.ret,s'),sc',ps')=>some ((.ret,s'),sc',ps')
 | n+1,.scope c,s,sc,ps=>Hs prog T n c s sc ps
 | _+1,.exit id,s,sc,ps=>some ((.exit id,s),sc,ps)
 | _+1,.ret,s,sc,ps=>some ((.ret,s),sc,ps)
theorem Afy{prog:Nat->Option IFunc}{T:Cn}(hT:Ca prog T):∀ (n:Nat) {c:ICode} {s s':Al} {ex:Ex} {sc sc':List Sc} {ps ps':List Prop},Hs prog T n c s sc ps=some ((ex,s'),sc',ps')->Gk ps'->Gk ps/\Cm (U7 prog) n c s=some (ex,s'):=by
 intro n;induction n with
 | zero=>intro c s s' ex sc sc' ps ps' h;simp[Hs] at h
 | succ n ih =>
  intro c s s' ex sc sc' ps ps' h hp;cases c with
  | skip=>simp only[Hs,A1,D0] at h;obtain⟨⟨rfl,rfl⟩,_,rfl⟩:=h;exact⟨hp,rfl⟩
  | region d ops =>
   simp only[Hs] at h;split at h
   ·cases h
   ·rename_i s1 sc1 ps1 h1;cases h;obtain⟨h2,h3⟩:=UA hT h1 hp;have h4:=h3 (fun t x e=>(by cases e));exact⟨h2,by simp only[Cm,h4,A3]⟩
  | seq a b =>
   simp only[Hs] at h;split at h
   ·cases h
   ·rename_i s1 sc1 ps1 h1;obtain⟨h2,h3⟩:=ih h hp;obtain⟨h4,h5⟩:=ih h1 h2;exact⟨h4,by simp only[Cm,h5];exact h3⟩
   ·rename_i i s1 sc1 ps1 h1;cases h;obtain⟨h4,h5⟩:=ih h1 hp;exact⟨h4,by simp only[Cm,h5]⟩
   ·rename_i s1 sc1 ps1 h1;cases h;obtain⟨h4,h5⟩:=ih h1 hp;exact⟨h4,by simp only[Cm,h5]⟩
  | cond c a b =>
   simp only[Hs] at h;split at h
   ·rename_i v sc1 hc;obtain⟨h2,h3⟩:=ih h hp;rw[F6] at h2;have hv:v=true:=h2.2.1;exact⟨h2.1,by simp only[Cm,J7,hc,hv];exact h3⟩
   ·rename_i v sc1 hc;obtain⟨h2,h3⟩:=ih h hp;rw[F6] at h2;have hv:v=false:=h2.2.1;exact⟨h2.1,by simp only[Cm,J7,hc,hv];exact h3⟩
   ·cases h
  | block id c =>
   simp only[Hs] at h;split at h
   ·cases h
   ·rename_i i s1 sc1 ps1 h1;split at h
    ·rename_i hi;cases h;obtain⟨h4,h5⟩:=ih h1 hp;exact⟨h4,by simp only[Cm,h5,if_pos hi]⟩
    ·rename_i hi;cases h;obtain⟨h4,h5⟩:=ih h1 hp;exact⟨h4,by simp only[Cm,h5,if_neg hi]⟩
   ·rename_i s1 sc1 ps1 h1;cases h;obtain⟨h4,h5⟩:=ih h1 hp;exact⟨h4,by simp only[Cm,h5]⟩
   ·rename_i s1 sc1 ps1 h1;cases h;obtain⟨h4,h5⟩:=ih h1 hp;exact⟨h4,by simp only[Cm,h5]⟩
  | scope c =>
   simp only[Hs] at h;obtain⟨h4,h5⟩:=ih h hp;exact⟨h4,by simp only[Cm];exact h5⟩
  | loop c =>
   simp only[Hs] at h;split at h
   ·cases h
   ·rename_i s1 sc1 ps1 h1;obtain⟨h2,h3⟩:=ih h hp;obtain⟨h4,h5⟩:=ih h1 h2;exact⟨h4,by simp only[Cm,h5];exact h3⟩
   ·rename_i i s1 sc1 ps1 h1;cases h;obtain⟨h4,h5⟩:=ih h1 hp;exact⟨h4,by simp only[Cm,h5]⟩
   ·rename_i s1 sc1 ps1 h1;cases h;obtain⟨h4,h5⟩:=ih h1 hp;exact⟨h4,by simp only[Cm,h5]⟩
  | exit id=>simp only[Hs,A1,D0] at h;obtain⟨⟨rfl,rfl⟩,_,rfl⟩:=h;exact⟨hp,rfl⟩
  | ret=>simp only[Hs,A1,D0] at h;obtain⟨⟨rfl,rfl⟩,_,rfl⟩:=h;exact⟨hp,rfl⟩
theorem LB{prog:Nat->Option IFunc}{T:Cn}(hT:Ca prog T)(n:Nat){c:ICode}{s s':Al}{ex:Ex}(sc:List Sc){ps:List Prop}
  (h:Hs prog T n c s sc []=some ((ex,s'),[],ps)) (hp:Gk ps):DG prog c s ex s':=U6 (jS prog) n (Afy hT n h hp).2
def Afz(prog:Nat->Option IFunc)(T:Cn)(n:Nat)(fn:IFunc)(args:List AV)(sc:List Sc):Option (AV × List Prop) :=
 match Hs prog T n fn.body (GO fn args) sc [] with
 | some ((.ret,s),[],ps)=>(GN s fn.res).map fun r=>(r,ps)
 | some ((.norm,s),[],ps)=>(GN s fn.res).map fun r=>(r,ps)
 | _=>none
theorem Bx{prog:Nat->Option IFunc}{T:Cn}(hT:Ca prog T){f:Nat}{fn:IFunc}(hf:prog f=some fn)(n:Nat){args:List AV}(hl:args.length=fn.params)(sc:List Sc){r:AV}{ps:List Prop}
  (h:Afz prog T n fn args sc=some (r,ps)) (hp:Gk ps):FK prog f args r:=by
 unfold Afz at h;split at h
 ·rename_i s ps1 h1;simp only[Aj] at h;obtain⟨r',hr,e⟩:=h;cases e;exact H6 hf hl (LB hT n sc h1 hp) (fun i=>(by nofun)) hr
 ·rename_i s ps1 h1;simp only[Aj] at h;obtain⟨r',hr,e⟩:=h;cases e;exact H6 hf hl (LB hT n sc h1 hp) (fun i=>(by nofun)) hr
 ·cases h
end Go.Ai
