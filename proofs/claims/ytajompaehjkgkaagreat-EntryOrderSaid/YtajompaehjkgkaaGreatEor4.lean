/- Texts of the proof of EntryOrder: part 4 of 14. -/
import Derived.Scope
import Derived.Test.YtajompaehjkgkaaGreatEor3
namespace Go.Ai
open Go.RowKit
open _root_.Array renaming getD_eq_getD_getElem?->CB,getElem?_eq_getElem->D8,mapM_eq_mapM_toList->UW,replicate->Jm
open Bool renaming and_eq_true->Af,and_false->JN,and_true->MJ,false_eq_true->B_
open Go renaming undef->Bq
open Go.Result renaming andThen_ok->A3
open Go.Sem renaming run_bind->AQ,run_map->AEf,run_pure->Br
open Go.Value renaming bool->Xl
open List renaming cons_append->I_,contains_eq_mem->JI,getD_eq_getElem?_getD->Z,getElem?_append_left->AZ,getElem?_append_right->Bk,getElem?_eq_none->AI,getElem?_eq_some_iff->FY,getElem?_replicate_of_lt->Anr,getElem_cons_zero->Gy,getElem_toArray->fD,length_cons->B0,length_nil->HI,mapM_cons->N5,size_toArray->Jr
open Nat renaming add_zero->EJ,le_of_not_lt->PI,le_refl->Ao,lt_or_ge->Ct,not_le_of_lt->HF,strongRecOn->WX,zero_add->Cb
open Option renaming map_eq_some_iff->Am,map_some->AF
open Option.some renaming inj->NP,injEq->A9
open Prod.mk renaming injEq->DJ
def FU(P:Program)(roots:List (Nat × Nat)):Code->ICode->Bool
 | .skip,.skip=>true
 | .label _,.skip=>true
 | .region _ ops draw,.region d io=>draw==d&&OH P roots ops ops.toList io&&(!draw || TT ops io)
 | .seq a b,.seq a' b'=>FU P roots a a'&&FU P roots b b'
 | .cond c a b,.cond c' a' b'=>Ck c c'&&FU P roots a a'&&FU P roots b b'
 | .block id c,.block id' c'=>id==id'&&FU P roots c c'
 | .loop c,.loop c'=>FU P roots c c'
 | .scope c,.scope c'=>FU P roots c c'
 | .exit id,.exit id'=>id==id'
 | .ret,.ret=>true
 | _,_=>false
def Abj:Ex->Exit
 | .norm => .normal
 | .exit id => .exit id
 | .ret => .ret
theorem ZO{p:Nat->Prop}(h:∃ n,p n):∃ n,p n/\∀ m,p m->n<=m:=by
 obtain⟨n,hn⟩:=h;induction n using WX with
 | _ n ih =>
  by_cases hh:∃ m,m<n/\p m
  ·obtain⟨m,hm,hp⟩:=hh;exact ih m hm hp
  ·exact⟨n,hn,fun m hp=>PI fun hlt=>hh ⟨m,hlt,hp⟩⟩
section
variable {P:Program} {Y X0:Nat->Prop} {roots:List (Nat × Nat)} {w0:Base}
theorem simC(hm:P.follows .mixedOrders=true){F:BL}(hF:LC P F):∀ (n:Nat) (c:Code) (ic:ICode) (s s':Aj) (ex:Ex) (a:Act) (w:World) (Q:Exit->Act->World->Prop),FU P roots c ic=true ->
  Rel Y X0 roots w0 s a w->C4 F n ic s=some (ex,s')->(∀ a' w',Rel Y X0 roots w0 s' a' w'->Q (Abj ex) a' w')->c.wp P Q a w:=by
 intro n;induction n using WX with
 | _ n ih =>
  intro c ic s s' ex a w Q hok h hev hQ;cases n with
  | zero=>simp[C4] at hev
  | succ n =>
   cases ic with
   | skip =>
    cases c <;> simp only[FU] at hok <;> try cases hok
    all_goals
     simp only[C4,A9,DJ] at hev;obtain⟨rfl,rfl⟩:=hev;first | exact wp_skip (hQ _ _ h) | exact wp_label (hQ _ _ h)
   | region d io =>
    cases c <;> simp only[FU] at hok <;> try cases hok
    rename_i id ops draw;simp only[Af,beq_iff_eq] at hok;obtain⟨⟨rfl,h1⟩,h2⟩:=hok;simp only[C4,Am] at hev;obtain⟨s1,hs1,he⟩:=hev;cases he;cases draw with
    | false=>exact Adw hF h1 h hs1 hQ
    | true=>exact Adv hm hF h1 (by simpa using h2) h hs1 hQ
   | seq x y =>
    cases c <;> simp only[FU] at hok <;> try cases hok
    rename_i c1 c2;simp only[Af] at hok;simp only[C4] at hev;refine wp_seq ?_;split at hev
    ·rename_i s1 h1;refine ih n (by omega) c1 x s s1 .norm a w _ hok.1 h h1 fun a' w' h' => ?_;exact ih n (by omega) c2 y s1 s' ex a' w' Q hok.2 h' hev hQ
    ·rename_i h1;refine ih n (by omega) c1 x s s' ex a w _ hok.1 h hev fun a' w' h' => ?_;cases ex with
     | norm=>exact absurd hev (h1 s')
     | exit id=>exact hQ _ _ h'
     | ret=>exact hQ _ _ h'
   | cond o x y =>
    cases c <;> simp only[FU] at hok <;> try cases hok
    rename_i o' c1 c2;simp only[Af] at hok;obtain⟨⟨h1,h2⟩,h3⟩:=hok;simp only[C4] at hev;have key:∀ b,Lh s o=some b->a.eval o' = .bool b:=by
     intro b hb;unfold Lh at hb;split at hb
     ·rename_i b' hav;cases hb;have:=CN h h1 hav;generalize a.eval o'=v at this;cases this;rfl
     ·cases hb
    split at hev
    ·rename_i hc;exact wp_cond_true (key true hc) (ih n (by omega) c1 x s s' ex a w Q h2 h hev hQ)
    ·rename_i hc;exact wp_cond_false (key false hc) (ih n (by omega) c2 y s s' ex a w Q h3 h hev hQ)
    ·cases hev
   | block id x =>
    cases c <;> simp only[FU] at hok <;> try cases hok
    rename_i id' c1;simp only[Af,beq_iff_eq] at hok;obtain⟨rfl,hok⟩:=hok;simp only[C4] at hev;refine wp_block ?_;split at hev
    ·rename_i i s1 h1;refine ih n (by omega) c1 x s s1 (.exit i) a w _ hok h h1 fun a' w' h' => ?_;simp only[Abj,Exit.inBlock];split at hev
     ·rename_i hi;cases hev;rw[if_pos hi];exact hQ _ _ h'
     ·rename_i hi;cases hev;rw[if_neg hi];exact hQ _ _ h'
    ·rename_i h1;refine ih n (by omega) c1 x s s' ex a w _ hok h hev fun a' w' h' => ?_;cases ex with
     | norm=>exact hQ _ _ h'
     | exit i=>exact absurd hev (h1 i s')
     | ret=>exact hQ _ _ h'
   | scope x =>
    cases c <;> simp only[FU] at hok <;> try cases hok
    simp only[C4] at hev;refine wp_scope_straight ?_;refine ih n (by omega) _ x s s' ex a w _ hok h hev fun a' w' h' => ?_;cases ex with
    | norm=>exact hQ _ _ h'
    | exit i=>exact hQ _ _ h'
    | ret=>exact hQ _ _ h'
   | loop x =>
    cases c <;> simp only[FU] at hok <;> try cases hok
    rename_i c1;let p:Act->World->Nat->Prop:=fun a w m=>m<=n+1/\∃ s1,Rel Y X0 roots w0 s1 a w/\C4 F m (.loop x) s1=some (ex,s')
    let μ:Act->World->Nat:=fun a w=>@Classical.epsilon Nat ⟨0⟩ fun m=>p a w m/\∀ k,p a w k->m<=k
    have hμ:∀ a w,(∃ m,p a w m)->p a w (μ a w)/\∀ k,p a w k->μ a w<=k:=fun a w he=>@Classical.epsilon_spec_aux Nat ⟨0⟩ _ (ZO he);refine wp_loop (fun a w=>∃ m,p a w m) μ ⟨n+1,Ao _,s,h,hev⟩ ?_;intro a1 w1 hI;obtain⟨⟨hle,s1,hr1,hev1⟩,hmin⟩:=hμ a1 w1 hI;generalize hmm:μ a1 w1=m at *
    cases m with
    | zero=>simp[C4] at hev1
    | succ m =>
     simp only[C4] at hev1;split at hev1
     ·rename_i s2 h2;refine ih m (by omega) c1 x s1 s2 .norm a1 w1 _ hok hr1 h2 fun a' w' h' => ?_;have hp:p a' w' m:=⟨by omega,s2,h',hev1⟩;refine⟨⟨m,hp⟩,?_⟩;have:=(hμ a' w' ⟨m,hp⟩).2 m hp;omega
     ·rename_i h2;refine ih m (by omega) c1 x s1 s' ex a1 w1 _ hok hr1 hev1 fun a' w' h' => ?_;cases ex with
      | norm=>exact absurd hev1 (h2 s')
      | exit i=>exact hQ _ _ h'
      | ret=>exact hQ _ _ h'
   | exit id =>
    cases c <;> simp only[FU] at hok <;> try cases hok
    simp only[beq_iff_eq] at hok;subst hok;simp only[C4,A9,DJ] at hev;obtain⟨rfl,rfl⟩:=hev;exact wp_exit (hQ _ _ h)
   | ret =>
    cases c <;> simp only[FU] at hok <;> try cases hok
    simp only[C4,A9,DJ] at hev;obtain⟨rfl,rfl⟩:=hev;exact wp_ret (hQ _ _ h)
end
def SS(P:Program):ResultVar->IRes->Bool
 | .tmp t,.tmp t'=>t==t'
 | .cell t ty,.cell t' n one=>t==t'&&OB P ty n one
 | _,_=>false
def Ig(P:Program):List ResultVar->List IRes->Bool
 | [],[]=>true
 | r::l,r'::l'=>SS P r r'&&Ig P l l'
 | _,_=>false
def bC(P:Program)(roots:List (Nat × Nat))(fn:Func)(ifn:IFunc):Bool :=
 (match fn.body with | some c=>FU P roots c ifn.body | none=>false)&&fn.ntmps==ifn.slots&&Ig P fn.results.toList ifn.res&&decide (ifn.params<=ifn.slots)
section
variable {P:Program} {Y X0:Nat->Prop} {roots:List (Nat × Nat)} {w0:Base}
def OI(tm:Array Value):ResultVar->Sem Value
 | .tmp t=>pure (tm.getD t Bq)
 | .cell a t=>do loadVar t (<- asAddr (tm.getD a Bq))
theorem kO(fn:Func)(tm:Array Value):results fn tm=(fn.results.mapM (OI tm)) >>= fun vs=>pure (if h:vs.size=1 then vs[0] else .tuple vs):=by
 unfold results;congr 1
theorem Qs{s:Aj}{a:Act}{w:World}(h:Rel Y X0 roots w0 s a w):∀ {l:List ResultVar} {m:List IRes} {xs:List AV},Ig P l m=true->Eo s m=some xs ->
  ∃ vs:List Value,(l.mapM (OI a.tmps)).run P w = .ok vs w/\vs.length=xs.length /\
   ∀ (i:Nat) (h1:i<vs.length) (h2:i<xs.length),Rd Y X0 w vs[i] xs[i]
 | [],[],xs,_,hx=>by
  simp only[Eo,A9] at hx;subst hx;exact⟨[],rfl,rfl,fun i h1 _=>(by simp at h1)⟩
 | r::l,r'::m,xs,hok,hx=>by
  simp only[Ig,Af] at hok;simp only[Eo] at hx;cases h1:F2 s r' with
  | none=>rw[h1] at hx;cases hx
  | some x =>
   rw[h1] at hx;cases h2:Eo s m with
   | none=>rw[h2] at hx;cases hx
   | some xs' =>
    rw[h2] at hx;cases hx;obtain⟨vs,e1,e2,e3⟩:=Qs h hok.2 h2;have one:∃ v,(OI a.tmps r).run P w = .ok v w/\Rd Y X0 w v x:=by
     have hr:=hok.1;cases r with
     | tmp t =>
      cases r' with
      | cell _ _ _=>cases hr
      | tmp t' =>
       simp only[SS,beq_iff_eq] at hr;subst hr;have h0:=h.reg t;simp only[F2] at h1;cases hrg:A8 s t with
       | val y=>rw[hrg] at h1 h0;cases h1;exact⟨_,rfl,Rd.mono h0 fun b hb => .inl (.inl hb)⟩
       | box _=>rw[hrg] at h1;cases h1
       | ptr _ _=>rw[hrg] at h1;cases h1
       | mem _=>rw[hrg] at h1;cases h1
       | own k n cs =>
        rw[hrg] at h1 h0;cases h1;exact⟨_,rfl,Gp.frozen h0 (fun b hb => .inl (.inl hb)) (fun c hc hX=>h.low c hX (Gp.block h0 hc).1) h.lowY⟩
       | agn _ _ _ _=>rw[hrg] at h1;cases h1
       | bxl _=>rw[hrg] at h1;cases h1
       | dup _=>rw[hrg] at h1;cases h1
       | sub _ _ _ _=>rw[hrg] at h1;cases h1
       | dead=>rw[hrg] at h1;cases h1
     | cell t ty =>
      cases r' with
      | tmp _=>cases hr
      | cell t' n one =>
       simp only[SS,Af,beq_iff_eq] at hr;obtain⟨rfl,hr⟩:=hr;have h0:=h.reg t;simp only[F2] at h1;cases hrg:A8 s t with
       | box cs =>
        rw[hrg] at h1 h0;obtain⟨b,g1,_,g3⟩:=h0;obtain⟨v,g4,g5⟩:=jY (P:=P) hr g3.mem h1;refine⟨v,?_,g5.mono fun b hb => .inl (.inl hb)⟩;simp only[EJ] at g4;simp only[OI,AQ,g1,asAddr,Br,A3,g4]
       | val _=>rw[hrg] at h1;cases h1
       | ptr _ _=>rw[hrg] at h1;cases h1
       | mem _=>rw[hrg] at h1;cases h1
       | own _ _ _=>rw[hrg] at h1;cases h1
       | agn _ _ _ _=>rw[hrg] at h1;cases h1
       | bxl _=>rw[hrg] at h1;cases h1
       | dup _=>rw[hrg] at h1;cases h1
       | sub _ _ _ _=>rw[hrg] at h1;cases h1
       | dead=>rw[hrg] at h1;cases h1
    obtain⟨v,e4,e5⟩:=one;refine⟨v::vs,?_,by simp[e2],fun i g1 g2 => ?_⟩
    ·simp only[N5,AQ,e4,e1,A3,Br]
    ·cases i with
     | zero=>exact e5
     | succ i=>exact e3 i (by simpa using g1) (by simpa using g2)
 | [],_::_,_,hok,_=>by cases hok
 | _::_,[],_,hok,_=>by cases hok
theorem sU{Y X O:Nat->Prop}{B:Nat->Prop}{tm:Array Value}{w:World}{t:Nat}{v:Value}{x:AV}(hO:∀ b,O b->B b)(h:sO Y X O w v x):IR Y (fun c=>X c\/O c) B roots tm w t v (MR x):=by
 cases x
 case pt cs=>exact Aob h
 case fresh k n cs=>exact Gp.lower h hO
 all_goals exact h
theorem Adx(x:AV):Ey (MR x)=Qj x:=by cases x <;> rfl
theorem Ady{ifn:IFunc}{Y X:Nat->Prop}{w:World}{vs:Array Value}{args:List AV}(hlow:∀ b,X b->b<w.heap.size/\¬ H2 args vs b)(hlowY:∀ b,Y b->b<w.heap.size/\¬ H2 args vs b)(hs:vs.size=args.length)(hpar:args.length<=ifn.slots)
  (hr:∀ (i:Nat) (h1:i<vs.size) (h2:i<args.length),sO Y X (H2 args vs) w vs[i] args[i]) (hfr:∀ (i:Nat) (h:i<args.length),Qj args[i]=true->i=0) :
  Rel Y X roots ⟨w,H2 args vs⟩ (HM ifn args) { tmps:=vs++Jm (ifn.slots-vs.size) Bq,defers:=[] } w:=by
 have key:∀ t,(∃ x,A8 (HM ifn args) t=MR x/\args[t]? = some x)\/A8 (HM ifn args) t = .dead:=by
  intro t;simp only[A8,HM,Z];rcases Ct t args.length with h1 | h1
  ·refine .inl ⟨args[t],?_,by simp[h1]⟩;rw[AZ (by simpa using h1)];simp[h1]
  ·refine .inr ?_;rw[Bk (by simpa using h1)];rcases Ct (t-(args.map MR).length) (ifn.slots-args.length) with h2 | h2
   ·rw[Anr h2];rfl
   ·rw[AI (by simpa using h2)];rfl
 have hval:∀ t,(h:t<args.length)->(vs++Jm (ifn.slots-vs.size) Bq).getD t Bq=vs[t]'(by omega):=by
  intro t h;rw[CB,Array.getElem?_append_left (by omega),D8 (by omega)];rfl
 have hne:∀ t,Ey (A8 (HM ifn args) t)=true->t=0/\∃ (h:0<args.length),Qj args[0]=true:=by
  intro t h0;rcases key t with ⟨x,h1,h2⟩ | h1 <;> rw[h1] at h0
  ·rw[Adx] at h0;obtain⟨hlt,hx⟩:=FY.1 h2;subst hx;have:=hfr t hlt h0;subst this;exact⟨rfl,hlt,h0⟩
  ·cases h0
 have hXS:∀ b,XS (HM ifn args) (vs++Jm (ifn.slots-vs.size) Bq) b->H2 args vs b:=by
  rintro b ⟨t,h1,h2⟩;obtain⟨rfl,hlt,h3⟩:=hne t h1;rw[hval 0 hlt] at h2;refine⟨?_,by rw[CB,D8 (by omega)];exact h2⟩;cases args with
  | nil=>cases hlt
  | cons x l=>cases x <;> first | exact⟨_,_,_,l,rfl⟩ | cases h3
 refine⟨rfl,by simp[HM];omega,⟨rfl,rfl,rfl,Ao _,fun _ _=>rfl⟩,fun b hb e=>e.elim (HF (hlow b hb).1) (hlow b hb).2,fun b hb e=>e.elim (HF (hlowY b hb).1) (hlowY b hb).2,fun t => ?_,fun t t' b h1 h2 _ _=>(hne t h1).1.trans (hne t' h2).1.symm⟩;rcases key t with ⟨x,h1,h2⟩ | h1
 ·rw[h1];obtain⟨hlt,hx⟩:=FY.1 h2;have h3:=hr t (by omega) hlt;rw[hval t hlt,<- hx];have h5:=sU (roots:=roots) (tm:=vs++Jm (ifn.slots-vs.size) Bq) (t:=t) (B:=Base.mine ⟨w,H2 args vs⟩) (fun b hb => .inr hb) h3;exact h5.monoX fun b hb=>hb.imp id (hXS b)
 ·rw[h1];trivial
theorem simF(hm:P.follows .mixedOrders=true){prog:Nat->Option IFunc}(hp:∀ f ifn,prog f=some ifn->∃ fn roots,P.funcs[f]? = some fn/\bC P roots fn ifn=true):∀ n,LC P (Qe prog n):=by
 intro n;induction n with
 | zero=>intro f args x h;simp[Qe] at h
 | succ n ih =>
  intro f args x h Y X w vs hlow hlowY hs hr hfr;simp only[Qe] at h;split at h
  ·cases h
  ·rename_i ifn hifn;split at h
   ·rename_i hpar;obtain⟨fn,roots,hfn,hok⟩:=hp f ifn hifn;simp only[bC,Af,beq_iff_eq,decide_eq_true_eq] at hok;obtain⟨⟨⟨h1,h2⟩,h3⟩,h4⟩:=hok;split at h1
    ·rename_i c hc;have hrel:Rel Y X roots ⟨w,H2 args vs⟩ (HM ifn args) { tmps:=vs++Jm (fn.ntmps-vs.size) Bq,defers:=[] } w:=by
      rw[h2];exact Ady hlow hlowY hs (by omega) hr hfr
     refine calls_of_wp hfn hc ?_;have fin:∀ (s:Aj) (a':Act) (w':World),Rel Y X roots ⟨w,H2 args vs⟩ s a' w'->HL s ifn.res=some x ->
       a'.defers=[]/\∃ v,(results fn a'.tmps).run P w' = .ok v w'/\∃ v',Ending.returned v = .returned v'/\Grown ⟨w,H2 args vs⟩ w'/\Js Y X (Base.mine ⟨w,H2 args vs⟩) w' v' x:=by
      intro s a' w' hrel' hres;refine⟨hrel'.dfr,?_⟩;unfold HL at hres;have hrun:∀ (us:List Value),(fn.results.toList.mapM (OI a'.tmps)).run P w' = .ok us w' ->
        (results fn a'.tmps).run P w' = .ok (if h:us.toArray.size=1 then us.toArray[0] else .tuple us.toArray) w':=by
       intro us hus;rw[kO,UW];simp only[AQ,AEf,hus,A3,Br]
      split at hres
      ·rename_i y hy;cases hres;generalize hl:ifn.res=lres at hy h3;unfold II at hy;split at hy
       ·rename_i t;split at hy
        ·rename_i k n cs hr;cases hy;cases hfr:fn.results.toList with
         | nil=>rw[hfr] at h3;cases h3
         | cons r rest =>
          rw[hfr] at h3;cases rest with
          | cons _ _=>simp only[Ig,JN] at h3;cases h3
          | nil =>
           simp only[Ig,MJ] at h3;cases r with
           | cell _ _=>cases h3
           | tmp t' =>
            simp only[SS,beq_iff_eq] at h3;subst h3;refine⟨_,hrun [a'.tmps.getD t' Bq] (by rw[hfr];rfl),_,rfl,hrel'.below,?_⟩;simp only[Jr,B0,HI,Cb,dite_true];rcases hrel'.ownLow hr with hnil | ⟨b,cap,e1,e2,e3,e4,e5,e6,hXb⟩
            ·exact .inl hnil
            refine .inr ⟨b,cap,e1,e2,e3,e4,e5.mono fun c hc => .inl ?_,e6⟩;rcases hc with hc | hc
            ·exact .inl hc
            ·simp only[e1,Bh,H6,fD,Gy,AF,A9] at hc;exact .inr (hc ▸ hXb)
        ·rename_i bb k n cs hr;cases hy;cases hfr:fn.results.toList with
         | nil=>rw[hfr] at h3;cases h3
         | cons r rest =>
          rw[hfr] at h3;cases rest with
          | cons _ _=>simp only[Ig,JN] at h3;cases h3
          | nil =>
           simp only[Ig,MJ] at h3;cases r with
           | cell _ _=>cases h3
           | tmp t' =>
            simp only[SS,beq_iff_eq] at h3;subst h3;refine⟨_,hrun [a'.tmps.getD t' Bq] (by rw[hfr];rfl),_,rfl,hrel'.below,?_⟩;simp only[Jr,B0,HI,Cb,dite_true];have h0:=hrel'.reg t';rw[hr] at h0;have hXS:∀ c,Bh (a'.tmps.getD t' Bq)=some c->XS s a'.tmps c:=fun c hc=>⟨t',by rw[hr];rfl,hc⟩;exact Li.own h0 hXS
        ·cases hy
       ·rename_i t u;split at hy
        ·rename_i k n cs hr;split at hy
         ·rename_i bb hru;cases hy;cases hfr:fn.results.toList with
          | nil=>rw[hfr] at h3;cases h3
          | cons r rest =>
           rw[hfr] at h3;cases rest with
           | nil=>simp only[Ig,JN] at h3;cases h3
           | cons r2 rest =>
            cases rest with
            | cons _ _=>simp only[Ig,JN] at h3;cases h3
            | nil =>
             simp only[Ig,MJ,Af] at h3;obtain⟨h3,h3'⟩:=h3;cases r with
             | cell _ _=>cases h3
             | tmp t' =>
              cases r2 with
              | cell _ _=>cases h3'
              | tmp u' =>
               simp only[SS,beq_iff_eq] at h3 h3';subst h3 h3';have hu0:=hrel'.reg u';rw[hru] at hu0;have hub:a'.tmps.getD u' Bq = .bool bb:=by
                generalize a'.tmps.getD u' Bq=q at hu0;cases hu0;rfl
               refine⟨_,hrun [a'.tmps.getD t' Bq,.bool bb] (by rw[hfr,<- hub];rfl),_,rfl,hrel'.below,?_⟩;have h0:=hrel'.reg t';rw[hr] at h0;have hXS:∀ c,Bh (a'.tmps.getD t' Bq)=some c->XS s a'.tmps c:=fun c hc=>⟨t',by rw[hr];rfl,hc⟩;have hag:Li Y (fun c=>X c\/XS s a'.tmps c) (Base.mine ⟨w,H2 args vs⟩) w' (.tuple #[a'.tmps.getD t' Bq,.bool bb]) (.tp bb) k n cs:=⟨_,rfl,h0⟩;exact Li.own hag (fun c hc=>hXS c (by rw[<- hc];exact (Gq (.tp bb) h0).symm))
         ·cases hy
        ·cases hy
       ·rename_i t n one;split at hy
        ·rename_i d hr;split at hy
         ·rename_i bb k m cs hrd;split at hy
          ·rename_i hn;obtain⟨rfl,rfl⟩:=hn;cases hy;cases hfr:fn.results.toList with
           | nil=>rw[hfr] at h3;cases h3
           | cons r rest =>
            rw[hfr] at h3;cases rest with
            | cons _ _=>simp only[Ig,JN] at h3;cases h3
            | nil =>
             simp only[Ig,MJ] at h3;cases r with
             | tmp _=>cases h3
             | cell t' ty =>
              simp only[SS,Af,beq_iff_eq] at h3;obtain⟨rfl,h3⟩:=h3;have h0:=hrel'.reg t';rw[hr] at h0;obtain⟨_,b,g1,_,_,g4⟩:=h0;have h5:=hrel'.reg d;rw[hrd] at h5;obtain⟨u,hu,h5'⟩:=id h5;obtain⟨q1,q2⟩:=MS h3;rw[hu] at g4;have hl:=run_loadCells (P:=P) w' ⟨b,0,none⟩ 2 (fun i=>#[Xl bb,u].getD i Bq) (fun j hj=>by
               rw[Hs,Cb,g4 j hj];match j,hj with
               | 0,_=>rfl
               | 1,_=>rfl)
              have hload:(OI a'.tmps (.cell t' ty)).run P w' = .ok (.agg #[.bool bb,u]) w':=by
               simp only[OI,AQ,g1,asAddr,Br,A3,loadVar,q1,q2,hl,Bool.not_false,if_true];rfl
              refine⟨_,hrun [.agg #[.bool bb,u]] (by rw[hfr];simp only[N5,List.mapM_nil,AQ,hload,A3,Br]),_,rfl,hrel'.below,?_⟩;have hXS:∀ c,Bh (a'.tmps.getD d Bq)=some c->XS s a'.tmps c:=fun c hc=>⟨d,by rw[hrd];rfl,hc⟩;have:=Li.own h5 hXS;rw[hu] at this;exact this
          ·cases hy
         ·cases hy
        ·cases hy
       ·cases hy
      split at hres
      ·rename_i y hy;cases hres;obtain⟨us,g1,g2,g3⟩:=Qs hrel' h3 hy;refine⟨_,hrun us g1,_,rfl,hrel'.below,?_⟩;have hl:us.toArray.size=1:=by simpa using g2
       rw[dif_pos hl];have:=g3 0 (by simp at g2;omega) (by simp);exact .of_rd (by simpa using this)
      ·rename_i ys hne hy;cases hres;obtain⟨us,g1,g2,g3⟩:=Qs hrel' h3 hy;refine⟨_,hrun us g1,_,rfl,hrel'.below,?_⟩;have hl:¬ us.toArray.size=1:=by
        intro hh;have:ys.length=1:=by rw[<- g2];simpa using hh
        match ys,this with
        | [y],_=>exact hne y rfl
       rw[dif_neg hl];exact .of_rd (.tup _ _ (by simpa using g2) (fun i h1 h2=>by simpa using g3 i (by simpa using h1) h2))
      ·cases hres
     split at h
     ·cases h
     ·rename_i ex s hnot hev;refine simC hm ih n c ifn.body _ s ex _ w _ h1 hrel hev fun a' w' hrel' => ?_;have:=fin s a' w' hrel' h;cases ex with
      | norm=>exact this
      | ret=>exact this
      | exit i=>exact (hnot i rfl).elim
     ·cases h
    ·cases h1
   ·cases h
end
def Le(F G:BL):Prop:=∀ f args r,F f args=some r->G f args=some r
theorem A4j{F G:BL}(h:Le F G){s:Aj}{k:K}{p:Reg × List (Nat × Reg)}(hk:B7 F s k=some p):B7 G s k=some p:=by
 cases k
 case call f xs =>
  simp only[B7] at hk |-;split at hk
  ·rename_i vs hvs;simp only[Am] at hk |-;obtain⟨v,hv,he⟩:=hk;exact⟨v,h f vs v hv,he⟩
  ·cases hk
 case clo f xs =>
  simp only[B7] at hk |-;split at hk
  ·rename_i vs hvs;simp only[Am] at hk |-;obtain⟨v,hv,he⟩:=hk;exact⟨v,h f vs v hv,he⟩
  ·cases hk
 case cln f xs ls =>
  simp only[B7] at hk |-;split at hk
  ·rename_i vs hvs;split at hk
   ·rename_i hl;rw[if_pos hl];simp only[Am] at hk |-;obtain⟨v,hv,he⟩:=hk;exact⟨v,h f vs v hv,he⟩
   ·cases hk
  ·cases hk
 case brw f x d =>
  simp only[B7] at hk |-;split at hk
  ·split at hk
   ·rename_i hd;rw[if_pos hd];split at hk
    ·split at hk
     ·rename_i hc;rw[if_pos hc];split at hk
      ·rename_i y hy;rw[h _ _ _ hy];exact hk
      ·cases hk
     ·cases hk
    ·cases hk
   ·cases hk
  ·cases hk
 all_goals exact hk
theorem kP{F G:BL}(h:Le F G){o:IOp}{s s':Aj}(he:G9 F o s=some s'):G9 G o s=some s':=by
 simp only[G9,Jo] at he |-;split at he
 ·cases he
 ·exact he
 ·split at he
  ·cases he
  ·rename_i r l hk;rw[A4j h hk];exact he
theorem R9{F G:BL}(h:Le F G):∀ {l:List IOp} {s s':Aj},EA F l s=some s'->EA G l s=some s'
 | [],_,_,he=>he
 | o::l,s,s',he=>by
  simp only[EA] at he |-;cases h1:G9 F o s with
  | none=>rw[h1] at he;cases he
  | some s1 =>
   rw[h1] at he;rw[kP h h1];exact R9 h he
theorem Gf{F G:BL}(h:Le F G):∀ {n m:Nat},n<=m->∀ {c:ICode} {s:Aj} {r:Ex × Aj},C4 F n c s=some r->C4 G m c s=some r:=by
 intro n;induction n with
 | zero=>intro m _ c s r he;simp[C4] at he
 | succ n ih =>
  intro m hm c s r he;obtain⟨m,rfl⟩:∃ m',m=m'+1:=⟨m-1,by omega⟩;have hm':n<=m:=by omega
  cases c with
  | skip=>exact he
  | region d ops =>
   simp only[C4,Am] at he |-;obtain⟨s',h1,h2⟩:=he;exact⟨s',R9 h h1,h2⟩
  | seq a b =>
   simp only[C4] at he |-;cases h1:C4 F n a s with
   | none=>rw[h1] at he;cases he
   | some p =>
    rw[h1] at he;rw[ih hm' h1];obtain⟨ex,s1⟩:=p;cases ex with
    | norm=>exact ih hm' he
    | exit i=>exact he
    | ret=>exact he
  | cond c a b =>
   simp only[C4] at he |-;split at he
   ·exact ih hm' he
   ·exact ih hm' he
   ·cases he
  | block id c =>
   simp only[C4] at he |-;cases h1:C4 F n c s with
   | none=>rw[h1] at he;cases he
   | some p =>
    rw[h1] at he;rw[ih hm' h1];exact he
  | scope c=>exact ih hm' he
  | loop c =>
   simp only[C4] at he |-;cases h1:C4 F n c s with
   | none=>rw[h1] at he;cases he
   | some p =>
    rw[h1] at he;rw[ih hm' h1];obtain⟨ex,s1⟩:=p;cases ex with
    | norm=>exact ih hm' he
    | exit i=>exact he
    | ret=>exact he
  | exit id=>exact he
  | ret=>exact he
theorem E'(prog:Nat->Option IFunc):∀ {n m:Nat},n<=m->Le (Qe prog n) (Qe prog m):=by
 intro n;induction n with
 | zero=>intro m _ f args r h;simp[Qe] at h
 | succ n ih =>
  intro m hm f args r h;obtain⟨m,rfl⟩:∃ m',m=m'+1:=⟨m-1,by omega⟩;have hm':n<=m:=by omega
  simp only[Qe] at h |-;split at h
  ·cases h
  ·rename_i fn hfn;split at h
   ·rename_i hl;rw[if_pos hl];cases h1:C4 (Qe prog n) n fn.body (HM fn args) with
    | none=>rw[h1] at h;cases h
    | some p =>
     rw[h1] at h;rw[Gf (ih hm') hm' h1];exact h
   ·cases h
def Iq(prog:Nat->Option IFunc)(f:Nat)(args:List AV)(r:AV):Prop:=∃ n,Qe prog n f args=some r
def DX(prog:Nat->Option IFunc)(c:ICode)(s:Aj)(ex:Ex)(s':Aj):Prop:=∃ n,C4 (Qe prog n) n c s=some (ex,s')
theorem IB{prog:Nat->Option IFunc}{f:Nat}{fn:IFunc}{args:List AV}{s:Aj}{ex:Ex}{r:AV}(hf:prog f=some fn)(hl:args.length=fn.params)(h:DX prog fn.body (HM fn args) ex s)
  (hex:∀ i,ex ≠ .exit i) (hr:HL s fn.res=some r):Iq prog f args r:=by
 obtain⟨n,h⟩:=h;refine⟨n+1,?_⟩;simp only[Qe,hf,if_pos hl,h];cases ex with
 | norm=>exact hr
 | ret=>exact hr
 | exit i=>exact absurd rfl (hex i)
theorem DX.seq{prog:Nat->Option IFunc}{a b:ICode}{s s1 s':Aj}{ex:Ex}(h1:DX prog a s .norm s1)(h2:DX prog b s1 ex s'):DX prog (.seq a b) s ex s':=by
 obtain⟨n,h1⟩:=h1;obtain⟨m,h2⟩:=h2;refine⟨max n m+1,?_⟩;have e1:=Gf (E' prog (show n<=max n m+1 by omega)) (show n<=max n m by omega) h1;have e2:=Gf (E' prog (show m<=max n m+1 by omega)) (show m<=max n m by omega) h2;simp only[C4,e1,e2]
theorem Fb{prog:Nat->Option IFunc}{a b:ICode}{s s':Aj}{ex:Ex}(h1:DX prog a s ex s')(hex:ex ≠ .norm):DX prog (.seq a b) s ex s':=by
 obtain⟨n,h1⟩:=h1;refine⟨n+1,?_⟩;have e1:=Gf (E' prog (show n<=n+1 by omega)) (show n<=n by omega) h1;simp only[C4,e1];cases ex with
 | norm=>exact absurd rfl hex
 | exit i=>rfl
 | ret=>rfl
theorem DX.scope{prog:Nat->Option IFunc}{c:ICode}{s s':Aj}{ex:Ex}(h:DX prog c s ex s'):DX prog (.scope c) s ex s':=by
 obtain⟨n,h⟩:=h;exact⟨n+1,by simp only[C4];exact Gf (E' prog (by omega)) (Ao _) h⟩
theorem DX.block{prog:Nat->Option IFunc}{id:Nat}{c:ICode}{s s':Aj}(h:DX prog c s (.exit id) s'):DX prog (.block id c) s .norm s':=by
 obtain⟨n,h⟩:=h;refine⟨n+1,?_⟩;have e1:=Gf (E' prog (show n<=n+1 by omega)) (show n<=n by omega) h;simp only[C4,e1,if_true]
theorem MV{prog:Nat->Option IFunc}{id:Nat}{c:ICode}{s s':Aj}(h:DX prog c s .norm s'):DX prog (.block id c) s .norm s':=by
 obtain⟨n,h⟩:=h;refine⟨n+1,?_⟩;have e1:=Gf (E' prog (show n<=n+1 by omega)) (show n<=n by omega) h;simp only[C4,e1]
theorem NY{prog:Nat->Option IFunc}{id i:Nat}{c:ICode}{s s':Aj}(h:DX prog c s (.exit i) s')(hi:i ≠ id):DX prog (.block id c) s (.exit i) s':=by
 obtain⟨n,h⟩:=h;refine⟨n+1,?_⟩;have e1:=Gf (E' prog (show n<=n+1 by omega)) (show n<=n by omega) h;simp only[C4,e1,if_neg hi]
theorem NZ{prog:Nat->Option IFunc}{id:Nat}{c:ICode}{s s':Aj}(h:DX prog c s .ret s'):DX prog (.block id c) s .ret s':=by
 obtain⟨n,h⟩:=h;refine⟨n+1,?_⟩;have e1:=Gf (E' prog (show n<=n+1 by omega)) (show n<=n by omega) h;simp only[C4,e1]
theorem DX.loop{prog:Nat->Option IFunc}{c:ICode}{s s1 s':Aj}{ex:Ex}(h1:DX prog c s .norm s1)(h2:DX prog (.loop c) s1 ex s'):DX prog (.loop c) s ex s':=by
 obtain⟨n,h1⟩:=h1;obtain⟨m,h2⟩:=h2;refine⟨max n m+1,?_⟩;have e1:=Gf (E' prog (show n<=max n m+1 by omega)) (show n<=max n m by omega) h1;have e2:=Gf (E' prog (show m<=max n m+1 by omega)) (show m<=max n m by omega) h2;simp only[C4,e1,e2]
theorem PJ{prog:Nat->Option IFunc}{c:ICode}{s s':Aj}{ex:Ex}(h1:DX prog c s ex s')(hex:ex ≠ .norm):DX prog (.loop c) s ex s':=by
 obtain⟨n,h1⟩:=h1;refine⟨n+1,?_⟩;have e1:=Gf (E' prog (show n<=n+1 by omega)) (show n<=n by omega) h1;simp only[C4,e1];cases ex with
 | norm=>exact absurd rfl hex
 | exit i=>rfl
 | ret=>rfl
def Qt(prog:Nat->Option IFunc)(F:BL):Prop:=∀ f args r,F f args=some r->Iq prog f args r
theorem TV{prog:Nat->Option IFunc}{F:BL}(h:Qt prog F):∀ {l:List IOp} {s s':Aj},EA F l s=some s'->∃ n,EA (Qe prog n) l s=some s'
 | [],s,s',he=>⟨0,he⟩
 | o::l,s,s',he=>by
  simp only[EA] at he;cases h1:G9 F o s with
  | none=>rw[h1] at he;cases he
  | some s1 =>
   rw[h1] at he;obtain⟨n,hn⟩:=TV h he;have key:∃ m,G9 (Qe prog m) o s=some s1:=by
    simp only[G9,Jo] at h1 |-;generalize kill s o.ks=s at *
    split at h1
    ·cases h1
    ·exact⟨0,h1⟩
    ·split at h1
     ·cases h1
     ·rename_i r l' hk;have:∃ m,B7 (Qe prog m) s o.k=some (r,l'):=by
       cases hkk:o.k
       case call f xs =>
        rw[hkk] at hk;simp only[B7] at hk |-;split at hk
        ·rename_i vs hvs;simp only[Am] at hk;obtain⟨v,hv,e⟩:=hk;obtain⟨m,hm⟩:=h f vs v hv;exact⟨m,by simp only[hm,AF,e]⟩
        ·cases hk
       case clo f xs =>
        rw[hkk] at hk;simp only[B7] at hk |-;split at hk
        ·rename_i vs hvs;simp only[Am] at hk;obtain⟨v,hv,e⟩:=hk;obtain⟨m,hm⟩:=h f vs v hv;exact⟨m,by simp only[hm,AF,e]⟩
        ·cases hk
       case cln f xs ls =>
        rw[hkk] at hk;simp only[B7] at hk |-;split at hk
        ·rename_i vs hvs;split at hk
         ·rename_i hl;simp only[Am] at hk;obtain⟨v,hv,e⟩:=hk;obtain⟨m,hm⟩:=h f vs v hv;exact⟨m,by rw[if_pos hl,hm];simp only[AF,e]⟩
         ·cases hk
        ·cases hk
       case brw f x d =>
        rw[hkk] at hk;simp only[B7] at hk |-;split at hk
        ·split at hk
         ·rename_i hd;split at hk
          ·split at hk
           ·rename_i hc;split at hk
            ·rename_i y hy;obtain⟨m,hm⟩:=h _ _ _ hy;exact⟨m,by rw[if_pos hd,if_pos hc,hm];exact hk⟩
            ·cases hk
           ·cases hk
          ·cases hk
         ·cases hk
        ·cases hk
       all_goals (rw[hkk] at hk;exact⟨0,hk⟩)
      obtain⟨m,hm⟩:=this;exact⟨m,by rw[hm];exact h1⟩
   obtain⟨m,hm⟩:=key;refine⟨max n m,?_⟩;simp only[EA,kP (E' prog (show m<=max n m by omega)) hm];exact R9 (E' prog (show n<=max n m by omega)) hn
theorem XF{prog:Nat->Option IFunc}{F:BL}(h:Qt prog F):∀ (n:Nat) {c:ICode} {s:Aj} {ex:Ex} {s':Aj},C4 F n c s=some (ex,s')->DX prog c s ex s':=by
 intro n;induction n with
 | zero=>intro c s ex s' he;simp[C4] at he
 | succ n ih =>
  intro c s ex s' he;cases c with
  | skip=>exact⟨1,he⟩
  | region d ops =>
   simp only[C4,Am] at he;obtain⟨s1,h1,h2⟩:=he;obtain⟨m,hm⟩:=TV h h1;refine⟨m+1,?_⟩;simp only[C4,R9 (E' prog (show m<=m+1 by omega)) hm,AF,h2]
  | seq a b =>
   simp only[C4] at he;split at he
   ·rename_i s1 h1;exact DX.seq (ih h1) (ih he)
   ·rename_i h1;exact Fb (ih he) (by rintro rfl;exact h1 s' he)
  | cond c a b =>
   simp only[C4] at he;split at he
   ·rename_i hc;obtain⟨m,hm⟩:=ih he;exact⟨m+1,by simp only[C4,hc];exact Gf (E' prog (by omega)) (Ao _) hm⟩
   ·rename_i hc;obtain⟨m,hm⟩:=ih he;exact⟨m+1,by simp only[C4,hc];exact Gf (E' prog (by omega)) (Ao _) hm⟩
   ·cases he
  | block id c =>
   simp only[C4] at he;split at he
   ·rename_i i s1 h1;split at he
    ·rename_i hi;cases he;subst hi;exact DX.block (ih h1)
    ·rename_i hi;cases he;exact NY (ih h1) hi
   ·rename_i h1;cases ex with
    | norm=>exact MV (ih he)
    | exit i=>exact absurd he (h1 i s')
    | ret=>exact NZ (ih he)
  | scope c =>
   simp only[C4] at he;exact DX.scope (ih he)
  | loop c =>
   simp only[C4] at he;split at he
   ·rename_i s1 h1;exact DX.loop (ih h1) (ih he)
   ·rename_i h1;exact PJ (ih he) (by rintro rfl;exact h1 s' he)
  | exit id=>exact⟨1,he⟩
  | ret=>exact⟨1,he⟩
theorem Iq.unique{prog:Nat->Option IFunc}{f:Nat}{args:List AV}{r r':AV}(h:Iq prog f args r)(h':Iq prog f args r'):r=r':=by
 obtain⟨n,h⟩:=h;obtain⟨m,h'⟩:=h';have e1:=E' prog (show n<=max n m by omega) f args r h;have e2:=E' prog (show m<=max n m by omega) f args r' h';rw[e1] at e2;exact NP e2
open Classical in
noncomputable def XG (prog:Nat->Option IFunc):BL:=fun f args=>if h:∃ r,Iq prog f args r then some h.choose else none
theorem MW{prog:Nat->Option IFunc}{f:Nat}{args:List AV}{r:AV}(h:Iq prog f args r):XG prog f args=some r:=by
 have h':∃ r,Iq prog f args r:=⟨r,h⟩;simp only[XG,dif_pos h'];exact congrArg some (h'.choose_spec.unique h)
theorem sV(prog:Nat->Option IFunc):Qt prog (XG prog):=by
 intro f args r h;unfold XG at h;split at h
 ·rename_i h';cases h;exact h'.choose_spec
 ·cases h
abbrev C8:=List (Nat × (List AV->Option (AV × List Prop)))
def GN:List Prop->Prop
 | []=>True
 | p::l=>p/\GN l
def sW(T:C8)(f:Nat)(args:List AV):Option (AV × List Prop) :=
 match T.lookup f with
 | some g=>g args
 | none=>none
def Co(prog:Nat->Option IFunc)(T:C8):Prop:=∀ f args r ps,sW T f args=some (r,ps)->GN ps->Iq prog f args r
theorem Co.nil(prog:Nat->Option IFunc):Co prog []:=fun f args r ps h=>by simp [sW] at h
theorem Co.cons{prog:Nat->Option IFunc}{T:C8}{f:Nat}{g:List AV->Option (AV × List Prop)}(h:Co prog T)(hg:∀ args r ps,g args=some (r,ps)->GN ps->Iq prog f args r):Co prog ((f,g)::T):=by
 intro f' args r ps hr;simp only[sW,List.lookup] at hr;by_cases hf:f'=f
 ·subst hf;simp at hr;exact hg args r ps hr
 ·have:(f'==f)=false:=by simpa using hf
  simp only[this] at hr;exact h f' args r ps hr
theorem Iq.calls{P:Program}{prog:Nat->Option IFunc}{f:Nat}{args:List AV}{r:AV}(hm:P.follows .mixedOrders=true)
  (hp:∀ f ifn,prog f=some ifn->∃ fn roots,P.funcs[f]? = some fn/\bC P roots fn ifn=true) (h:Iq prog f args r) (X:Nat->Prop) (w:World) (vs:Array Value)
  (hX:∀ b,X b->b<w.heap.size) (hs:vs.size=args.length) (hr:∀ (i:Nat) (h1:i<vs.size) (h2:i<args.length),Rd (fun _=>False) X w vs[i] args[i]) :
  Calls P f vs w fun e w'=>∃ v,e = .returned v/\Below w.heap.size w w'/\Rd (fun _=>False) X w' v (Mq r):=by
 obtain⟨n,h⟩:=h;exact ((simF hm hp n).plain f args r h _ X w vs hX (fun _ h=>h.elim) hs hr).mono fun e w' ⟨v,h1,h2,h3⟩=>⟨v,h1,h2,h3.thawed (fun b hb=>HF (hX b hb)) (fun _ h=>h.elim)⟩
inductive Sc where
 | b (x:Bool)
 | v (x:AV)
 | l (cs:List AV)
 | r (x:AV)
theorem E_:∀ {l m:List Prop},GN (l++m)↔GN l/\GN m
 | [],m=>by simp[GN]
 | p::l,m=>by simp only[I_,GN,E_ (l:=l),and_assoc]
abbrev R3(α:Type):=Option (α × List Sc × List Prop)
def XH(op:BinOp)(k k':IntKind)(a b:Int):Option (AV × List Prop) :=
 match op with
 | .quo=>if k=k' then some (.int k (k.wrap (a.tdiv b)),[¬ b=0]) else none
 | .rem=>if k=k' then some (.int k (a.tmod b),[¬ b=0]) else none
 | .shl=>some (.int k (k.wrap (a*2^(min b.toNat k.bits))),[¬ b<0])
 | .shr=>some (.int k (a.fdiv (2^(min b.toNat k.bits))),[¬ b<0])
 | op=>(NS op (.int k a) (.int k' b)).map fun v=>(v,[])
theorem Aon{op:BinOp}{k k':IntKind}{a b:Int}{v:AV}{ps:List Prop}(h:XH op k k' a b=some (v,ps))(hp:GN ps):NS op (.int k a) (.int k' b)=some v:=by
 cases op
 case quo =>
  simp only[XH] at h;split at h
  ·rename_i hk;cases h;simp only[NS,KG,hk,jR];simp only[B_,if_false,if_true,if_neg hp.1]
  ·cases h
 case rem =>
  simp only[XH] at h;split at h
  ·rename_i hk;cases h;simp only[NS,KG,hk,jR];simp only[B_,if_false,if_true,if_neg hp.1]
  ·cases h
 case shl =>
  simp only[XH] at h;cases h;simp only[NS,KG,if_true,TO,if_neg hp.1]
 case shr =>
  simp only[XH] at h;cases h;simp only[NS,KG,if_true,TO,if_neg hp.1]
 all_goals
  simp only[XH,Am] at h;obtain⟨u,hu,e⟩:=h;cases e;exact hu
abbrev IC:=Option (Nat × Bool)
def IC.is(m:IC)(t:Nat):Option Bool :=
 match m with
 | some (u,x)=>if u=t then some x else none
 | none=>none
def IC.opd(m:IC):Opd->Option Bool
 | .t n=>m.is n
 | .c _=>none
def IC.Ok(s:Aj)(m:IC):Prop:=∀ t x,m=some (t,x)->A8 s t = .val (.bool x)
theorem OJ{s:Aj}{m:IC}(h:m.Ok s){o:Opd}{x:Bool}(ho:m.opd o=some x):o.av s=some (.bool x):=by
 cases o with
 | c y=>cases ho
 | t n =>
  simp only[IC.opd,IC.is] at ho;split at ho
  ·rename_i u y;split at ho
   ·rename_i hu;cases ho;subst hu;simp only[Opd.av,Opd.reg,h _ _ rfl]
   ·cases ho
  ·cases ho
def Wj(s:Aj)(d:Nat):Option Opd->Option (Nat × List Prop)
 | none=>some (d,[])
 | some o=>match o.av s with
  | some (.int _ i)=>some (i.toNat,[0<=i])
  | _=>none
theorem Qu{s:Aj}{d:Nat}{o:Option Opd}{n:Nat}{ps:List Prop}(h:Wj s d o=some (n,ps))(hp:GN ps):Hm s d o=some n:=by
 cases o with
 | none=>simp only[Wj,A9,DJ] at h;rw[<- h.1];rfl
 | some o =>
  simp only[Wj] at h;simp only[Hm];split at h
  ·rename_i k i hi;cases h;rw[hi];simp only[if_pos hp.1]
  ·cases h
def ID(prog:Nat->Option IFunc)(T:C8)(s:Aj)(m:IC)(k:K)(sc:List Sc):R3 (Reg × List (Nat × Reg)) :=
 match k with
 | .pick c a b =>
  match m.opd c with
  | some true=>(a.av s).map fun v=>((.val v,[]),sc,[])
  | some false=>(b.av s).map fun v=>((.val v,[]),sc,[])
  | none=>match c.av s,sc with
  | some (.bool c),.b t::sc=>(match t with | true=>(a.av s) | false=>(b.av s)).map fun v=>((.val v,[]),sc,[c=t])
  | _,_=>none
 | .bin op x y =>
  match x.av s,y.av s with
  | some (.int k a),some (.int k' b)=>(XH op k k' a b).map fun p=>((.val p.1,[]),sc,p.2)
  | _,_=>none
 | .ixa x i k =>
  match i.av s,A8 s x with
  | some (.int _ i),.val (.sl n cs)=>some ((.mem (cs.drop (i.toNat*k)),[]),sc,[0<=i/\i<n])
  | _,_=>none
 | .ld x d n one =>
  match A8 s x,sc with
  | .mem cs,.v u::sc=>some ((.val u,[]),sc,[Bj cs 0 n one=some u])
  | .ptr d' off,sc=>if d'=d then (match A8 s d,sc with
   | .own _ _ cs,.v u::sc=>some ((.val u,[]),sc,[Bj cs off n one=some u])
   | .box cs,sc=>(Bj cs off n one).map fun v=>((.val v,[]),sc,[])
   | _,_=>none) else none
  | _,sc=>(B7 (fun _ _=>none) s (.ld x d n one)).map fun p=>(p,sc,[])
 | .six x i =>
  match x.av s,i.av s,sc with
  | some (.str b),some (.int _ i),.v (.int .u8 n)::sc=>some ((.val (.int .u8 n),[]),sc,[((if 0<=i then b[i.toNat]? else none).map fun c=>(c.toNat:Int))=some n])
  | _,_,_=>none
 | .call f xs =>
  match avs s xs with
  | some vs=>(match sW T f vs with
   | some p=>some ((.val (Mq p.1),[]),sc,p.2)
   | none=>(match sc with
    | .r r::sc=>some ((.val (Mq r),[]),sc,[Iq prog f vs r])
    | _=>none))
  | none=>none
 | .st x d n v =>
  match v.av s with
  | none=>none
  | some a=>match GU a n with
   | none=>none
   | some ys=>match A8 s x with
    | .box cs=>if x=d then (C5 cs 0 ys).map fun cs'=>((.dead,[(d,.box cs')]),sc,[]) else none
    | .ptr d' off=>if d'=d then (match A8 s d,sc with
     | .own k m cs,.l cs'::sc=>some ((.dead,[(d,.own k m cs')]),sc,[C5 cs off ys=some cs'])
     | .box cs,sc=>(C5 cs off ys).map fun cs'=>((.dead,[(d,.box cs')]),sc,[])
     | _,_=>none) else none
    | _=>none
 | .ixo x d i k =>
  match i.av s with
  | some (.int _ i)=>(match A8 s x with
   | .val (.sl n cs)=>some ((.mem (cs.drop (i.toNat*k)),[]),sc,[0<=i/\i<n])
   | .dup d'=>if d'=d then (match A8 s d with
    | .own k' n _=>if k'=k then some ((.ptr d (i.toNat*k),[]),sc,[0<=i/\i<n]) else none
    | _=>none) else none
   | _=>none)
  | _=>none
 | .mks z n =>
  match n.av s with
  | some (.int _ m)=>some ((.own z.length m.toNat (CD z m.toNat),[]),sc,[0<=m/\m<=1048576])
  | _=>none
 | .apd ow x y k B =>
  match y.av s with
  | some (.sl m ys)=>(match x.reg s,sc with
   | .val .nil,sc=>some ((if ow then .own k m ys else .val (.sl m ys),[]),sc,[ys.length=m*k,m<=B])
   | .own k' n cs,sc=>if k'=k then some ((if ow then .own k (n+m) (cs++ys) else .val (.sl (n+m) (cs++ys)),SM x),sc,[ys.length=m*k,n+m<=B]) else none
   | _,_=>none)
  | _=>(B7 (fun _ _=>none) s (.apd ow x y k B)).map fun p=>(p,sc,[])
 | .sli x lo hi mx k =>
  match x.av s with
  | some (.sl n cs)=>(match Wj s n mx,Wj s n hi,Wj s 0 lo with
   | some (m,p1),some (h,p2),some (l,p3)=>some ((.val (.sl (h-l) ((cs.drop (l*k)).take ((h-l)*k))),[]),sc,p1++(p2++(p3++[l<=h/\h<=m/\m<=n/\(mx.isSome->hi.isSome)])))
   | _,_,_=>none)
  | _=>(B7 (fun _ _=>none) s (.sli x lo hi mx k)).map fun p=>(p,sc,[])
 | .clo f xs =>
  match avs s xs with
  | some vs=>(match sW T f vs with
   | some p=>some ((MQ p.1,[]),sc,p.2)
   | none=>(match sc with
    | .r r::sc=>some ((MQ r,[]),sc,[Iq prog f vs r])
    | _=>none))
  | none=>none
 | .cln f xs ls =>
  match avs s xs with
  | some vs=>if ls.all (fun t=>GT (A8 s t)) then (match sW T f vs with
   | some p=>some ((MQ p.1,[]),sc,p.2)
   | none=>(match sc with
    | .r r::sc=>some ((MQ r,[]),sc,[Iq prog f vs r])
    | _=>none)) else none
  | none=>none
 | .brw f x d =>
  match A8 s x with
  | .dup d'=>if d'=d then (match A8 s d with
   | .own _ n cs=>(match sW T f [.sl n cs] with
    | some p=>some ((.val (Mq p.1),[]),sc,[cs.all (fun c => !X3 c)=true,Hr (Mq p.1)=true]++p.2)
    | none=>(match sc with
     | .r r::sc=>some ((.val (Mq r),[]),sc,[cs.all (fun c => !X3 c)=true,Hr (Mq r)=true,Iq prog f [.sl n cs] r])
     | _=>none))
   | _=>none) else none
  | _=>none
 | .slo x hi k =>
  match hi.av s with
  | some (.int _ h)=>(match A8 s x with
   | .own k' n cs=>if k'=k then some ((.own k h.toNat (cs.take (h.toNat*k)),[(x,.dead)]),sc,[0<=h/\h<=n]) else none
   | _=>none)
  | _=>none
 | .sub x d lo hi k =>
  match A8 s x with
  | .dup d'=>if d'=d then (match A8 s d with
   | .own k' n _=>(match Wj s n hi,Wj s 0 lo with
    | some (h,p1),some (l,p2)=>if k'=k then some ((.sub d k l h,[]),sc,p1++(p2++[l<=h/\h<=n])) else none
    | _,_=>none)
   | _=>none) else none
  | _=>none
 | .app ow x d y k =>
  match A8 s x with
  | .sub d' k' l h=>if d'=d/\k'=k/\l=0 then (match A8 s d with
   | .own k'' n cs=>if k''=k then (match y.av s with
    | some (.sl m ys)=>some ((if ow then .own k (h+m) (cs.take (h*k)++ys) else .val (.sl (h+m) (cs.take (h*k)++ys)),[(d,.dead),(x,.dead)]),sc,[h<=n,ys.length=m*k/\h+m<=1048576])
    | _=>none) else none
   | _=>none) else none
  | _=>none
 | .apb ow x y d k =>
  match A8 s x with
  | .own k0 n cs=>(match A8 s y with
   | .sub d' k' l h=>if d'=d/\k'=k/\k0=k then (match A8 s d with
    | .own k'' n' cs'=>if k''=k then some ((if ow then .own k (n+(h-l)) (cs++(cs'.drop (l*k)).take ((h-l)*k)) else .val (.sl (n+(h-l)) (cs++(cs'.drop (l*k)).take ((h-l)*k))),[(x,.dead)]),sc,[h<=n'/\n+(h-l)<=1048576]) else none
    | _=>none) else none
   | _=>none)
  | _=>none
 | k=>(B7 (fun _ _=>none) s k).map fun p=>(p,sc,[])
theorem Aoo{prog:Nat->Option IFunc}{T:C8}(hT:Co prog T){s:Aj}{m:IC}(hm:m.Ok s){k:K}{sc sc':List Sc}{p:Reg × List (Nat × Reg)}{ps:List Prop}(h:ID prog T s m k sc=some (p,sc',ps))(hp:GN ps):B7 (XG prog) s k=some p:=by
 cases k
 case pick c a b =>
  simp only[ID] at h;split at h
  ·rename_i hmo;simp only[Am] at h;obtain⟨v,hv,e⟩:=h;cases e;simp only[B7,OJ hm hmo,hv,AF]
  ·rename_i hmo;simp only[Am] at h;obtain⟨v,hv,e⟩:=h;cases e;simp only[B7,OJ hm hmo,hv,AF]
  split at h
  ·rename_i c' t sc1 hc;simp only[Am] at h;obtain⟨v,hv,e⟩:=h;cases e;have:c'=t:=hp.1;subst this;cases c' with
   | true=>simp only[B7,hc];simp only at hv;rw[hv];rfl
   | false=>simp only[B7,hc];simp only at hv;rw[hv];rfl
  ·cases h
 case bin op x y =>
  simp only[ID] at h;split at h
  ·rename_i k1 a k2 b hx hy;simp only[Am] at h;obtain⟨⟨v,ps'⟩,hv,e⟩:=h;cases e;simp only[B7,hx,hy,Aon hv hp,AF]
  ·cases h
 case ixa x i k =>
  simp only[ID] at h;split at h
  ·rename_i k1 iv n cs hi hx;cases h;simp only[B7,hi,hx,if_pos hp.1]
  ·cases h
 case ld x d n one =>
  simp only[ID] at h;split at h
  ·rename_i cs u sc1 hx;cases h;simp only[B7,hx,hp.1,AF]
  ·rename_i d' off hx;split at h
   ·rename_i hd;split at h
    ·rename_i k m cs u sc1 hr;cases h;simp only[B7,hx,if_pos hd,hr,hp.1,AF]
    ·rename_i cs hr;simp only[Am] at h;obtain⟨q,hq,e⟩:=h;cases e;simp only[B7,hx,if_pos hd,hr,hq,AF]
    ·cases h
   ·cases h
  ·simp only[Am] at h;obtain⟨q,hq,e⟩:=h;cases e;exact hq
 case st x d n v =>
  simp only[ID] at h;split at h
  ·cases h
  ·rename_i a ha;split at h
   ·cases h
   ·rename_i ys hys;simp only[B7,ha,hys];split at h
    ·rename_i cs hx;rw[hx];dsimp only;split at h
     ·rename_i hd;simp only[Am] at h;obtain⟨q,hq,e⟩:=h;cases e;simp only[if_pos hd,hq,AF]
     ·cases h
    ·rename_i d' off hx;rw[hx];dsimp only;split at h
     ·rename_i hd;rw[if_pos hd];split at h
      ·rename_i k m cs cs' sc1 hr;cases h;simp only[hr,hp.1,AF]
      ·rename_i cs hr;simp only[Am] at h;obtain⟨q,hq,e⟩:=h;cases e;simp only[hr,hq,AF]
      ·cases h
     ·cases h
    ·cases h
 case ixo x d i k =>
  simp only[ID] at h;split at h
  ·rename_i k1 iv hi;split at h
   ·rename_i n cs hx;cases h;simp only[B7,hi,hx,if_pos hp.1]
   ·rename_i d' hx;split at h
    ·rename_i hd;split at h
     ·rename_i k' n cs hr;split at h
      ·rename_i hk;cases h;simp only[B7,hi,hx,if_pos hd,hr,if_pos (show k'=k/\0<=iv/\iv<(n:Int) from ⟨hk,hp.1⟩)]
      ·cases h
     ·cases h
    ·cases h
   ·cases h
  ·cases h
 case mks z n =>
  simp only[ID] at h;split at h
  ·rename_i k1 m hn;cases h;simp only[B7,hn,if_pos hp.1]
  ·cases h
 case apd ow x y k B =>
  simp only[ID] at h;split at h
  ·rename_i m ys hy;split at h
   ·rename_i hx;cases h;simp only[B7,hy,if_pos hp.1,hx,if_pos hp.2.1]
   ·rename_i k' n cs hx;split at h
    ·rename_i hk;cases h;simp only[B7,hy,if_pos hp.1,hx,if_pos (show k'=k/\n+m<=B from ⟨hk,hp.2.1⟩)]
    ·cases h
   ·cases h
  ·simp only[Am] at h;obtain⟨q,hq,e⟩:=h;cases e;exact hq
 case sli x lo hi mx k =>
  simp only[ID] at h;split at h
  ·rename_i n cs hx;split at h
   ·rename_i m1 p1 h1 p2 l1 p3 b1 b2 b3;cases h;rw[E_,E_,E_] at hp;simp only[B7,hx,Qu b1 hp.1,Qu b2 hp.2.1,Qu b3 hp.2.2.1,if_pos hp.2.2.2.1]
   ·cases h
  ·simp only[Am] at h;obtain⟨q,hq,e⟩:=h;cases e;exact hq
 case six x i =>
  simp only[ID] at h;split at h
  ·rename_i b k1 iv n sc1 hx hi;cases h;have:=hp.1;simp only[Am] at this;obtain⟨c,hc,rfl⟩:=this;simp only[B7,hx,hi,hc,AF]
  ·cases h
 case call f xs =>
  simp only[ID] at h;split at h
  ·rename_i vs hvs;split at h
   ·rename_i q hv;cases h;simp only[B7,hvs,MW (hT f vs q.1 q.2 hv hp),AF]
   ·split at h
    ·rename_i r sc1;cases h;simp only[B7,hvs,MW hp.1,AF]
    ·cases h
  ·cases h
 case clo f xs =>
  simp only[ID] at h;split at h
  ·rename_i vs hvs;split at h
   ·rename_i q hv;cases h;simp only[B7,hvs,MW (hT f vs q.1 q.2 hv hp),AF]
   ·split at h
    ·rename_i r sc1;cases h;simp only[B7,hvs,MW hp.1,AF]
    ·cases h
  ·cases h
 case cln f xs ls =>
  simp only[ID] at h;split at h
  ·rename_i vs hvs;split at h
   ·rename_i hl;split at h
    ·rename_i q hv;cases h;simp only[B7,hvs,if_pos hl,MW (hT f vs q.1 q.2 hv hp),AF]
    ·split at h
     ·rename_i r sc1;cases h;simp only[B7,hvs,if_pos hl,MW hp.1,AF]
     ·cases h
   ·cases h
  ·cases h
 case brw f x d =>
  simp only[ID] at h;split at h
  ·rename_i d' hrx;split at h
   ·rename_i hdd;split at h
    ·rename_i k n cs hrd;split at h
     ·rename_i q hv;cases h;have h1:=hp.1;have h2:=hp.2.1;have h3:=hp.2.2;simp only[B7,hrx,hdd,hrd,if_true,h1,MW (hT f _ q.1 q.2 hv h3),h2]
     ·split at h
      ·rename_i r sc1;cases h;have h1:=hp.1;have h2:=hp.2.1;simp only[B7,hrx,hdd,hrd,if_true,h1,MW hp.2.2.1,h2]
      ·cases h
    ·cases h
   ·cases h
  ·cases h
 case slo x hi k =>
  simp only[ID] at h;split at h
  ·rename_i k1 iv hi;split at h
   ·rename_i k' n cs hx;split at h
    ·rename_i hk;cases h;simp only[B7,hi,hx,if_pos (show k'=k/\0<=iv/\iv<=(n:Int) from ⟨hk,hp.1⟩)]
    ·cases h
   ·cases h
  ·cases h
 case sub x d lo hi k =>
  simp only[ID] at h;split at h
  ·rename_i d' hx;split at h
   ·rename_i hd;split at h
    ·rename_i k' n cs hr;split at h
     ·rename_i h1 p1 l1 p2 b1 b2;split at h
      ·rename_i hk;cases h;rw[E_,E_] at hp;simp only[B7,hx,if_pos hd,hr,Qu b1 hp.1,Qu b2 hp.2.1,if_pos (show k'=k/\l1<=h1/\h1<=n from ⟨hk,hp.2.2.1⟩)]
      ·cases h
     ·cases h
    ·cases h
   ·cases h
  ·cases h
 case app ow x d y k =>
  simp only[ID] at h;split at h
  ·rename_i d' k' l1 h1 hx;split at h
   ·rename_i hd;split at h
    ·rename_i k2 n cs hr;split at h
     ·rename_i hk;split at h
      ·rename_i m ys hy;cases h;simp only[B7,hx,if_pos hd,hr,if_pos (show k2=k/\h1<=n from ⟨hk,hp.1⟩),hy,if_pos hp.2.1]
      ·cases h
     ·cases h
    ·cases h
   ·cases h
  ·cases h
 case apb ow x y d k =>
  simp only[ID] at h;split at h
  ·rename_i k0 n cs hx;split at h
   ·rename_i d' k' l1 h1 hy;split at h
    ·rename_i hd;split at h
     ·rename_i k2 n2 cs2 hr;split at h
      ·rename_i hk;cases h;simp only[B7,hx,hy,if_pos hd,hr,if_pos (show k2=k/\h1<=n2/\n+(h1-l1)<=1048576 from ⟨hk,hp.1⟩)]
      ·cases h
     ·cases h
    ·cases h
   ·cases h
  ·cases h
 all_goals
  simp only[ID,Am] at h;obtain⟨q,hq,e⟩:=h;cases e;exact hq
def sX(s:Aj)(m:IC)(g:Option (Nat × Bool))(sc:List Sc):R3 (Bool × IC) :=
 match g with
 | none=>some ((true,m),sc,[])
 | some (t,b) =>
  match m.is t with
  | some x=>some ((x==b,m),sc,[])
  | none=>match A8 s t,sc with
   | .val (.bool c),.b x::sc=>some ((x==b,some (t,x)),sc,[c=x])
   | .val .undef,sc=>some ((false,m),sc,[])
   | _,_=>none
theorem bD{s:Aj}{m m':IC}(hm:m.Ok s){g:Option (Nat × Bool)}{sc sc':List Sc}{r:Bool}{ps:List Prop}(h:sX s m g sc=some ((r,m'),sc',ps))(hp:GN ps):HK s g=some r/\m'.Ok s:=by
 unfold sX at h;split at h
 ·cases h;exact⟨rfl,hm⟩
 ·rename_i t b;split at h
  ·rename_i x hx;cases h;refine⟨?_,hm⟩;have:=OJ hm (o := .t t) hx;simp only[Opd.av,Opd.reg] at this;simp only[HK];split at this
   ·rename_i y hy;cases this;rw[hy]
   ·cases this
  ·split at h
   ·rename_i c x sc1 hr;cases h;have:c=x:=hp.1;subst this;refine⟨by simp only[HK,hr],fun u y e => ?_⟩;cases e;exact hr
   ·rename_i hr;cases h;exact⟨by simp only[HK,hr],hm⟩
   ·cases h
def IC.after(m:IC)(wr:List Nat):IC :=
 match m with
 | some (t,x)=>if wr.contains t then none else some (t,x)
 | none=>none
def fR(prog:Nat->Option IFunc)(T:C8)(o:IOp)(s:Aj)(m:IC)(sc:List Sc):R3 (Aj × IC) :=
 match sX s m o.g sc with
 | none=>none
 | some ((false,m),sc,ps)=>some ((Ea s o.dst (.val .undef),m.after o.wr),sc,ps)
 | some ((true,m),sc,ps)=>match ID prog T s m o.k sc with
  | none=>none
  | some ((r,l),sc,qs)=>some ((Ea (BZ s l) o.dst r,m.after o.wr),sc,ps++qs)
def sY(prog:Nat->Option IFunc)(T:C8)(o:IOp)(s:Aj)(m:IC)(sc:List Sc):R3 (Aj × IC):=fR prog T o (kill s o.ks) (m.after o.ks) sc
theorem ZP{s:Aj}{m:IC}(hm:m.Ok s)(ks:List Nat):(m.after ks).Ok (kill s ks):=by
 intro t x e;unfold IC.after at e;split at e
 ·rename_i t' x';split at e
  ·cases e
  ·rename_i hn;cases e;rw[Gn,if_neg (by simpa using hn)];exact hm _ _ rfl
 ·cases e
theorem Qv{F:BL}{o:IOp}{s s':Aj}{m:IC}(hm:m.Ok s)(h:Jo F o s=some s'):(m.after o.wr).Ok s':=by
 intro t x e;unfold IC.after at e;split at e
 ·rename_i t' x';split at e
  ·cases e
  ·rename_i hn;cases e;rw[aV] at h;simp only[Am] at h;obtain⟨l,hl,rfl⟩:=h;have hk:=XA hl;rw[Qf (fun p hp e => ?_)]
   ·exact hm _ _ rfl
   ·subst e;have:=hk p hp;simp only[JI,this,decide_true,not_true_eq_false] at hn
 ·cases e
theorem sZ{prog:Nat->Option IFunc}{T:C8}(hT:Co prog T){o:IOp}{s s':Aj}{m m':IC}(hm:m.Ok s){sc sc':List Sc}{ps:List Prop}(h:fR prog T o s m sc=some ((s',m'),sc',ps))(hp:GN ps):Jo (XG prog) o s=some s'/\m'.Ok s':=by
 unfold fR at h;split at h
 ·cases h
 ·rename_i m1 sc1 ps1 hw;cases h;obtain⟨h1,h2⟩:=bD hm hw hp;have h3:Jo (XG prog) o s=some (Ea s o.dst (.val .undef)):=by simp only[Jo,h1]
  exact⟨h3,Qv h2 h3⟩
 ·rename_i m1 sc1 ps1 hw;split at h
  ·cases h
  ·rename_i r l sc2 qs hk;cases h;rw[E_] at hp;obtain⟨h1,h2⟩:=bD hm hw hp.1;have h3:Jo (XG prog) o s=some (Ea (BZ s l) o.dst r):=by simp only[Jo,h1,Aoo hT h2 hk hp.2]
   exact⟨h3,Qv h2 h3⟩
theorem Adz{prog:Nat->Option IFunc}{T:C8}(hT:Co prog T){o:IOp}{s s':Aj}{m m':IC}(hm:m.Ok s){sc sc':List Sc}{ps:List Prop}(h:sY prog T o s m sc=some ((s',m'),sc',ps))(hp:GN ps):G9 (XG prog) o s=some s'/\m'.Ok s' :=
 sZ hT (ZP hm o.ks) h hp
def TW(prog:Nat->Option IFunc)(T:C8):List IOp->Aj->IC->List Sc->List Prop->R3 Aj
 | [],s,_,sc,ps=>some (s,sc,ps)
 | o::l,s,m,sc,ps=>match sY prog T o s m sc with
  | none=>none
  | some ((s',m'),sc',qs)=>TW prog T l s' m' sc' (ps++qs)
theorem XI{prog:Nat->Option IFunc}{T:C8}(hT:Co prog T):∀ {l:List IOp} {s s':Aj} {m:IC} {sc sc':List Sc} {ps ps':List Prop},TW prog T l s m sc ps=some (s',sc',ps')->GN ps'->GN ps/\(m.Ok s->EA (XG prog) l s=some s')
 | [],s,s',m,sc,sc',ps,ps',h,hp=>by
  simp only[TW,A9,DJ] at h;obtain⟨rfl,_,rfl⟩:=h;exact⟨hp,fun _=>rfl⟩
 | o::l,s,s',m,sc,sc',ps,ps',h,hp=>by
  simp only[TW] at h;cases h1:sY prog T o s m sc with
  | none=>rw[h1] at h;cases h
  | some q =>
   obtain⟨⟨s1,m1⟩,sc1,qs⟩:=q;rw[h1] at h;obtain⟨h2,h3⟩:=XI hT h hp;rw[E_] at h2;refine⟨h2.1,fun hm => ?_⟩;obtain⟨h4,h5⟩:=Adz hT hm h1 h2.2;simp only[EA,h4];exact h3 h5
def Ir(prog:Nat->Option IFunc)(T:C8):Nat->ICode->Aj->List Sc->List Prop->R3 (Ex × Aj)
 | 0,_,_,_,_=>none
 | _+1,.skip,s,sc,ps=>some ((.norm,s),sc,ps)
 | _+1,.region _ ops,s,sc,ps=>match TW prog T ops s none sc ps with
  | none=>none
  | some (s',sc',ps')=>some ((.norm,s'),sc',ps')
 | n+1,.seq a b,s,sc,ps=>match Ir prog T n a s sc ps with
  | none=>none
  | some ((.norm,s'),sc',ps')=>Ir prog T n b s' sc' ps'
  | some ((.exit i,s'),sc',ps')=>some ((.exit i,s'),sc',ps')
  | some ((.ret,s'),sc',ps')=>some ((.ret,s'),sc',ps')
 | n+1,.cond c a b,s,sc,ps=>match c.av s,sc with
  | some (.bool v),.b true::sc=>Ir prog T n a s sc (ps++[v=true])
  | some (.bool v),.b false::sc=>Ir prog T n b s sc (ps++[v=false])
  | _,_=>none
 | n+1,.block id c,s,sc,ps=>match Ir prog T n c s sc ps with
  | none=>none
  | some ((.exit i,s'),sc',ps')=>if i=id then some ((.norm,s'),sc',ps') else some ((.exit i,s'),sc',ps')
  | some ((.norm,s'),sc',ps')=>some ((.norm,s'),sc',ps')
  | some ((.ret,s'),sc',ps')=>some ((.ret,s'),sc',ps')
 | n+1,.loop c,s,sc,ps=>match Ir prog T n c s sc ps with
  | none=>none
  | some ((.norm,s'),sc',ps')=>Ir prog T n (.loop c) s' sc' ps'
  | some ((.exit i,s'),sc',ps')=>some ((.exit i,s'),sc',ps')
  | some ((.ret,s'),sc',ps')=>some ((.ret,s'),sc',ps')
 | n+1,.scope c,s,sc,ps=>Ir prog T n c s sc ps
 | _+1,.exit id,s,sc,ps=>some ((.exit id,s),sc,ps)
 | _+1,.ret,s,sc,ps=>some ((.ret,s),sc,ps)
theorem Aop{prog:Nat->Option IFunc}{T:C8}(hT:Co prog T):∀ (n:Nat) {c:ICode} {s s':Aj} {ex:Ex} {sc sc':List Sc} {ps ps':List Prop},Ir prog T n c s sc ps=some ((ex,s'),sc',ps')->GN ps'->GN ps/\C4 (XG prog) n c s=some (ex,s'):=by
 intro n;induction n with
 | zero=>intro c s s' ex sc sc' ps ps' h;simp[Ir] at h
 | succ n ih =>
  intro c s s' ex sc sc' ps ps' h hp;cases c with
  | skip=>simp only[Ir,A9,DJ] at h;obtain⟨⟨rfl,rfl⟩,_,rfl⟩:=h;exact⟨hp,rfl⟩
  | region d ops =>
   simp only[Ir] at h;split at h
   ·cases h
   ·rename_i s1 sc1 ps1 h1;cases h;obtain⟨h2,h3⟩:=XI hT h1 hp;have h4:=h3 (fun t x e=>(by cases e));exact⟨h2,by simp only[C4,h4,AF]⟩
  | seq a b =>
   simp only[Ir] at h;split at h
   ·cases h
   ·rename_i s1 sc1 ps1 h1;obtain⟨h2,h3⟩:=ih h hp;obtain⟨h4,h5⟩:=ih h1 h2;exact⟨h4,by simp only[C4,h5];exact h3⟩
   ·rename_i i s1 sc1 ps1 h1;cases h;obtain⟨h4,h5⟩:=ih h1 hp;exact⟨h4,by simp only[C4,h5]⟩
   ·rename_i s1 sc1 ps1 h1;cases h;obtain⟨h4,h5⟩:=ih h1 hp;exact⟨h4,by simp only[C4,h5]⟩
  | cond c a b =>
   simp only[Ir] at h;split at h
   ·rename_i v sc1 hc;obtain⟨h2,h3⟩:=ih h hp;rw[E_] at h2;have hv:v=true:=h2.2.1;exact⟨h2.1,by simp only[C4,Lh,hc,hv];exact h3⟩
   ·rename_i v sc1 hc;obtain⟨h2,h3⟩:=ih h hp;rw[E_] at h2;have hv:v=false:=h2.2.1;exact⟨h2.1,by simp only[C4,Lh,hc,hv];exact h3⟩
   ·cases h
  | block id c =>
   simp only[Ir] at h;split at h
   ·cases h
   ·rename_i i s1 sc1 ps1 h1;split at h
    ·rename_i hi;cases h;obtain⟨h4,h5⟩:=ih h1 hp;exact⟨h4,by simp only[C4,h5,if_pos hi]⟩
    ·rename_i hi;cases h;obtain⟨h4,h5⟩:=ih h1 hp;exact⟨h4,by simp only[C4,h5,if_neg hi]⟩
   ·rename_i s1 sc1 ps1 h1;cases h;obtain⟨h4,h5⟩:=ih h1 hp;exact⟨h4,by simp only[C4,h5]⟩
   ·rename_i s1 sc1 ps1 h1;cases h;obtain⟨h4,h5⟩:=ih h1 hp;exact⟨h4,by simp only[C4,h5]⟩
  | scope c =>
   simp only[Ir] at h;obtain⟨h4,h5⟩:=ih h hp;exact⟨h4,by simp only[C4];exact h5⟩
  | loop c =>
   simp only[Ir] at h;split at h
   ·cases h
   ·rename_i s1 sc1 ps1 h1;obtain⟨h2,h3⟩:=ih h hp;obtain⟨h4,h5⟩:=ih h1 h2;exact⟨h4,by simp only[C4,h5];exact h3⟩
   ·rename_i i s1 sc1 ps1 h1;cases h;obtain⟨h4,h5⟩:=ih h1 hp;exact⟨h4,by simp only[C4,h5]⟩
   ·rename_i s1 sc1 ps1 h1;cases h;obtain⟨h4,h5⟩:=ih h1 hp;exact⟨h4,by simp only[C4,h5]⟩
  | exit id=>simp only[Ir,A9,DJ] at h;obtain⟨⟨rfl,rfl⟩,_,rfl⟩:=h;exact⟨hp,rfl⟩
  | ret=>simp only[Ir,A9,DJ] at h;obtain⟨⟨rfl,rfl⟩,_,rfl⟩:=h;exact⟨hp,rfl⟩
theorem N9{prog:Nat->Option IFunc}{T:C8}(hT:Co prog T)(n:Nat){c:ICode}{s s':Aj}{ex:Ex}(sc:List Sc){ps:List Prop}
  (h:Ir prog T n c s sc []=some ((ex,s'),[],ps)) (hp:GN ps):DX prog c s ex s':=XF (sV prog) n (Aop hT n h hp).2
def Aoq(prog:Nat->Option IFunc)(T:C8)(n:Nat)(fn:IFunc)(args:List AV)(sc:List Sc):Option (AV × List Prop) :=
 match Ir prog T n fn.body (HM fn args) sc [] with
 | some ((.ret,s),[],ps)=>(HL s fn.res).map fun r=>(r,ps)
 | some ((.norm,s),[],ps)=>(HL s fn.res).map fun r=>(r,ps)
 | _=>none
theorem Jz{prog:Nat->Option IFunc}{T:C8}(hT:Co prog T){f:Nat}{fn:IFunc}(hf:prog f=some fn)(n:Nat){args:List AV}(hl:args.length=fn.params)(sc:List Sc){r:AV}{ps:List Prop}
  (h:Aoq prog T n fn args sc=some (r,ps)) (hp:GN ps):Iq prog f args r:=by
 unfold Aoq at h;split at h
 ·rename_i s ps1 h1;simp only[Am] at h;obtain⟨r',hr,e⟩:=h;cases e;exact IB hf hl (N9 hT n sc h1 hp) (fun i=>(by nofun)) hr
 ·rename_i s ps1 h1;simp only[Am] at h;obtain⟨r',hr,e⟩:=h;cases e;exact IB hf hl (N9 hT n sc h1 hp) (fun i=>(by nofun)) hr
 ·cases h
end Go.Ai
namespace Go.Ai
open List renaming all_eq_true->Cf,mem_cons_of_mem->AT,mem_cons_self->AO
open Nat renaming beq->Df,ble->Abs,div->Nb,eq_of_beq_eq_true->Do,mod->F7,mul->Ep,rec->S3
structure Fx where
 fn:Func
 params:Nat
 slots:Nat
 res:List IRes
 rs:List (Nat × List Nat)
 ex:List (Nat × K)
noncomputable def t (fn:Func) (n m:Nat) (r:List IRes) (rs:List (Nat × List Nat)) (ex:List (Nat × K)):Fx:=⟨fn,n,m,r,rs,ex⟩
def inL(n:Nat):List Nat->Bool
 | []=>false
 | m::l=>cond (Df m n) true (inL n l)
def lk{α:Type}:List (Nat × α)->Nat->Option α
 | [],_=>none
 | (n,x)::l,f=>cond (Df n f) (some x) (lk l f)
def Vc(t:Nat):List (Nat × List Nat)->Option Nat
 | []=>none
 | (r,l)::m=>cond (inL t l) (some r) (Vc t m)
def E9(t:Nat)(m:List (Nat × List Nat)):Option Nat:=match Vc t m with
 | some r=>cond (Abs 1000 r) none (some r)
 | none=>none
def Fx.roots(x:Fx):List (Nat × Nat):=x.rs.flatMap fun p=>cond (Abs 1000 p.1) [] (p.2.map fun t=>(t,p.1))
def Fx.has(x:Fx)(k d:Nat):Bool:=match lk x.rs k with | some l=>inL d l | none=>false
def cA:Value->AV
 | .int k n => .int k n
 | .bool b => .bool b
 | .string s => .str s
 | .slice none _ _ => .sl 0 []
 | _ => .undef
def IE:Operand->Opd
 | .tmp t => .t t
 | .const v => .c (cA v)
 | _ => .c .undef
def XJ:Operand->Nat
 | .tmp t=>t
 | _=>0
def A8g(z:List AV):Nat->List AV
 | 0=>[]
 | n+1=>z++A8g z n
section
variable (P:Program)
def fS(t:TypeId):List AV:=match P.info? t with | some { zero:=some v, .. }=>v.cells.toList.map cA | _=>[]
def A8h(t:TypeId):Bool:=match P.underlying t with | some d => !(Aba d) | none=>true
def Mt(t:TypeId):Nat:=match P.underlying t with | some (.slice e)=>e | some (.array _ e)=>e | _=>0
def RA(t:TypeId)(i:Nat):Nat × Nat:=match P.underlying t with | some (.struct fs)=>(match fs[i]? with | some f=>(f.offset,f.type) | none=>(0,0)) | _=>(0,0)
def ACr(x:Fx)(d:Nat)(f:Nat)(l:List Operand):K :=
 cond (x.has 1002 d) (.clo f (l.map IE)) (.call f (l.map IE))
def Aor(x:Fx)(t:Nat):Nat:=match E9 t x.rs with | some r=>cond (Df r x.slots) t r | none=>t
def kT(x:Fx)(d:Nat)(ty:TypeId)(op:Op):K :=
 match op with
 | .move y=>cond (x.has 1000 d) (.tra (XJ y)) (cond (x.has 1001 d) (.frz (XJ y)) (match E9 d x.rs with | some _ => .cpy (XJ y) | none => .mov (IE y)))
 | .assign y=>cond (x.has 1000 d) (match y with | .tmp t => .tra t | _ => .nlo (P.cellsOf (Mt P ty))) (.mov (IE y))
 | .pick c a b => .pick (IE c) (IE a) (IE b)
 | .binOp o t a b _=>cond (XB P t) (.eqb (o == .neq) (IE a) (IE b)) (.bin o (IE a) (IE b))
 | .unOp o _ a => .un o (IE a)
 | .convert _ t a=>(match P.underlying t with | some (.int k) => .cv k (IE a) | _ => .bad)
 | .alloc t => .new (fS P t) ((lk x.rs d).getD [])
 | .box _ a => .box (IE a) ((lk x.rs d).getD [])
 | .build t ps => .bld (fS P t) (ps.toList.map fun p=>((RA P t p.1).1,P.cellsOf (RA P t p.1).2,IE p.2))
 | .buildSlice t n ps=>(fun k (z:List AV) (qs:List (Nat × Nat × Opd))=>cond (x.has 1002 d) (.blo k n z qs) (.bls n z qs)) (P.cellsOf (Mt P t)) (A8g (fS P (Mt P t)) n) (ps.toList.map fun p=>(p.1*P.cellsOf (Mt P t),P.cellsOf (Mt P t),IE p.2))
 | .fieldAddr t a i => .adr (XJ a) ((E9 d x.rs).getD x.slots) (RA P t i).1
 | .load t a => .ld (XJ a) (Aor x (XJ a)) (P.cellsOf t) (A8h P t)
 | .store t a v=>cond (x.has 1003 (XJ v)) (.stl (XJ a) (XJ v)) <| .st (XJ a) (Aor x (XJ a)) (P.cellsOf t) (IE v)
 | .field t a i => .fld (IE a) (RA P t i).1 (P.cellsOf (RA P t i).2) (A8h P (RA P t i).2)
 | .indexAddr t a i=>(match E9 (XJ a) x.rs with | some r => .ixo (XJ a) r (IE i) (P.cellsOf (Mt P t)) | none => .ixa (XJ a) (IE i) (P.cellsOf (Mt P t)))
 | .index _ a i => .six (IE a) (IE i)
 | .extract a i => .ext (IE a) i
 | .makeSlice t n _ => .mks (fS P (Mt P t)) (IE n)
 | .slice t a lo hi m => .sli (IE a) (lo.map IE) (hi.map IE) (m.map IE) (P.cellsOf (Mt P t))
 | .call { callee := .value (.func f),args:=l,argTypes:=_ }=>ACr x d f l.toList
 | .call { callee := .builtin .len,args:=l,argTypes:=_ }=>(match l.toList with | a::_=>(match a with | .tmp t=>(match E9 t x.rs with | some r => .lno t r | none => .len (.t t)) | _ => .len (IE a)) | [] => .bad)
 | .call { callee := .builtin .max,args:=l,argTypes:=_ } => .mx (l.toList.map IE)
 | .call { callee := .builtin .append,args:=l,argTypes:=ts }=>(match l.toList,ts.toList with
  | a::b::_,t::_ => .apd (x.has 1002 d) (IE a) (IE b) (P.cellsOf (Mt P t)) (cond (fK P (Mt P t)) 35184372088832 1048576)
  | _,_ => .bad)
 | _ => .bad
def ioT(x:Fx)(ops:Array Oper)(o:Oper):IOp :=
 (fun (k:K)=>⟨o.dst,k,o.guard.map fun p=>(((ops[p.1]?).bind (·.dst)).getD 0,p.2),match k with | .new _ _=>[] | .box _ _=>[] | .bdo _ _ _=>[] | .cln _ _ _=>[] | _=>(match o.dst with | some d=>(lk x.rs d).getD [] | none=>[])⟩)
  (match o.dst with | some d=>(match lk x.ex d with | some k=>k | none=>kT P x d o.type o.op) | none=>kT P x x.slots o.type o.op)
def chd(i:Nat):Code->Code
 | .seq a b=>cond (Df i 0) a b
 | .cond _ a b=>cond (Df i 0) a b
 | .block _ c=>c
 | .loop c=>c
 | .scope c=>c
 | _ => .skip
noncomputable def cAt (f:Func) (n:Nat):Nat->Code :=
 S3 (motive:=fun _=>Nat->Code) (fun _ => .skip) (fun _ ih p=>cond (Abs p 1) (match f.body with | some c=>c | none => .skip) (chd (F7 p 2) (ih (Nb p 2)))) n
def cS(x:Fx)(ih:Nat->ICode)(p:Nat):Code->ICode
 | .region _ ops draw => .region draw (ops.toList.map (ioT P x ops))
 | .seq _ _ => .seq (ih (Ep 2 p)) (ih (Nat.add (Ep 2 p) 1))
 | .cond c _ _ => .cond (IE c) (ih (Ep 2 p)) (ih (Nat.add (Ep 2 p) 1))
 | .block i _ => .block i (ih (Ep 2 p))
 | .loop _ => .loop (ih (Ep 2 p))
 | .scope _ => .scope (ih (Ep 2 p))
 | .exit i => .exit i
 | .ret => .ret
 | _ => .skip
noncomputable def cP (x:Fx) (n:Nat):Nat->ICode :=
 S3 (motive:=fun _=>Nat->ICode) (fun _ => .skip) (fun _ ih p=>cS P x ih p (cAt x.fn 99 p)) n
noncomputable def iF (x:Fx):IFunc:=⟨x.params,x.slots,x.res,cP P x 99 1⟩
noncomputable def tOk (p:Nat × Fx):Bool:=match P.funcs[p.1]? with | some fn=>bC P p.2.roots fn (iF P p.2) | none=>false
end
theorem Abk{α:Type}{f:Nat}{x:α}:∀ {l:List (Nat × α)},lk l f=some x->(f,x)∈l
 | [],h=>by cases h
 | (g,y)::l,h=>by
  unfold lk at h;cases hg:Df g f
  ·rw[hg] at h;exact AT _ (Abk h)
  ·rw[hg] at h;cases h;rw[Do hg];exact AO
theorem Aos{P:Program}{l:List (Nat × Fx)}(h:l.all (tOk P)=true)(f:Nat)(ifn:IFunc)(hf:(lk l f).map (iF P)=some ifn):∃ fn roots,P.funcs[f]? = some fn/\bC P roots fn ifn=true:=by
 cases hl:lk l f with
 | none=>rw[hl] at hf;cases hf
 | some p =>
  rw[hl] at hf;cases hf;have h1:=Cf.1 h _ (Abk hl);unfold tOk at h1;split at h1
  ·exact⟨_,_,by assumption,h1⟩
  ·cases h1
end Go.Ai
