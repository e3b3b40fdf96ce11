/- Texts of the proof of RootOrder: part 4 of 13. -/
import Derived.Scope
import Derived.Test.YtajompaehjkgkaaGreatRod3
namespace Go.Ai
open Go.RowKit
open _root_.Array renaming getD_eq_getD_getElem?->CS,getElem?_eq_getElem->DZ,mapM_eq_mapM_toList->Sg,replicate->P7
open Bool renaming and_eq_true->Af,and_false->IP,and_true->Lh,false_eq_true->Cj
open Go renaming undef->B5
open Go.Result renaming andThen_ok->A1
open Go.RowKit.Below renaming refl->HF
open Go.Sem renaming run_bind->AL,run_map->A8y,run_pure->Bj
open Go.Value renaming bool->Uz
open List renaming cons_append->Ii,contains_eq_mem->IG,getD_eq_getElem?_getD->Z,getElem?_append_left->AN,getElem?_append_right->AT,getElem?_eq_none->AD,getElem?_eq_some_iff->H7,getElem?_replicate_of_lt->Ahi,getElem_cons_zero->FM,getElem_toArray->Zy,length_cons->Bz,length_nil->JQ,mapM_cons->LN,size_toArray->Ix
open Nat renaming add_zero->FP,le_of_not_lt->N7,le_refl->Ap,lt_or_ge->Cn,strongRecOn->Ul,zero_add->Cs
open Option renaming map_eq_some_iff->Ak,map_some->A9
open Option.some renaming inj->Mc,injEq->A3
open Prod.mk renaming injEq->D2
def Fp(P:Program)(roots:List (Nat × Nat)):Code->ICode->Bool
 | .skip,.skip=>true
 | .label _,.skip=>true
 | .region _ ops draw,.region d io=>draw==d&&MM P roots ops ops.toList io&&(!draw || Rg ops io)
 | .seq a b,.seq a' b'=>Fp P roots a a'&&Fp P roots b b'
 | .cond c a b,.cond c' a' b'=>Cg c c'&&Fp P roots a a'&&Fp P roots b b'
 | .block id c,.block id' c'=>id==id'&&Fp P roots c c'
 | .loop c,.loop c'=>Fp P roots c c'
 | .scope c,.scope c'=>Fp P roots c c'
 | .exit id,.exit id'=>id==id'
 | .ret,.ret=>true
 | _,_=>false
def tR:Ex->Exit
 | .norm => .normal
 | .exit id => .exit id
 | .ret => .ret
theorem X5{p:Nat->Prop}(h:∃ n,p n):∃ n,p n/\∀ m,p m->n<=m:=by
 obtain⟨n,hn⟩:=h;induction n using Ul with
 | _ n ih =>
  by_cases hh:∃ m,m<n/\p m
  ·obtain⟨m,hm,hp⟩:=hh;exact ih m hm hp
  ·exact⟨n,hn,fun m hp=>N7 fun hlt=>hh ⟨m,hlt,hp⟩⟩
section
variable {P:Program} {Y X0:Nat->Prop} {roots:List (Nat × Nat)} {w0:World}
theorem simC(hm:P.follows .mixedOrders=true){F:BM}(hF:Lq P F):∀ (n:Nat) (c:Code) (ic:ICode) (s s':Al) (ex:Ex) (a:Act) (w:World) (Q:Exit->Act->World->Prop),Fp P roots c ic=true ->
  Rel Y X0 roots w0 s a w->Cr F n ic s=some (ex,s')->(∀ a' w',Rel Y X0 roots w0 s' a' w'->Q (tR ex) a' w')->c.wp P Q a w:=by
 intro n;induction n using Ul with
 | _ n ih =>
  intro c ic s s' ex a w Q hok h hev hQ;cases n with
  | zero=>simp[Cr] at hev
  | succ n =>
   cases ic with
   | skip =>
    cases c <;> simp only[Fp] at hok <;> try cases hok
    all_goals
     simp only[Cr,A3,D2] at hev;obtain⟨rfl,rfl⟩:=hev;first | exact wp_skip (hQ _ _ h) | exact wp_label (hQ _ _ h)
   | region d io =>
    cases c <;> simp only[Fp] at hok <;> try cases hok
    rename_i id ops draw;simp only[Af,beq_iff_eq] at hok;obtain⟨⟨rfl,h1⟩,h2⟩:=hok;simp only[Cr,Ak] at hev;obtain⟨s1,hs1,he⟩:=hev;cases he;cases draw with
    | false=>exact vX hF h1 h hs1 hQ
    | true=>exact vW hm hF h1 (by simpa using h2) h hs1 hQ
   | seq x y =>
    cases c <;> simp only[Fp] at hok <;> try cases hok
    rename_i c1 c2;simp only[Af] at hok;simp only[Cr] at hev;refine wp_seq ?_;split at hev
    ·rename_i s1 h1;refine ih n (by omega) c1 x s s1 .norm a w _ hok.1 h h1 fun a' w' h' => ?_;exact ih n (by omega) c2 y s1 s' ex a' w' Q hok.2 h' hev hQ
    ·rename_i h1;refine ih n (by omega) c1 x s s' ex a w _ hok.1 h hev fun a' w' h' => ?_;cases ex with
     | norm=>exact absurd hev (h1 s')
     | exit id=>exact hQ _ _ h'
     | ret=>exact hQ _ _ h'
   | cond o x y =>
    cases c <;> simp only[Fp] at hok <;> try cases hok
    rename_i o' c1 c2;simp only[Af] at hok;obtain⟨⟨h1,h2⟩,h3⟩:=hok;simp only[Cr] at hev;have key:∀ b,JM s o=some b->a.eval o' = .bool b:=by
     intro b hb;unfold JM at hb;split at hb
     ·rename_i b' hav;cases hb;have:=CF h h1 hav;generalize a.eval o'=v at this;cases this;rfl
     ·cases hb
    split at hev
    ·rename_i hc;exact wp_cond_true (key true hc) (ih n (by omega) c1 x s s' ex a w Q h2 h hev hQ)
    ·rename_i hc;exact wp_cond_false (key false hc) (ih n (by omega) c2 y s s' ex a w Q h3 h hev hQ)
    ·cases hev
   | block id x =>
    cases c <;> simp only[Fp] at hok <;> try cases hok
    rename_i id' c1;simp only[Af,beq_iff_eq] at hok;obtain⟨rfl,hok⟩:=hok;simp only[Cr] at hev;refine wp_block ?_;split at hev
    ·rename_i i s1 h1;refine ih n (by omega) c1 x s s1 (.exit i) a w _ hok h h1 fun a' w' h' => ?_;simp only[tR,Exit.inBlock];split at hev
     ·rename_i hi;cases hev;rw[if_pos hi];exact hQ _ _ h'
     ·rename_i hi;cases hev;rw[if_neg hi];exact hQ _ _ h'
    ·rename_i h1;refine ih n (by omega) c1 x s s' ex a w _ hok h hev fun a' w' h' => ?_;cases ex with
     | norm=>exact hQ _ _ h'
     | exit i=>exact absurd hev (h1 i s')
     | ret=>exact hQ _ _ h'
   | scope x =>
    cases c <;> simp only[Fp] at hok <;> try cases hok
    simp only[Cr] at hev;refine wp_scope_straight ?_;refine ih n (by omega) _ x s s' ex a w _ hok h hev fun a' w' h' => ?_;cases ex with
    | norm=>exact hQ _ _ h'
    | exit i=>exact hQ _ _ h'
    | ret=>exact hQ _ _ h'
   | loop x =>
    cases c <;> simp only[Fp] at hok <;> try cases hok
    rename_i c1;let p:Act->World->Nat->Prop:=fun a w m=>m<=n+1/\∃ s1,Rel Y X0 roots w0 s1 a w/\Cr F m (.loop x) s1=some (ex,s')
    let μ:Act->World->Nat:=fun a w=>@Classical.epsilon Nat ⟨0⟩ fun m=>p a w m/\∀ k,p a w k->m<=k
    have hμ:∀ a w,(∃ m,p a w m)->p a w (μ a w)/\∀ k,p a w k->μ a w<=k:=fun a w he=>@Classical.epsilon_spec_aux Nat ⟨0⟩ _ (X5 he);refine wp_loop (fun a w=>∃ m,p a w m) μ ⟨n+1,Ap _,s,h,hev⟩ ?_;intro a1 w1 hI;obtain⟨⟨hle,s1,hr1,hev1⟩,hmin⟩:=hμ a1 w1 hI;generalize hmm:μ a1 w1=m at *
    cases m with
    | zero=>simp[Cr] at hev1
    | succ m =>
     simp only[Cr] at hev1;split at hev1
     ·rename_i s2 h2;refine ih m (by omega) c1 x s1 s2 .norm a1 w1 _ hok hr1 h2 fun a' w' h' => ?_;have hp:p a' w' m:=⟨by omega,s2,h',hev1⟩;refine⟨⟨m,hp⟩,?_⟩;have:=(hμ a' w' ⟨m,hp⟩).2 m hp;omega
     ·rename_i h2;refine ih m (by omega) c1 x s1 s' ex a1 w1 _ hok hr1 hev1 fun a' w' h' => ?_;cases ex with
      | norm=>exact absurd hev1 (h2 s')
      | exit i=>exact hQ _ _ h'
      | ret=>exact hQ _ _ h'
   | exit id =>
    cases c <;> simp only[Fp] at hok <;> try cases hok
    simp only[beq_iff_eq] at hok;subst hok;simp only[Cr,A3,D2] at hev;obtain⟨rfl,rfl⟩:=hev;exact wp_exit (hQ _ _ h)
   | ret =>
    cases c <;> simp only[Fp] at hok <;> try cases hok
    simp only[Cr,A3,D2] at hev;obtain⟨rfl,rfl⟩:=hev;exact wp_ret (hQ _ _ h)
end
def Qn(P:Program):ResultVar->IRes->Bool
 | .tmp t,.tmp t'=>t==t'
 | .cell t ty,.cell t' n one=>t==t'&&MF P ty n one
 | _,_=>false
def Hv(P:Program):List ResultVar->List IRes->Bool
 | [],[]=>true
 | r::l,r'::l'=>Qn P r r'&&Hv P l l'
 | _,_=>false
def AY(P:Program)(roots:List (Nat × Nat))(fn:Func)(ifn:IFunc):Bool :=
 (match fn.body with | some c=>Fp P roots c ifn.body | none=>false)&&fn.ntmps==ifn.slots&&Hv P fn.results.toList ifn.res&&decide (ifn.params<=ifn.slots)
section
variable {P:Program} {Y X0:Nat->Prop} {roots:List (Nat × Nat)} {w0:World}
def MN(tm:Array Value):ResultVar->Sem Value
 | .tmp t=>pure (tm.getD t B5)
 | .cell a t=>do loadVar t (<- asAddr (tm.getD a B5))
theorem cJ(fn:Func)(tm:Array Value):results fn tm=(fn.results.mapM (MN tm)) >>= fun vs=>pure (if h:vs.size=1 then vs[0] else .tuple vs):=by
 unfold results;congr 1
theorem Ob{s:Al}{a:Act}{w:World}(h:Rel Y X0 roots w0 s a w):∀ {l:List ResultVar} {m:List IRes} {xs:List AV},Hv P l m=true->DU s m=some xs ->
  ∃ vs:List Value,(l.mapM (MN a.tmps)).run P w = .ok vs w/\vs.length=xs.length /\
   ∀ (i:Nat) (h1:i<vs.length) (h2:i<xs.length),Rd Y X0 w vs[i] xs[i]
 | [],[],xs,_,hx=>by
  simp only[DU,A3] at hx;subst hx;exact⟨[],rfl,rfl,fun i h1 _=>(by simp at h1)⟩
 | r::l,r'::m,xs,hok,hx=>by
  simp only[Hv,Af] at hok;simp only[DU] at hx;cases h1:ER s r' with
  | none=>rw[h1] at hx;cases hx
  | some x =>
   rw[h1] at hx;cases h2:DU s m with
   | none=>rw[h2] at hx;cases hx
   | some xs' =>
    rw[h2] at hx;cases hx;obtain⟨vs,e1,e2,e3⟩:=Ob h hok.2 h2;have one:∃ v,(MN a.tmps r).run P w = .ok v w/\Rd Y X0 w v x:=by
     have hr:=hok.1;cases r with
     | tmp t =>
      cases r' with
      | cell _ _ _=>cases hr
      | tmp t' =>
       simp only[Qn,beq_iff_eq] at hr;subst hr;have h0:=h.reg t;simp only[ER] at h1;cases hrg:A5 s t with
       | val y=>rw[hrg] at h1 h0;cases h1;exact⟨_,rfl,Rd.mono h0 fun b hb => .inl (.inl hb)⟩
       | box _=>rw[hrg] at h1;cases h1
       | ptr _ _=>rw[hrg] at h1;cases h1
       | mem _=>rw[hrg] at h1;cases h1
       | own k n cs =>
        rw[hrg] at h1 h0;cases h1;refine⟨_,rfl,FY.frozen h0 (fun b hb => .inl (.inl hb)) (fun c hc hX => ?_) h.lowY⟩;have h1:=(FY.block h0 hc).1;have:=h.low _ hX;omega
       | agn _ _ _ _=>rw[hrg] at h1;cases h1
       | bxl _=>rw[hrg] at h1;cases h1
       | dup _=>rw[hrg] at h1;cases h1
       | sub _ _ _ _=>rw[hrg] at h1;cases h1
       | dead=>rw[hrg] at h1;cases h1
     | cell t ty =>
      cases r' with
      | tmp _=>cases hr
      | cell t' n one =>
       simp only[Qn,Af,beq_iff_eq] at hr;obtain⟨rfl,hr⟩:=hr;have h0:=h.reg t;simp only[ER] at h1;cases hrg:A5 s t with
       | box cs =>
        rw[hrg] at h1 h0;obtain⟨b,g1,_,g3⟩:=h0;obtain⟨v,g4,g5⟩:=bY (P:=P) hr g3.mem h1;refine⟨v,?_,g5.mono fun b hb => .inl (.inl hb)⟩;simp only[FP] at g4;simp only[MN,AL,g1,asAddr,Bj,A1,g4]
       | val _=>rw[hrg] at h1;cases h1
       | ptr _ _=>rw[hrg] at h1;cases h1
       | mem _=>rw[hrg] at h1;cases h1
       | own _ _ _=>rw[hrg] at h1;cases h1
       | agn _ _ _ _=>rw[hrg] at h1;cases h1
       | bxl _=>rw[hrg] at h1;cases h1
       | dup _=>rw[hrg] at h1;cases h1
       | sub _ _ _ _=>rw[hrg] at h1;cases h1
       | dead=>rw[hrg] at h1;cases h1
    obtain⟨v,e4,e5⟩:=one;refine⟨v::vs,?_,by simp[e2],fun i g1 g2 => ?_⟩
    ·simp only[LN,AL,e4,e1,A1,Bj]
    ·cases i with
     | zero=>exact e5
     | succ i=>exact e3 i (by simpa using g1) (by simpa using g2)
 | [],_::_,_,hok,_=>by cases hok
 | _::_,[],_,hok,_=>by cases hok
theorem lW{Y X:Nat->Prop}{B:Nat}{tm:Array Value}{w:World}{t:Nat}{v:Value}{x:AV}(h:Rd Y X w v x):KL Y X B roots tm w t v (Lo x):=by
 cases x
 case pt cs=>exact h.ofPt
 all_goals exact h
theorem vY(x:AV):EA (Lo x)=false:=by cases x <;> rfl
theorem vZ{ifn:IFunc}{Y X:Nat->Prop}{w:World}{vs:Array Value}{args:List AV}(hlow:∀ b,X b->b<w.heap.size)(hlowY:∀ b,Y b->b<w.heap.size)(hs:vs.size=args.length)(hpar:args.length<=ifn.slots)
  (hr:∀ (i:Nat) (h1:i<vs.size) (h2:i<args.length),Rd Y X w vs[i] args[i]) :
  Rel Y X roots w (H' ifn args) { tmps:=vs++P7 (ifn.slots-vs.size) B5,defers:=[] } w:=by
 have key:∀ t,(∃ x,A5 (H' ifn args) t=Lo x/\args[t]? = some x)\/A5 (H' ifn args) t = .dead:=by
  intro t;simp only[A5,H',Z];rcases Cn t args.length with h1 | h1
  ·refine .inl ⟨args[t],?_,by simp[h1]⟩;rw[AN (by simpa using h1)];simp[h1]
  ·refine .inr ?_;rw[AT (by simpa using h1)];rcases Cn (t-(args.map Lo).length) (ifn.slots-args.length) with h2 | h2
   ·rw[Ahi h2];rfl
   ·rw[AD (by simpa using h2)];rfl
 have hne:∀ t,EA (A5 (H' ifn args) t)=false:=by
  intro t;rcases key t with ⟨x,h1,_⟩ | h1 <;> rw[h1]
  ·exact vY x
  ·rfl
 refine⟨rfl,by simp[H'];omega,HF _ _,hlow,hlowY,fun t => ?_,fun t t' b h1 => ?_⟩
 ·rcases key t with ⟨x,h1,h2⟩ | h1
  ·rw[h1];obtain⟨hlt,hx⟩:=H7.1 h2;have h3:=hr t (by omega) hlt;have h4:(vs++P7 (ifn.slots-vs.size) B5).getD t B5=vs[t]'(by omega):=by
    rw[CS,Array.getElem?_append_left (by omega),DZ (by omega)];rfl
   rw[h4,<- hx];refine lW (h3.mono fun b hb => ?_);rcases hb with hb | ⟨t',g1,_⟩
   ·exact .inl hb
   ·rw[hne] at g1;cases g1
  ·rw[h1];trivial
 ·rw[hne] at h1;cases h1
theorem simF(hm:P.follows .mixedOrders=true){prog:Nat->Option IFunc}(hp:∀ f ifn,prog f=some ifn->∃ fn roots,P.funcs[f]? = some fn/\AY P roots fn ifn=true):∀ n,Lq P (NO prog n):=by
 intro n;induction n with
 | zero=>intro f args x h;simp[NO] at h
 | succ n ih =>
  intro f args x h Y X w vs hlow hlowY hs hr;simp only[NO] at h;split at h
  ·cases h
  ·rename_i ifn hifn;split at h
   ·rename_i hpar;obtain⟨fn,roots,hfn,hok⟩:=hp f ifn hifn;simp only[AY,Af,beq_iff_eq,decide_eq_true_eq] at hok;obtain⟨⟨⟨h1,h2⟩,h3⟩,h4⟩:=hok;split at h1
    ·rename_i c hc;have hrel:Rel Y X roots w (H' ifn args) { tmps:=vs++P7 (fn.ntmps-vs.size) B5,defers:=[] } w:=by
      rw[h2];exact vZ hlow hlowY hs (by omega) hr
     refine calls_of_wp hfn hc ?_;have fin:∀ (s:Al) (a':Act) (w':World),Rel Y X roots w s a' w'->HJ s ifn.res=some x ->
       a'.defers=[]/\∃ v,(results fn a'.tmps).run P w' = .ok v w'/\∃ v',Ending.returned v = .returned v'/\Below w.heap.size w w'/\KN Y X w.heap.size w' v' x:=by
      intro s a' w' hrel' hres;refine⟨hrel'.dfr,?_⟩;unfold HJ at hres;have hrun:∀ (us:List Value),(fn.results.toList.mapM (MN a'.tmps)).run P w' = .ok us w' ->
        (results fn a'.tmps).run P w' = .ok (if h:us.toArray.size=1 then us.toArray[0] else .tuple us.toArray) w':=by
       intro us hus;rw[cJ,Sg];simp only[AL,A8y,hus,A1,Bj]
      split at hres
      ·rename_i y hy;cases hres;generalize hl:ifn.res=lres at hy h3;unfold HS at hy;split at hy
       ·rename_i t;split at hy
        ·rename_i k n cs hr;cases hy;cases hfr:fn.results.toList with
         | nil=>rw[hfr] at h3;cases h3
         | cons r rest =>
          rw[hfr] at h3;cases rest with
          | cons _ _=>simp only[Hv,IP] at h3;cases h3
          | nil =>
           simp only[Hv,Lh] at h3;cases r with
           | cell _ _=>cases h3
           | tmp t' =>
            simp only[Qn,beq_iff_eq] at h3;subst h3;refine⟨_,hrun [a'.tmps.getD t' B5] (by rw[hfr];rfl),_,rfl,hrel'.below,?_⟩;simp only[Ix,Bz,JQ,Cs,dite_true];rcases hrel'.ownLow hr with hnil | ⟨b,cap,e1,e2,e3,e4,e5,e6,hXb⟩
            ·exact .inl hnil
            refine .inr ⟨b,cap,e1,e2,e3,e4,e5.mono fun c hc => .inl ?_,e6⟩;rcases hc with hc | hc
            ·exact .inl hc
            ·simp only[e1,Bq,HT,Zy,FM,A9,A3] at hc;exact .inr (hc ▸ hXb)
        ·rename_i bb k n cs hr;cases hy;cases hfr:fn.results.toList with
         | nil=>rw[hfr] at h3;cases h3
         | cons r rest =>
          rw[hfr] at h3;cases rest with
          | cons _ _=>simp only[Hv,IP] at h3;cases h3
          | nil =>
           simp only[Hv,Lh] at h3;cases r with
           | cell _ _=>cases h3
           | tmp t' =>
            simp only[Qn,beq_iff_eq] at h3;subst h3;refine⟨_,hrun [a'.tmps.getD t' B5] (by rw[hfr];rfl),_,rfl,hrel'.below,?_⟩;simp only[Ix,Bz,JQ,Cs,dite_true];have h0:=hrel'.reg t';rw[hr] at h0;have hXS:∀ c,Bq (a'.tmps.getD t' B5)=some c->XS s a'.tmps c:=fun c hc=>⟨t',by rw[hr];rfl,hc⟩;exact JO.own h0 hXS
        ·cases hy
       ·rename_i t u;split at hy
        ·rename_i k n cs hr;split at hy
         ·rename_i bb hru;cases hy;cases hfr:fn.results.toList with
          | nil=>rw[hfr] at h3;cases h3
          | cons r rest =>
           rw[hfr] at h3;cases rest with
           | nil=>simp only[Hv,IP] at h3;cases h3
           | cons r2 rest =>
            cases rest with
            | cons _ _=>simp only[Hv,IP] at h3;cases h3
            | nil =>
             simp only[Hv,Lh,Af] at h3;obtain⟨h3,h3'⟩:=h3;cases r with
             | cell _ _=>cases h3
             | tmp t' =>
              cases r2 with
              | cell _ _=>cases h3'
              | tmp u' =>
               simp only[Qn,beq_iff_eq] at h3 h3';subst h3 h3';have hu0:=hrel'.reg u';rw[hru] at hu0;have hub:a'.tmps.getD u' B5 = .bool bb:=by
                generalize a'.tmps.getD u' B5=q at hu0;cases hu0;rfl
               refine⟨_,hrun [a'.tmps.getD t' B5,.bool bb] (by rw[hfr,<- hub];rfl),_,rfl,hrel'.below,?_⟩;have h0:=hrel'.reg t';rw[hr] at h0;have hXS:∀ c,Bq (a'.tmps.getD t' B5)=some c->XS s a'.tmps c:=fun c hc=>⟨t',by rw[hr];rfl,hc⟩;have hag:JO Y (fun c=>X c\/XS s a'.tmps c) w.heap.size w' (.tuple #[a'.tmps.getD t' B5,.bool bb]) (.tp bb) k n cs:=⟨_,rfl,h0⟩;exact JO.own hag (fun c hc=>hXS c (by rw[<- hc];exact (FH (.tp bb) h0).symm))
         ·cases hy
        ·cases hy
       ·rename_i t n one;split at hy
        ·rename_i d hr;split at hy
         ·rename_i bb k m cs hrd;split at hy
          ·rename_i hn;obtain⟨rfl,rfl⟩:=hn;cases hy;cases hfr:fn.results.toList with
           | nil=>rw[hfr] at h3;cases h3
           | cons r rest =>
            rw[hfr] at h3;cases rest with
            | cons _ _=>simp only[Hv,IP] at h3;cases h3
            | nil =>
             simp only[Hv,Lh] at h3;cases r with
             | tmp _=>cases h3
             | cell t' ty =>
              simp only[Qn,Af,beq_iff_eq] at h3;obtain⟨rfl,h3⟩:=h3;have h0:=hrel'.reg t';rw[hr] at h0;obtain⟨_,b,g1,_,_,g4⟩:=h0;have h5:=hrel'.reg d;rw[hrd] at h5;obtain⟨u,hu,h5'⟩:=id h5;obtain⟨q1,q2⟩:=Lp h3;rw[hu] at g4;have hl:=run_loadCells (P:=P) w' ⟨b,0,none⟩ 2 (fun i=>#[Uz bb,u].getD i B5) (fun j hj=>by
               rw[Ht,Cs,g4 j hj];match j,hj with
               | 0,_=>rfl
               | 1,_=>rfl)
              have hload:(MN a'.tmps (.cell t' ty)).run P w' = .ok (.agg #[.bool bb,u]) w':=by
               simp only[MN,AL,g1,asAddr,Bj,A1,loadVar,q1,q2,hl,Bool.not_false,if_true];rfl
              refine⟨_,hrun [.agg #[.bool bb,u]] (by rw[hfr];simp only[LN,List.mapM_nil,AL,hload,A1,Bj]),_,rfl,hrel'.below,?_⟩;have hXS:∀ c,Bq (a'.tmps.getD d B5)=some c->XS s a'.tmps c:=fun c hc=>⟨d,by rw[hrd];rfl,hc⟩;have:=JO.own h5 hXS;rw[hu] at this;exact this
          ·cases hy
         ·cases hy
        ·cases hy
       ·cases hy
      split at hres
      ·rename_i y hy;cases hres;obtain⟨us,g1,g2,g3⟩:=Ob hrel' h3 hy;refine⟨_,hrun us g1,_,rfl,hrel'.below,?_⟩;have hl:us.toArray.size=1:=by simpa using g2
       rw[dif_pos hl];have:=g3 0 (by simp at g2;omega) (by simp);exact .of_rd (by simpa using this)
      ·rename_i ys hne hy;cases hres;obtain⟨us,g1,g2,g3⟩:=Ob hrel' h3 hy;refine⟨_,hrun us g1,_,rfl,hrel'.below,?_⟩;have hl:¬ us.toArray.size=1:=by
        intro hh;have:ys.length=1:=by rw[<- g2];simpa using hh
        match ys,this with
        | [y],_=>exact hne y rfl
       rw[dif_neg hl];exact .of_rd (.tup _ _ (by simpa using g2) (fun i h1 h2=>by simpa using g3 i (by simpa using h1) h2))
      ·cases hres
     split at h
     ·cases h
     ·rename_i ex s hnot hev;refine simC hm ih n c ifn.body _ s ex _ w _ h1 hrel hev fun a' w' hrel' => ?_;have:=fin s a' w' hrel' h;cases ex with
      | norm=>exact this
      | ret=>exact this
      | exit i=>exact (hnot i rfl).elim
     ·cases h
    ·cases h1
   ·cases h
end
def Le(F G:BM):Prop:=∀ f args r,F f args=some r->G f args=some r
theorem Azm{F G:BM}(h:Le F G){s:Al}{k:K}{p:Reg × List (Nat × Reg)}(hk:BJ F s k=some p):BJ G s k=some p:=by
 cases k
 case call f xs =>
  simp only[BJ] at hk |-;split at hk
  ·rename_i vs hvs;simp only[Ak] at hk |-;obtain⟨v,hv,he⟩:=hk;exact⟨v,h f vs v hv,he⟩
  ·cases hk
 case clo f xs =>
  simp only[BJ] at hk |-;split at hk
  ·rename_i vs hvs;simp only[Ak] at hk |-;obtain⟨v,hv,he⟩:=hk;exact⟨v,h f vs v hv,he⟩
  ·cases hk
 case cln f xs ls =>
  simp only[BJ] at hk |-;split at hk
  ·rename_i vs hvs;split at hk
   ·rename_i hl;rw[if_pos hl];simp only[Ak] at hk |-;obtain⟨v,hv,he⟩:=hk;exact⟨v,h f vs v hv,he⟩
   ·cases hk
  ·cases hk
 case brw f x d =>
  simp only[BJ] at hk |-;split at hk
  ·split at hk
   ·rename_i hd;rw[if_pos hd];split at hk
    ·split at hk
     ·rename_i hc;rw[if_pos hc];split at hk
      ·rename_i y hy;rw[h _ _ _ hy];exact hk
      ·cases hk
     ·cases hk
    ·cases hk
   ·cases hk
  ·cases hk
 all_goals exact hk
theorem cK{F G:BM}(h:Le F G){o:IOp}{s s':Al}(he:FW F o s=some s'):FW G o s=some s':=by
 simp only[FW,Iw] at he |-;split at he
 ·cases he
 ·exact he
 ·split at he
  ·cases he
  ·rename_i r l hk;rw[Azm h hk];exact he
theorem O_{F G:BM}(h:Le F G):∀ {l:List IOp} {s s':Al},Ej F l s=some s'->Ej G l s=some s'
 | [],_,_,he=>he
 | o::l,s,s',he=>by
  simp only[Ej] at he |-;cases h1:FW F o s with
  | none=>rw[h1] at he;cases he
  | some s1 =>
   rw[h1] at he;rw[cK h h1];exact O_ h he
theorem F5{F G:BM}(h:Le F G):∀ {n m:Nat},n<=m->∀ {c:ICode} {s:Al} {r:Ex × Al},Cr F n c s=some r->Cr G m c s=some r:=by
 intro n;induction n with
 | zero=>intro m _ c s r he;simp[Cr] at he
 | succ n ih =>
  intro m hm c s r he;obtain⟨m,rfl⟩:∃ m',m=m'+1:=⟨m-1,by omega⟩;have hm':n<=m:=by omega
  cases c with
  | skip=>exact he
  | region d ops =>
   simp only[Cr,Ak] at he |-;obtain⟨s',h1,h2⟩:=he;exact⟨s',O_ h h1,h2⟩
  | seq a b =>
   simp only[Cr] at he |-;cases h1:Cr F n a s with
   | none=>rw[h1] at he;cases he
   | some p =>
    rw[h1] at he;rw[ih hm' h1];obtain⟨ex,s1⟩:=p;cases ex with
    | norm=>exact ih hm' he
    | exit i=>exact he
    | ret=>exact he
  | cond c a b =>
   simp only[Cr] at he |-;split at he
   ·exact ih hm' he
   ·exact ih hm' he
   ·cases he
  | block id c =>
   simp only[Cr] at he |-;cases h1:Cr F n c s with
   | none=>rw[h1] at he;cases he
   | some p =>
    rw[h1] at he;rw[ih hm' h1];exact he
  | scope c=>exact ih hm' he
  | loop c =>
   simp only[Cr] at he |-;cases h1:Cr F n c s with
   | none=>rw[h1] at he;cases he
   | some p =>
    rw[h1] at he;rw[ih hm' h1];obtain⟨ex,s1⟩:=p;cases ex with
    | norm=>exact ih hm' he
    | exit i=>exact he
    | ret=>exact he
  | exit id=>exact he
  | ret=>exact he
theorem E7(prog:Nat->Option IFunc):∀ {n m:Nat},n<=m->Le (NO prog n) (NO prog m):=by
 intro n;induction n with
 | zero=>intro m _ f args r h;simp[NO] at h
 | succ n ih =>
  intro m hm f args r h;obtain⟨m,rfl⟩:∃ m',m=m'+1:=⟨m-1,by omega⟩;have hm':n<=m:=by omega
  simp only[NO] at h |-;split at h
  ·cases h
  ·rename_i fn hfn;split at h
   ·rename_i hl;rw[if_pos hl];cases h1:Cr (NO prog n) n fn.body (H' fn args) with
    | none=>rw[h1] at h;cases h
    | some p =>
     rw[h1] at h;rw[F5 (ih hm') hm' h1];exact h
   ·cases h
def Bg(prog:Nat->Option IFunc)(f:Nat)(args:List AV)(r:AV):Prop:=∃ n,NO prog n f args=some r
def DF(prog:Nat->Option IFunc)(c:ICode)(s:Al)(ex:Ex)(s':Al):Prop:=∃ n,Cr (NO prog n) n c s=some (ex,s')
theorem HM{prog:Nat->Option IFunc}{f:Nat}{fn:IFunc}{args:List AV}{s:Al}{ex:Ex}{r:AV}(hf:prog f=some fn)(hl:args.length=fn.params)(h:DF prog fn.body (H' fn args) ex s)
  (hex:∀ i,ex ≠ .exit i) (hr:HJ s fn.res=some r):Bg prog f args r:=by
 obtain⟨n,h⟩:=h;refine⟨n+1,?_⟩;simp only[NO,hf,if_pos hl,h];cases ex with
 | norm=>exact hr
 | ret=>exact hr
 | exit i=>exact absurd rfl (hex i)
theorem DF.seq{prog:Nat->Option IFunc}{a b:ICode}{s s1 s':Al}{ex:Ex}(h1:DF prog a s .norm s1)(h2:DF prog b s1 ex s'):DF prog (.seq a b) s ex s':=by
 obtain⟨n,h1⟩:=h1;obtain⟨m,h2⟩:=h2;refine⟨max n m+1,?_⟩;have e1:=F5 (E7 prog (show n<=max n m+1 by omega)) (show n<=max n m by omega) h1;have e2:=F5 (E7 prog (show m<=max n m+1 by omega)) (show m<=max n m by omega) h2;simp only[Cr,e1,e2]
theorem EB{prog:Nat->Option IFunc}{a b:ICode}{s s':Al}{ex:Ex}(h1:DF prog a s ex s')(hex:ex ≠ .norm):DF prog (.seq a b) s ex s':=by
 obtain⟨n,h1⟩:=h1;refine⟨n+1,?_⟩;have e1:=F5 (E7 prog (show n<=n+1 by omega)) (show n<=n by omega) h1;simp only[Cr,e1];cases ex with
 | norm=>exact absurd rfl hex
 | exit i=>rfl
 | ret=>rfl
theorem DF.scope{prog:Nat->Option IFunc}{c:ICode}{s s':Al}{ex:Ex}(h:DF prog c s ex s'):DF prog (.scope c) s ex s':=by
 obtain⟨n,h⟩:=h;exact⟨n+1,by simp only[Cr];exact F5 (E7 prog (by omega)) (Ap _) h⟩
theorem DF.block{prog:Nat->Option IFunc}{id:Nat}{c:ICode}{s s':Al}(h:DF prog c s (.exit id) s'):DF prog (.block id c) s .norm s':=by
 obtain⟨n,h⟩:=h;refine⟨n+1,?_⟩;have e1:=F5 (E7 prog (show n<=n+1 by omega)) (show n<=n by omega) h;simp only[Cr,e1,if_true]
theorem Lt{prog:Nat->Option IFunc}{id:Nat}{c:ICode}{s s':Al}(h:DF prog c s .norm s'):DF prog (.block id c) s .norm s':=by
 obtain⟨n,h⟩:=h;refine⟨n+1,?_⟩;have e1:=F5 (E7 prog (show n<=n+1 by omega)) (show n<=n by omega) h;simp only[Cr,e1]
theorem Ml{prog:Nat->Option IFunc}{id i:Nat}{c:ICode}{s s':Al}(h:DF prog c s (.exit i) s')(hi:i ≠ id):DF prog (.block id c) s (.exit i) s':=by
 obtain⟨n,h⟩:=h;refine⟨n+1,?_⟩;have e1:=F5 (E7 prog (show n<=n+1 by omega)) (show n<=n by omega) h;simp only[Cr,e1,if_neg hi]
theorem Mm{prog:Nat->Option IFunc}{id:Nat}{c:ICode}{s s':Al}(h:DF prog c s .ret s'):DF prog (.block id c) s .ret s':=by
 obtain⟨n,h⟩:=h;refine⟨n+1,?_⟩;have e1:=F5 (E7 prog (show n<=n+1 by omega)) (show n<=n by omega) h;simp only[Cr,e1]
theorem DF.loop{prog:Nat->Option IFunc}{c:ICode}{s s1 s':Al}{ex:Ex}(h1:DF prog c s .norm s1)(h2:DF prog (.loop c) s1 ex s'):DF prog (.loop c) s ex s':=by
 obtain⟨n,h1⟩:=h1;obtain⟨m,h2⟩:=h2;refine⟨max n m+1,?_⟩;have e1:=F5 (E7 prog (show n<=max n m+1 by omega)) (show n<=max n m by omega) h1;have e2:=F5 (E7 prog (show m<=max n m+1 by omega)) (show m<=max n m by omega) h2;simp only[Cr,e1,e2]
theorem N8{prog:Nat->Option IFunc}{c:ICode}{s s':Al}{ex:Ex}(h1:DF prog c s ex s')(hex:ex ≠ .norm):DF prog (.loop c) s ex s':=by
 obtain⟨n,h1⟩:=h1;refine⟨n+1,?_⟩;have e1:=F5 (E7 prog (show n<=n+1 by omega)) (show n<=n by omega) h1;simp only[Cr,e1];cases ex with
 | norm=>exact absurd rfl hex
 | exit i=>rfl
 | ret=>rfl
def Oc(prog:Nat->Option IFunc)(F:BM):Prop:=∀ f args r,F f args=some r->Bg prog f args r
theorem Ri{prog:Nat->Option IFunc}{F:BM}(h:Oc prog F):∀ {l:List IOp} {s s':Al},Ej F l s=some s'->∃ n,Ej (NO prog n) l s=some s'
 | [],s,s',he=>⟨0,he⟩
 | o::l,s,s',he=>by
  simp only[Ej] at he;cases h1:FW F o s with
  | none=>rw[h1] at he;cases he
  | some s1 =>
   rw[h1] at he;obtain⟨n,hn⟩:=Ri h he;have key:∃ m,FW (NO prog m) o s=some s1:=by
    simp only[FW,Iw] at h1 |-;generalize kill s o.ks=s at *
    split at h1
    ·cases h1
    ·exact⟨0,h1⟩
    ·split at h1
     ·cases h1
     ·rename_i r l' hk;have:∃ m,BJ (NO prog m) s o.k=some (r,l'):=by
       cases hkk:o.k
       case call f xs =>
        rw[hkk] at hk;simp only[BJ] at hk |-;split at hk
        ·rename_i vs hvs;simp only[Ak] at hk;obtain⟨v,hv,e⟩:=hk;obtain⟨m,hm⟩:=h f vs v hv;exact⟨m,by simp only[hm,A9,e]⟩
        ·cases hk
       case clo f xs =>
        rw[hkk] at hk;simp only[BJ] at hk |-;split at hk
        ·rename_i vs hvs;simp only[Ak] at hk;obtain⟨v,hv,e⟩:=hk;obtain⟨m,hm⟩:=h f vs v hv;exact⟨m,by simp only[hm,A9,e]⟩
        ·cases hk
       case cln f xs ls =>
        rw[hkk] at hk;simp only[BJ] at hk |-;split at hk
        ·rename_i vs hvs;split at hk
         ·rename_i hl;simp only[Ak] at hk;obtain⟨v,hv,e⟩:=hk;obtain⟨m,hm⟩:=h f vs v hv;exact⟨m,by rw[if_pos hl,hm];simp only[A9,e]⟩
         ·cases hk
        ·cases hk
       case brw f x d =>
        rw[hkk] at hk;simp only[BJ] at hk |-;split at hk
        ·split at hk
         ·rename_i hd;split at hk
          ·split at hk
           ·rename_i hc;split at hk
            ·rename_i y hy;obtain⟨m,hm⟩:=h _ _ _ hy;exact⟨m,by rw[if_pos hd,if_pos hc,hm];exact hk⟩
            ·cases hk
           ·cases hk
          ·cases hk
         ·cases hk
        ·cases hk
       all_goals (rw[hkk] at hk;exact⟨0,hk⟩)
      obtain⟨m,hm⟩:=this;exact⟨m,by rw[hm];exact h1⟩
   obtain⟨m,hm⟩:=key;refine⟨max n m,?_⟩;simp only[Ej,cK (E7 prog (show m<=max n m by omega)) hm];exact O_ (E7 prog (show n<=max n m by omega)) hn
theorem UU{prog:Nat->Option IFunc}{F:BM}(h:Oc prog F):∀ (n:Nat) {c:ICode} {s:Al} {ex:Ex} {s':Al},Cr F n c s=some (ex,s')->DF prog c s ex s':=by
 intro n;induction n with
 | zero=>intro c s ex s' he;simp[Cr] at he
 | succ n ih =>
  intro c s ex s' he;cases c with
  | skip=>exact⟨1,he⟩
  | region d ops =>
   simp only[Cr,Ak] at he;obtain⟨s1,h1,h2⟩:=he;obtain⟨m,hm⟩:=Ri h h1;refine⟨m+1,?_⟩;simp only[Cr,O_ (E7 prog (show m<=m+1 by omega)) hm,A9,h2]
  | seq a b =>
   simp only[Cr] at he;split at he
   ·rename_i s1 h1;exact DF.seq (ih h1) (ih he)
   ·rename_i h1;exact EB (ih he) (by rintro rfl;exact h1 s' he)
  | cond c a b =>
   simp only[Cr] at he;split at he
   ·rename_i hc;obtain⟨m,hm⟩:=ih he;exact⟨m+1,by simp only[Cr,hc];exact F5 (E7 prog (by omega)) (Ap _) hm⟩
   ·rename_i hc;obtain⟨m,hm⟩:=ih he;exact⟨m+1,by simp only[Cr,hc];exact F5 (E7 prog (by omega)) (Ap _) hm⟩
   ·cases he
  | block id c =>
   simp only[Cr] at he;split at he
   ·rename_i i s1 h1;split at he
    ·rename_i hi;cases he;subst hi;exact DF.block (ih h1)
    ·rename_i hi;cases he;exact Ml (ih h1) hi
   ·rename_i h1;cases ex with
    | norm=>exact Lt (ih he)
    | exit i=>exact absurd he (h1 i s')
    | ret=>exact Mm (ih he)
  | scope c =>
   simp only[Cr] at he;exact DF.scope (ih he)
  | loop c =>
   simp only[Cr] at he;split at he
   ·rename_i s1 h1;exact DF.loop (ih h1) (ih he)
   ·rename_i h1;exact N8 (ih he) (by rintro rfl;exact h1 s' he)
  | exit id=>exact⟨1,he⟩
  | ret=>exact⟨1,he⟩
theorem Bg.unique{prog:Nat->Option IFunc}{f:Nat}{args:List AV}{r r':AV}(h:Bg prog f args r)(h':Bg prog f args r'):r=r':=by
 obtain⟨n,h⟩:=h;obtain⟨m,h'⟩:=h';have e1:=E7 prog (show n<=max n m by omega) f args r h;have e2:=E7 prog (show m<=max n m by omega) f args r' h';rw[e1] at e2;exact Mc e2
open Classical in
noncomputable def UV (prog:Nat->Option IFunc):BM:=fun f args=>if h:∃ r,Bg prog f args r then some h.choose else none
theorem Lu{prog:Nat->Option IFunc}{f:Nat}{args:List AV}{r:AV}(h:Bg prog f args r):UV prog f args=some r:=by
 have h':∃ r,Bg prog f args r:=⟨r,h⟩;simp only[UV,dif_pos h'];exact congrArg some (h'.choose_spec.unique h)
theorem lX(prog:Nat->Option IFunc):Oc prog (UV prog):=by
 intro f args r h;unfold UV at h;split at h
 ·rename_i h';cases h;exact h'.choose_spec
 ·cases h
abbrev Cw:=List (Nat × (List AV->Option (AV × List Prop)))
def Gi:List Prop->Prop
 | []=>True
 | p::l=>p/\Gi l
def lY(T:Cw)(f:Nat)(args:List AV):Option (AV × List Prop) :=
 match T.lookup f with
 | some g=>g args
 | none=>none
def Ch(prog:Nat->Option IFunc)(T:Cw):Prop:=∀ f args r ps,lY T f args=some (r,ps)->Gi ps->Bg prog f args r
theorem Ch.nil(prog:Nat->Option IFunc):Ch prog []:=fun f args r ps h=>by simp [lY] at h
theorem Ch.cons{prog:Nat->Option IFunc}{T:Cw}{f:Nat}{g:List AV->Option (AV × List Prop)}(h:Ch prog T)(hg:∀ args r ps,g args=some (r,ps)->Gi ps->Bg prog f args r):Ch prog ((f,g)::T):=by
 intro f' args r ps hr;simp only[lY,List.lookup] at hr;by_cases hf:f'=f
 ·subst hf;simp at hr;exact hg args r ps hr
 ·have:(f'==f)=false:=by simpa using hf
  simp only[this] at hr;exact h f' args r ps hr
theorem Bg.calls{P:Program}{prog:Nat->Option IFunc}{f:Nat}{args:List AV}{r:AV}(hm:P.follows .mixedOrders=true)
  (hp:∀ f ifn,prog f=some ifn->∃ fn roots,P.funcs[f]? = some fn/\AY P roots fn ifn=true) (h:Bg prog f args r) (X:Nat->Prop) (w:World) (vs:Array Value)
  (hX:∀ b,X b->b<w.heap.size) (hs:vs.size=args.length) (hr:∀ (i:Nat) (h1:i<vs.size) (h2:i<args.length),Rd (fun _=>False) X w vs[i] args[i]) :
  Calls P f vs w fun e w'=>∃ v,e = .returned v/\Below w.heap.size w w'/\Rd (fun _=>False) X w' v (KK r):=by
 obtain⟨n,h⟩:=h;exact (simF hm hp n f args r h _ X w vs hX (fun _ h=>h.elim) hs hr).mono fun e w' ⟨v,h1,h2,h3⟩=>⟨v,h1,h2,h3.thawed hX (fun _ h=>h.elim)⟩
inductive Sc where
 | b (x:Bool)
 | v (x:AV)
 | l (cs:List AV)
 | r (x:AV)
theorem F6:∀ {l m:List Prop},Gi (l++m)↔Gi l/\Gi m
 | [],m=>by simp[Gi]
 | p::l,m=>by simp only[Ii,Gi,F6 (l:=l),and_assoc]
abbrev R3(α:Type):=Option (α × List Sc × List Prop)
def UW(op:BinOp)(k k':IntKind)(a b:Int):Option (AV × List Prop) :=
 match op with
 | .quo=>if k=k' then some (.int k (k.wrap (a.tdiv b)),[¬ b=0]) else none
 | .rem=>if k=k' then some (.int k (a.tmod b),[¬ b=0]) else none
 | .shl=>some (.int k (k.wrap (a*2^(min b.toNat k.bits))),[¬ b<0])
 | .shr=>some (.int k (a.fdiv (2^(min b.toNat k.bits))),[¬ b<0])
 | op=>(Md op (.int k a) (.int k' b)).map fun v=>(v,[])
theorem Aig{op:BinOp}{k k':IntKind}{a b:Int}{v:AV}{ps:List Prop}(h:UW op k k' a b=some (v,ps))(hp:Gi ps):Md op (.int k a) (.int k' b)=some v:=by
 cases op
 case quo =>
  simp only[UW] at h;split at h
  ·rename_i hk;cases h;simp only[Md,J1,hk,bL];simp only[Cj,if_false,if_true,if_neg hp.1]
  ·cases h
 case rem =>
  simp only[UW] at h;split at h
  ·rename_i hk;cases h;simp only[Md,J1,hk,bL];simp only[Cj,if_false,if_true,if_neg hp.1]
  ·cases h
 case shl =>
  simp only[UW] at h;cases h;simp only[Md,J1,if_true,Q_,if_neg hp.1]
 case shr =>
  simp only[UW] at h;cases h;simp only[Md,J1,if_true,Q_,if_neg hp.1]
 all_goals
  simp only[UW,Ak] at h;obtain⟨u,hu,e⟩:=h;cases e;exact hu
abbrev HN:=Option (Nat × Bool)
def HN.is(m:HN)(t:Nat):Option Bool :=
 match m with
 | some (u,x)=>if u=t then some x else none
 | none=>none
def HN.opd(m:HN):Opd->Option Bool
 | .t n=>m.is n
 | .c _=>none
def HN.Ok(s:Al)(m:HN):Prop:=∀ t x,m=some (t,x)->A5 s t = .val (.bool x)
theorem MO{s:Al}{m:HN}(h:m.Ok s){o:Opd}{x:Bool}(ho:m.opd o=some x):o.av s=some (.bool x):=by
 cases o with
 | c y=>cases ho
 | t n =>
  simp only[HN.opd,HN.is] at ho;split at ho
  ·rename_i u y;split at ho
   ·rename_i hu;cases ho;subst hu;simp only[Opd.av,Opd.reg,h _ _ rfl]
   ·cases ho
  ·cases ho
def Yi(s:Al)(d:Nat):Option Opd->Option (Nat × List Prop)
 | none=>some (d,[])
 | some o=>match o.av s with
  | some (.int _ i)=>some (i.toNat,[0<=i])
  | _=>none
theorem UX{s:Al}{d:Nat}{o:Option Opd}{n:Nat}{ps:List Prop}(h:Yi s d o=some (n,ps))(hp:Gi ps):GR s d o=some n:=by
 cases o with
 | none=>simp only[Yi,A3,D2] at h;rw[<- h.1];rfl
 | some o =>
  simp only[Yi] at h;simp only[GR];split at h
  ·rename_i k i hi;cases h;rw[hi];simp only[if_pos hp.1]
  ·cases h
def IK(prog:Nat->Option IFunc)(T:Cw)(s:Al)(m:HN)(k:K)(sc:List Sc):R3 (Reg × List (Nat × Reg)) :=
 match k with
 | .pick c a b =>
  match m.opd c with
  | some true=>(a.av s).map fun v=>((.val v,[]),sc,[])
  | some false=>(b.av s).map fun v=>((.val v,[]),sc,[])
  | none=>match c.av s,sc with
  | some (.bool c),.b t::sc=>(match t with | true=>(a.av s) | false=>(b.av s)).map fun v=>((.val v,[]),sc,[c=t])
  | _,_=>none
 | .bin op x y =>
  match x.av s,y.av s with
  | some (.int k a),some (.int k' b)=>(UW op k k' a b).map fun p=>((.val p.1,[]),sc,p.2)
  | _,_=>none
 | .ixa x i k =>
  match i.av s,A5 s x with
  | some (.int _ i),.val (.sl n cs)=>some ((.mem (cs.drop (i.toNat*k)),[]),sc,[0<=i/\i<n])
  | _,_=>none
 | .ld x d n one =>
  match A5 s x,sc with
  | .mem cs,.v u::sc=>some ((.val u,[]),sc,[Bv cs 0 n one=some u])
  | .ptr d' off,sc=>if d'=d then (match A5 s d,sc with
   | .own _ _ cs,.v u::sc=>some ((.val u,[]),sc,[Bv cs off n one=some u])
   | .box cs,sc=>(Bv cs off n one).map fun v=>((.val v,[]),sc,[])
   | _,_=>none) else none
  | _,sc=>(BJ (fun _ _=>none) s (.ld x d n one)).map fun p=>(p,sc,[])
 | .six x i =>
  match x.av s,i.av s,sc with
  | some (.str b),some (.int _ i),.v (.int .u8 n)::sc=>some ((.val (.int .u8 n),[]),sc,[((if 0<=i then b[i.toNat]? else none).map fun c=>(c.toNat:Int))=some n])
  | _,_,_=>none
 | .call f xs =>
  match avs s xs with
  | some vs=>(match lY T f vs with
   | some p=>some ((.val (KK p.1),[]),sc,p.2)
   | none=>(match sc with
    | .r r::sc=>some ((.val (KK r),[]),sc,[Bg prog f vs r])
    | _=>none))
  | none=>none
 | .st x d n v =>
  match v.av s with
  | none=>none
  | some a=>match Gn a n with
   | none=>none
   | some ys=>match A5 s x with
    | .box cs=>if x=d then (C6 cs 0 ys).map fun cs'=>((.dead,[(d,.box cs')]),sc,[]) else none
    | .ptr d' off=>if d'=d then (match A5 s d,sc with
     | .own k m cs,.l cs'::sc=>some ((.dead,[(d,.own k m cs')]),sc,[C6 cs off ys=some cs'])
     | .box cs,sc=>(C6 cs off ys).map fun cs'=>((.dead,[(d,.box cs')]),sc,[])
     | _,_=>none) else none
    | _=>none
 | .ixo x d i k =>
  match i.av s with
  | some (.int _ i)=>(match A5 s x with
   | .val (.sl n cs)=>some ((.mem (cs.drop (i.toNat*k)),[]),sc,[0<=i/\i<n])
   | .dup d'=>if d'=d then (match A5 s d with
    | .own k' n _=>if k'=k then some ((.ptr d (i.toNat*k),[]),sc,[0<=i/\i<n]) else none
    | _=>none) else none
   | _=>none)
  | _=>none
 | .mks z n =>
  match n.av s with
  | some (.int _ m)=>some ((.own z.length m.toNat (Cz z m.toNat),[]),sc,[0<=m/\m<=1048576])
  | _=>none
 | .apd ow x y k B =>
  match y.av s with
  | some (.sl m ys)=>(match x.reg s,sc with
   | .val .nil,sc=>some ((if ow then .own k m ys else .val (.sl m ys),[]),sc,[ys.length=m*k,m<=B])
   | .own k' n cs,sc=>if k'=k then some ((if ow then .own k (n+m) (cs++ys) else .val (.sl (n+m) (cs++ys)),Qg x),sc,[ys.length=m*k,n+m<=B]) else none
   | _,_=>none)
  | _=>(BJ (fun _ _=>none) s (.apd ow x y k B)).map fun p=>(p,sc,[])
 | .sli x lo hi mx k =>
  match x.av s with
  | some (.sl n cs)=>(match Yi s n mx,Yi s n hi,Yi s 0 lo with
   | some (m,p1),some (h,p2),some (l,p3)=>some ((.val (.sl (h-l) ((cs.drop (l*k)).take ((h-l)*k))),[]),sc,p1++(p2++(p3++[l<=h/\h<=m/\m<=n/\(mx.isSome->hi.isSome)])))
   | _,_,_=>none)
  | _=>(BJ (fun _ _=>none) s (.sli x lo hi mx k)).map fun p=>(p,sc,[])
 | .clo f xs =>
  match avs s xs with
  | some vs=>(match lY T f vs with
   | some p=>some ((Ln p.1,[]),sc,p.2)
   | none=>(match sc with
    | .r r::sc=>some ((Ln r,[]),sc,[Bg prog f vs r])
    | _=>none))
  | none=>none
 | .cln f xs ls =>
  match avs s xs with
  | some vs=>if ls.all (fun t=>Gm (A5 s t)) then (match lY T f vs with
   | some p=>some ((Ln p.1,[]),sc,p.2)
   | none=>(match sc with
    | .r r::sc=>some ((Ln r,[]),sc,[Bg prog f vs r])
    | _=>none)) else none
  | none=>none
 | .brw f x d =>
  match A5 s x with
  | .dup d'=>if d'=d then (match A5 s d with
   | .own _ n cs=>(match lY T f [.sl n cs] with
    | some p=>some ((.val (KK p.1),[]),sc,[cs.all (fun c => !UI c)=true,G9 (KK p.1)=true]++p.2)
    | none=>(match sc with
     | .r r::sc=>some ((.val (KK r),[]),sc,[cs.all (fun c => !UI c)=true,G9 (KK r)=true,Bg prog f [.sl n cs] r])
     | _=>none))
   | _=>none) else none
  | _=>none
 | .slo x hi k =>
  match hi.av s with
  | some (.int _ h)=>(match A5 s x with
   | .own k' n cs=>if k'=k then some ((.own k h.toNat (cs.take (h.toNat*k)),[(x,.dead)]),sc,[0<=h/\h<=n]) else none
   | _=>none)
  | _=>none
 | k=>(BJ (fun _ _=>none) s k).map fun p=>(p,sc,[])
theorem Aih{prog:Nat->Option IFunc}{T:Cw}(hT:Ch prog T){s:Al}{m:HN}(hm:m.Ok s){k:K}{sc sc':List Sc}{p:Reg × List (Nat × Reg)}{ps:List Prop}(h:IK prog T s m k sc=some (p,sc',ps))(hp:Gi ps):BJ (UV prog) s k=some p:=by
 cases k
 case pick c a b =>
  simp only[IK] at h;split at h
  ·rename_i hmo;simp only[Ak] at h;obtain⟨v,hv,e⟩:=h;cases e;simp only[BJ,MO hm hmo,hv,A9]
  ·rename_i hmo;simp only[Ak] at h;obtain⟨v,hv,e⟩:=h;cases e;simp only[BJ,MO hm hmo,hv,A9]
  split at h
  ·rename_i c' t sc1 hc;simp only[Ak] at h;obtain⟨v,hv,e⟩:=h;cases e;have:c'=t:=hp.1;subst this;cases c' with
   | true=>simp only[BJ,hc];simp only at hv;rw[hv];rfl
   | false=>simp only[BJ,hc];simp only at hv;rw[hv];rfl
  ·cases h
 case bin op x y =>
  simp only[IK] at h;split at h
  ·rename_i k1 a k2 b hx hy;simp only[Ak] at h;obtain⟨⟨v,ps'⟩,hv,e⟩:=h;cases e;simp only[BJ,hx,hy,Aig hv hp,A9]
  ·cases h
 case ixa x i k =>
  simp only[IK] at h;split at h
  ·rename_i k1 iv n cs hi hx;cases h;simp only[BJ,hi,hx,if_pos hp.1]
  ·cases h
 case ld x d n one =>
  simp only[IK] at h;split at h
  ·rename_i cs u sc1 hx;cases h;simp only[BJ,hx,hp.1,A9]
  ·rename_i d' off hx;split at h
   ·rename_i hd;split at h
    ·rename_i k m cs u sc1 hr;cases h;simp only[BJ,hx,if_pos hd,hr,hp.1,A9]
    ·rename_i cs hr;simp only[Ak] at h;obtain⟨q,hq,e⟩:=h;cases e;simp only[BJ,hx,if_pos hd,hr,hq,A9]
    ·cases h
   ·cases h
  ·simp only[Ak] at h;obtain⟨q,hq,e⟩:=h;cases e;exact hq
 case st x d n v =>
  simp only[IK] at h;split at h
  ·cases h
  ·rename_i a ha;split at h
   ·cases h
   ·rename_i ys hys;simp only[BJ,ha,hys];split at h
    ·rename_i cs hx;rw[hx];dsimp only;split at h
     ·rename_i hd;simp only[Ak] at h;obtain⟨q,hq,e⟩:=h;cases e;simp only[if_pos hd,hq,A9]
     ·cases h
    ·rename_i d' off hx;rw[hx];dsimp only;split at h
     ·rename_i hd;rw[if_pos hd];split at h
      ·rename_i k m cs cs' sc1 hr;cases h;simp only[hr,hp.1,A9]
      ·rename_i cs hr;simp only[Ak] at h;obtain⟨q,hq,e⟩:=h;cases e;simp only[hr,hq,A9]
      ·cases h
     ·cases h
    ·cases h
 case ixo x d i k =>
  simp only[IK] at h;split at h
  ·rename_i k1 iv hi;split at h
   ·rename_i n cs hx;cases h;simp only[BJ,hi,hx,if_pos hp.1]
   ·rename_i d' hx;split at h
    ·rename_i hd;split at h
     ·rename_i k' n cs hr;split at h
      ·rename_i hk;cases h;simp only[BJ,hi,hx,if_pos hd,hr,if_pos (show k'=k/\0<=iv/\iv<(n:Int) from ⟨hk,hp.1⟩)]
      ·cases h
     ·cases h
    ·cases h
   ·cases h
  ·cases h
 case mks z n =>
  simp only[IK] at h;split at h
  ·rename_i k1 m hn;cases h;simp only[BJ,hn,if_pos hp.1]
  ·cases h
 case apd ow x y k B =>
  simp only[IK] at h;split at h
  ·rename_i m ys hy;split at h
   ·rename_i hx;cases h;simp only[BJ,hy,if_pos hp.1,hx,if_pos hp.2.1]
   ·rename_i k' n cs hx;split at h
    ·rename_i hk;cases h;simp only[BJ,hy,if_pos hp.1,hx,if_pos (show k'=k/\n+m<=B from ⟨hk,hp.2.1⟩)]
    ·cases h
   ·cases h
  ·simp only[Ak] at h;obtain⟨q,hq,e⟩:=h;cases e;exact hq
 case sli x lo hi mx k =>
  simp only[IK] at h;split at h
  ·rename_i n cs hx;split at h
   ·rename_i m1 p1 h1 p2 l1 p3 b1 b2 b3;cases h;rw[F6,F6,F6] at hp;simp only[BJ,hx,UX b1 hp.1,UX b2 hp.2.1,UX b3 hp.2.2.1,if_pos hp.2.2.2.1]
   ·cases h
  ·simp only[Ak] at h;obtain⟨q,hq,e⟩:=h;cases e;exact hq
 case six x i =>
  simp only[IK] at h;split at h
  ·rename_i b k1 iv n sc1 hx hi;cases h;have:=hp.1;simp only[Ak] at this;obtain⟨c,hc,rfl⟩:=this;simp only[BJ,hx,hi,hc,A9]
  ·cases h
 case call f xs =>
  simp only[IK] at h;split at h
  ·rename_i vs hvs;split at h
   ·rename_i q hv;cases h;simp only[BJ,hvs,Lu (hT f vs q.1 q.2 hv hp),A9]
   ·split at h
    ·rename_i r sc1;cases h;simp only[BJ,hvs,Lu hp.1,A9]
    ·cases h
  ·cases h
 case clo f xs =>
  simp only[IK] at h;split at h
  ·rename_i vs hvs;split at h
   ·rename_i q hv;cases h;simp only[BJ,hvs,Lu (hT f vs q.1 q.2 hv hp),A9]
   ·split at h
    ·rename_i r sc1;cases h;simp only[BJ,hvs,Lu hp.1,A9]
    ·cases h
  ·cases h
 case cln f xs ls =>
  simp only[IK] at h;split at h
  ·rename_i vs hvs;split at h
   ·rename_i hl;split at h
    ·rename_i q hv;cases h;simp only[BJ,hvs,if_pos hl,Lu (hT f vs q.1 q.2 hv hp),A9]
    ·split at h
     ·rename_i r sc1;cases h;simp only[BJ,hvs,if_pos hl,Lu hp.1,A9]
     ·cases h
   ·cases h
  ·cases h
 case brw f x d =>
  simp only[IK] at h;split at h
  ·rename_i d' hrx;split at h
   ·rename_i hdd;split at h
    ·rename_i k n cs hrd;split at h
     ·rename_i q hv;cases h;have h1:=hp.1;have h2:=hp.2.1;have h3:=hp.2.2;simp only[BJ,hrx,hdd,hrd,if_true,h1,Lu (hT f _ q.1 q.2 hv h3),h2]
     ·split at h
      ·rename_i r sc1;cases h;have h1:=hp.1;have h2:=hp.2.1;simp only[BJ,hrx,hdd,hrd,if_true,h1,Lu hp.2.2.1,h2]
      ·cases h
    ·cases h
   ·cases h
  ·cases h
 case slo x hi k =>
  simp only[IK] at h;split at h
  ·rename_i k1 iv hi;split at h
   ·rename_i k' n cs hx;split at h
    ·rename_i hk;cases h;simp only[BJ,hi,hx,if_pos (show k'=k/\0<=iv/\iv<=(n:Int) from ⟨hk,hp.1⟩)]
    ·cases h
   ·cases h
  ·cases h
 all_goals
  simp only[IK,Ak] at h;obtain⟨q,hq,e⟩:=h;cases e;exact hq
def lZ(s:Al)(m:HN)(g:Option (Nat × Bool))(sc:List Sc):R3 (Bool × HN) :=
 match g with
 | none=>some ((true,m),sc,[])
 | some (t,b) =>
  match m.is t with
  | some x=>some ((x==b,m),sc,[])
  | none=>match A5 s t,sc with
   | .val (.bool c),.b x::sc=>some ((x==b,some (t,x)),sc,[c=x])
   | .val .undef,sc=>some ((false,m),sc,[])
   | _,_=>none
theorem Yj{s:Al}{m m':HN}(hm:m.Ok s){g:Option (Nat × Bool)}{sc sc':List Sc}{r:Bool}{ps:List Prop}(h:lZ s m g sc=some ((r,m'),sc',ps))(hp:Gi ps):GS s g=some r/\m'.Ok s:=by
 unfold lZ at h;split at h
 ·cases h;exact⟨rfl,hm⟩
 ·rename_i t b;split at h
  ·rename_i x hx;cases h;refine⟨?_,hm⟩;have:=MO hm (o := .t t) hx;simp only[Opd.av,Opd.reg] at this;simp only[GS];split at this
   ·rename_i y hy;cases this;rw[hy]
   ·cases this
  ·split at h
   ·rename_i c x sc1 hr;cases h;have:c=x:=hp.1;subst this;refine⟨by simp only[GS,hr],fun u y e => ?_⟩;cases e;exact hr
   ·rename_i hr;cases h;exact⟨by simp only[GS,hr],hm⟩
   ·cases h
def HN.after(m:HN)(wr:List Nat):HN :=
 match m with
 | some (t,x)=>if wr.contains t then none else some (t,x)
 | none=>none
def ZA(prog:Nat->Option IFunc)(T:Cw)(o:IOp)(s:Al)(m:HN)(sc:List Sc):R3 (Al × HN) :=
 match lZ s m o.g sc with
 | none=>none
 | some ((false,m),sc,ps)=>some ((Ea s o.dst (.val .undef),m.after o.wr),sc,ps)
 | some ((true,m),sc,ps)=>match IK prog T s m o.k sc with
  | none=>none
  | some ((r,l),sc,qs)=>some ((Ea (Cd s l) o.dst r,m.after o.wr),sc,ps++qs)
def mA(prog:Nat->Option IFunc)(T:Cw)(o:IOp)(s:Al)(m:HN)(sc:List Sc):R3 (Al × HN):=ZA prog T o (kill s o.ks) (m.after o.ks) sc
theorem X6{s:Al}{m:HN}(hm:m.Ok s)(ks:List Nat):(m.after ks).Ok (kill s ks):=by
 intro t x e;unfold HN.after at e;split at e
 ·rename_i t' x';split at e
  ·cases e
  ·rename_i hn;cases e;rw[FG,if_neg (by simpa using hn)];exact hm _ _ rfl
 ·cases e
theorem Od{F:BM}{o:IOp}{s s':Al}{m:HN}(hm:m.Ok s)(h:Iw F o s=some s'):(m.after o.wr).Ok s':=by
 intro t x e;unfold HN.after at e;split at e
 ·rename_i t' x';split at e
  ·cases e
  ·rename_i hn;cases e;rw[Yd] at h;simp only[Ak] at h;obtain⟨l,hl,rfl⟩:=h;have hk:=UP hl;rw[NQ (fun p hp e => ?_)]
   ·exact hm _ _ rfl
   ·subst e;have:=hk p hp;simp only[IG,this,decide_true,not_true_eq_false] at hn
 ·cases e
theorem mB{prog:Nat->Option IFunc}{T:Cw}(hT:Ch prog T){o:IOp}{s s':Al}{m m':HN}(hm:m.Ok s){sc sc':List Sc}{ps:List Prop}(h:ZA prog T o s m sc=some ((s',m'),sc',ps))(hp:Gi ps):Iw (UV prog) o s=some s'/\m'.Ok s':=by
 unfold ZA at h;split at h
 ·cases h
 ·rename_i m1 sc1 ps1 hw;cases h;obtain⟨h1,h2⟩:=Yj hm hw hp;have h3:Iw (UV prog) o s=some (Ea s o.dst (.val .undef)):=by simp only[Iw,h1]
  exact⟨h3,Od h2 h3⟩
 ·rename_i m1 sc1 ps1 hw;split at h
  ·cases h
  ·rename_i r l sc2 qs hk;cases h;rw[F6] at hp;obtain⟨h1,h2⟩:=Yj hm hw hp.1;have h3:Iw (UV prog) o s=some (Ea (Cd s l) o.dst r):=by simp only[Iw,h1,Aih hT h2 hk hp.2]
   exact⟨h3,Od h2 h3⟩
theorem wA{prog:Nat->Option IFunc}{T:Cw}(hT:Ch prog T){o:IOp}{s s':Al}{m m':HN}(hm:m.Ok s){sc sc':List Sc}{ps:List Prop}(h:mA prog T o s m sc=some ((s',m'),sc',ps))(hp:Gi ps):FW (UV prog) o s=some s'/\m'.Ok s' :=
 mB hT (X6 hm o.ks) h hp
def Rj(prog:Nat->Option IFunc)(T:Cw):List IOp->Al->HN->List Sc->List Prop->R3 Al
 | [],s,_,sc,ps=>some (s,sc,ps)
 | o::l,s,m,sc,ps=>match mA prog T o s m sc with
  | none=>none
  | some ((s',m'),sc',qs)=>Rj prog T l s' m' sc' (ps++qs)
theorem UY{prog:Nat->Option IFunc}{T:Cw}(hT:Ch prog T):∀ {l:List IOp} {s s':Al} {m:HN} {sc sc':List Sc} {ps ps':List Prop},Rj prog T l s m sc ps=some (s',sc',ps')->Gi ps'->Gi ps/\(m.Ok s->Ej (UV prog) l s=some s')
 | [],s,s',m,sc,sc',ps,ps',h,hp=>by
  simp only[Rj,A3,D2] at h;obtain⟨rfl,_,rfl⟩:=h;exact⟨hp,fun _=>rfl⟩
 | o::l,s,s',m,sc,sc',ps,ps',h,hp=>by
  simp only[Rj] at h;cases h1:mA prog T o s m sc with
  | none=>rw[h1] at h;cases h
  | some q =>
   obtain⟨⟨s1,m1⟩,sc1,qs⟩:=q;rw[h1] at h;obtain⟨h2,h3⟩:=UY hT h hp;rw[F6] at h2;refine⟨h2.1,fun hm => ?_⟩;obtain⟨h4,h5⟩:=wA hT hm h1 h2.2;simp only[Ej,h4];exact h3 h5
def H5(prog:Nat->Option IFunc)(T:Cw):Nat->ICode->Al->List Sc->List Prop->R3 (Ex × Al)
 | 0,_,_,_,_=>none
 | _+1,.skip,s,sc,ps=>some ((.norm,s),sc,ps)
 | _+1,.region _ ops,s,sc,ps=>match Rj prog T ops s none sc ps with
  | none=>none
  | some (s',sc',ps')=>some ((.norm,s'),sc',ps')
 | n+1,.seq a b,s,sc,ps=>match H5 prog T n a s sc ps with
  | none=>none
  | some ((.norm,s'),sc',ps')=>H5 prog T n b s' sc' ps'
  | some ((.exit i,s'),sc',ps')=>some ((.exit i,s'),sc',ps')
  | some ((.ret,s'),sc',ps')=>some ((.ret,s'),sc',ps')
 | n+1,.cond c a b,s,sc,ps=>match c.av s,sc with
  | some (.bool v),.b true::sc=>H5 prog T n a s sc (ps++[v=true])
  | some (.bool v),.b false::sc=>H5 prog T n b s sc (ps++[v=false])
  | _,_=>none
 | n+1,.block id c,s,sc,ps=>match H5 prog T n c s sc ps with
  | none=>none
  | some ((.exit i,s'),sc',ps')=>if i=id then some ((.norm,s'),sc',ps') else some ((.exit i,s'),sc',ps')
  | some ((.norm,s'),sc',ps')=>some ((.norm,s'),sc',ps')
  | some ((.ret,s'),sc',ps')=>some ((.ret,s'),sc',ps')
 | n+1,.loop c,s,sc,ps=>match H5 prog T n c s sc ps with
  | none=>none
  | some ((.norm,s'),sc',ps')=>H5 prog T n (.loop c) s' sc' ps'
  | some ((.exit i,s'),sc',ps')=>some ((.exit i,s'),sc',ps')
  | some ((.ret,s'),sc',ps')=>some ((.ret,s'),sc',ps')
 | n+1,.scope c,s,sc,ps=>H5 prog T n c s sc ps
 | _+1,.exit id,s,sc,ps=>some ((.exit id,s),sc,ps)
 | _+1,.ret,s,sc,ps=>some ((.ret,s),sc,ps)
theorem Aii{prog:Nat->Option IFunc}{T:Cw}(hT:Ch prog T):∀ (n:Nat) {c:ICode} {s s':Al} {ex:Ex} {sc sc':List Sc} {ps ps':List Prop},H5 prog T n c s sc ps=some ((ex,s'),sc',ps')->Gi ps'->Gi ps/\Cr (UV prog) n c s=some (ex,s'):=by
 intro n;induction n with
 | zero=>intro c s s' ex sc sc' ps ps' h;simp[H5] at h
 | succ n ih =>
  intro c s s' ex sc sc' ps ps' h hp;cases c with
  | skip=>simp only[H5,A3,D2] at h;obtain⟨⟨rfl,rfl⟩,_,rfl⟩:=h;exact⟨hp,rfl⟩
  | region d ops =>
   simp only[H5] at h;split at h
   ·cases h
   ·rename_i s1 sc1 ps1 h1;cases h;obtain⟨h2,h3⟩:=UY hT h1 hp;have h4:=h3 (fun t x e=>(by cases e));exact⟨h2,by simp only[Cr,h4,A9]⟩
  | seq a b =>
   simp only[H5] at h;split at h
   ·cases h
   ·rename_i s1 sc1 ps1 h1;obtain⟨h2,h3⟩:=ih h hp;obtain⟨h4,h5⟩:=ih h1 h2;exact⟨h4,by simp only[Cr,h5];exact h3⟩
   ·rename_i i s1 sc1 ps1 h1;cases h;obtain⟨h4,h5⟩:=ih h1 hp;exact⟨h4,by simp only[Cr,h5]⟩
   ·rename_i s1 sc1 ps1 h1;cases h;obtain⟨h4,h5⟩:=ih h1 hp;exact⟨h4,by simp only[Cr,h5]⟩
  | cond c a b =>
   simp only[H5] at h;split at h
   ·rename_i v sc1 hc;obtain⟨h2,h3⟩:=ih h hp;rw[F6] at h2;have hv:v=true:=h2.2.1;exact⟨h2.1,by simp only[Cr,JM,hc,hv];exact h3⟩
   ·rename_i v sc1 hc;obtain⟨h2,h3⟩:=ih h hp;rw[F6] at h2;have hv:v=false:=h2.2.1;exact⟨h2.1,by simp only[Cr,JM,hc,hv];exact h3⟩
   ·cases h
  | block id c =>
   simp only[H5] at h;split at h
   ·cases h
   ·rename_i i s1 sc1 ps1 h1;split at h
    ·rename_i hi;cases h;obtain⟨h4,h5⟩:=ih h1 hp;exact⟨h4,by simp only[Cr,h5,if_pos hi]⟩
    ·rename_i hi;cases h;obtain⟨h4,h5⟩:=ih h1 hp;exact⟨h4,by simp only[Cr,h5,if_neg hi]⟩
   ·rename_i s1 sc1 ps1 h1;cases h;obtain⟨h4,h5⟩:=ih h1 hp;exact⟨h4,by simp only[Cr,h5]⟩
   ·rename_i s1 sc1 ps1 h1;cases h;obtain⟨h4,h5⟩:=ih h1 hp;exact⟨h4,by simp only[Cr,h5]⟩
  | scope c =>
   simp only[H5] at h;obtain⟨h4,h5⟩:=ih h hp;exact⟨h4,by simp only[Cr];exact h5⟩
  | loop c =>
   simp only[H5] at h;split at h
   ·cases h
   ·rename_i s1 sc1 ps1 h1;obtain⟨h2,h3⟩:=ih h hp;obtain⟨h4,h5⟩:=ih h1 h2;exact⟨h4,by simp only[Cr,h5];exact h3⟩
   ·rename_i i s1 sc1 ps1 h1;cases h;obtain⟨h4,h5⟩:=ih h1 hp;exact⟨h4,by simp only[Cr,h5]⟩
   ·rename_i s1 sc1 ps1 h1;cases h;obtain⟨h4,h5⟩:=ih h1 hp;exact⟨h4,by simp only[Cr,h5]⟩
  | exit id=>simp only[H5,A3,D2] at h;obtain⟨⟨rfl,rfl⟩,_,rfl⟩:=h;exact⟨hp,rfl⟩
  | ret=>simp only[H5,A3,D2] at h;obtain⟨⟨rfl,rfl⟩,_,rfl⟩:=h;exact⟨hp,rfl⟩
theorem LS{prog:Nat->Option IFunc}{T:Cw}(hT:Ch prog T)(n:Nat){c:ICode}{s s':Al}{ex:Ex}(sc:List Sc){ps:List Prop}
  (h:H5 prog T n c s sc []=some ((ex,s'),[],ps)) (hp:Gi ps):DF prog c s ex s':=UU (lX prog) n (Aii hT n h hp).2
def Aij(prog:Nat->Option IFunc)(T:Cw)(n:Nat)(fn:IFunc)(args:List AV)(sc:List Sc):Option (AV × List Prop) :=
 match H5 prog T n fn.body (H' fn args) sc [] with
 | some ((.ret,s),[],ps)=>(HJ s fn.res).map fun r=>(r,ps)
 | some ((.norm,s),[],ps)=>(HJ s fn.res).map fun r=>(r,ps)
 | _=>none
theorem B1{prog:Nat->Option IFunc}{T:Cw}(hT:Ch prog T){f:Nat}{fn:IFunc}(hf:prog f=some fn)(n:Nat){args:List AV}(hl:args.length=fn.params)(sc:List Sc){r:AV}{ps:List Prop}
  (h:Aij prog T n fn args sc=some (r,ps)) (hp:Gi ps):Bg prog f args r:=by
 unfold Aij at h;split at h
 ·rename_i s ps1 h1;simp only[Ak] at h;obtain⟨r',hr,e⟩:=h;cases e;exact HM hf hl (LS hT n sc h1 hp) (fun i=>(by nofun)) hr
 ·rename_i s ps1 h1;simp only[Ak] at h;obtain⟨r',hr,e⟩:=h;cases e;exact HM hf hl (LS hT n sc h1 hp) (fun i=>(by nofun)) hr
 ·cases h
end Go.Ai
