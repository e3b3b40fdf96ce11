/- Texts of the proof of RootDyadics: part 4 of 13. -/
import Derived.Scope
import Derived.Test.YtajompaehjkgkaaGreatRdx3
namespace Go.Ai
open Go.RowKit
open _root_.Array renaming getD_eq_getD_getElem?->CE,getElem?_eq_getElem->DM,mapM_eq_mapM_toList->Rq,replicate->OG
open Bool renaming and_eq_true->Ac,and_false->Ii,and_true->Ks,false_eq_true->BX
open Go renaming undef->Bt
open Go.Result renaming andThen_ok->Av
open Go.RowKit.Below renaming refl->Hc
open Go.Sem renaming run_bind->AF,run_map->A5b,run_pure->Be
open Go.Value renaming bool->TC
open List renaming cons_append->H5,contains_eq_mem->H_,getD_eq_getElem?_getD->Z,getElem?_append_left->AJ,getElem?_append_right->AN,getElem?_eq_none->AC,getElem?_eq_some_iff->GT,getElem?_replicate_of_lt->Adb,getElem_cons_zero->F9,getElem_toArray->Yz,length_cons->Bo,length_nil->Ja,mapM_cons->KY,size_toArray->HJ
open Nat renaming add_zero->FB,le_of_not_lt->MH,le_refl->Am,lt_or_ge->Ck,strongRecOn->Ty,zero_add->BR
open Option renaming map_eq_some_iff->Ag,map_some->A6
open Option.some renaming inj->Lr,injEq->Az
open Prod.mk renaming injEq->Dn
def EZ(P:Program)(roots:List (Nat × Nat)):Code->ICode->Bool
 | .skip,.skip=>true
 | .label _,.skip=>true
 | .region _ ops draw,.region d io=>draw==d&&Mb P roots ops ops.toList io&&(!draw || Qo ops io)
 | .seq a b,.seq a' b'=>EZ P roots a a'&&EZ P roots b b'
 | .cond c a b,.cond c' a' b'=>BT c c'&&EZ P roots a a'&&EZ P roots b b'
 | .block id c,.block id' c'=>id==id'&&EZ P roots c c'
 | .loop c,.loop c'=>EZ P roots c c'
 | .scope c,.scope c'=>EZ P roots c c'
 | .exit id,.exit id'=>id==id'
 | .ret,.ret=>true
 | _,_=>false
def pZ:Ex->Exit
 | .norm => .normal
 | .exit id => .exit id
 | .ret => .ret
theorem W4{p:Nat->Prop}(h:∃ n,p n):∃ n,p n/\∀ m,p m->n<=m:=by
 obtain⟨n,hn⟩:=h;induction n using Ty with
 | _ n ih =>
  by_cases hh:∃ m,m<n/\p m
  ·obtain⟨m,hm,hp⟩:=hh;exact ih m hm hp
  ·exact⟨n,hn,fun m hp=>MH fun hlt=>hh ⟨m,hlt,hp⟩⟩
section
variable {P:Program} {Y X0:Nat->Prop} {roots:List (Nat × Nat)} {w0:World}
theorem simC(hm:P.follows .mixedOrders=true){F:B6}(hF:K4 P F):∀ (n:Nat) (c:Code) (ic:ICode) (s s':Ak) (ex:Ex) (a:Act) (w:World) (Q:Exit->Act->World->Prop),EZ P roots c ic=true ->
  Rel Y X0 roots w0 s a w->Ch F n ic s=some (ex,s')->(∀ a' w',Rel Y X0 roots w0 s' a' w'->Q (pZ ex) a' w')->c.wp P Q a w:=by
 intro n;induction n using Ty with
 | _ n ih =>
  intro c ic s s' ex a w Q hok h hev hQ;cases n with
  | zero=>simp[Ch] at hev
  | succ n =>
   cases ic with
   | skip =>
    cases c <;> simp only[EZ] at hok <;> try cases hok
    all_goals
     simp only[Ch,Az,Dn] at hev;obtain⟨rfl,rfl⟩:=hev;first | exact wp_skip (hQ _ _ h) | exact wp_label (hQ _ _ h)
   | region d io =>
    cases c <;> simp only[EZ] at hok <;> try cases hok
    rename_i id ops draw;simp only[Ac,beq_iff_eq] at hok;obtain⟨⟨rfl,h1⟩,h2⟩:=hok;simp only[Ch,Ag] at hev;obtain⟨s1,hs1,he⟩:=hev;cases he;cases draw with
    | false=>exact rY hF h1 h hs1 hQ
    | true=>exact rX hm hF h1 (by simpa using h2) h hs1 hQ
   | seq x y =>
    cases c <;> simp only[EZ] at hok <;> try cases hok
    rename_i c1 c2;simp only[Ac] at hok;simp only[Ch] at hev;refine wp_seq ?_;split at hev
    ·rename_i s1 h1;refine ih n (by omega) c1 x s s1 .norm a w _ hok.1 h h1 fun a' w' h' => ?_;exact ih n (by omega) c2 y s1 s' ex a' w' Q hok.2 h' hev hQ
    ·rename_i h1;refine ih n (by omega) c1 x s s' ex a w _ hok.1 h hev fun a' w' h' => ?_;cases ex with
     | norm=>exact absurd hev (h1 s')
     | exit id=>exact hQ _ _ h'
     | ret=>exact hQ _ _ h'
   | cond o x y =>
    cases c <;> simp only[EZ] at hok <;> try cases hok
    rename_i o' c1 c2;simp only[Ac] at hok;obtain⟨⟨h1,h2⟩,h3⟩:=hok;simp only[Ch] at hev;have key:∀ b,IY s o=some b->a.eval o' = .bool b:=by
     intro b hb;unfold IY at hb;split at hb
     ·rename_i b' hav;cases hb;have:=C7 h h1 hav;generalize a.eval o'=v at this;cases this;rfl
     ·cases hb
    split at hev
    ·rename_i hc;exact wp_cond_true (key true hc) (ih n (by omega) c1 x s s' ex a w Q h2 h hev hQ)
    ·rename_i hc;exact wp_cond_false (key false hc) (ih n (by omega) c2 y s s' ex a w Q h3 h hev hQ)
    ·cases hev
   | block id x =>
    cases c <;> simp only[EZ] at hok <;> try cases hok
    rename_i id' c1;simp only[Ac,beq_iff_eq] at hok;obtain⟨rfl,hok⟩:=hok;simp only[Ch] at hev;refine wp_block ?_;split at hev
    ·rename_i i s1 h1;refine ih n (by omega) c1 x s s1 (.exit i) a w _ hok h h1 fun a' w' h' => ?_;simp only[pZ,Exit.inBlock];split at hev
     ·rename_i hi;cases hev;rw[if_pos hi];exact hQ _ _ h'
     ·rename_i hi;cases hev;rw[if_neg hi];exact hQ _ _ h'
    ·rename_i h1;refine ih n (by omega) c1 x s s' ex a w _ hok h hev fun a' w' h' => ?_;cases ex with
     | norm=>exact hQ _ _ h'
     | exit i=>exact absurd hev (h1 i s')
     | ret=>exact hQ _ _ h'
   | scope x =>
    cases c <;> simp only[EZ] at hok <;> try cases hok
    simp only[Ch] at hev;refine wp_scope_straight ?_;refine ih n (by omega) _ x s s' ex a w _ hok h hev fun a' w' h' => ?_;cases ex with
    | norm=>exact hQ _ _ h'
    | exit i=>exact hQ _ _ h'
    | ret=>exact hQ _ _ h'
   | loop x =>
    cases c <;> simp only[EZ] at hok <;> try cases hok
    rename_i c1;let p:Act->World->Nat->Prop:=fun a w m=>m<=n+1/\∃ s1,Rel Y X0 roots w0 s1 a w/\Ch F m (.loop x) s1=some (ex,s')
    let μ:Act->World->Nat:=fun a w=>@Classical.epsilon Nat ⟨0⟩ fun m=>p a w m/\∀ k,p a w k->m<=k
    have hμ:∀ a w,(∃ m,p a w m)->p a w (μ a w)/\∀ k,p a w k->μ a w<=k:=fun a w he=>@Classical.epsilon_spec_aux Nat ⟨0⟩ _ (W4 he);refine wp_loop (fun a w=>∃ m,p a w m) μ ⟨n+1,Am _,s,h,hev⟩ ?_;intro a1 w1 hI;obtain⟨⟨hle,s1,hr1,hev1⟩,hmin⟩:=hμ a1 w1 hI;generalize hmm:μ a1 w1=m at *
    cases m with
    | zero=>simp[Ch] at hev1
    | succ m =>
     simp only[Ch] at hev1;split at hev1
     ·rename_i s2 h2;refine ih m (by omega) c1 x s1 s2 .norm a1 w1 _ hok hr1 h2 fun a' w' h' => ?_;have hp:p a' w' m:=⟨by omega,s2,h',hev1⟩;refine⟨⟨m,hp⟩,?_⟩;have:=(hμ a' w' ⟨m,hp⟩).2 m hp;omega
     ·rename_i h2;refine ih m (by omega) c1 x s1 s' ex a1 w1 _ hok hr1 hev1 fun a' w' h' => ?_;cases ex with
      | norm=>exact absurd hev1 (h2 s')
      | exit i=>exact hQ _ _ h'
      | ret=>exact hQ _ _ h'
   | exit id =>
    cases c <;> simp only[EZ] at hok <;> try cases hok
    simp only[beq_iff_eq] at hok;subst hok;simp only[Ch,Az,Dn] at hev;obtain⟨rfl,rfl⟩:=hev;exact wp_exit (hQ _ _ h)
   | ret =>
    cases c <;> simp only[EZ] at hok <;> try cases hok
    simp only[Ch,Az,Dn] at hev;obtain⟨rfl,rfl⟩:=hev;exact wp_ret (hQ _ _ h)
end
def Ps(P:Program):ResultVar->IRes->Bool
 | .tmp t,.tmp t'=>t==t'
 | .cell t ty,.cell t' n one=>t==t'&&LW P ty n one
 | _,_=>false
def GL(P:Program):List ResultVar->List IRes->Bool
 | [],[]=>true
 | r::l,r'::l'=>Ps P r r'&&GL P l l'
 | _,_=>false
def AR(P:Program)(roots:List (Nat × Nat))(fn:Func)(ifn:IFunc):Bool :=
 (match fn.body with | some c=>EZ P roots c ifn.body | none=>false)&&fn.ntmps==ifn.slots&&GL P fn.results.toList ifn.res&&decide (ifn.params<=ifn.slots)
section
variable {P:Program} {Y X0:Nat->Prop} {roots:List (Nat × Nat)} {w0:World}
def Mc(tm:Array Value):ResultVar->Sem Value
 | .tmp t=>pure (tm.getD t Bt)
 | .cell a t=>do loadVar t (<- asAddr (tm.getD a Bt))
theorem Z_(fn:Func)(tm:Array Value):results fn tm=(fn.results.mapM (Mc tm)) >>= fun vs=>pure (if h:vs.size=1 then vs[0] else .tuple vs):=by
 unfold results;congr 1
theorem Np{s:Ak}{a:Act}{w:World}(h:Rel Y X0 roots w0 s a w):∀ {l:List ResultVar} {m:List IRes} {xs:List AV},GL P l m=true->DG s m=some xs ->
  ∃ vs:List Value,(l.mapM (Mc a.tmps)).run P w = .ok vs w/\vs.length=xs.length /\
   ∀ (i:Nat) (h1:i<vs.length) (h2:i<xs.length),Rd Y X0 w vs[i] xs[i]
 | [],[],xs,_,hx=>by
  simp only[DG,Az] at hx;subst hx;exact⟨[],rfl,rfl,fun i h1 _=>(by simp at h1)⟩
 | r::l,r'::m,xs,hok,hx=>by
  simp only[GL,Ac] at hok;simp only[DG] at hx;cases h1:EG s r' with
  | none=>rw[h1] at hx;cases hx
  | some x =>
   rw[h1] at hx;cases h2:DG s m with
   | none=>rw[h2] at hx;cases hx
   | some xs' =>
    rw[h2] at hx;cases hx;obtain⟨vs,e1,e2,e3⟩:=Np h hok.2 h2;have one:∃ v,(Mc a.tmps r).run P w = .ok v w/\Rd Y X0 w v x:=by
     have hr:=hok.1;cases r with
     | tmp t =>
      cases r' with
      | cell _ _ _=>cases hr
      | tmp t' =>
       simp only[Ps,beq_iff_eq] at hr;subst hr;have h0:=h.reg t;simp only[EG] at h1;cases hrg:A2 s t with
       | val y=>rw[hrg] at h1 h0;cases h1;exact⟨_,rfl,Rd.mono h0 fun b hb => .inl (.inl hb)⟩
       | box _=>rw[hrg] at h1;cases h1
       | ptr _ _=>rw[hrg] at h1;cases h1
       | mem _=>rw[hrg] at h1;cases h1
       | own k n cs =>
        rw[hrg] at h1 h0;cases h1;refine⟨_,rfl,FJ.frozen h0 (fun b hb => .inl (.inl hb)) (fun c hc hX => ?_) h.lowY⟩;have h1:=(FJ.block h0 hc).1;have:=h.low _ hX;omega
       | agn _ _ _ _=>rw[hrg] at h1;cases h1
       | bxl _=>rw[hrg] at h1;cases h1
       | dup _=>rw[hrg] at h1;cases h1
       | sub _ _ _ _=>rw[hrg] at h1;cases h1
       | dead=>rw[hrg] at h1;cases h1
     | cell t ty =>
      cases r' with
      | tmp _=>cases hr
      | cell t' n one =>
       simp only[Ps,Ac,beq_iff_eq] at hr;obtain⟨rfl,hr⟩:=hr;have h0:=h.reg t;simp only[EG] at h1;cases hrg:A2 s t with
       | box cs =>
        rw[hrg] at h1 h0;obtain⟨b,g1,_,g3⟩:=h0;obtain⟨v,g4,g5⟩:=ZQ (P:=P) hr g3.mem h1;refine⟨v,?_,g5.mono fun b hb => .inl (.inl hb)⟩;simp only[FB] at g4;simp only[Mc,AF,g1,asAddr,Be,Av,g4]
       | val _=>rw[hrg] at h1;cases h1
       | ptr _ _=>rw[hrg] at h1;cases h1
       | mem _=>rw[hrg] at h1;cases h1
       | own _ _ _=>rw[hrg] at h1;cases h1
       | agn _ _ _ _=>rw[hrg] at h1;cases h1
       | bxl _=>rw[hrg] at h1;cases h1
       | dup _=>rw[hrg] at h1;cases h1
       | sub _ _ _ _=>rw[hrg] at h1;cases h1
       | dead=>rw[hrg] at h1;cases h1
    obtain⟨v,e4,e5⟩:=one;refine⟨v::vs,?_,by simp[e2],fun i g1 g2 => ?_⟩
    ·simp only[KY,AF,e4,e1,Av,Be]
    ·cases i with
     | zero=>exact e5
     | succ i=>exact e3 i (by simpa using g1) (by simpa using g2)
 | [],_::_,_,hok,_=>by cases hok
 | _::_,[],_,hok,_=>by cases hok
theorem iJ{Y X:Nat->Prop}{B:Nat}{tm:Array Value}{w:World}{t:Nat}{v:Value}{x:AV}(h:Rd Y X w v x):JS Y X B roots tm w t v (K2 x):=by
 cases x
 case pt cs=>exact h.ofPt
 all_goals exact h
theorem rZ(x:AV):Ev (K2 x)=false:=by cases x <;> rfl
theorem sA{ifn:IFunc}{Y X:Nat->Prop}{w:World}{vs:Array Value}{args:List AV}(hlow:∀ b,X b->b<w.heap.size)(hlowY:∀ b,Y b->b<w.heap.size)(hs:vs.size=args.length)(hpar:args.length<=ifn.slots)
  (hr:∀ (i:Nat) (h1:i<vs.size) (h2:i<args.length),Rd Y X w vs[i] args[i]) :
  Rel Y X roots w (Hu ifn args) { tmps:=vs++OG (ifn.slots-vs.size) Bt,defers:=[] } w:=by
 have key:∀ t,(∃ x,A2 (Hu ifn args) t=K2 x/\args[t]?=some x)\/A2 (Hu ifn args) t = .dead:=by
  intro t;simp only[A2,Hu,Z];rcases Ck t args.length with h1 | h1
  ·refine .inl ⟨args[t],?_,by simp[h1]⟩;rw[AJ (by simpa using h1)];simp[h1]
  ·refine .inr ?_;rw[AN (by simpa using h1)];rcases Ck (t-(args.map K2).length) (ifn.slots-args.length) with h2 | h2
   ·rw[Adb h2];rfl
   ·rw[AC (by simpa using h2)];rfl
 have hne:∀ t,Ev (A2 (Hu ifn args) t)=false:=by
  intro t;rcases key t with ⟨x,h1,_⟩ | h1 <;> rw[h1]
  ·exact rZ x
  ·rfl
 refine⟨rfl,by simp[Hu];omega,Hc _ _,hlow,hlowY,fun t => ?_,fun t t' b h1 => ?_⟩
 ·rcases key t with ⟨x,h1,h2⟩ | h1
  ·rw[h1];obtain⟨hlt,hx⟩:=GT.1 h2;have h3:=hr t (by omega) hlt;have h4:(vs++OG (ifn.slots-vs.size) Bt).getD t Bt=vs[t]'(by omega):=by
    rw[CE,Array.getElem?_append_left (by omega),DM (by omega)];rfl
   rw[h4,<- hx];refine iJ (h3.mono fun b hb => ?_);rcases hb with hb | ⟨t',g1,_⟩
   ·exact .inl hb
   ·rw[hne] at g1;cases g1
  ·rw[h1];trivial
 ·rw[hne] at h1;cases h1
theorem simF(hm:P.follows .mixedOrders=true){prog:Nat->Option IFunc}(hp:∀ f ifn,prog f=some ifn->∃ fn roots,P.funcs[f]?=some fn/\AR P roots fn ifn=true):∀ n,K4 P (M_ prog n):=by
 intro n;induction n with
 | zero=>intro f args x h;simp[M_] at h
 | succ n ih =>
  intro f args x h Y X w vs hlow hlowY hs hr;simp only[M_] at h;split at h
  ·cases h
  ·rename_i ifn hifn;split at h
   ·rename_i hpar;obtain⟨fn,roots,hfn,hok⟩:=hp f ifn hifn;simp only[AR,Ac,beq_iff_eq,decide_eq_true_eq] at hok;obtain⟨⟨⟨h1,h2⟩,h3⟩,h4⟩:=hok;split at h1
    ·rename_i c hc;have hrel:Rel Y X roots w (Hu ifn args) { tmps:=vs++OG (fn.ntmps-vs.size) Bt,defers:=[] } w:=by
      rw[h2];exact sA hlow hlowY hs (by omega) hr
     refine calls_of_wp hfn hc ?_;have fin:∀ (s:Ak) (a':Act) (w':World),Rel Y X roots w s a' w'->Hi s ifn.res=some x ->
       a'.defers=[]/\∃ v,(results fn a'.tmps).run P w' = .ok v w'/\∃ v',Ending.returned v = .returned v'/\Below w.heap.size w w'/\JU Y X w.heap.size w' v' x:=by
      intro s a' w' hrel' hres;refine⟨hrel'.dfr,?_⟩;unfold Hi at hres;have hrun:∀ (us:List Value),(fn.results.toList.mapM (Mc a'.tmps)).run P w' = .ok us w' ->
        (results fn a'.tmps).run P w' = .ok (if h:us.toArray.size=1 then us.toArray[0] else .tuple us.toArray) w':=by
       intro us hus;rw[Z_,Rq];simp only[AF,A5b,hus,Av,Be]
      split at hres
      ·rename_i y hy;cases hres;generalize hl:ifn.res=lres at hy h3;unfold Hp at hy;split at hy
       ·rename_i t;split at hy
        ·rename_i k n cs hr;cases hy;cases hfr:fn.results.toList with
         | nil=>rw[hfr] at h3;cases h3
         | cons r rest =>
          rw[hfr] at h3;cases rest with
          | cons _ _=>simp only[GL,Ii] at h3;cases h3
          | nil =>
           simp only[GL,Ks] at h3;cases r with
           | cell _ _=>cases h3
           | tmp t' =>
            simp only[Ps,beq_iff_eq] at h3;subst h3;refine⟨_,hrun [a'.tmps.getD t' Bt] (by rw[hfr];rfl),_,rfl,hrel'.below,?_⟩;simp only[HJ,Bo,Ja,BR,dite_true];rcases hrel'.ownLow hr with hnil | ⟨b,cap,e1,e2,e3,e4,e5,e6,hXb⟩
            ·exact .inl hnil
            refine .inr ⟨b,cap,e1,e2,e3,e4,e5.mono fun c hc => .inl ?_,e6⟩;rcases hc with hc | hc
            ·exact .inl hc
            ·simp only[e1,Bi,Hq,Yz,F9,A6,Az] at hc;exact .inr (hc ▸ hXb)
        ·rename_i bb k n cs hr;cases hy;cases hfr:fn.results.toList with
         | nil=>rw[hfr] at h3;cases h3
         | cons r rest =>
          rw[hfr] at h3;cases rest with
          | cons _ _=>simp only[GL,Ii] at h3;cases h3
          | nil =>
           simp only[GL,Ks] at h3;cases r with
           | cell _ _=>cases h3
           | tmp t' =>
            simp only[Ps,beq_iff_eq] at h3;subst h3;refine⟨_,hrun [a'.tmps.getD t' Bt] (by rw[hfr];rfl),_,rfl,hrel'.below,?_⟩;simp only[HJ,Bo,Ja,BR,dite_true];have h0:=hrel'.reg t';rw[hr] at h0;have hXS:∀ c,Bi (a'.tmps.getD t' Bt)=some c->XS s a'.tmps c:=fun c hc=>⟨t',by rw[hr];rfl,hc⟩;exact I'.own h0 hXS
        ·cases hy
       ·rename_i t u;split at hy
        ·rename_i k n cs hr;split at hy
         ·rename_i bb hru;cases hy;cases hfr:fn.results.toList with
          | nil=>rw[hfr] at h3;cases h3
          | cons r rest =>
           rw[hfr] at h3;cases rest with
           | nil=>simp only[GL,Ii] at h3;cases h3
           | cons r2 rest =>
            cases rest with
            | cons _ _=>simp only[GL,Ii] at h3;cases h3
            | nil =>
             simp only[GL,Ks,Ac] at h3;obtain⟨h3,h3'⟩:=h3;cases r with
             | cell _ _=>cases h3
             | tmp t' =>
              cases r2 with
              | cell _ _=>cases h3'
              | tmp u' =>
               simp only[Ps,beq_iff_eq] at h3 h3';subst h3 h3';have hu0:=hrel'.reg u';rw[hru] at hu0;have hub:a'.tmps.getD u' Bt = .bool bb:=by
                generalize a'.tmps.getD u' Bt=q at hu0;cases hu0;rfl
               refine⟨_,hrun [a'.tmps.getD t' Bt,.bool bb] (by rw[hfr,<- hub];rfl),_,rfl,hrel'.below,?_⟩;have h0:=hrel'.reg t';rw[hr] at h0;have hXS:∀ c,Bi (a'.tmps.getD t' Bt)=some c->XS s a'.tmps c:=fun c hc=>⟨t',by rw[hr];rfl,hc⟩;have hag:I' Y (fun c=>X c\/XS s a'.tmps c) w.heap.size w' (.tuple #[a'.tmps.getD t' Bt,.bool bb]) (.tp bb) k n cs:=⟨_,rfl,h0⟩;exact I'.own hag (fun c hc=>hXS c (by rw[<- hc];exact (F2 (.tp bb) h0).symm))
         ·cases hy
        ·cases hy
       ·rename_i t n one;split at hy
        ·rename_i d hr;split at hy
         ·rename_i bb k m cs hrd;split at hy
          ·rename_i hn;obtain⟨rfl,rfl⟩:=hn;cases hy;cases hfr:fn.results.toList with
           | nil=>rw[hfr] at h3;cases h3
           | cons r rest =>
            rw[hfr] at h3;cases rest with
            | cons _ _=>simp only[GL,Ii] at h3;cases h3
            | nil =>
             simp only[GL,Ks] at h3;cases r with
             | tmp _=>cases h3
             | cell t' ty =>
              simp only[Ps,Ac,beq_iff_eq] at h3;obtain⟨rfl,h3⟩:=h3;have h0:=hrel'.reg t';rw[hr] at h0;obtain⟨_,b,g1,_,_,g4⟩:=h0;have h5:=hrel'.reg d;rw[hrd] at h5;obtain⟨u,hu,h5'⟩:=id h5;obtain⟨q1,q2⟩:=K3 h3;rw[hu] at g4;have hl:=run_loadCells (P:=P) w' ⟨b,0,none⟩ 2 (fun i=>#[TC bb,u].getD i Bt) (fun j hj=>by
               rw[GJ,BR,g4 j hj];match j,hj with
               | 0,_=>rfl
               | 1,_=>rfl)
              have hload:(Mc a'.tmps (.cell t' ty)).run P w' = .ok (.agg #[.bool bb,u]) w':=by
               simp only[Mc,AF,g1,asAddr,Be,Av,loadVar,q1,q2,hl,Bool.not_false,if_true];rfl
              refine⟨_,hrun [.agg #[.bool bb,u]] (by rw[hfr];simp only[KY,List.mapM_nil,AF,hload,Av,Be]),_,rfl,hrel'.below,?_⟩;have hXS:∀ c,Bi (a'.tmps.getD d Bt)=some c->XS s a'.tmps c:=fun c hc=>⟨d,by rw[hrd];rfl,hc⟩;have:=I'.own h5 hXS;rw[hu] at this;exact this
          ·cases hy
         ·cases hy
        ·cases hy
       ·cases hy
      split at hres
      ·rename_i y hy;cases hres;obtain⟨us,g1,g2,g3⟩:=Np hrel' h3 hy;refine⟨_,hrun us g1,_,rfl,hrel'.below,?_⟩;have hl:us.toArray.size=1:=by simpa using g2
       rw[dif_pos hl];have:=g3 0 (by simp at g2;omega) (by simp);exact .of_rd (by simpa using this)
      ·rename_i ys hne hy;cases hres;obtain⟨us,g1,g2,g3⟩:=Np hrel' h3 hy;refine⟨_,hrun us g1,_,rfl,hrel'.below,?_⟩;have hl:¬ us.toArray.size=1:=by
        intro hh;have:ys.length=1:=by rw[<- g2];simpa using hh
        match ys,this with
        | [y],_=>exact hne y rfl
       rw[dif_neg hl];exact .of_rd (.tup _ _ (by simpa using g2) (fun i h1 h2=>by simpa using g3 i (by simpa using h1) h2))
      ·cases hres
     split at h
     ·cases h
     ·rename_i ex s hnot hev;refine simC hm ih n c ifn.body _ s ex _ w _ h1 hrel hev fun a' w' hrel' => ?_;have:=fin s a' w' hrel' h;cases ex with
      | norm=>exact this
      | ret=>exact this
      | exit i=>exact (hnot i rfl).elim
     ·cases h
    ·cases h1
   ·cases h
end
def Le(F G:B6):Prop:=∀ f args r,F f args=some r->G f args=some r
theorem Avd{F G:B6}(h:Le F G){s:Ak}{k:K}{p:Reg × List (Nat × Reg)}(hk:B5 F s k=some p):B5 G s k=some p:=by
 cases k
 case call f xs =>
  simp only[B5] at hk |-;split at hk
  ·rename_i vs hvs;simp only[Ag] at hk |-;obtain⟨v,hv,he⟩:=hk;exact⟨v,h f vs v hv,he⟩
  ·cases hk
 case clo f xs =>
  simp only[B5] at hk |-;split at hk
  ·rename_i vs hvs;simp only[Ag] at hk |-;obtain⟨v,hv,he⟩:=hk;exact⟨v,h f vs v hv,he⟩
  ·cases hk
 case cln f xs ls =>
  simp only[B5] at hk |-;split at hk
  ·rename_i vs hvs;split at hk
   ·rename_i hl;rw[if_pos hl];simp only[Ag] at hk |-;obtain⟨v,hv,he⟩:=hk;exact⟨v,h f vs v hv,he⟩
   ·cases hk
  ·cases hk
 case brw f x d =>
  simp only[B5] at hk |-;split at hk
  ·split at hk
   ·rename_i hd;rw[if_pos hd];split at hk
    ·split at hk
     ·rename_i hc;rw[if_pos hc];split at hk
      ·rename_i y hy;rw[h _ _ _ hy];exact hk
      ·cases hk
     ·cases hk
    ·cases hk
   ·cases hk
  ·cases hk
 all_goals exact hk
theorem aA{F G:B6}(h:Le F G){o:IOp}{s s':Ak}(he:FH F o s=some s'):FH G o s=some s':=by
 simp only[FH,HI] at he |-;split at he
 ·cases he
 ·exact he
 ·split at he
  ·cases he
  ·rename_i r l hk;rw[Avd h hk];exact he
theorem Om{F G:B6}(h:Le F G):∀ {l:List IOp} {s s':Ak},DZ F l s=some s'->DZ G l s=some s'
 | [],_,_,he=>he
 | o::l,s,s',he=>by
  simp only[DZ] at he |-;cases h1:FH F o s with
  | none=>rw[h1] at he;cases he
  | some s1 =>
   rw[h1] at he;rw[aA h h1];exact Om h he
theorem Fm{F G:B6}(h:Le F G):∀ {n m:Nat},n<=m->∀ {c:ICode} {s:Ak} {r:Ex × Ak},Ch F n c s=some r->Ch G m c s=some r:=by
 intro n;induction n with
 | zero=>intro m _ c s r he;simp[Ch] at he
 | succ n ih =>
  intro m hm c s r he;obtain⟨m,rfl⟩:∃ m',m=m'+1:=⟨m-1,by omega⟩;have hm':n<=m:=by omega
  cases c with
  | skip=>exact he
  | region d ops =>
   simp only[Ch,Ag] at he |-;obtain⟨s',h1,h2⟩:=he;exact⟨s',Om h h1,h2⟩
  | seq a b =>
   simp only[Ch] at he |-;cases h1:Ch F n a s with
   | none=>rw[h1] at he;cases he
   | some p =>
    rw[h1] at he;rw[ih hm' h1];obtain⟨ex,s1⟩:=p;cases ex with
    | norm=>exact ih hm' he
    | exit i=>exact he
    | ret=>exact he
  | cond c a b =>
   simp only[Ch] at he |-;split at he
   ·exact ih hm' he
   ·exact ih hm' he
   ·cases he
  | block id c =>
   simp only[Ch] at he |-;cases h1:Ch F n c s with
   | none=>rw[h1] at he;cases he
   | some p =>
    rw[h1] at he;rw[ih hm' h1];exact he
  | scope c=>exact ih hm' he
  | loop c =>
   simp only[Ch] at he |-;cases h1:Ch F n c s with
   | none=>rw[h1] at he;cases he
   | some p =>
    rw[h1] at he;rw[ih hm' h1];obtain⟨ex,s1⟩:=p;cases ex with
    | norm=>exact ih hm' he
    | exit i=>exact he
    | ret=>exact he
  | exit id=>exact he
  | ret=>exact he
theorem Er(prog:Nat->Option IFunc):∀ {n m:Nat},n<=m->Le (M_ prog n) (M_ prog m):=by
 intro n;induction n with
 | zero=>intro m _ f args r h;simp[M_] at h
 | succ n ih =>
  intro m hm f args r h;obtain⟨m,rfl⟩:∃ m',m=m'+1:=⟨m-1,by omega⟩;have hm':n<=m:=by omega
  simp only[M_] at h |-;split at h
  ·cases h
  ·rename_i fn hfn;split at h
   ·rename_i hl;rw[if_pos hl];cases h1:Ch (M_ prog n) n fn.body (Hu fn args) with
    | none=>rw[h1] at h;cases h
    | some p =>
     rw[h1] at h;rw[Fm (ih hm') hm' h1];exact h
   ·cases h
def H(prog:Nat->Option IFunc)(f:Nat)(args:List AV)(r:AV):Prop:=∃ n,M_ prog n f args=some r
def D0(prog:Nat->Option IFunc)(c:ICode)(s:Ak)(ex:Ex)(s':Ak):Prop:=∃ n,Ch (M_ prog n) n c s=some (ex,s')
theorem Hk{prog:Nat->Option IFunc}{f:Nat}{fn:IFunc}{args:List AV}{s:Ak}{ex:Ex}{r:AV}(hf:prog f=some fn)(hl:args.length=fn.params)(h:D0 prog fn.body (Hu fn args) ex s)
  (hex:∀ i,ex ≠ .exit i) (hr:Hi s fn.res=some r):H prog f args r:=by
 obtain⟨n,h⟩:=h;refine⟨n+1,?_⟩;simp only[M_,hf,if_pos hl,h];cases ex with
 | norm=>exact hr
 | ret=>exact hr
 | exit i=>exact absurd rfl (hex i)
theorem D0.seq{prog:Nat->Option IFunc}{a b:ICode}{s s1 s':Ak}{ex:Ex}(h1:D0 prog a s .norm s1)(h2:D0 prog b s1 ex s'):D0 prog (.seq a b) s ex s':=by
 obtain⟨n,h1⟩:=h1;obtain⟨m,h2⟩:=h2;refine⟨max n m+1,?_⟩;have e1:=Fm (Er prog (show n<=max n m+1 by omega)) (show n<=max n m by omega) h1;have e2:=Fm (Er prog (show m<=max n m+1 by omega)) (show m<=max n m by omega) h2;simp only[Ch,e1,e2]
theorem Ew{prog:Nat->Option IFunc}{a b:ICode}{s s':Ak}{ex:Ex}(h1:D0 prog a s ex s')(hex:ex ≠ .norm):D0 prog (.seq a b) s ex s':=by
 obtain⟨n,h1⟩:=h1;refine⟨n+1,?_⟩;have e1:=Fm (Er prog (show n<=n+1 by omega)) (show n<=n by omega) h1;simp only[Ch,e1];cases ex with
 | norm=>exact absurd rfl hex
 | exit i=>rfl
 | ret=>rfl
theorem D0.scope{prog:Nat->Option IFunc}{c:ICode}{s s':Ak}{ex:Ex}(h:D0 prog c s ex s'):D0 prog (.scope c) s ex s':=by
 obtain⟨n,h⟩:=h;exact⟨n+1,by simp only[Ch];exact Fm (Er prog (by omega)) (Am _) h⟩
theorem D0.block{prog:Nat->Option IFunc}{id:Nat}{c:ICode}{s s':Ak}(h:D0 prog c s (.exit id) s'):D0 prog (.block id c) s .norm s':=by
 obtain⟨n,h⟩:=h;refine⟨n+1,?_⟩;have e1:=Fm (Er prog (show n<=n+1 by omega)) (show n<=n by omega) h;simp only[Ch,e1,if_true]
theorem K7{prog:Nat->Option IFunc}{id:Nat}{c:ICode}{s s':Ak}(h:D0 prog c s .norm s'):D0 prog (.block id c) s .norm s':=by
 obtain⟨n,h⟩:=h;refine⟨n+1,?_⟩;have e1:=Fm (Er prog (show n<=n+1 by omega)) (show n<=n by omega) h;simp only[Ch,e1]
theorem L2{prog:Nat->Option IFunc}{id i:Nat}{c:ICode}{s s':Ak}(h:D0 prog c s (.exit i) s')(hi:i ≠ id):D0 prog (.block id c) s (.exit i) s':=by
 obtain⟨n,h⟩:=h;refine⟨n+1,?_⟩;have e1:=Fm (Er prog (show n<=n+1 by omega)) (show n<=n by omega) h;simp only[Ch,e1,if_neg hi]
theorem L3{prog:Nat->Option IFunc}{id:Nat}{c:ICode}{s s':Ak}(h:D0 prog c s .ret s'):D0 prog (.block id c) s .ret s':=by
 obtain⟨n,h⟩:=h;refine⟨n+1,?_⟩;have e1:=Fm (Er prog (show n<=n+1 by omega)) (show n<=n by omega) h;simp only[Ch,e1]
theorem D0.loop{prog:Nat->Option IFunc}{c:ICode}{s s1 s':Ak}{ex:Ex}(h1:D0 prog c s .norm s1)(h2:D0 prog (.loop c) s1 ex s'):D0 prog (.loop c) s ex s':=by
 obtain⟨n,h1⟩:=h1;obtain⟨m,h2⟩:=h2;refine⟨max n m+1,?_⟩;have e1:=Fm (Er prog (show n<=max n m+1 by omega)) (show n<=max n m by omega) h1;have e2:=Fm (Er prog (show m<=max n m+1 by omega)) (show m<=max n m by omega) h2;simp only[Ch,e1,e2]
theorem MI{prog:Nat->Option IFunc}{c:ICode}{s s':Ak}{ex:Ex}(h1:D0 prog c s ex s')(hex:ex ≠ .norm):D0 prog (.loop c) s ex s':=by
 obtain⟨n,h1⟩:=h1;refine⟨n+1,?_⟩;have e1:=Fm (Er prog (show n<=n+1 by omega)) (show n<=n by omega) h1;simp only[Ch,e1];cases ex with
 | norm=>exact absurd rfl hex
 | exit i=>rfl
 | ret=>rfl
def Nq(prog:Nat->Option IFunc)(F:B6):Prop:=∀ f args r,F f args=some r->H prog f args r
theorem Qq{prog:Nat->Option IFunc}{F:B6}(h:Nq prog F):∀ {l:List IOp} {s s':Ak},DZ F l s=some s'->∃ n,DZ (M_ prog n) l s=some s'
 | [],s,s',he=>⟨0,he⟩
 | o::l,s,s',he=>by
  simp only[DZ] at he;cases h1:FH F o s with
  | none=>rw[h1] at he;cases he
  | some s1 =>
   rw[h1] at he;obtain⟨n,hn⟩:=Qq h he;have key:∃ m,FH (M_ prog m) o s=some s1:=by
    simp only[FH,HI] at h1 |-;generalize kill s o.ks=s at *
    split at h1
    ·cases h1
    ·exact⟨0,h1⟩
    ·split at h1
     ·cases h1
     ·rename_i r l' hk;have:∃ m,B5 (M_ prog m) s o.k=some (r,l'):=by
       cases hkk:o.k
       case call f xs =>
        rw[hkk] at hk;simp only[B5] at hk |-;split at hk
        ·rename_i vs hvs;simp only[Ag] at hk;obtain⟨v,hv,e⟩:=hk;obtain⟨m,hm⟩:=h f vs v hv;exact⟨m,by simp only[hm,A6,e]⟩
        ·cases hk
       case clo f xs =>
        rw[hkk] at hk;simp only[B5] at hk |-;split at hk
        ·rename_i vs hvs;simp only[Ag] at hk;obtain⟨v,hv,e⟩:=hk;obtain⟨m,hm⟩:=h f vs v hv;exact⟨m,by simp only[hm,A6,e]⟩
        ·cases hk
       case cln f xs ls =>
        rw[hkk] at hk;simp only[B5] at hk |-;split at hk
        ·rename_i vs hvs;split at hk
         ·rename_i hl;simp only[Ag] at hk;obtain⟨v,hv,e⟩:=hk;obtain⟨m,hm⟩:=h f vs v hv;exact⟨m,by rw[if_pos hl,hm];simp only[A6,e]⟩
         ·cases hk
        ·cases hk
       case brw f x d =>
        rw[hkk] at hk;simp only[B5] at hk |-;split at hk
        ·split at hk
         ·rename_i hd;split at hk
          ·split at hk
           ·rename_i hc;split at hk
            ·rename_i y hy;obtain⟨m,hm⟩:=h _ _ _ hy;exact⟨m,by rw[if_pos hd,if_pos hc,hm];exact hk⟩
            ·cases hk
           ·cases hk
          ·cases hk
         ·cases hk
        ·cases hk
       all_goals (rw[hkk] at hk;exact⟨0,hk⟩)
      obtain⟨m,hm⟩:=this;exact⟨m,by rw[hm];exact h1⟩
   obtain⟨m,hm⟩:=key;refine⟨max n m,?_⟩;simp only[DZ,aA (Er prog (show m<=max n m by omega)) hm];exact Om (Er prog (show n<=max n m by omega)) hn
theorem Uc{prog:Nat->Option IFunc}{F:B6}(h:Nq prog F):∀ (n:Nat) {c:ICode} {s:Ak} {ex:Ex} {s':Ak},Ch F n c s=some (ex,s')->D0 prog c s ex s':=by
 intro n;induction n with
 | zero=>intro c s ex s' he;simp[Ch] at he
 | succ n ih =>
  intro c s ex s' he;cases c with
  | skip=>exact⟨1,he⟩
  | region d ops =>
   simp only[Ch,Ag] at he;obtain⟨s1,h1,h2⟩:=he;obtain⟨m,hm⟩:=Qq h h1;refine⟨m+1,?_⟩;simp only[Ch,Om (Er prog (show m<=m+1 by omega)) hm,A6,h2]
  | seq a b =>
   simp only[Ch] at he;split at he
   ·rename_i s1 h1;exact D0.seq (ih h1) (ih he)
   ·rename_i h1;exact Ew (ih he) (by rintro rfl;exact h1 s' he)
  | cond c a b =>
   simp only[Ch] at he;split at he
   ·rename_i hc;obtain⟨m,hm⟩:=ih he;exact⟨m+1,by simp only[Ch,hc];exact Fm (Er prog (by omega)) (Am _) hm⟩
   ·rename_i hc;obtain⟨m,hm⟩:=ih he;exact⟨m+1,by simp only[Ch,hc];exact Fm (Er prog (by omega)) (Am _) hm⟩
   ·cases he
  | block id c =>
   simp only[Ch] at he;split at he
   ·rename_i i s1 h1;split at he
    ·rename_i hi;cases he;subst hi;exact D0.block (ih h1)
    ·rename_i hi;cases he;exact L2 (ih h1) hi
   ·rename_i h1;cases ex with
    | norm=>exact K7 (ih he)
    | exit i=>exact absurd he (h1 i s')
    | ret=>exact L3 (ih he)
  | scope c =>
   simp only[Ch] at he;exact D0.scope (ih he)
  | loop c =>
   simp only[Ch] at he;split at he
   ·rename_i s1 h1;exact D0.loop (ih h1) (ih he)
   ·rename_i h1;exact MI (ih he) (by rintro rfl;exact h1 s' he)
  | exit id=>exact⟨1,he⟩
  | ret=>exact⟨1,he⟩
theorem H.unique{prog:Nat->Option IFunc}{f:Nat}{args:List AV}{r r':AV}(h:H prog f args r)(h':H prog f args r'):r=r':=by
 obtain⟨n,h⟩:=h;obtain⟨m,h'⟩:=h';have e1:=Er prog (show n<=max n m by omega) f args r h;have e2:=Er prog (show m<=max n m by omega) f args r' h';rw[e1] at e2;exact Lr e2
open Classical in
noncomputable def Ue (prog:Nat->Option IFunc):B6:=fun f args=>if h:∃ r,H prog f args r then some h.choose else none
theorem K8{prog:Nat->Option IFunc}{f:Nat}{args:List AV}{r:AV}(h:H prog f args r):Ue prog f args=some r:=by
 have h':∃ r,H prog f args r:=⟨r,h⟩;simp only[Ue,dif_pos h'];exact congrArg some (h'.choose_spec.unique h)
theorem iK(prog:Nat->Option IFunc):Nq prog (Ue prog):=by
 intro f args r h;unfold Ue at h;split at h
 ·rename_i h';cases h;exact h'.choose_spec
 ·cases h
abbrev Cp:=List (Nat × (List AV->Option (AV × List Prop)))
def FW:List Prop->Prop
 | []=>True
 | p::l=>p/\FW l
def iL(T:Cp)(f:Nat)(args:List AV):Option (AV × List Prop) :=
 match T.lookup f with
 | some g=>g args
 | none=>none
def B_(prog:Nat->Option IFunc)(T:Cp):Prop:=∀ f args r ps,iL T f args=some (r,ps)->FW ps->H prog f args r
theorem B_.nil(prog:Nat->Option IFunc):B_ prog []:=fun f args r ps h=>by simp [iL] at h
theorem B_.cons{prog:Nat->Option IFunc}{T:Cp}{f:Nat}{g:List AV->Option (AV × List Prop)}(h:B_ prog T)(hg:∀ args r ps,g args=some (r,ps)->FW ps->H prog f args r):B_ prog ((f,g)::T):=by
 intro f' args r ps hr;simp only[iL,List.lookup] at hr;by_cases hf:f'=f
 ·subst hf;simp at hr;exact hg args r ps hr
 ·have:(f'==f)=false:=by simpa using hf
  simp only[this] at hr;exact h f' args r ps hr
theorem H.calls{P:Program}{prog:Nat->Option IFunc}{f:Nat}{args:List AV}{r:AV}(hm:P.follows .mixedOrders=true)
  (hp:∀ f ifn,prog f=some ifn->∃ fn roots,P.funcs[f]?=some fn/\AR P roots fn ifn=true) (h:H prog f args r) (X:Nat->Prop) (w:World) (vs:Array Value)
  (hX:∀ b,X b->b<w.heap.size) (hs:vs.size=args.length) (hr:∀ (i:Nat) (h1:i<vs.size) (h2:i<args.length),Rd (fun _=>False) X w vs[i] args[i]) :
  Calls P f vs w fun e w'=>∃ v,e = .returned v/\Below w.heap.size w w'/\Rd (fun _=>False) X w' v (JR r):=by
 obtain⟨n,h⟩:=h;exact (simF hm hp n f args r h _ X w vs hX (fun _ h=>h.elim) hs hr).mono fun e w' ⟨v,h1,h2,h3⟩=>⟨v,h1,h2,h3.thawed hX (fun _ h=>h.elim)⟩
inductive Sc where
 | b (x:Bool)
 | v (x:AV)
 | l (cs:List AV)
 | r (x:AV)
theorem Fo:∀ {l m:List Prop},FW (l++m)↔FW l/\FW m
 | [],m=>by simp[FW]
 | p::l,m=>by simp only[H5,FW,Fo (l:=l),and_assoc]
abbrev R3(α:Type):=Option (α × List Sc × List Prop)
def Uf(op:BinOp)(k k':IntKind)(a b:Int):Option (AV × List Prop) :=
 match op with
 | .quo=>if k=k' then some (.int k (k.wrap (a.tdiv b)),[¬ b=0]) else none
 | .rem=>if k=k' then some (.int k (a.tmod b),[¬ b=0]) else none
 | .shl=>some (.int k (k.wrap (a*2^(min b.toNat k.bits))),[¬ b<0])
 | .shr=>some (.int k (a.fdiv (2^(min b.toNat k.bits))),[¬ b<0])
 | op=>(Lu op (.int k a) (.int k' b)).map fun v=>(v,[])
theorem Adx{op:BinOp}{k k':IntKind}{a b:Int}{v:AV}{ps:List Prop}(h:Uf op k k' a b=some (v,ps))(hp:FW ps):Lu op (.int k a) (.int k' b)=some v:=by
 cases op
 case quo =>
  simp only[Uf] at h;split at h
  ·rename_i hk;cases h;simp only[Lu,IK,hk,ZJ];simp only[BX,if_false,if_true,if_neg hp.1]
  ·cases h
 case rem =>
  simp only[Uf] at h;split at h
  ·rename_i hk;cases h;simp only[Lu,IK,hk,ZJ];simp only[BX,if_false,if_true,if_neg hp.1]
  ·cases h
 case shl =>
  simp only[Uf] at h;cases h;simp only[Lu,IK,if_true,Qi,if_neg hp.1]
 case shr =>
  simp only[Uf] at h;cases h;simp only[Lu,IK,if_true,Qi,if_neg hp.1]
 all_goals
  simp only[Uf,Ag] at h;obtain⟨u,hu,e⟩:=h;cases e;exact hu
abbrev Hl:=Option (Nat × Bool)
def Hl.is(m:Hl)(t:Nat):Option Bool :=
 match m with
 | some (u,x)=>if u=t then some x else none
 | none=>none
def Hl.opd(m:Hl):Opd->Option Bool
 | .t n=>m.is n
 | .c _=>none
def Hl.Ok(s:Ak)(m:Hl):Prop:=∀ t x,m=some (t,x)->A2 s t = .val (.bool x)
theorem Md{s:Ak}{m:Hl}(h:m.Ok s){o:Opd}{x:Bool}(ho:m.opd o=some x):o.av s=some (.bool x):=by
 cases o with
 | c y=>cases ho
 | t n =>
  simp only[Hl.opd,Hl.is] at ho;split at ho
  ·rename_i u y;split at ho
   ·rename_i hu;cases ho;subst hu;simp only[Opd.av,Opd.reg,h _ _ rfl]
   ·cases ho
  ·cases ho
def Xg(s:Ak)(d:Nat):Option Opd->Option (Nat × List Prop)
 | none=>some (d,[])
 | some o=>match o.av s with
  | some (.int _ i)=>some (i.toNat,[0<=i])
  | _=>none
theorem Ug{s:Ak}{d:Nat}{o:Option Opd}{n:Nat}{ps:List Prop}(h:Xg s d o=some (n,ps))(hp:FW ps):G2 s d o=some n:=by
 cases o with
 | none=>simp only[Xg,Az,Dn] at h;rw[<- h.1];rfl
 | some o =>
  simp only[Xg] at h;simp only[G2];split at h
  ·rename_i k i hi;cases h;rw[hi];simp only[if_pos hp.1]
  ·cases h
def Ic(prog:Nat->Option IFunc)(T:Cp)(s:Ak)(m:Hl)(k:K)(sc:List Sc):R3 (Reg × List (Nat × Reg)) :=
 match k with
 | .pick c a b =>
  match m.opd c with
  | some true=>(a.av s).map fun v=>((.val v,[]),sc,[])
  | some false=>(b.av s).map fun v=>((.val v,[]),sc,[])
  | none=>match c.av s,sc with
  | some (.bool c),.b t::sc=>(match t with | true=>(a.av s) | false=>(b.av s)).map fun v=>((.val v,[]),sc,[c=t])
  | _,_=>none
 | .bin op x y =>
  match x.av s,y.av s with
  | some (.int k a),some (.int k' b)=>(Uf op k k' a b).map fun p=>((.val p.1,[]),sc,p.2)
  | _,_=>none
 | .ixa x i k =>
  match i.av s,A2 s x with
  | some (.int _ i),.val (.sl n cs)=>some ((.mem (cs.drop (i.toNat*k)),[]),sc,[0<=i/\i<n])
  | _,_=>none
 | .ld x d n one =>
  match A2 s x,sc with
  | .mem cs,.v u::sc=>some ((.val u,[]),sc,[Bl cs 0 n one=some u])
  | .ptr d' off,sc=>if d'=d then (match A2 s d,sc with
   | .own _ _ cs,.v u::sc=>some ((.val u,[]),sc,[Bl cs off n one=some u])
   | .box cs,sc=>(Bl cs off n one).map fun v=>((.val v,[]),sc,[])
   | _,_=>none) else none
  | _,sc=>(B5 (fun _ _=>none) s (.ld x d n one)).map fun p=>(p,sc,[])
 | .six x i =>
  match x.av s,i.av s,sc with
  | some (.str b),some (.int _ i),.v (.int .u8 n)::sc=>some ((.val (.int .u8 n),[]),sc,[((if 0<=i then b[i.toNat]? else none).map fun c=>(c.toNat:Int))=some n])
  | _,_,_=>none
 | .call f xs =>
  match avs s xs with
  | some vs=>(match iL T f vs with
   | some p=>some ((.val (JR p.1),[]),sc,p.2)
   | none=>(match sc with
    | .r r::sc=>some ((.val (JR r),[]),sc,[H prog f vs r])
    | _=>none))
  | none=>none
 | .st x d n v =>
  match v.av s with
  | none=>none
  | some a=>match FZ a n with
   | none=>none
   | some ys=>match A2 s x with
    | .box cs=>if x=d then (Cv cs 0 ys).map fun cs'=>((.dead,[(d,.box cs')]),sc,[]) else none
    | .ptr d' off=>if d'=d then (match A2 s d,sc with
     | .own k m cs,.l cs'::sc=>some ((.dead,[(d,.own k m cs')]),sc,[Cv cs off ys=some cs'])
     | .box cs,sc=>(Cv cs off ys).map fun cs'=>((.dead,[(d,.box cs')]),sc,[])
     | _,_=>none) else none
    | _=>none
 | .ixo x d i k =>
  match i.av s with
  | some (.int _ i)=>(match A2 s x with
   | .val (.sl n cs)=>some ((.mem (cs.drop (i.toNat*k)),[]),sc,[0<=i/\i<n])
   | .dup d'=>if d'=d then (match A2 s d with
    | .own k' n _=>if k'=k then some ((.ptr d (i.toNat*k),[]),sc,[0<=i/\i<n]) else none
    | _=>none) else none
   | _=>none)
  | _=>none
 | .mks z n =>
  match n.av s with
  | some (.int _ m)=>some ((.own z.length m.toNat (Co z m.toNat),[]),sc,[0<=m/\m<=1048576])
  | _=>none
 | .apd ow x y k B =>
  match y.av s with
  | some (.sl m ys)=>(match x.reg s,sc with
   | .val .nil,sc=>some ((if ow then .own k m ys else .val (.sl m ys),[]),sc,[ys.length=m*k,m<=B])
   | .own k' n cs,sc=>if k'=k then some ((if ow then .own k (n+m) (cs++ys) else .val (.sl (n+m) (cs++ys)),Pj x),sc,[ys.length=m*k,n+m<=B]) else none
   | _,_=>none)
  | _=>(B5 (fun _ _=>none) s (.apd ow x y k B)).map fun p=>(p,sc,[])
 | .sli x lo hi mx k =>
  match x.av s with
  | some (.sl n cs)=>(match Xg s n mx,Xg s n hi,Xg s 0 lo with
   | some (m,p1),some (h,p2),some (l,p3)=>some ((.val (.sl (h-l) ((cs.drop (l*k)).take ((h-l)*k))),[]),sc,p1++(p2++(p3++[l<=h/\h<=m/\m<=n/\(mx.isSome->hi.isSome)])))
   | _,_,_=>none)
  | _=>(B5 (fun _ _=>none) s (.sli x lo hi mx k)).map fun p=>(p,sc,[])
 | .clo f xs =>
  match avs s xs with
  | some vs=>(match iL T f vs with
   | some p=>some ((K1 p.1,[]),sc,p.2)
   | none=>(match sc with
    | .r r::sc=>some ((K1 r,[]),sc,[H prog f vs r])
    | _=>none))
  | none=>none
 | .cln f xs ls =>
  match avs s xs with
  | some vs=>if ls.all (fun t=>FY (A2 s t)) then (match iL T f vs with
   | some p=>some ((K1 p.1,[]),sc,p.2)
   | none=>(match sc with
    | .r r::sc=>some ((K1 r,[]),sc,[H prog f vs r])
    | _=>none)) else none
  | none=>none
 | .brw f x d =>
  match A2 s x with
  | .dup d'=>if d'=d then (match A2 s d with
   | .own _ n cs=>(match iL T f [.sl n cs] with
    | some p=>some ((.val (JR p.1),[]),sc,[cs.all (fun c => !isI c)=true,Gp (JR p.1)=true]++p.2)
    | none=>(match sc with
     | .r r::sc=>some ((.val (JR r),[]),sc,[cs.all (fun c => !isI c)=true,Gp (JR r)=true,H prog f [.sl n cs] r])
     | _=>none))
   | _=>none) else none
  | _=>none
 | .slo x hi k =>
  match hi.av s with
  | some (.int _ h)=>(match A2 s x with
   | .own k' n cs=>if k'=k then some ((.own k h.toNat (cs.take (h.toNat*k)),[(x,.dead)]),sc,[0<=h/\h<=n]) else none
   | _=>none)
  | _=>none
 | k=>(B5 (fun _ _=>none) s k).map fun p=>(p,sc,[])
theorem Ady{prog:Nat->Option IFunc}{T:Cp}(hT:B_ prog T){s:Ak}{m:Hl}(hm:m.Ok s){k:K}{sc sc':List Sc}{p:Reg × List (Nat × Reg)}{ps:List Prop}(h:Ic prog T s m k sc=some (p,sc',ps))(hp:FW ps):B5 (Ue prog) s k=some p:=by
 cases k
 case pick c a b =>
  simp only[Ic] at h;split at h
  ·rename_i hmo;simp only[Ag] at h;obtain⟨v,hv,e⟩:=h;cases e;simp only[B5,Md hm hmo,hv,A6]
  ·rename_i hmo;simp only[Ag] at h;obtain⟨v,hv,e⟩:=h;cases e;simp only[B5,Md hm hmo,hv,A6]
  split at h
  ·rename_i c' t sc1 hc;simp only[Ag] at h;obtain⟨v,hv,e⟩:=h;cases e;have:c'=t:=hp.1;subst this;cases c' with
   | true=>simp only[B5,hc];simp only at hv;rw[hv];rfl
   | false=>simp only[B5,hc];simp only at hv;rw[hv];rfl
  ·cases h
 case bin op x y =>
  simp only[Ic] at h;split at h
  ·rename_i k1 a k2 b hx hy;simp only[Ag] at h;obtain⟨⟨v,ps'⟩,hv,e⟩:=h;cases e;simp only[B5,hx,hy,Adx hv hp,A6]
  ·cases h
 case ixa x i k =>
  simp only[Ic] at h;split at h
  ·rename_i k1 iv n cs hi hx;cases h;simp only[B5,hi,hx,if_pos hp.1]
  ·cases h
 case ld x d n one =>
  simp only[Ic] at h;split at h
  ·rename_i cs u sc1 hx;cases h;simp only[B5,hx,hp.1,A6]
  ·rename_i d' off hx;split at h
   ·rename_i hd;split at h
    ·rename_i k m cs u sc1 hr;cases h;simp only[B5,hx,if_pos hd,hr,hp.1,A6]
    ·rename_i cs hr;simp only[Ag] at h;obtain⟨q,hq,e⟩:=h;cases e;simp only[B5,hx,if_pos hd,hr,hq,A6]
    ·cases h
   ·cases h
  ·simp only[Ag] at h;obtain⟨q,hq,e⟩:=h;cases e;exact hq
 case st x d n v =>
  simp only[Ic] at h;split at h
  ·cases h
  ·rename_i a ha;split at h
   ·cases h
   ·rename_i ys hys;simp only[B5,ha,hys];split at h
    ·rename_i cs hx;rw[hx];dsimp only;split at h
     ·rename_i hd;simp only[Ag] at h;obtain⟨q,hq,e⟩:=h;cases e;simp only[if_pos hd,hq,A6]
     ·cases h
    ·rename_i d' off hx;rw[hx];dsimp only;split at h
     ·rename_i hd;rw[if_pos hd];split at h
      ·rename_i k m cs cs' sc1 hr;cases h;simp only[hr,hp.1,A6]
      ·rename_i cs hr;simp only[Ag] at h;obtain⟨q,hq,e⟩:=h;cases e;simp only[hr,hq,A6]
      ·cases h
     ·cases h
    ·cases h
 case ixo x d i k =>
  simp only[Ic] at h;split at h
  ·rename_i k1 iv hi;split at h
   ·rename_i n cs hx;cases h;simp only[B5,hi,hx,if_pos hp.1]
   ·rename_i d' hx;split at h
    ·rename_i hd;split at h
     ·rename_i k' n cs hr;split at h
      ·rename_i hk;cases h;simp only[B5,hi,hx,if_pos hd,hr,if_pos (show k'=k/\0<=iv/\iv<(n:Int) from ⟨hk,hp.1⟩)]
      ·cases h
     ·cases h
    ·cases h
   ·cases h
  ·cases h
 case mks z n =>
  simp only[Ic] at h;split at h
  ·rename_i k1 m hn;cases h;simp only[B5,hn,if_pos hp.1]
  ·cases h
 case apd ow x y k B =>
  simp only[Ic] at h;split at h
  ·rename_i m ys hy;split at h
   ·rename_i hx;cases h;simp only[B5,hy,if_pos hp.1,hx,if_pos hp.2.1]
   ·rename_i k' n cs hx;split at h
    ·rename_i hk;cases h;simp only[B5,hy,if_pos hp.1,hx,if_pos (show k'=k/\n+m<=B from ⟨hk,hp.2.1⟩)]
    ·cases h
   ·cases h
  ·simp only[Ag] at h;obtain⟨q,hq,e⟩:=h;cases e;exact hq
 case sli x lo hi mx k =>
  simp only[Ic] at h;split at h
  ·rename_i n cs hx;split at h
   ·rename_i m1 p1 h1 p2 l1 p3 b1 b2 b3;cases h;rw[Fo,Fo,Fo] at hp;simp only[B5,hx,Ug b1 hp.1,Ug b2 hp.2.1,Ug b3 hp.2.2.1,if_pos hp.2.2.2.1]
   ·cases h
  ·simp only[Ag] at h;obtain⟨q,hq,e⟩:=h;cases e;exact hq
 case six x i =>
  simp only[Ic] at h;split at h
  ·rename_i b k1 iv n sc1 hx hi;cases h;have:=hp.1;simp only[Ag] at this;obtain⟨c,hc,rfl⟩:=this;simp only[B5,hx,hi,hc,A6]
  ·cases h
 case call f xs =>
  simp only[Ic] at h;split at h
  ·rename_i vs hvs;split at h
   ·rename_i q hv;cases h;simp only[B5,hvs,K8 (hT f vs q.1 q.2 hv hp),A6]
   ·split at h
    ·rename_i r sc1;cases h;simp only[B5,hvs,K8 hp.1,A6]
    ·cases h
  ·cases h
 case clo f xs =>
  simp only[Ic] at h;split at h
  ·rename_i vs hvs;split at h
   ·rename_i q hv;cases h;simp only[B5,hvs,K8 (hT f vs q.1 q.2 hv hp),A6]
   ·split at h
    ·rename_i r sc1;cases h;simp only[B5,hvs,K8 hp.1,A6]
    ·cases h
  ·cases h
 case cln f xs ls =>
  simp only[Ic] at h;split at h
  ·rename_i vs hvs;split at h
   ·rename_i hl;split at h
    ·rename_i q hv;cases h;simp only[B5,hvs,if_pos hl,K8 (hT f vs q.1 q.2 hv hp),A6]
    ·split at h
     ·rename_i r sc1;cases h;simp only[B5,hvs,if_pos hl,K8 hp.1,A6]
     ·cases h
   ·cases h
  ·cases h
 case brw f x d =>
  simp only[Ic] at h;split at h
  ·rename_i d' hrx;split at h
   ·rename_i hdd;split at h
    ·rename_i k n cs hrd;split at h
     ·rename_i q hv;cases h;have h1:=hp.1;have h2:=hp.2.1;have h3:=hp.2.2;simp only[B5,hrx,hdd,hrd,if_true,h1,K8 (hT f _ q.1 q.2 hv h3),h2]
     ·split at h
      ·rename_i r sc1;cases h;have h1:=hp.1;have h2:=hp.2.1;simp only[B5,hrx,hdd,hrd,if_true,h1,K8 hp.2.2.1,h2]
      ·cases h
    ·cases h
   ·cases h
  ·cases h
 case slo x hi k =>
  simp only[Ic] at h;split at h
  ·rename_i k1 iv hi;split at h
   ·rename_i k' n cs hx;split at h
    ·rename_i hk;cases h;simp only[B5,hi,hx,if_pos (show k'=k/\0<=iv/\iv<=(n:Int) from ⟨hk,hp.1⟩)]
    ·cases h
   ·cases h
  ·cases h
 all_goals
  simp only[Ic,Ag] at h;obtain⟨q,hq,e⟩:=h;cases e;exact hq
def iM(s:Ak)(m:Hl)(g:Option (Nat × Bool))(sc:List Sc):R3 (Bool × Hl) :=
 match g with
 | none=>some ((true,m),sc,[])
 | some (t,b) =>
  match m.is t with
  | some x=>some ((x==b,m),sc,[])
  | none=>match A2 s t,sc with
   | .val (.bool c),.b x::sc=>some ((x==b,some (t,x)),sc,[c=x])
   | .val .undef,sc=>some ((false,m),sc,[])
   | _,_=>none
theorem Xh{s:Ak}{m m':Hl}(hm:m.Ok s){g:Option (Nat × Bool)}{sc sc':List Sc}{r:Bool}{ps:List Prop}(h:iM s m g sc=some ((r,m'),sc',ps))(hp:FW ps):G3 s g=some r/\m'.Ok s:=by
 unfold iM at h;split at h
 ·cases h;exact⟨rfl,hm⟩
 ·rename_i t b;split at h
  ·rename_i x hx;cases h;refine⟨?_,hm⟩;have:=Md hm (o := .t t) hx;simp only[Opd.av,Opd.reg] at this;simp only[G3];split at this
   ·rename_i y hy;cases this;rw[hy]
   ·cases this
  ·split at h
   ·rename_i c x sc1 hr;cases h;have:c=x:=hp.1;subst this;refine⟨by simp only[G3,hr],fun u y e => ?_⟩;cases e;exact hr
   ·rename_i hr;cases h;exact⟨by simp only[G3,hr],hm⟩
   ·cases h
def Hl.after(m:Hl)(wr:List Nat):Hl :=
 match m with
 | some (t,x)=>if wr.contains t then none else some (t,x)
 | none=>none
def YB(prog:Nat->Option IFunc)(T:Cp)(o:IOp)(s:Ak)(m:Hl)(sc:List Sc):R3 (Ak × Hl) :=
 match iM s m o.g sc with
 | none=>none
 | some ((false,m),sc,ps)=>some ((DP s o.dst (.val .undef),m.after o.wr),sc,ps)
 | some ((true,m),sc,ps)=>match Ic prog T s m o.k sc with
  | none=>none
  | some ((r,l),sc,qs)=>some ((DP (BM s l) o.dst r,m.after o.wr),sc,ps++qs)
def iN(prog:Nat->Option IFunc)(T:Cp)(o:IOp)(s:Ak)(m:Hl)(sc:List Sc):R3 (Ak × Hl):=YB prog T o (kill s o.ks) (m.after o.ks) sc
theorem W5{s:Ak}{m:Hl}(hm:m.Ok s)(ks:List Nat):(m.after ks).Ok (kill s ks):=by
 intro t x e;unfold Hl.after at e;split at e
 ·rename_i t' x';split at e
  ·cases e
  ·rename_i hn;cases e;rw[F1,if_neg (by simpa using hn)];exact hm _ _ rfl
 ·cases e
theorem Nr{F:B6}{o:IOp}{s s':Ak}{m:Hl}(hm:m.Ok s)(h:HI F o s=some s'):(m.after o.wr).Ok s':=by
 intro t x e;unfold Hl.after at e;split at e
 ·rename_i t' x';split at e
  ·cases e
  ·rename_i hn;cases e;rw[Xb] at h;simp only[Ag] at h;obtain⟨l,hl,rfl⟩:=h;have hk:=TY hl;rw[Nb (fun p hp e => ?_)]
   ·exact hm _ _ rfl
   ·subst e;have:=hk p hp;simp only[H_,this,decide_true,not_true_eq_false] at hn
 ·cases e
theorem iO{prog:Nat->Option IFunc}{T:Cp}(hT:B_ prog T){o:IOp}{s s':Ak}{m m':Hl}(hm:m.Ok s){sc sc':List Sc}{ps:List Prop}(h:YB prog T o s m sc=some ((s',m'),sc',ps))(hp:FW ps):HI (Ue prog) o s=some s'/\m'.Ok s':=by
 unfold YB at h;split at h
 ·cases h
 ·rename_i m1 sc1 ps1 hw;cases h;obtain⟨h1,h2⟩:=Xh hm hw hp;have h3:HI (Ue prog) o s=some (DP s o.dst (.val .undef)):=by simp only[HI,h1]
  exact⟨h3,Nr h2 h3⟩
 ·rename_i m1 sc1 ps1 hw;split at h
  ·cases h
  ·rename_i r l sc2 qs hk;cases h;rw[Fo] at hp;obtain⟨h1,h2⟩:=Xh hm hw hp.1;have h3:HI (Ue prog) o s=some (DP (BM s l) o.dst r):=by simp only[HI,h1,Ady hT h2 hk hp.2]
   exact⟨h3,Nr h2 h3⟩
theorem sB{prog:Nat->Option IFunc}{T:Cp}(hT:B_ prog T){o:IOp}{s s':Ak}{m m':Hl}(hm:m.Ok s){sc sc':List Sc}{ps:List Prop}(h:iN prog T o s m sc=some ((s',m'),sc',ps))(hp:FW ps):FH (Ue prog) o s=some s'/\m'.Ok s' :=
 iO hT (W5 hm o.ks) h hp
def Qr(prog:Nat->Option IFunc)(T:Cp):List IOp->Ak->Hl->List Sc->List Prop->R3 Ak
 | [],s,_,sc,ps=>some (s,sc,ps)
 | o::l,s,m,sc,ps=>match iN prog T o s m sc with
  | none=>none
  | some ((s',m'),sc',qs)=>Qr prog T l s' m' sc' (ps++qs)
theorem Uh{prog:Nat->Option IFunc}{T:Cp}(hT:B_ prog T):∀ {l:List IOp} {s s':Ak} {m:Hl} {sc sc':List Sc} {ps ps':List Prop},Qr prog T l s m sc ps=some (s',sc',ps')->FW ps'->FW ps/\(m.Ok s->DZ (Ue prog) l s=some s')
 | [],s,s',m,sc,sc',ps,ps',h,hp=>by
  simp only[Qr,Az,Dn] at h;obtain⟨rfl,_,rfl⟩:=h;exact⟨hp,fun _=>rfl⟩
 | o::l,s,s',m,sc,sc',ps,ps',h,hp=>by
  simp only[Qr] at h;cases h1:iN prog T o s m sc with
  | none=>rw[h1] at h;cases h
  | some q =>
   obtain⟨⟨s1,m1⟩,sc1,qs⟩:=q;rw[h1] at h;obtain⟨h2,h3⟩:=Uh hT h hp;rw[Fo] at h2;refine⟨h2.1,fun hm => ?_⟩;obtain⟨h4,h5⟩:=sB hT hm h1 h2.2;simp only[DZ,h4];exact h3 h5
def GS(prog:Nat->Option IFunc)(T:Cp):Nat->ICode->Ak->List Sc->List Prop->R3 (Ex × Ak)
 | 0,_,_,_,_=>none
 | _+1,.skip,s,sc,ps=>some ((.norm,s),sc,ps)
 | _+1,.region _ ops,s,sc,ps=>match Qr prog T ops s none sc ps with
  | none=>none
  | some (s',sc',ps')=>some ((.norm,s'),sc',ps')
 | n+1,.seq a b,s,sc,ps=>match GS prog T n a s sc ps with
  | none=>none
  | some ((.norm,s'),sc',ps')=>GS prog T n b s' sc' ps'
  | some ((.exit i,s'),sc',ps')=>some ((.exit i,s'),sc',ps')
  | some ((.ret,s'),sc',ps')=>some ((.ret,s'),sc',ps')
 | n+1,.cond c a b,s,sc,ps=>match c.av s,sc with
  | some (.bool v),.b true::sc=>GS prog T n a s sc (ps++[v=true])
  | some (.bool v),.b false::sc=>GS prog T n b s sc (ps++[v=false])
  | _,_=>none
 | n+1,.block id c,s,sc,ps=>match GS prog T n c s sc ps with
  | none=>none
  | some ((.exit i,s'),sc',ps')=>if i=id then some ((.norm,s'),sc',ps') else some ((.exit i,s'),sc',ps')
  | some ((.norm,s'),sc',ps')=>some ((.norm,s'),sc',ps')
  | some ((.ret,s'),sc',ps')=>some ((.ret,s'),sc',ps')
 | n+1,.loop c,s,sc,ps=>match GS prog T n c s sc ps with
  | none=>none
  | some ((.norm,s'),sc',ps')=>GS prog T n (.loop c) s' sc' ps'
  | some ((.exit i,s'),sc',ps')=>some ((.exit i,s'),sc',ps')
  | some ((.ret,s'),sc',ps')=>some ((.ret,s'),sc',ps')
 | n+1,.scope c,s,sc,ps=>GS prog T n c s sc ps
 | _+1,.exit id,s,sc,ps=>some ((.exit id,s),sc,ps)
 | _+1,.ret,s,sc,ps=>some ((.ret,s),sc,ps)
theorem Adz{prog:Nat->Option IFunc}{T:Cp}(hT:B_ prog T):∀ (n:Nat) {c:ICode} {s s':Ak} {ex:Ex} {sc sc':List Sc} {ps ps':List Prop},GS prog T n c s sc ps=some ((ex,s'),sc',ps')->FW ps'->FW ps/\Ch (Ue prog) n c s=some (ex,s'):=by
 intro n;induction n with
 | zero=>intro c s s' ex sc sc' ps ps' h;simp[GS] at h
 | succ n ih =>
  intro c s s' ex sc sc' ps ps' h hp;cases c with
  | skip=>simp only[GS,Az,Dn] at h;obtain⟨⟨rfl,rfl⟩,_,rfl⟩:=h;exact⟨hp,rfl⟩
  | region d ops =>
   simp only[GS] at h;split at h
   ·cases h
   ·rename_i s1 sc1 ps1 h1;cases h;obtain⟨h2,h3⟩:=Uh hT h1 hp;have h4:=h3 (fun t x e=>(by cases e));exact⟨h2,by simp only[Ch,h4,A6]⟩
  | seq a b =>
   simp only[GS] at h;split at h
   ·cases h
   ·rename_i s1 sc1 ps1 h1;obtain⟨h2,h3⟩:=ih h hp;obtain⟨h4,h5⟩:=ih h1 h2;exact⟨h4,by simp only[Ch,h5];exact h3⟩
   ·rename_i i s1 sc1 ps1 h1;cases h;obtain⟨h4,h5⟩:=ih h1 hp;exact⟨h4,by simp only[Ch,h5]⟩
   ·rename_i s1 sc1 ps1 h1;cases h;obtain⟨h4,h5⟩:=ih h1 hp;exact⟨h4,by simp only[Ch,h5]⟩
  | cond c a b =>
   simp only[GS] at h;split at h
   ·rename_i v sc1 hc;obtain⟨h2,h3⟩:=ih h hp;rw[Fo] at h2;have hv:v=true:=h2.2.1;exact⟨h2.1,by simp only[Ch,IY,hc,hv];exact h3⟩
   ·rename_i v sc1 hc;obtain⟨h2,h3⟩:=ih h hp;rw[Fo] at h2;have hv:v=false:=h2.2.1;exact⟨h2.1,by simp only[Ch,IY,hc,hv];exact h3⟩
   ·cases h
  | block id c =>
   simp only[GS] at h;split at h
   ·cases h
   ·rename_i i s1 sc1 ps1 h1;split at h
    ·rename_i hi;cases h;obtain⟨h4,h5⟩:=ih h1 hp;exact⟨h4,by simp only[Ch,h5,if_pos hi]⟩
    ·rename_i hi;cases h;obtain⟨h4,h5⟩:=ih h1 hp;exact⟨h4,by simp only[Ch,h5,if_neg hi]⟩
   ·rename_i s1 sc1 ps1 h1;cases h;obtain⟨h4,h5⟩:=ih h1 hp;exact⟨h4,by simp only[Ch,h5]⟩
   ·rename_i s1 sc1 ps1 h1;cases h;obtain⟨h4,h5⟩:=ih h1 hp;exact⟨h4,by simp only[Ch,h5]⟩
  | scope c =>
   simp only[GS] at h;obtain⟨h4,h5⟩:=ih h hp;exact⟨h4,by simp only[Ch];exact h5⟩
  | loop c =>
   simp only[GS] at h;split at h
   ·cases h
   ·rename_i s1 sc1 ps1 h1;obtain⟨h2,h3⟩:=ih h hp;obtain⟨h4,h5⟩:=ih h1 h2;exact⟨h4,by simp only[Ch,h5];exact h3⟩
   ·rename_i i s1 sc1 ps1 h1;cases h;obtain⟨h4,h5⟩:=ih h1 hp;exact⟨h4,by simp only[Ch,h5]⟩
   ·rename_i s1 sc1 ps1 h1;cases h;obtain⟨h4,h5⟩:=ih h1 hp;exact⟨h4,by simp only[Ch,h5]⟩
  | exit id=>simp only[GS,Az,Dn] at h;obtain⟨⟨rfl,rfl⟩,_,rfl⟩:=h;exact⟨hp,rfl⟩
  | ret=>simp only[GS,Az,Dn] at h;obtain⟨⟨rfl,rfl⟩,_,rfl⟩:=h;exact⟨hp,rfl⟩
theorem Lb{prog:Nat->Option IFunc}{T:Cp}(hT:B_ prog T)(n:Nat){c:ICode}{s s':Ak}{ex:Ex}(sc:List Sc){ps:List Prop}
  (h:GS prog T n c s sc []=some ((ex,s'),[],ps)) (hp:FW ps):D0 prog c s ex s':=Uc (iK prog) n (Adz hT n h hp).2
def Aea(prog:Nat->Option IFunc)(T:Cp)(n:Nat)(fn:IFunc)(args:List AV)(sc:List Sc):Option (AV × List Prop) :=
 match GS prog T n fn.body (Hu fn args) sc [] with
 | some ((.ret,s),[],ps)=>(Hi s fn.res).map fun r=>(r,ps)
 | some ((.norm,s),[],ps)=>(Hi s fn.res).map fun r=>(r,ps)
 | _=>none
theorem Bp{prog:Nat->Option IFunc}{T:Cp}(hT:B_ prog T){f:Nat}{fn:IFunc}(hf:prog f=some fn)(n:Nat){args:List AV}(hl:args.length=fn.params)(sc:List Sc){r:AV}{ps:List Prop}
  (h:Aea prog T n fn args sc=some (r,ps)) (hp:FW ps):H prog f args r:=by
 unfold Aea at h;split at h
 ·rename_i s ps1 h1;simp only[Ag] at h;obtain⟨r',hr,e⟩:=h;cases e;exact Hk hf hl (Lb hT n sc h1 hp) (fun i=>(by nofun)) hr
 ·rename_i s ps1 h1;simp only[Ag] at h;obtain⟨r',hr,e⟩:=h;cases e;exact Hk hf hl (Lb hT n sc h1 hp) (fun i=>(by nofun)) hr
 ·cases h
end Go.Ai
