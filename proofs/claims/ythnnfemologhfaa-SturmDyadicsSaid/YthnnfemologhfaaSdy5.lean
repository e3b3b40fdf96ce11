/- Texts of the proof of SturmDyadics, packed by pack.py: part 5 of 15. -/
import Derived.Test.YthnnfemologhfaaSdy4
namespace Go.Ai
open Go.IntKind (i64 u64 u32)
open Go.RowKit
section
variable {P:Program} {Y X0:Nat→Prop} {roots:List (Nat × Nat)} {w0:World} {Q:Exit→Act→World→Prop}
def openIx (n:Nat) (listed:Array Bool):List Nat:=(List.range n).filter fun i => !listed.getD i true
theorem mem_openIx {n i:Nat} {listed:Array Bool}:i∈openIx n listed↔i<n∧listed.getD i true=false:=by
 simp [openIx]
theorem getD_sets (listed:Array Bool) (i j:Nat) (d:Bool):(listed.setIfInBounds i true).getD j d=if i=j∧i<listed.size then true else listed.getD j d:=by
 simp only [Array.getD_eq_getD_getElem?,Array.getElem?_setIfInBounds]
 by_cases h:i=j
 ·subst h
  by_cases h2:i<listed.size <;> simp [h2]
 ·simp [h]
theorem filter_split {l:List Nat} (hs:l.Pairwise (·<·)) {i:Nat} (hi:i∈l):∃ pre post,l=pre++i::post∧(∀ j∈pre,j<i)∧l.filter (fun j=>decide (j ≠ i))=pre++post:=by
 induction l with
 | nil=>cases hi
 | cons k l ih =>
  rw [List.pairwise_cons] at hs
  by_cases hk:k=i
  ·subst hk
   refine ⟨[],l,rfl,fun j hj=>(by cases hj),?_⟩
   simp only [List.nil_append]
   rw [List.filter_cons_of_neg (by simp)]
   refine List.filter_eq_self.2 fun j hj => ?_
   have:=hs.1 j hj
   simp
   omega
  ·have hi':i∈l:=by
    cases hi with
    | head=>exact absurd rfl hk
    | tail _ h=>exact h
   obtain ⟨pre,post,e1,e2,e3⟩:=ih hs.2 hi'
   refine ⟨k::pre,post,by rw [e1];rfl,fun j hj => ?_,?_⟩
   ·cases hj with
    | head=>exact hs.1 i hi'
    | tail _ h=>exact e2 j h
   ·rw [List.filter_cons_of_pos (by simp [hk]),e3];rfl
theorem openIx_sorted (n:Nat) (listed:Array Bool):(openIx n listed).Pairwise (·<·):=List.Pairwise.filter _ List.pairwise_lt_range
theorem openIx_set {n i:Nat} {listed:Array Bool} (hi:i<listed.size):openIx n (listed.setIfInBounds i true)=(openIx n listed).filter fun j=>decide (j ≠ i):=by
 unfold openIx
 rw [List.filter_filter]
 apply List.filter_congr
 intro j _
 rw [getD_sets]
 by_cases h:i=j
 ·subst h;simp [hi]
 ·have h':¬ j=i:=fun e=>h e.symm
  simp [h,h']
def ioAt (io:List IOp) (i:Nat):IOp:=io.getD i ⟨none, .mov (.c .undef),none,[]⟩
def Closed (ops:Array Oper) (listed:Array Bool):Prop:=∀ (i:Nat) (o:Oper),ops[i]?=some o→listed.getD i false=true→∀ p∈preds o,listed.getD p false=true
theorem anc_listed {ops:Array Oper} {listed:Array Bool} (hc:Closed ops listed):∀ (i:Nat) (o:Oper),ops[i]?=some o→(∀ p∈preds o,listed.getD p false=true)→∀ j∈(ancGo ops.toList []).getD i [],listed.getD j false=true:=by
 intro i
 induction i using Nat.strongRecOn with
 | _ i ih =>
  intro o ho hp j hj
  obtain ⟨o',e1,p,hpp,e2⟩:=ancGo_spec ops.toList [] [] rfl (fun i j h=>(by simp at h)) i j hj
  simp only [List.nil_append,Array.getElem?_toList] at e1
  rw [ho] at e1
  cases e1
  rcases e2 with rfl | ⟨hlt,e3⟩
  ·exact hp _ hpp
  ·have hl:=hp p hpp
   have hps:p<ops.size:=by
    have:=(Array.getElem?_eq_some_iff.1 ho).1
    omega
   exact ih p hlt ops[p] (by simp [hps]) (hc p ops[p] (by simp [hps]) hl) j e3
theorem simAny {ops:Array Oper} {io:List IOp} {F:Caller} {sf:State} (hF:CallOk P F) (hok:opsOk P roots ops ops.toList io=true) (hdr:drawOk ops io=true) (hQ:∀ a' w',Rel Y X0 roots w0 sf a' w'→Q .normal a' w') :
  ∀ (fuel:Nat) (listed:Array Bool) (s:State) (a:Act) (w:World),listed.size=ops.size→Closed ops listed→(openIx ops.size listed).length≤fuel→Rel Y X0 roots w0 s a w →
   evOps F ((openIx ops.size listed).map (ioAt io)) s=some sf→wpAny P .any ops Q fuel listed a w:=by
 obtain ⟨hback,hpairs⟩:=drawOk_spec hdr
 obtain ⟨hlen,hget⟩:=opsOk_get hok
 have hlen':io.length=ops.size:=by simpa using hlen.symm
 -- nobody may come up: all have
 have stop:∀ (listed:Array Bool),listed.size=ops.size→Region.ready .any ops listed=[]→openIx ops.size listed=[]:=by
  intro listed hsz hr
  cases hop:openIx ops.size listed with
  | nil=>rfl
  | cons i rest =>
   exfalso
   have hi:=mem_openIx.1 (hop ▸ List.mem_cons_self:i∈openIx ops.size listed)
   have hs:=openIx_sorted ops.size listed
   rw [hop,List.pairwise_cons] at hs
   have hready:i∈Region.ready .any ops listed:=by
    rw [mem_ready]
    refine ⟨hi.2,ops[i],by simp [hi.1],fun e he hb => ?_⟩
    have hp:e.on∈preds ops[i]:=by
     simp only [preds,List.mem_map,List.mem_filter]
     exact ⟨e,⟨by simpa using he,hb⟩,rfl⟩
    have hlt:=hback i ops[i] (by simp [hi.1]) e.on hp
    cases hh:listed.getD e.on true with
    | false =>
     have:e.on∈openIx ops.size listed:=mem_openIx.2 ⟨by omega,hh⟩
     rw [hop] at this
     cases this with
     | head=>omega
     | tail _ h=>have:=hs.1 _ h;omega
    | true =>
     have hsz':e.on<listed.size:=by omega
     simp only [Array.getD_eq_getD_getElem?,Array.getElem?_eq_getElem hsz',Option.getD_some] at hh ⊢
     exact hh
   rw [hr] at hready
   cases hready
 intro fuel
 induction fuel with
 | zero =>
  intro listed s a w hsz hc hl h hev
  have h0:openIx ops.size listed=[]:=List.eq_nil_of_length_eq_zero (by omega)
  rw [h0] at hev
  simp only [List.map_nil,evOps,Option.some.injEq] at hev
  subst hev
  refine ⟨?_,hQ _ _ h⟩
  cases hr:Region.ready .any ops listed with
  | nil=>rfl
  | cons i rest =>
   have hi:i∈Region.ready .any ops listed:=by rw [hr];exact List.mem_cons_self
   rw [mem_ready] at hi
   obtain ⟨h1,o,h2,_⟩:=hi
   have:i∈openIx ops.size listed:=mem_openIx.2 ⟨(Array.getElem?_eq_some_iff.1 h2).1,h1⟩
   rw [h0] at this
   cases this
 | succ fuel ih =>
  intro listed s a w hsz hc hl h hev
  refine ⟨fun hr => ?_,fun i hi => ?_⟩
  ·rw [stop listed hsz hr] at hev
   simp only [List.map_nil,evOps,Option.some.injEq] at hev
   subst hev
   exact hQ _ _ h
  ·rw [mem_ready] at hi
   obtain ⟨h1,o,h2,h3⟩:=hi
   have hin:i<ops.size:=(Array.getElem?_eq_some_iff.1 h2).1
   have hmem:i∈openIx ops.size listed:=mem_openIx.2 ⟨hin,h1⟩
   obtain ⟨pre,post,e1,e2,e3⟩:=filter_split (openIx_sorted _ _) hmem
   have hpr:∀ p∈preds o,listed.getD p false=true:=by
    intro p hp
    simp only [preds,List.mem_map,List.mem_filter] at hp
    obtain ⟨e,⟨he,hb⟩,rfl⟩:=hp
    exact h3 e (by simpa using he) hb
   have hioi:io[i]?=some (ioAt io i):=by
    simp only [ioAt,List.getD_eq_getElem?_getD,List.getElem?_eq_getElem (hlen' ▸ hin),Option.getD_some]
   have hind:∀ q∈pre.map (ioAt io),indep q (ioAt io i)=true:=by
    intro q hq
    rw [List.mem_map] at hq
    obtain ⟨j,hj,rfl⟩:=hq
    have hjlt:=e2 j hj
    have hjop:j∈openIx ops.size listed:=by rw [e1];exact List.mem_append_left _ hj
    have hj2:=mem_openIx.1 hjop
    have hioj:io[j]?=some (ioAt io j):=by
     simp only [ioAt,List.getD_eq_getElem?_getD,List.getElem?_eq_getElem (hlen' ▸ hj2.1),Option.getD_some]
    rcases hpairs i j _ _ hjlt hioj hioi with hh | hh
    ·exact hh
    ·have hlj:=anc_listed hc i o h2 hpr j hh
     have hsz':j<listed.size:=by omega
     simp only [Array.getD_eq_getD_getElem?,Array.getElem?_eq_getElem hsz',Option.getD_some] at hlj hj2
     rw [hlj] at hj2
     cases hj2.2
   rw [e1,List.map_append,List.map_cons] at hev
   obtain ⟨s1,hs1,hs2⟩:=evOps_first hind hev
   rw [← List.map_append,← e3,← openIx_set (by omega)] at hs2
   refine simOp h hF h2 (hget i o _ (by simpa using h2) hioi) hs1 fun a' w' h' => ?_
   refine ih (listed.setIfInBounds i true) s1 a' w' (by simpa using hsz) ?_ ?_ h' hs2
   ·intro k ok hk hkl p hp
    rw [getD_sets] at hkl
    rw [getD_sets]
    split
    ·rfl
    ·split at hkl
     ·rename_i hik
      obtain ⟨rfl,_⟩:=hik
      rw [h2] at hk
      cases hk
      exact hpr p hp
     ·exact hc k ok hk hkl p hp
   ·rw [openIx_set (by omega),e3]
    rw [e1] at hl
    simp at hl ⊢
    omega
theorem simDrawn {ops:Array Oper} {io:List IOp} {F:Caller} {s sf:State} {a:Act} {w:World} {id:Nat} (hm:P.follows .mixedOrders=true) (hF:CallOk P F) (hok:opsOk P roots ops ops.toList io=true) (hdr:drawOk ops io=true)
  (h:Rel Y X0 roots w0 s a w) (hev:evOps F io s=some sf) (hQ:∀ a' w',Rel Y X0 roots w0 sf a' w'→Q .normal a' w'):(Code.region id ops true).wp P Q a w:=by
 have hlen:=(opsOk_get hok).1
 refine wp_region_any hm ?_
 have hall:openIx ops.size (Array.replicate ops.size false)=List.range ops.size:=by
  unfold openIx
  refine List.filter_eq_self.2 fun i hi => ?_
  have:i<ops.size:=by simpa using hi
  simp [Array.getD_eq_getD_getElem?,this]
 refine simAny hF hok hdr hQ ops.size _ s a _ (by simp) ?_ (by rw [hall];simp) ⟨h.dfr,h.size,⟨h.below.os,h.below.tape,h.below.output,h.below.size,h.below.block⟩,h.low,h.lowY,fun t=>RegOk.world (h.reg t) ⟨rfl,rfl,rfl,Nat.le_refl _,fun _ _=>rfl⟩,h.inj⟩ ?_
 ·intro i o ho hl
  have hi:=(Array.getElem?_eq_some_iff.1 ho).1
  simp [Array.getD_eq_getD_getElem?,hi] at hl
 ·rw [hall]
  have:(List.range ops.size).map (ioAt io)=io:=by
   apply List.ext_getElem?
   intro i
   have hl':io.length=ops.size:=by simpa using hlen.symm
   by_cases hi:i<ops.size
   ·simp [hi,ioAt,List.getD_eq_getElem?_getD,List.getElem?_eq_getElem (hl' ▸ hi)]
   ·rw [List.getElem?_eq_none (by simp;omega),List.getElem?_eq_none (by omega)]
  rw [this]
  exact hev
theorem simPlain {ops:Array Oper} {io:List IOp} {F:Caller} {s sf:State} {a:Act} {w:World} {id:Nat} (hF:CallOk P F) (hok:opsOk P roots ops ops.toList io=true)
  (h:Rel Y X0 roots w0 s a w) (hev:evOps F io s=some sf) (hQ:∀ a' w',Rel Y X0 roots w0 sf a' w'→Q .normal a' w'):(Code.region id ops false).wp P Q a w:=by
 refine wp_region ?_
 have:=simOps (Q:=Q) hF (k:=0) (fun j=>by simp) hok h hev hQ
 rw [List.range_eq_range']
 simpa using this
end
end Go.Ai

namespace Go.Ai
open Go.IntKind (i64 u64 u32)
open Go.RowKit
def codeOk (P:Program) (roots:List (Nat × Nat)):Code→ICode→Bool
 | .skip, .skip=>true
 | .region _ ops draw, .region d io=>draw==d&&opsOk P roots ops ops.toList io&&(!draw || drawOk ops io)
 | .seq a b, .seq a' b'=>codeOk P roots a a'&&codeOk P roots b b'
 | .cond c a b, .cond c' a' b'=>opdOk c c'&&codeOk P roots a a'&&codeOk P roots b b'
 | .block id c, .block id' c'=>id==id'&&codeOk P roots c c'
 | .loop c, .loop c'=>codeOk P roots c c'
 | .exit id, .exit id'=>id==id'
 | .ret, .ret=>true
 | _,_=>false
def exitOf:Ex→Exit
 | .norm => .normal
 | .exit id => .exit id
 | .ret => .ret
theorem exists_least {p:Nat→Prop} (h:∃ n,p n):∃ n,p n∧∀ m,p m→n≤m:=by
 obtain ⟨n,hn⟩:=h
 induction n using Nat.strongRecOn with
 | _ n ih =>
  by_cases hh:∃ m,m<n∧p m
  ·obtain ⟨m,hm,hp⟩:=hh
   exact ih m hm hp
  ·exact ⟨n,hn,fun m hp=>Nat.le_of_not_lt fun hlt=>hh ⟨m,hlt,hp⟩⟩
section
variable {P:Program} {Y X0:Nat→Prop} {roots:List (Nat × Nat)} {w0:World}
theorem simC (hm:P.follows .mixedOrders=true) {F:Caller} (hF:CallOk P F):∀ (n:Nat) (c:Code) (ic:ICode) (s s':State) (ex:Ex) (a:Act) (w:World) (Q:Exit→Act→World→Prop),codeOk P roots c ic=true →
  Rel Y X0 roots w0 s a w→evC F n ic s=some (ex,s')→(∀ a' w',Rel Y X0 roots w0 s' a' w'→Q (exitOf ex) a' w')→c.wp P Q a w:=by
 intro n
 induction n using Nat.strongRecOn with
 | _ n ih =>
  intro c ic s s' ex a w Q hok h hev hQ
  cases n with
  | zero=>simp [evC] at hev
  | succ n =>
   cases ic with
   | skip =>
    cases c <;> simp only [codeOk] at hok <;> try cases hok
    simp only [evC,Option.some.injEq,Prod.mk.injEq] at hev
    obtain ⟨rfl,rfl⟩:=hev
    exact wp_skip (hQ _ _ h)
   | region d io =>
    cases c <;> simp only [codeOk] at hok <;> try cases hok
    rename_i id ops draw
    simp only [Bool.and_eq_true,beq_iff_eq] at hok
    obtain ⟨⟨rfl,h1⟩,h2⟩:=hok
    simp only [evC,Option.map_eq_some_iff] at hev
    obtain ⟨s1,hs1,he⟩:=hev
    cases he
    cases draw with
    | false=>exact simPlain hF h1 h hs1 hQ
    | true=>exact simDrawn hm hF h1 (by simpa using h2) h hs1 hQ
   | seq x y =>
    cases c <;> simp only [codeOk] at hok <;> try cases hok
    rename_i c1 c2
    simp only [Bool.and_eq_true] at hok
    simp only [evC] at hev
    refine wp_seq ?_
    split at hev
    ·rename_i s1 h1
     refine ih n (by omega) c1 x s s1 .norm a w _ hok.1 h h1 fun a' w' h' => ?_
     exact ih n (by omega) c2 y s1 s' ex a' w' Q hok.2 h' hev hQ
    ·rename_i h1
     refine ih n (by omega) c1 x s s' ex a w _ hok.1 h hev fun a' w' h' => ?_
     cases ex with
     | norm=>exact absurd hev (h1 s')
     | exit id=>exact hQ _ _ h'
     | ret=>exact hQ _ _ h'
   | cond o x y =>
    cases c <;> simp only [codeOk] at hok <;> try cases hok
    rename_i o' c1 c2
    simp only [Bool.and_eq_true] at hok
    obtain ⟨⟨h1,h2⟩,h3⟩:=hok
    simp only [evC] at hev
    have key:∀ b,condA s o=some b→a.eval o' = .bool b:=by
     intro b hb
     unfold condA at hb
     split at hb
     ·rename_i b' hav
      cases hb
      have:=opd_rd h h1 hav
      generalize a.eval o'=v at this
      cases this
      rfl
     ·cases hb
    split at hev
    ·rename_i hc
     exact wp_cond_true (key true hc) (ih n (by omega) c1 x s s' ex a w Q h2 h hev hQ)
    ·rename_i hc
     exact wp_cond_false (key false hc) (ih n (by omega) c2 y s s' ex a w Q h3 h hev hQ)
    ·cases hev
   | block id x =>
    cases c <;> simp only [codeOk] at hok <;> try cases hok
    rename_i id' c1
    simp only [Bool.and_eq_true,beq_iff_eq] at hok
    obtain ⟨rfl,hok⟩:=hok
    simp only [evC] at hev
    refine wp_block ?_
    split at hev
    ·rename_i i s1 h1
     refine ih n (by omega) c1 x s s1 (.exit i) a w _ hok h h1 fun a' w' h' => ?_
     simp only [exitOf,Exit.inBlock]
     split at hev
     ·rename_i hi
      cases hev
      rw [if_pos hi]
      exact hQ _ _ h'
     ·rename_i hi
      cases hev
      rw [if_neg hi]
      exact hQ _ _ h'
    ·rename_i h1
     refine ih n (by omega) c1 x s s' ex a w _ hok h hev fun a' w' h' => ?_
     cases ex with
     | norm=>exact hQ _ _ h'
     | exit i=>exact absurd hev (h1 i s')
     | ret=>exact hQ _ _ h'
   | loop x =>
    cases c <;> simp only [codeOk] at hok <;> try cases hok
    rename_i c1
    let p:Act→World→Nat→Prop:=fun a w m=>m≤n+1∧∃ s1,Rel Y X0 roots w0 s1 a w∧evC F m (.loop x) s1=some (ex,s')
    let μ:Act→World→Nat:=fun a w=>@Classical.epsilon Nat ⟨0⟩ fun m=>p a w m∧∀ k,p a w k→m≤k
    have hμ:∀ a w,(∃ m,p a w m)→p a w (μ a w)∧∀ k,p a w k→μ a w≤k:=fun a w he=>@Classical.epsilon_spec_aux Nat ⟨0⟩ _ (exists_least he)
    refine wp_loop (fun a w=>∃ m,p a w m) μ ⟨n+1,Nat.le_refl _,s,h,hev⟩ ?_
    intro a1 w1 hI
    obtain ⟨⟨hle,s1,hr1,hev1⟩,hmin⟩:=hμ a1 w1 hI
    generalize hmm:μ a1 w1=m at *
    cases m with
    | zero=>simp [evC] at hev1
    | succ m =>
     simp only [evC] at hev1
     split at hev1
     ·rename_i s2 h2
      refine ih m (by omega) c1 x s1 s2 .norm a1 w1 _ hok hr1 h2 fun a' w' h' => ?_
      have hp:p a' w' m:=⟨by omega,s2,h',hev1⟩
      refine ⟨⟨m,hp⟩,?_⟩
      have:=(hμ a' w' ⟨m,hp⟩).2 m hp
      omega
     ·rename_i h2
      refine ih m (by omega) c1 x s1 s' ex a1 w1 _ hok hr1 hev1 fun a' w' h' => ?_
      cases ex with
      | norm=>exact absurd hev1 (h2 s')
      | exit i=>exact hQ _ _ h'
      | ret=>exact hQ _ _ h'
   | exit id =>
    cases c <;> simp only [codeOk] at hok <;> try cases hok
    simp only [beq_iff_eq] at hok
    subst hok
    simp only [evC,Option.some.injEq,Prod.mk.injEq] at hev
    obtain ⟨rfl,rfl⟩:=hev
    exact wp_exit (hQ _ _ h)
   | ret =>
    cases c <;> simp only [codeOk] at hok <;> try cases hok
    simp only [evC,Option.some.injEq,Prod.mk.injEq] at hev
    obtain ⟨rfl,rfl⟩:=hev
    exact wp_ret (hQ _ _ h)
end
def resOk (P:Program):ResultVar→IRes→Bool
 | .tmp t, .tmp t'=>t==t'
 | .cell t ty, .cell t' n one=>t==t'&&oneOk P ty n one
 | _,_=>false
def ressOk (P:Program):List ResultVar→List IRes→Bool
 | [],[]=>true
 | r::l,r'::l'=>resOk P r r'&&ressOk P l l'
 | _,_=>false
def fnOk (P:Program) (roots:List (Nat × Nat)) (fn:Func) (ifn:IFunc):Bool :=
 (match fn.body with | some c=>codeOk P roots c ifn.body | none=>false)&&fn.ntmps==ifn.slots&&ressOk P fn.results.toList ifn.res&&decide (ifn.params≤ifn.slots)
section
variable {P:Program} {Y X0:Nat→Prop} {roots:List (Nat × Nat)} {w0:World}
def resSem (tm:Array Value):ResultVar→Sem Value
 | .tmp t=>pure (tm.getD t Go.undef)
 | .cell a t=>do loadVar t (← asAddr (tm.getD a Go.undef))
theorem results_eq (fn:Func) (tm:Array Value):results fn tm=(fn.results.mapM (resSem tm)) >>= fun vs=>pure (if h:vs.size=1 then vs[0] else .tuple vs):=by
 unfold results
 congr 1
theorem results_ok {s:State} {a:Act} {w:World} (h:Rel Y X0 roots w0 s a w):∀ {l:List ResultVar} {m:List IRes} {xs:List AV},ressOk P l m=true→ressA s m=some xs →
  ∃ vs:List Value,(l.mapM (resSem a.tmps)).run P w = .ok vs w∧vs.length=xs.length ∧
   ∀ (i:Nat) (h1:i<vs.length) (h2:i<xs.length),Rd Y X0 w vs[i] xs[i]
 | [],[],xs,_,hx=>by
  simp only [ressA,Option.some.injEq] at hx
  subst hx
  exact ⟨[],rfl,rfl,fun i h1 _=>(by simp at h1)⟩
 | r::l,r'::m,xs,hok,hx=>by
  simp only [ressOk,Bool.and_eq_true] at hok
  simp only [ressA] at hx
  cases h1:resA s r' with
  | none=>rw [h1] at hx;cases hx
  | some x =>
   rw [h1] at hx
   cases h2:ressA s m with
   | none=>rw [h2] at hx;cases hx
   | some xs' =>
    rw [h2] at hx
    cases hx
    obtain ⟨vs,e1,e2,e3⟩:=results_ok h hok.2 h2
    have one:∃ v,(resSem a.tmps r).run P w = .ok v w∧Rd Y X0 w v x:=by
     have hr:=hok.1
     cases r with
     | tmp t =>
      cases r' with
      | cell _ _ _=>cases hr
      | tmp t' =>
       simp only [resOk,beq_iff_eq] at hr
       subst hr
       have h0:=h.reg t
       simp only [resA] at h1
       cases hrg:rget s t with
       | val y=>rw [hrg] at h1 h0;cases h1;exact ⟨_,rfl,Rd.mono h0 fun b hb => .inl (.inl hb)⟩
       | box _=>rw [hrg] at h1;cases h1
       | ptr _ _=>rw [hrg] at h1;cases h1
       | mem _=>rw [hrg] at h1;cases h1
       | own k n cs =>
        rw [hrg] at h1 h0
        cases h1
        refine ⟨_,rfl,OwnRd.frozen h0 (fun b hb => .inl (.inl hb)) (fun c hc hX => ?_) h.lowY⟩
        have h1:=(OwnRd.block h0 hc).1
        have:=h.low _ hX
        omega
       | agn _ _ _ _=>rw [hrg] at h1;cases h1
       | bxl _=>rw [hrg] at h1;cases h1
       | dup _=>rw [hrg] at h1;cases h1
       | dead=>rw [hrg] at h1;cases h1
     | cell t ty =>
      cases r' with
      | tmp _=>cases hr
      | cell t' n one =>
       simp only [resOk,Bool.and_eq_true,beq_iff_eq] at hr
       obtain ⟨rfl,hr⟩:=hr
       have h0:=h.reg t
       simp only [resA] at h1
       cases hrg:rget s t with
       | box cs =>
        rw [hrg] at h1 h0
        obtain ⟨b,g1,_,g3⟩:=h0
        obtain ⟨v,g4,g5⟩:=load_ok (P:=P) hr g3.mem h1
        refine ⟨v,?_,g5.mono fun b hb => .inl (.inl hb)⟩
        simp only [Nat.add_zero] at g4
        simp only [resSem,Sem.run_bind,g1,asAddr,Sem.run_pure,Result.andThen_ok,g4]
       | val _=>rw [hrg] at h1;cases h1
       | ptr _ _=>rw [hrg] at h1;cases h1
       | mem _=>rw [hrg] at h1;cases h1
       | own _ _ _=>rw [hrg] at h1;cases h1
       | agn _ _ _ _=>rw [hrg] at h1;cases h1
       | bxl _=>rw [hrg] at h1;cases h1
       | dup _=>rw [hrg] at h1;cases h1
       | dead=>rw [hrg] at h1;cases h1
    obtain ⟨v,e4,e5⟩:=one
    refine ⟨v::vs,?_,by simp [e2],fun i g1 g2 => ?_⟩
    ·simp only [List.mapM_cons,Sem.run_bind,e4,e1,Result.andThen_ok,Sem.run_pure]
    ·cases i with
     | zero=>exact e5
     | succ i=>exact e3 i (by simpa using g1) (by simpa using g2)
 | [],_::_,_,hok,_=>by cases hok
 | _::_,[],_,hok,_=>by cases hok
theorem RegOk.arg {Y X:Nat→Prop} {B:Nat} {tm:Array Value} {w:World} {t:Nat} {v:Value} {x:AV} (h:Rd Y X w v x):RegOk Y X B roots tm w t v (argReg x):=by
 cases x
 case pt cs=>exact h.ofPt
 all_goals exact h
theorem excl_arg (x:AV):excl (argReg x)=false:=by cases x <;> rfl
theorem init_rel {ifn:IFunc} {Y X:Nat→Prop} {w:World} {vs:Array Value} {args:List AV} (hlow:∀ b,X b→b<w.heap.size) (hlowY:∀ b,Y b→b<w.heap.size) (hs:vs.size=args.length) (hpar:args.length≤ifn.slots)
  (hr:∀ (i:Nat) (h1:i<vs.size) (h2:i<args.length),Rd Y X w vs[i] args[i]) :
  Rel Y X roots w (initA ifn args) { tmps:=vs++Array.replicate (ifn.slots-vs.size) Go.undef,defers:=[] } w:=by
 have key:∀ t,(∃ x,rget (initA ifn args) t=argReg x∧args[t]?=some x)∨rget (initA ifn args) t = .dead:=by
  intro t
  simp only [rget,initA,List.getD_eq_getElem?_getD]
  rcases Nat.lt_or_ge t args.length with h1 | h1
  ·refine .inl ⟨args[t],?_,by simp [h1]⟩
   rw [List.getElem?_append_left (by simpa using h1)]
   simp [h1]
  ·refine .inr ?_
   rw [List.getElem?_append_right (by simpa using h1)]
   rcases Nat.lt_or_ge (t-(args.map argReg).length) (ifn.slots-args.length) with h2 | h2
   ·rw [List.getElem?_replicate_of_lt h2];rfl
   ·rw [List.getElem?_eq_none (by simpa using h2)];rfl
 have hne:∀ t,excl (rget (initA ifn args) t)=false:=by
  intro t
  rcases key t with ⟨x,h1,_⟩ | h1 <;> rw [h1]
  ·exact excl_arg x
  ·rfl
 refine ⟨rfl,by simp [initA];omega,Below.refl _ _,hlow,hlowY,fun t => ?_,fun t t' b h1 => ?_⟩
 ·rcases key t with ⟨x,h1,h2⟩ | h1
  ·rw [h1]
   obtain ⟨hlt,hx⟩:=List.getElem?_eq_some_iff.1 h2
   have h3:=hr t (by omega) hlt
   have h4:(vs++Array.replicate (ifn.slots-vs.size) Go.undef).getD t Go.undef=vs[t]'(by omega):=by
    rw [Array.getD_eq_getD_getElem?,Array.getElem?_append_left (by omega),Array.getElem?_eq_getElem (by omega)];rfl
   rw [h4,← hx]
   refine RegOk.arg (h3.mono fun b hb => ?_)
   rcases hb with hb | ⟨t',g1,_⟩
   ·exact .inl hb
   ·rw [hne] at g1;cases g1
  ·rw [h1];trivial
 ·rw [hne] at h1;cases h1
theorem simF (hm:P.follows .mixedOrders=true) {prog:Nat→Option IFunc} (hp:∀ f ifn,prog f=some ifn→∃ fn roots,P.funcs[f]?=some fn∧fnOk P roots fn ifn=true):∀ n,CallOk P (evF prog n):=by
 intro n
 induction n with
 | zero=>intro f args x h;simp [evF] at h
 | succ n ih =>
  intro f args x h Y X w vs hlow hlowY hs hr
  simp only [evF] at h
  split at h
  ·cases h
  ·rename_i ifn hifn
   split at h
   ·rename_i hpar
    obtain ⟨fn,roots,hfn,hok⟩:=hp f ifn hifn
    simp only [fnOk,Bool.and_eq_true,beq_iff_eq,decide_eq_true_eq] at hok
    obtain ⟨⟨⟨h1,h2⟩,h3⟩,h4⟩:=hok
    split at h1
    ·rename_i c hc
     have hrel:Rel Y X roots w (initA ifn args) { tmps:=vs++Array.replicate (fn.ntmps-vs.size) Go.undef,defers:=[] } w:=by
      rw [h2]
      exact init_rel hlow hlowY hs (by omega) hr
     refine calls_of_wp hfn hc ?_
     -- the end of the body
     have fin:∀ (s:State) (a':Act) (w':World),Rel Y X roots w s a' w'→resultA s ifn.res=some x →
       a'.defers=[]∧∃ v,(results fn a'.tmps).run P w' = .ok v w'∧∃ v',Ending.returned v = .returned v'∧Below w.heap.size w w'∧ResOk Y X w.heap.size w' v' x:=by
      intro s a' w' hrel' hres
      refine ⟨hrel'.dfr,?_⟩
      unfold resultA at hres
      have hrun:∀ (us:List Value),(fn.results.toList.mapM (resSem a'.tmps)).run P w' = .ok us w' →
        (results fn a'.tmps).run P w' = .ok (if h:us.toArray.size=1 then us.toArray[0] else .tuple us.toArray) w':=by
       intro us hus
       rw [results_eq,Array.mapM_eq_mapM_toList]
       simp only [Sem.run_bind,Sem.run_map,hus,Result.andThen_ok,Sem.run_pure]
      split at hres
      ·rename_i y hy
       cases hres
       generalize hl:ifn.res=lres at hy h3
       unfold freshA at hy
       split at hy
       ·rename_i t
        split at hy
        ·rename_i k n cs hr
         cases hy
         cases hfr:fn.results.toList with
         | nil=>rw [hfr] at h3;cases h3
         | cons r rest =>
          rw [hfr] at h3
          cases rest with
          | cons _ _=>simp only [ressOk,Bool.and_false] at h3;cases h3
          | nil =>
           simp only [ressOk,Bool.and_true] at h3
           cases r with
           | cell _ _=>cases h3
           | tmp t' =>
            simp only [resOk,beq_iff_eq] at h3
            subst h3
            refine ⟨_,hrun [a'.tmps.getD t' Go.undef] (by rw [hfr];rfl),_,rfl,hrel'.below,?_⟩
            simp only [List.size_toArray,List.length_cons,List.length_nil,Nat.zero_add,dite_true]
            rcases hrel'.ownLow hr with hnil | ⟨b,cap,e1,e2,e3,e4,e5,e6,hXb⟩
            ·exact .inl hnil
            refine .inr ⟨b,cap,e1,e2,e3,e4,e5.mono fun c hc => .inl ?_,e6⟩
            rcases hc with hc | hc
            ·exact .inl hc
            ·simp only [e1,blockOf,rootOf,List.getElem_toArray,List.getElem_cons_zero,Option.map_some,Option.some.injEq] at hc
             exact .inr (hc ▸ hXb)
        ·rename_i bb k n cs hr
         cases hy
         cases hfr:fn.results.toList with
         | nil=>rw [hfr] at h3;cases h3
         | cons r rest =>
          rw [hfr] at h3
          cases rest with
          | cons _ _=>simp only [ressOk,Bool.and_false] at h3;cases h3
          | nil =>
           simp only [ressOk,Bool.and_true] at h3
           cases r with
           | cell _ _=>cases h3
           | tmp t' =>
            simp only [resOk,beq_iff_eq] at h3
            subst h3
            refine ⟨_,hrun [a'.tmps.getD t' Go.undef] (by rw [hfr];rfl),_,rfl,hrel'.below,?_⟩
            simp only [List.size_toArray,List.length_cons,List.length_nil,Nat.zero_add,dite_true]
            have h0:=hrel'.reg t'
            rw [hr] at h0
            have hXS:∀ c,blockOf (a'.tmps.getD t' Go.undef)=some c→XS s a'.tmps c:=fun c hc=>⟨t',by rw [hr];rfl,hc⟩
            exact AgnRd.own h0 hXS
        ·cases hy
       ·rename_i t n one
        split at hy
        ·rename_i d hr
         split at hy
         ·rename_i bb k m cs hrd
          split at hy
          ·rename_i hn
           obtain ⟨rfl,rfl⟩:=hn
           cases hy
           cases hfr:fn.results.toList with
           | nil=>rw [hfr] at h3;cases h3
           | cons r rest =>
            rw [hfr] at h3
            cases rest with
            | cons _ _=>simp only [ressOk,Bool.and_false] at h3;cases h3
            | nil =>
             simp only [ressOk,Bool.and_true] at h3
             cases r with
             | tmp _=>cases h3
             | cell t' ty =>
              simp only [resOk,Bool.and_eq_true,beq_iff_eq] at h3
              obtain ⟨rfl,h3⟩:=h3
              have h0:=hrel'.reg t'
              rw [hr] at h0
              obtain ⟨_,b,g1,_,_,g4⟩:=h0
              have h5:=hrel'.reg d
              rw [hrd] at h5
              obtain ⟨u,hu,h5'⟩:=id h5
              obtain ⟨q1,q2⟩:=oneOk_spec h3
              rw [hu] at g4
              have hl:=run_loadCells (P:=P) w' ⟨b,0,none⟩ 2 (fun i=>#[Value.bool bb,u].getD i Go.undef) (fun j hj=>by
               rw [addr_add,Nat.zero_add,g4 j hj]
               match j,hj with
               | 0,_=>rfl
               | 1,_=>rfl)
              have hload:(resSem a'.tmps (.cell t' ty)).run P w' = .ok (.agg #[.bool bb,u]) w':=by
               simp only [resSem,Sem.run_bind,g1,asAddr,Sem.run_pure,Result.andThen_ok,loadVar,q1,q2,hl,Bool.not_false,if_true]
               rfl
              refine ⟨_,hrun [.agg #[.bool bb,u]] (by rw [hfr];simp only [List.mapM_cons,List.mapM_nil,Sem.run_bind,hload,Result.andThen_ok,Sem.run_pure]),_,rfl,hrel'.below,?_⟩
              have hXS:∀ c,blockOf (a'.tmps.getD d Go.undef)=some c→XS s a'.tmps c:=fun c hc=>⟨d,by rw [hrd];rfl,hc⟩
              have:=AgnRd.own h5 hXS
              rw [hu] at this
              exact this
          ·cases hy
         ·cases hy
        ·cases hy
       ·cases hy
      split at hres
      ·rename_i y hy
       cases hres
       obtain ⟨us,g1,g2,g3⟩:=results_ok hrel' h3 hy
       refine ⟨_,hrun us g1,_,rfl,hrel'.below,?_⟩
       have hl:us.toArray.size=1:=by simpa using g2
       rw [dif_pos hl]
       have:=g3 0 (by simp at g2;omega) (by simp)
       exact .of_rd (by simpa using this)
      ·rename_i ys hne hy
       cases hres
       obtain ⟨us,g1,g2,g3⟩:=results_ok hrel' h3 hy
       refine ⟨_,hrun us g1,_,rfl,hrel'.below,?_⟩
       have hl:¬ us.toArray.size=1:=by
        intro hh
        have:ys.length=1:=by rw [← g2];simpa using hh
        match ys,this with
        | [y],_=>exact hne y rfl
       rw [dif_neg hl]
       exact .of_rd (.tup _ _ (by simpa using g2) (fun i h1 h2=>by simpa using g3 i (by simpa using h1) h2))
      ·cases hres
     split at h
     ·cases h
     ·rename_i ex s hnot hev
      refine simC hm ih n c ifn.body _ s ex _ w _ h1 hrel hev fun a' w' hrel' => ?_
      have:=fin s a' w' hrel' h
      cases ex with
      | norm=>exact this
      | ret=>exact this
      | exit i=>exact (hnot i rfl).elim
     ·cases h
    ·cases h1
   ·cases h
end
end Go.Ai

namespace Go.Ai
open Go.IntKind (i64 u64 u32)
open Go.RowKit
def Le (F G:Caller):Prop:=∀ f args r,F f args=some r→G f args=some r
theorem evK_le {F G:Caller} (h:Le F G) {s:State} {k:K} {p:Reg × List (Nat × Reg)} (hk:evK F s k=some p):evK G s k=some p:=by
 cases k
 case call f xs =>
  simp only [evK] at hk ⊢
  split at hk
  ·rename_i vs hvs
   simp only [Option.map_eq_some_iff] at hk ⊢
   obtain ⟨v,hv,he⟩:=hk
   exact ⟨v,h f vs v hv,he⟩
  ·cases hk
 case clo f xs =>
  simp only [evK] at hk ⊢
  split at hk
  ·rename_i vs hvs
   simp only [Option.map_eq_some_iff] at hk ⊢
   obtain ⟨v,hv,he⟩:=hk
   exact ⟨v,h f vs v hv,he⟩
  ·cases hk
 case cln f xs ls =>
  simp only [evK] at hk ⊢
  split at hk
  ·rename_i vs hvs
   split at hk
   ·rename_i hl
    rw [if_pos hl]
    simp only [Option.map_eq_some_iff] at hk ⊢
    obtain ⟨v,hv,he⟩:=hk
    exact ⟨v,h f vs v hv,he⟩
   ·cases hk
  ·cases hk
 case cal f x xs =>
  simp only [evK] at hk ⊢
  split at hk
  ·rename_i f' cs vs hx hvs
   split at hk
   ·rename_i hf
    rw [if_pos hf]
    simp only [Option.map_eq_some_iff] at hk ⊢
    obtain ⟨v,hv,he⟩:=hk
    exact ⟨v,h f _ v hv,he⟩
   ·cases hk
  ·cases hk
 case brw f x d =>
  simp only [evK] at hk ⊢
  split at hk
  ·split at hk
   ·rename_i hd
    rw [if_pos hd]
    split at hk
    ·split at hk
     ·rename_i hc
      rw [if_pos hc]
      split at hk
      ·rename_i y hy
       rw [h _ _ _ hy]
       exact hk
      ·cases hk
     ·cases hk
    ·cases hk
   ·cases hk
  ·cases hk
 all_goals exact hk
theorem evOp_le {F G:Caller} (h:Le F G) {o:IOp} {s s':State} (he:evOp F o s=some s'):evOp G o s=some s':=by
 simp only [evOp,evOp0] at he ⊢
 split at he
 ·cases he
 ·exact he
 ·split at he
  ·cases he
  ·rename_i r l hk
   rw [evK_le h hk]
   exact he
theorem evOps_le {F G:Caller} (h:Le F G):∀ {l:List IOp} {s s':State},evOps F l s=some s'→evOps G l s=some s'
 | [],_,_,he=>he
 | o::l,s,s',he=>by
  simp only [evOps] at he ⊢
  cases h1:evOp F o s with
  | none=>rw [h1] at he;cases he
  | some s1 =>
   rw [h1] at he
   rw [evOp_le h h1]
   exact evOps_le h he
theorem evC_le {F G:Caller} (h:Le F G):∀ {n m:Nat},n≤m→∀ {c:ICode} {s:State} {r:Ex × State},evC F n c s=some r→evC G m c s=some r:=by
 intro n
 induction n with
 | zero=>intro m _ c s r he;simp [evC] at he
 | succ n ih =>
  intro m hm c s r he
  obtain ⟨m,rfl⟩:∃ m',m=m'+1:=⟨m-1,by omega⟩
  have hm':n≤m:=by omega
  cases c with
  | skip=>exact he
  | region d ops =>
   simp only [evC,Option.map_eq_some_iff] at he ⊢
   obtain ⟨s',h1,h2⟩:=he
   exact ⟨s',evOps_le h h1,h2⟩
  | seq a b =>
   simp only [evC] at he ⊢
   cases h1:evC F n a s with
   | none=>rw [h1] at he;cases he
   | some p =>
    rw [h1] at he
    rw [ih hm' h1]
    obtain ⟨ex,s1⟩:=p
    cases ex with
    | norm=>exact ih hm' he
    | exit i=>exact he
    | ret=>exact he
  | cond c a b =>
   simp only [evC] at he ⊢
   split at he
   ·exact ih hm' he
   ·exact ih hm' he
   ·cases he
  | block id c =>
   simp only [evC] at he ⊢
   cases h1:evC F n c s with
   | none=>rw [h1] at he;cases he
   | some p =>
    rw [h1] at he
    rw [ih hm' h1]
    exact he
  | loop c =>
   simp only [evC] at he ⊢
   cases h1:evC F n c s with
   | none=>rw [h1] at he;cases he
   | some p =>
    rw [h1] at he
    rw [ih hm' h1]
    obtain ⟨ex,s1⟩:=p
    cases ex with
    | norm=>exact ih hm' he
    | exit i=>exact he
    | ret=>exact he
  | exit id=>exact he
  | ret=>exact he
theorem evF_le (prog:Nat→Option IFunc):∀ {n m:Nat},n≤m→Le (evF prog n) (evF prog m):=by
 intro n
 induction n with
 | zero=>intro m _ f args r h;simp [evF] at h
 | succ n ih =>
  intro m hm f args r h
  obtain ⟨m,rfl⟩:∃ m',m=m'+1:=⟨m-1,by omega⟩
  have hm':n≤m:=by omega
  simp only [evF] at h ⊢
  split at h
  ·cases h
  ·rename_i fn hfn
   split at h
   ·rename_i hl
    rw [if_pos hl]
    cases h1:evC (evF prog n) n fn.body (initA fn args) with
    | none=>rw [h1] at h;cases h
    | some p =>
     rw [h1] at h
     rw [evC_le (ih hm') hm' h1]
     exact h
   ·cases h
def Runs (prog:Nat→Option IFunc) (f:Nat) (args:List AV) (r:AV):Prop:=∃ n,evF prog n f args=some r
def RunsC (prog:Nat→Option IFunc) (c:ICode) (s:State) (ex:Ex) (s':State):Prop:=∃ n,evC (evF prog n) n c s=some (ex,s')
theorem Runs.of_body {prog:Nat→Option IFunc} {f:Nat} {fn:IFunc} {args:List AV} {s:State} {ex:Ex} {r:AV} (hf:prog f=some fn) (hl:args.length=fn.params) (h:RunsC prog fn.body (initA fn args) ex s)
  (hex:∀ i,ex ≠ .exit i) (hr:resultA s fn.res=some r):Runs prog f args r:=by
 obtain ⟨n,h⟩:=h
 refine ⟨n+1,?_⟩
 simp only [evF,hf,if_pos hl,h]
 cases ex with
 | norm=>exact hr
 | ret=>exact hr
 | exit i=>exact absurd rfl (hex i)
theorem RunsC.seq {prog:Nat→Option IFunc} {a b:ICode} {s s1 s':State} {ex:Ex} (h1:RunsC prog a s .norm s1) (h2:RunsC prog b s1 ex s'):RunsC prog (.seq a b) s ex s':=by
 obtain ⟨n,h1⟩:=h1
 obtain ⟨m,h2⟩:=h2
 refine ⟨max n m+1,?_⟩
 have e1:=evC_le (evF_le prog (show n≤max n m+1 by omega)) (show n≤max n m by omega) h1
 have e2:=evC_le (evF_le prog (show m≤max n m+1 by omega)) (show m≤max n m by omega) h2
 simp only [evC,e1,e2]
theorem RunsC.seq_out {prog:Nat→Option IFunc} {a b:ICode} {s s':State} {ex:Ex} (h1:RunsC prog a s ex s') (hex:ex ≠ .norm):RunsC prog (.seq a b) s ex s':=by
 obtain ⟨n,h1⟩:=h1
 refine ⟨n+1,?_⟩
 have e1:=evC_le (evF_le prog (show n≤n+1 by omega)) (show n≤n by omega) h1
 simp only [evC,e1]
 cases ex with
 | norm=>exact absurd rfl hex
 | exit i=>rfl
 | ret=>rfl
theorem RunsC.block {prog:Nat→Option IFunc} {id:Nat} {c:ICode} {s s':State} (h:RunsC prog c s (.exit id) s'):RunsC prog (.block id c) s .norm s':=by
 obtain ⟨n,h⟩:=h
 refine ⟨n+1,?_⟩
 have e1:=evC_le (evF_le prog (show n≤n+1 by omega)) (show n≤n by omega) h
 simp only [evC,e1,if_true]
theorem RunsC.block_norm {prog:Nat→Option IFunc} {id:Nat} {c:ICode} {s s':State} (h:RunsC prog c s .norm s'):RunsC prog (.block id c) s .norm s':=by
 obtain ⟨n,h⟩:=h
 refine ⟨n+1,?_⟩
 have e1:=evC_le (evF_le prog (show n≤n+1 by omega)) (show n≤n by omega) h
 simp only [evC,e1]
theorem RunsC.block_out {prog:Nat→Option IFunc} {id i:Nat} {c:ICode} {s s':State} (h:RunsC prog c s (.exit i) s') (hi:i ≠ id):RunsC prog (.block id c) s (.exit i) s':=by
 obtain ⟨n,h⟩:=h
 refine ⟨n+1,?_⟩
 have e1:=evC_le (evF_le prog (show n≤n+1 by omega)) (show n≤n by omega) h
 simp only [evC,e1,if_neg hi]
theorem RunsC.block_ret {prog:Nat→Option IFunc} {id:Nat} {c:ICode} {s s':State} (h:RunsC prog c s .ret s'):RunsC prog (.block id c) s .ret s':=by
 obtain ⟨n,h⟩:=h
 refine ⟨n+1,?_⟩
 have e1:=evC_le (evF_le prog (show n≤n+1 by omega)) (show n≤n by omega) h
 simp only [evC,e1]
theorem RunsC.loop {prog:Nat→Option IFunc} {c:ICode} {s s1 s':State} {ex:Ex} (h1:RunsC prog c s .norm s1) (h2:RunsC prog (.loop c) s1 ex s'):RunsC prog (.loop c) s ex s':=by
 obtain ⟨n,h1⟩:=h1
 obtain ⟨m,h2⟩:=h2
 refine ⟨max n m+1,?_⟩
 have e1:=evC_le (evF_le prog (show n≤max n m+1 by omega)) (show n≤max n m by omega) h1
 have e2:=evC_le (evF_le prog (show m≤max n m+1 by omega)) (show m≤max n m by omega) h2
 simp only [evC,e1,e2]
theorem RunsC.loop_out {prog:Nat→Option IFunc} {c:ICode} {s s':State} {ex:Ex} (h1:RunsC prog c s ex s') (hex:ex ≠ .norm):RunsC prog (.loop c) s ex s':=by
 obtain ⟨n,h1⟩:=h1
 refine ⟨n+1,?_⟩
 have e1:=evC_le (evF_le prog (show n≤n+1 by omega)) (show n≤n by omega) h1
 simp only [evC,e1]
 cases ex with
 | norm=>exact absurd rfl hex
 | exit i=>rfl
 | ret=>rfl
def Holds (prog:Nat→Option IFunc) (F:Caller):Prop:=∀ f args r,F f args=some r→Runs prog f args r
theorem evOps_holds {prog:Nat→Option IFunc} {F:Caller} (h:Holds prog F):∀ {l:List IOp} {s s':State},evOps F l s=some s'→∃ n,evOps (evF prog n) l s=some s'
 | [],s,s',he=>⟨0,he⟩
 | o::l,s,s',he=>by
  simp only [evOps] at he
  cases h1:evOp F o s with
  | none=>rw [h1] at he;cases he
  | some s1 =>
   rw [h1] at he
   obtain ⟨n,hn⟩:=evOps_holds h he
   have key:∃ m,evOp (evF prog m) o s=some s1:=by
    simp only [evOp,evOp0] at h1 ⊢
    generalize kill s o.ks=s at *
    split at h1
    ·cases h1
    ·exact ⟨0,h1⟩
    ·split at h1
     ·cases h1
     ·rename_i r l' hk
      have:∃ m,evK (evF prog m) s o.k=some (r,l'):=by
       cases hkk:o.k
       case call f xs =>
        rw [hkk] at hk
        simp only [evK] at hk ⊢
        split at hk
        ·rename_i vs hvs
         simp only [Option.map_eq_some_iff] at hk
         obtain ⟨v,hv,e⟩:=hk
         obtain ⟨m,hm⟩:=h f vs v hv
         exact ⟨m,by simp only [hm,Option.map_some,e]⟩
        ·cases hk
       case clo f xs =>
        rw [hkk] at hk
        simp only [evK] at hk ⊢
        split at hk
        ·rename_i vs hvs
         simp only [Option.map_eq_some_iff] at hk
         obtain ⟨v,hv,e⟩:=hk
         obtain ⟨m,hm⟩:=h f vs v hv
         exact ⟨m,by simp only [hm,Option.map_some,e]⟩
        ·cases hk
       case cln f xs ls =>
        rw [hkk] at hk
        simp only [evK] at hk ⊢
        split at hk
        ·rename_i vs hvs
         split at hk
         ·rename_i hl
          simp only [Option.map_eq_some_iff] at hk
          obtain ⟨v,hv,e⟩:=hk
          obtain ⟨m,hm⟩:=h f vs v hv
          exact ⟨m,by rw [if_pos hl,hm];simp only [Option.map_some,e]⟩
         ·cases hk
        ·cases hk
       case cal f x xs =>
        rw [hkk] at hk
        simp only [evK] at hk ⊢
        split at hk
        ·rename_i f' cs vs hx hvs
         split at hk
         ·rename_i hf
          simp only [Option.map_eq_some_iff] at hk
          obtain ⟨v,hv,e⟩:=hk
          obtain ⟨m,hm⟩:=h f _ v hv
          exact ⟨m,by rw [if_pos hf,hm];simp only [Option.map_some,e]⟩
         ·cases hk
        ·cases hk
       case brw f x d =>
        rw [hkk] at hk
        simp only [evK] at hk ⊢
        split at hk
        ·split at hk
         ·rename_i hd
          split at hk
          ·split at hk
           ·rename_i hc
            split at hk
            ·rename_i y hy
             obtain ⟨m,hm⟩:=h _ _ _ hy
             exact ⟨m,by rw [if_pos hd,if_pos hc,hm];exact hk⟩
            ·cases hk
           ·cases hk
          ·cases hk
         ·cases hk
        ·cases hk
       all_goals (rw [hkk] at hk;exact ⟨0,hk⟩)
      obtain ⟨m,hm⟩:=this
      exact ⟨m,by rw [hm];exact h1⟩
   obtain ⟨m,hm⟩:=key
   refine ⟨max n m,?_⟩
   simp only [evOps,evOp_le (evF_le prog (show m≤max n m by omega)) hm]
   exact evOps_le (evF_le prog (show n≤max n m by omega)) hn
theorem evC_holds {prog:Nat→Option IFunc} {F:Caller} (h:Holds prog F):∀ (n:Nat) {c:ICode} {s:State} {ex:Ex} {s':State},evC F n c s=some (ex,s')→RunsC prog c s ex s':=by
 intro n
 induction n with
 | zero=>intro c s ex s' he;simp [evC] at he
 | succ n ih =>
  intro c s ex s' he
  cases c with
  | skip=>exact ⟨1,he⟩
  | region d ops =>
   simp only [evC,Option.map_eq_some_iff] at he
   obtain ⟨s1,h1,h2⟩:=he
   obtain ⟨m,hm⟩:=evOps_holds h h1
   refine ⟨m+1,?_⟩
   simp only [evC,evOps_le (evF_le prog (show m≤m+1 by omega)) hm,Option.map_some,h2]
  | seq a b =>
   simp only [evC] at he
   split at he
   ·rename_i s1 h1
    exact RunsC.seq (ih h1) (ih he)
   ·rename_i h1
    exact RunsC.seq_out (ih he) (by rintro rfl;exact h1 s' he)
  | cond c a b =>
   simp only [evC] at he
   split at he
   ·rename_i hc
    obtain ⟨m,hm⟩:=ih he
    exact ⟨m+1,by simp only [evC,hc];exact evC_le (evF_le prog (by omega)) (Nat.le_refl _) hm⟩
   ·rename_i hc
    obtain ⟨m,hm⟩:=ih he
    exact ⟨m+1,by simp only [evC,hc];exact evC_le (evF_le prog (by omega)) (Nat.le_refl _) hm⟩
   ·cases he
  | block id c =>
   simp only [evC] at he
   split at he
   ·rename_i i s1 h1
    split at he
    ·rename_i hi
     cases he
     subst hi
     exact RunsC.block (ih h1)
    ·rename_i hi
     cases he
     exact RunsC.block_out (ih h1) hi
   ·rename_i h1
    cases ex with
    | norm=>exact RunsC.block_norm (ih he)
    | exit i=>exact absurd he (h1 i s')
    | ret=>exact RunsC.block_ret (ih he)
  | loop c =>
   simp only [evC] at he
   split at he
   ·rename_i s1 h1
    exact RunsC.loop (ih h1) (ih he)
   ·rename_i h1
    exact RunsC.loop_out (ih he) (by rintro rfl;exact h1 s' he)
  | exit id=>exact ⟨1,he⟩
  | ret=>exact ⟨1,he⟩
theorem Runs.unique {prog:Nat→Option IFunc} {f:Nat} {args:List AV} {r r':AV} (h:Runs prog f args r) (h':Runs prog f args r'):r=r':=by
 obtain ⟨n,h⟩:=h
 obtain ⟨m,h'⟩:=h'
 have e1:=evF_le prog (show n≤max n m by omega) f args r h
 have e2:=evF_le prog (show m≤max n m by omega) f args r' h'
 rw [e1] at e2
 exact Option.some.inj e2
open Classical in
noncomputable def lim (prog:Nat→Option IFunc):Caller:=fun f args=>if h:∃ r,Runs prog f args r then some h.choose else none
theorem lim_eq {prog:Nat→Option IFunc} {f:Nat} {args:List AV} {r:AV} (h:Runs prog f args r):lim prog f args=some r:=by
 have h':∃ r,Runs prog f args r:=⟨r,h⟩
 simp only [lim,dif_pos h']
 exact congrArg some (h'.choose_spec.unique h)
theorem lim_holds (prog:Nat→Option IFunc):Holds prog (lim prog):=by
 intro f args r h
 unfold lim at h
 split at h
 ·rename_i h'
  cases h
  exact h'.choose_spec
 ·cases h
abbrev Table:=List (Nat × (List AV→Option (AV × List Prop)))
def AllP:List Prop→Prop
 | []=>True
 | p::l=>p∧AllP l
def tab (T:Table) (f:Nat) (args:List AV):Option (AV × List Prop) :=
 match T.lookup f with
 | some g=>g args
 | none=>none
def THolds (prog:Nat→Option IFunc) (T:Table):Prop:=∀ f args r ps,tab T f args=some (r,ps)→AllP ps→Runs prog f args r
theorem THolds.nil (prog:Nat→Option IFunc):THolds prog []:=fun f args r ps h=>by simp [tab] at h
theorem THolds.cons {prog:Nat→Option IFunc} {T:Table} {f:Nat} {g:List AV→Option (AV × List Prop)} (h:THolds prog T) (hg:∀ args r ps,g args=some (r,ps)→AllP ps→Runs prog f args r):THolds prog ((f,g)::T):=by
 intro f' args r ps hr
 simp only [tab,List.lookup] at hr
 by_cases hf:f'=f
 ·subst hf
  simp at hr
  exact hg args r ps hr
 ·have:(f'==f)=false:=by simpa using hf
  simp only [this] at hr
  exact h f' args r ps hr
theorem Runs.calls {P:Program} {prog:Nat→Option IFunc} {f:Nat} {args:List AV} {r:AV} (hm:P.follows .mixedOrders=true)
  (hp:∀ f ifn,prog f=some ifn→∃ fn roots,P.funcs[f]?=some fn∧fnOk P roots fn ifn=true) (h:Runs prog f args r) (X:Nat→Prop) (w:World) (vs:Array Value)
  (hX:∀ b,X b→b<w.heap.size) (hs:vs.size=args.length) (hr:∀ (i:Nat) (h1:i<vs.size) (h2:i<args.length),Rd (fun _=>False) X w vs[i] args[i]) :
  Calls P f vs w fun e w'=>∃ v,e = .returned v∧Below w.heap.size w w'∧Rd (fun _=>False) X w' v (thaw r):=by
 obtain ⟨n,h⟩:=h
 exact (simF hm hp n f args r h _ X w vs hX (fun _ h=>h.elim) hs hr).mono fun e w' ⟨v,h1,h2,h3⟩=>⟨v,h1,h2,h3.thawed hX (fun _ h=>h.elim)⟩
end Go.Ai

namespace Go.Ai
open Go.IntKind (i64 u64 u32)
open Go.RowKit
inductive Sc where
 | b (x:Bool)
 | v (x:AV)
 | l (cs:List AV)
 | r (x:AV)
theorem AllP_append:∀ {l m:List Prop},AllP (l++m)↔AllP l∧AllP m
 | [],m=>by simp [AllP]
 | p::l,m=>by simp only [List.cons_append,AllP,AllP_append (l:=l),and_assoc]
abbrev R3 (α:Type):=Option (α × List Sc × List Prop)
def binS (op:BinOp) (k k':IntKind) (a b:Int):Option (AV × List Prop) :=
 match op with
 | .quo=>if k=k' then some (.int k (k.wrap (a.tdiv b)),[¬ b=0]) else none
 | .rem=>if k=k' then some (.int k (a.tmod b),[¬ b=0]) else none
 | .shl=>some (.int k (k.wrap (a*2^(min b.toNat k.bits))),[¬ b<0])
 | .shr=>some (.int k (a.fdiv (2^(min b.toNat k.bits))),[¬ b<0])
 | op=>(binA op (.int k a) (.int k' b)).map fun v=>(v,[])
theorem binS_ok {op:BinOp} {k k':IntKind} {a b:Int} {v:AV} {ps:List Prop} (h:binS op k k' a b=some (v,ps)) (hp:AllP ps):binA op (.int k a) (.int k' b)=some v:=by
 cases op
 case quo =>
  simp only [binS] at h
  split at h
  ·rename_i hk
   cases h
   simp only [binA,isShift,hk,intA]
   simp only [Bool.false_eq_true,if_false,if_true,if_neg hp.1]
  ·cases h
 case rem =>
  simp only [binS] at h
  split at h
  ·rename_i hk
   cases h
   simp only [binA,isShift,hk,intA]
   simp only [Bool.false_eq_true,if_false,if_true,if_neg hp.1]
  ·cases h
 case shl =>
  simp only [binS] at h
  cases h
  simp only [binA,isShift,if_true,shiftA,if_neg hp.1]
 case shr =>
  simp only [binS] at h
  cases h
  simp only [binA,isShift,if_true,shiftA,if_neg hp.1]
 all_goals
  simp only [binS,Option.map_eq_some_iff] at h
  obtain ⟨u,hu,e⟩:=h
  cases e
  exact hu
abbrev Memo:=Option (Nat × Bool)
def Memo.is (m:Memo) (t:Nat):Option Bool :=
 match m with
 | some (u,x)=>if u=t then some x else none
 | none=>none
def Memo.opd (m:Memo):Opd→Option Bool
 | .t n=>m.is n
 | .c _=>none
def Memo.Ok (s:State) (m:Memo):Prop:=∀ t x,m=some (t,x)→rget s t = .val (.bool x)
theorem Memo.opd_ok {s:State} {m:Memo} (h:m.Ok s) {o:Opd} {x:Bool} (ho:m.opd o=some x):o.av s=some (.bool x):=by
 cases o with
 | c y=>cases ho
 | t n =>
  simp only [Memo.opd,Memo.is] at ho
  split at ho
  ·rename_i u y
   split at ho
   ·rename_i hu
    cases ho
    subst hu
    simp only [Opd.av,Opd.reg,h _ _ rfl]
   ·cases ho
  ·cases ho
def bndS (s:State) (d:Nat):Option Opd→Option (Nat × List Prop)
 | none=>some (d,[])
 | some o=>match o.av s with
  | some (.int _ i)=>some (i.toNat,[0≤i])
  | _=>none
theorem bndS_ok {s:State} {d:Nat} {o:Option Opd} {n:Nat} {ps:List Prop} (h:bndS s d o=some (n,ps)) (hp:AllP ps):bndA s d o=some n:=by
 cases o with
 | none=>simp only [bndS,Option.some.injEq,Prod.mk.injEq] at h;rw [← h.1];rfl
 | some o =>
  simp only [bndS] at h
  simp only [bndA]
  split at h
  ·rename_i k i hi
   cases h
   rw [hi]
   simp only [if_pos hp.1]
  ·cases h
def evKS (prog:Nat→Option IFunc) (T:Table) (s:State) (m:Memo) (k:K) (sc:List Sc):R3 (Reg × List (Nat × Reg)) :=
 match k with
 | .pick c a b =>
  match m.opd c with
  | some true=>(a.av s).map fun v=>((.val v,[]),sc,[])
  | some false=>(b.av s).map fun v=>((.val v,[]),sc,[])
  | none=>match c.av s,sc with
  | some (.bool c), .b t::sc=>(match t with | true=>(a.av s) | false=>(b.av s)).map fun v=>((.val v,[]),sc,[c=t])
  | _,_=>none
 | .bin op x y =>
  match x.av s,y.av s with
  | some (.int k a),some (.int k' b)=>(binS op k k' a b).map fun p=>((.val p.1,[]),sc,p.2)
  | _,_=>none
 | .ixa x i k =>
  match i.av s,rget s x with
  | some (.int _ i), .val (.sl n cs)=>some ((.mem (cs.drop (i.toNat*k)),[]),sc,[0≤i∧i<n])
  | _,_=>none
 | .ixb x i len k =>
  match i.av s,rget s x with
  | some (.int _ i), .box _=>some ((.ptr x (i.toNat*k),[]),sc,[0≤i∧i<len])
  | _,_=>none
 | .ld x d n one =>
  match rget s x,sc with
  | .mem cs, .v u::sc=>some ((.val u,[]),sc,[takeA cs 0 n one=some u])
  | .ptr d' off,sc=>if d'=d then (match rget s d,sc with
   | .own _ _ cs, .v u::sc=>some ((.val u,[]),sc,[takeA cs off n one=some u])
   | .box cs,sc=>(takeA cs off n one).map fun v=>((.val v,[]),sc,[])
   | _,_=>none) else none
  | _,sc=>(evK (fun _ _=>none) s (.ld x d n one)).map fun p=>(p,sc,[])
 | .six x i =>
  match x.av s,i.av s,sc with
  | some (.str b),some (.int _ i), .v (.int .u8 n)::sc=>some ((.val (.int .u8 n),[]),sc,[((if 0≤i then b[i.toNat]? else none).map fun c=>(c.toNat:Int))=some n])
  | _,_,_=>none
 | .call f xs =>
  match avs s xs with
  | some vs=>(match tab T f vs with
   | some p=>some ((.val (thaw p.1),[]),sc,p.2)
   | none=>(match sc with
    | .r r::sc=>some ((.val (thaw r),[]),sc,[Runs prog f vs r])
    | _=>none))
  | none=>none
 | .st x d n v =>
  match v.av s with
  | none=>none
  | some a=>match cellsA a n with
   | none=>none
   | some ys=>match rget s x with
    | .box cs=>if x=d then (layA cs 0 ys).map fun cs'=>((.dead,[(d, .box cs')]),sc,[]) else none
    | .ptr d' off=>if d'=d then (match rget s d,sc with
     | .own k m cs, .l cs'::sc=>some ((.dead,[(d, .own k m cs')]),sc,[layA cs off ys=some cs'])
     | .box cs,sc=>(layA cs off ys).map fun cs'=>((.dead,[(d, .box cs')]),sc,[])
     | _,_=>none) else none
    | _=>none
 | .ixo x d i k =>
  match i.av s with
  | some (.int _ i)=>(match rget s x with
   | .val (.sl n cs)=>some ((.mem (cs.drop (i.toNat*k)),[]),sc,[0≤i∧i<n])
   | .dup d'=>if d'=d then (match rget s d with
    | .own k' n _=>if k'=k then some ((.ptr d (i.toNat*k),[]),sc,[0≤i∧i<n]) else none
    | _=>none) else none
   | _=>none)
  | _=>none
 | .mks z n =>
  match n.av s with
  | some (.int _ m)=>some ((.own z.length m.toNat (replA z m.toNat),[]),sc,[0≤m∧m≤1048576])
  | _=>none
 | .apd ow x y k =>
  match y.av s with
  | some (.sl m ys)=>(match x.reg s,sc with
   | .val .nil,sc=>some ((if ow then .own k m ys else .val (.sl m ys),[]),sc,[ys.length=m*k,m≤1048576])
   | .own k' n cs,sc=>if k'=k then some ((if ow then .own k (n+m) (cs++ys) else .val (.sl (n+m) (cs++ys)),killO x),sc,[ys.length=m*k,n+m≤1048576]) else none
   | _,_=>none)
  | _=>(evK (fun _ _=>none) s (.apd ow x y k)).map fun p=>(p,sc,[])
 | .sli x lo hi mx k =>
  match x.av s with
  | some (.sl n cs)=>(match bndS s n mx,bndS s n hi,bndS s 0 lo with
   | some (m,p1),some (h,p2),some (l,p3)=>some ((.val (.sl (h-l) ((cs.drop (l*k)).take ((h-l)*k))),[]),sc,p1++(p2++(p3++[l≤h∧h≤m∧m≤n∧(mx.isSome→hi.isSome)])))
   | _,_,_=>none)
  | _=>(evK (fun _ _=>none) s (.sli x lo hi mx k)).map fun p=>(p,sc,[])
 | .clo f xs =>
  match avs s xs with
  | some vs=>(match tab T f vs with
   | some p=>some ((ownReg p.1,[]),sc,p.2)
   | none=>(match sc with
    | .r r::sc=>some ((ownReg r,[]),sc,[Runs prog f vs r])
    | _=>none))
  | none=>none
 | .cln f xs ls =>
  match avs s xs with
  | some vs=>if ls.all (fun t=>isFirm (rget s t)) then (match tab T f vs with
   | some p=>some ((ownReg p.1,[]),sc,p.2)
   | none=>(match sc with
    | .r r::sc=>some ((ownReg r,[]),sc,[Runs prog f vs r])
    | _=>none)) else none
  | none=>none
 | .brw f x d =>
  match rget s x with
  | .dup d'=>if d'=d then (match rget s d with
   | .own _ n cs=>(match tab T f [.sl n cs] with
    | some p=>some ((.val (thaw p.1),[]),sc,[cs.all (fun c => !isI c)=true,intsOnly (thaw p.1)=true]++p.2)
    | none=>(match sc with
     | .r r::sc=>some ((.val (thaw r),[]),sc,[cs.all (fun c => !isI c)=true,intsOnly (thaw r)=true,Runs prog f [.sl n cs] r])
     | _=>none))
   | _=>none) else none
  | _=>none
 | .slo x hi k =>
  match hi.av s with
  | some (.int _ h)=>(match rget s x with
   | .own k' n cs=>if k'=k then some ((.own k h.toNat (cs.take (h.toNat*k)),[(x, .dead)]),sc,[0≤h∧h≤n]) else none
   | _=>none)
  | _=>none
 | .cal f x xs =>
  match x.av s,avs s xs with
  | some (.fnc f' cs),some vs=>if f'=f then (match tab T f (vs++[.pt cs]) with
   | some p=>some ((.val (thaw p.1),[]),sc,p.2)
   | none=>(match sc with
    | .r r::sc=>some ((.val (thaw r),[]),sc,[Runs prog f (vs++[.pt cs]) r])
    | _=>none)) else none
  | _,_=>none
 | k=>(evK (fun _ _=>none) s k).map fun p=>(p,sc,[])
theorem evKS_ok {prog:Nat→Option IFunc} {T:Table} (hT:THolds prog T) {s:State} {m:Memo} (hm:m.Ok s) {k:K} {sc sc':List Sc} {p:Reg × List (Nat × Reg)} {ps:List Prop} (h:evKS prog T s m k sc=some (p,sc',ps)) (hp:AllP ps):evK (lim prog) s k=some p:=by
 cases k
 case pick c a b =>
  simp only [evKS] at h
  split at h
  ·rename_i hmo
   simp only [Option.map_eq_some_iff] at h
   obtain ⟨v,hv,e⟩:=h
   cases e
   simp only [evK,Memo.opd_ok hm hmo,hv,Option.map_some]
  ·rename_i hmo
   simp only [Option.map_eq_some_iff] at h
   obtain ⟨v,hv,e⟩:=h
   cases e
   simp only [evK,Memo.opd_ok hm hmo,hv,Option.map_some]
  split at h
  ·rename_i c' t sc1 hc
   simp only [Option.map_eq_some_iff] at h
   obtain ⟨v,hv,e⟩:=h
   cases e
   have:c'=t:=hp.1
   subst this
   cases c' with
   | true=>simp only [evK,hc];simp only at hv;rw [hv];rfl
   | false=>simp only [evK,hc];simp only at hv;rw [hv];rfl
  ·cases h
 case bin op x y =>
  simp only [evKS] at h
  split at h
  ·rename_i k1 a k2 b hx hy
   simp only [Option.map_eq_some_iff] at h
   obtain ⟨⟨v,ps'⟩,hv,e⟩:=h
   cases e
   simp only [evK,hx,hy,binS_ok hv hp,Option.map_some]
  ·cases h
 case ixa x i k =>
  simp only [evKS] at h
  split at h
  ·rename_i k1 iv n cs hi hx
   cases h
   simp only [evK,hi,hx,if_pos hp.1]
  ·cases h
 case ixb x i len k =>
  simp only [evKS] at h
  split at h
  ·rename_i k1 iv cs hi hx
   cases h
   simp only [evK,hi,hx,if_pos hp.1]
  ·cases h
 case ld x d n one =>
  simp only [evKS] at h
  split at h
  ·rename_i cs u sc1 hx
   cases h
   simp only [evK,hx,hp.1,Option.map_some]
  ·rename_i d' off hx
   split at h
   ·rename_i hd
    split at h
    ·rename_i k m cs u sc1 hr
     cases h
     simp only [evK,hx,if_pos hd,hr,hp.1,Option.map_some]
    ·rename_i cs hr
     simp only [Option.map_eq_some_iff] at h
     obtain ⟨q,hq,e⟩:=h
     cases e
     simp only [evK,hx,if_pos hd,hr,hq,Option.map_some]
    ·cases h
   ·cases h
  ·simp only [Option.map_eq_some_iff] at h
   obtain ⟨q,hq,e⟩:=h
   cases e
   exact hq
 case st x d n v =>
  simp only [evKS] at h
  split at h
  ·cases h
  ·rename_i a ha
   split at h
   ·cases h
   ·rename_i ys hys
    simp only [evK,ha,hys]
    split at h
    ·rename_i cs hx
     rw [hx]
     dsimp only
     split at h
     ·rename_i hd
      simp only [Option.map_eq_some_iff] at h
      obtain ⟨q,hq,e⟩:=h
      cases e
      simp only [if_pos hd,hq,Option.map_some]
     ·cases h
    ·rename_i d' off hx
     rw [hx]
     dsimp only
     split at h
     ·rename_i hd
      rw [if_pos hd]
      split at h
      ·rename_i k m cs cs' sc1 hr
       cases h
       simp only [hr,hp.1,Option.map_some]
      ·rename_i cs hr
       simp only [Option.map_eq_some_iff] at h
       obtain ⟨q,hq,e⟩:=h
       cases e
       simp only [hr,hq,Option.map_some]
      ·cases h
     ·cases h
    ·cases h
 case ixo x d i k =>
  simp only [evKS] at h
  split at h
  ·rename_i k1 iv hi
   split at h
   ·rename_i n cs hx
    cases h
    simp only [evK,hi,hx,if_pos hp.1]
   ·rename_i d' hx
    split at h
    ·rename_i hd
     split at h
     ·rename_i k' n cs hr
      split at h
      ·rename_i hk
       cases h
       simp only [evK,hi,hx,if_pos hd,hr,if_pos (show k'=k∧0≤iv∧iv<(n:Int) from ⟨hk,hp.1⟩)]
      ·cases h
     ·cases h
    ·cases h
   ·cases h
  ·cases h
 case mks z n =>
  simp only [evKS] at h
  split at h
  ·rename_i k1 m hn
   cases h
   simp only [evK,hn,if_pos hp.1]
  ·cases h
 case apd ow x y k =>
  simp only [evKS] at h
  split at h
  ·rename_i m ys hy
   split at h
   ·rename_i hx
    cases h
    simp only [evK,hy,if_pos hp.1,hx,if_pos hp.2.1]
   ·rename_i k' n cs hx
    split at h
    ·rename_i hk
     cases h
     simp only [evK,hy,if_pos hp.1,hx,if_pos (show k'=k∧n+m≤1048576 from ⟨hk,hp.2.1⟩)]
    ·cases h
   ·cases h
  ·simp only [Option.map_eq_some_iff] at h
   obtain ⟨q,hq,e⟩:=h
   cases e
   exact hq
 case sli x lo hi mx k =>
  simp only [evKS] at h
  split at h
  ·rename_i n cs hx
   split at h
   ·rename_i m1 p1 h1 p2 l1 p3 b1 b2 b3
    cases h
    rw [AllP_append,AllP_append,AllP_append] at hp
    simp only [evK,hx,bndS_ok b1 hp.1,bndS_ok b2 hp.2.1,bndS_ok b3 hp.2.2.1,if_pos hp.2.2.2.1]
   ·cases h
  ·simp only [Option.map_eq_some_iff] at h
   obtain ⟨q,hq,e⟩:=h
   cases e
   exact hq
 case six x i =>
  simp only [evKS] at h
  split at h
  ·rename_i b k1 iv n sc1 hx hi
   cases h
   have:=hp.1
   simp only [Option.map_eq_some_iff] at this
   obtain ⟨c,hc,rfl⟩:=this
   simp only [evK,hx,hi,hc,Option.map_some]
  ·cases h
 case call f xs =>
  simp only [evKS] at h
  split at h
  ·rename_i vs hvs
   split at h
   ·rename_i q hv
    cases h
    simp only [evK,hvs,lim_eq (hT f vs q.1 q.2 hv hp),Option.map_some]
   ·split at h
    ·rename_i r sc1
     cases h
     simp only [evK,hvs,lim_eq hp.1,Option.map_some]
    ·cases h
  ·cases h
 case clo f xs =>
  simp only [evKS] at h
  split at h
  ·rename_i vs hvs
   split at h
   ·rename_i q hv
    cases h
    simp only [evK,hvs,lim_eq (hT f vs q.1 q.2 hv hp),Option.map_some]
   ·split at h
    ·rename_i r sc1
     cases h
     simp only [evK,hvs,lim_eq hp.1,Option.map_some]
    ·cases h
  ·cases h
 case cln f xs ls =>
  simp only [evKS] at h
  split at h
  ·rename_i vs hvs
   split at h
   ·rename_i hl
    split at h
    ·rename_i q hv
     cases h
     simp only [evK,hvs,if_pos hl,lim_eq (hT f vs q.1 q.2 hv hp),Option.map_some]
    ·split at h
     ·rename_i r sc1
      cases h
      simp only [evK,hvs,if_pos hl,lim_eq hp.1,Option.map_some]
     ·cases h
   ·cases h
  ·cases h
 case brw f x d =>
  simp only [evKS] at h
  split at h
  ·rename_i d' hrx
   split at h
   ·rename_i hdd
    split at h
    ·rename_i k n cs hrd
     split at h
     ·rename_i q hv
      cases h
      have h1:=hp.1
      have h2:=hp.2.1
      have h3:=hp.2.2
      simp only [evK,hrx,hdd,hrd,if_true,h1,lim_eq (hT f _ q.1 q.2 hv h3),h2]
     ·split at h
      ·rename_i r sc1
       cases h
       have h1:=hp.1
       have h2:=hp.2.1
       simp only [evK,hrx,hdd,hrd,if_true,h1,lim_eq hp.2.2.1,h2]
      ·cases h
    ·cases h
   ·cases h
  ·cases h
 case slo x hi k =>
  simp only [evKS] at h
  split at h
  ·rename_i k1 iv hi
   split at h
   ·rename_i k' n cs hx
    split at h
    ·rename_i hk
     cases h
     simp only [evK,hi,hx,if_pos (show k'=k∧0≤iv∧iv≤(n:Int) from ⟨hk,hp.1⟩)]
    ·cases h
   ·cases h
  ·cases h
 case cal f x xs =>
  simp only [evKS] at h
  split at h
  ·rename_i f' cs vs hx hvs
   split at h
   ·rename_i hf
    split at h
    ·rename_i q hv
     cases h
     simp only [evK,hx,hvs,if_pos hf,lim_eq (hT f _ q.1 q.2 hv hp),Option.map_some]
    ·split at h
     ·rename_i r sc1
      cases h
      simp only [evK,hx,hvs,if_pos hf,lim_eq hp.1,Option.map_some]
     ·cases h
   ·cases h
  ·cases h
 all_goals
  simp only [evKS,Option.map_eq_some_iff] at h
  obtain ⟨q,hq,e⟩:=h
  cases e
  exact hq
def wantS (s:State) (m:Memo) (g:Option (Nat × Bool)) (sc:List Sc):R3 (Bool × Memo) :=
 match g with
 | none=>some ((true,m),sc,[])
 | some (t,b) =>
  match m.is t with
  | some x=>some ((x==b,m),sc,[])
  | none=>match rget s t,sc with
   | .val (.bool c), .b x::sc=>some ((x==b,some (t,x)),sc,[c=x])
   | .val .undef,sc=>some ((false,m),sc,[])
   | _,_=>none
theorem wantS_ok {s:State} {m m':Memo} (hm:m.Ok s) {g:Option (Nat × Bool)} {sc sc':List Sc} {r:Bool} {ps:List Prop} (h:wantS s m g sc=some ((r,m'),sc',ps)) (hp:AllP ps):wantA s g=some r∧m'.Ok s:=by
 unfold wantS at h
 split at h
 ·cases h;exact ⟨rfl,hm⟩
 ·rename_i t b
  split at h
  ·rename_i x hx
   cases h
   refine ⟨?_,hm⟩
   have:=Memo.opd_ok hm (o := .t t) hx
   simp only [Opd.av,Opd.reg] at this
   simp only [wantA]
   split at this
   ·rename_i y hy
    cases this
    rw [hy]
   ·cases this
  ·split at h
   ·rename_i c x sc1 hr
    cases h
    have:c=x:=hp.1
    subst this
    refine ⟨by simp only [wantA,hr],fun u y e => ?_⟩
    cases e
    exact hr
   ·rename_i hr
    cases h
    exact ⟨by simp only [wantA,hr],hm⟩
   ·cases h
def Memo.after (m:Memo) (wr:List Nat):Memo :=
 match m with
 | some (t,x)=>if wr.contains t then none else some (t,x)
 | none=>none
def evOpS0 (prog:Nat→Option IFunc) (T:Table) (o:IOp) (s:State) (m:Memo) (sc:List Sc):R3 (State × Memo) :=
 match wantS s m o.g sc with
 | none=>none
 | some ((false,m),sc,ps)=>some ((rput s o.dst (.val .undef),m.after o.wr),sc,ps)
 | some ((true,m),sc,ps)=>match evKS prog T s m o.k sc with
  | none=>none
  | some ((r,l),sc,qs)=>some ((rput (rputs s l) o.dst r,m.after o.wr),sc,ps++qs)
def evOpS (prog:Nat→Option IFunc) (T:Table) (o:IOp) (s:State) (m:Memo) (sc:List Sc):R3 (State × Memo):=evOpS0 prog T o (kill s o.ks) (m.after o.ks) sc
theorem Memo.kill_ok {s:State} {m:Memo} (hm:m.Ok s) (ks:List Nat):(m.after ks).Ok (kill s ks):=by
 intro t x e
 unfold Memo.after at e
 split at e
 ·rename_i t' x'
  split at e
  ·cases e
  ·rename_i hn
   cases e
   rw [rget_killAll,if_neg (by simpa using hn)]
   exact hm _ _ rfl
 ·cases e
theorem Memo.after_ok {F:Caller} {o:IOp} {s s':State} {m:Memo} (hm:m.Ok s) (h:evOp0 F o s=some s'):(m.after o.wr).Ok s':=by
 intro t x e
 unfold Memo.after at e
 split at e
 ·rename_i t' x'
  split at e
  ·cases e
  ·rename_i hn
   cases e
   rw [evOp0_eq] at h
   simp only [Option.map_eq_some_iff] at h
   obtain ⟨l,hl,rfl⟩:=h
   have hk:=evW0_keys hl
   rw [rget_rputs (fun p hp e => ?_)]
   ·exact hm _ _ rfl
   ·subst e
    have:=hk p hp
    simp only [List.contains_eq_mem,this,decide_true,not_true_eq_false] at hn
 ·cases e
theorem evOpS0_ok {prog:Nat→Option IFunc} {T:Table} (hT:THolds prog T) {o:IOp} {s s':State} {m m':Memo} (hm:m.Ok s) {sc sc':List Sc} {ps:List Prop} (h:evOpS0 prog T o s m sc=some ((s',m'),sc',ps)) (hp:AllP ps):evOp0 (lim prog) o s=some s'∧m'.Ok s':=by
 unfold evOpS0 at h
 split at h
 ·cases h
 ·rename_i m1 sc1 ps1 hw
  cases h
  obtain ⟨h1,h2⟩:=wantS_ok hm hw hp
  have h3:evOp0 (lim prog) o s=some (rput s o.dst (.val .undef)):=by simp only [evOp0,h1]
  exact ⟨h3,Memo.after_ok h2 h3⟩
 ·rename_i m1 sc1 ps1 hw
  split at h
  ·cases h
  ·rename_i r l sc2 qs hk
   cases h
   rw [AllP_append] at hp
   obtain ⟨h1,h2⟩:=wantS_ok hm hw hp.1
   have h3:evOp0 (lim prog) o s=some (rput (rputs s l) o.dst r):=by simp only [evOp0,h1,evKS_ok hT h2 hk hp.2]
   exact ⟨h3,Memo.after_ok h2 h3⟩
theorem evOpS_ok {prog:Nat→Option IFunc} {T:Table} (hT:THolds prog T) {o:IOp} {s s':State} {m m':Memo} (hm:m.Ok s) {sc sc':List Sc} {ps:List Prop} (h:evOpS prog T o s m sc=some ((s',m'),sc',ps)) (hp:AllP ps):evOp (lim prog) o s=some s'∧m'.Ok s' :=
 evOpS0_ok hT (Memo.kill_ok hm o.ks) h hp
def evOpsS (prog:Nat→Option IFunc) (T:Table):List IOp→State→Memo→List Sc→List Prop→R3 State
 | [],s,_,sc,ps=>some (s,sc,ps)
 | o::l,s,m,sc,ps=>match evOpS prog T o s m sc with
  | none=>none
  | some ((s',m'),sc',qs)=>evOpsS prog T l s' m' sc' (ps++qs)
theorem evOpsS_ok {prog:Nat→Option IFunc} {T:Table} (hT:THolds prog T):∀ {l:List IOp} {s s':State} {m:Memo} {sc sc':List Sc} {ps ps':List Prop},evOpsS prog T l s m sc ps=some (s',sc',ps')→AllP ps'→AllP ps∧(m.Ok s→evOps (lim prog) l s=some s')
 | [],s,s',m,sc,sc',ps,ps',h,hp=>by
  simp only [evOpsS,Option.some.injEq,Prod.mk.injEq] at h
  obtain ⟨rfl,_,rfl⟩:=h
  exact ⟨hp,fun _=>rfl⟩
 | o::l,s,s',m,sc,sc',ps,ps',h,hp=>by
  simp only [evOpsS] at h
  cases h1:evOpS prog T o s m sc with
  | none=>rw [h1] at h;cases h
  | some q =>
   obtain ⟨⟨s1,m1⟩,sc1,qs⟩:=q
   rw [h1] at h
   obtain ⟨h2,h3⟩:=evOpsS_ok hT h hp
   rw [AllP_append] at h2
   refine ⟨h2.1,fun hm => ?_⟩
   obtain ⟨h4,h5⟩:=evOpS_ok hT hm h1 h2.2
   simp only [evOps,h4]
   exact h3 h5
def evCS (prog:Nat→Option IFunc) (T:Table):Nat→ICode→State→List Sc→List Prop→R3 (Ex × State)
 | 0,_,_,_,_=>none
 | _+1, .skip,s,sc,ps=>some ((.norm,s),sc,ps)
 | _+1, .region _ ops,s,sc,ps=>match evOpsS prog T ops s none sc ps with
  | none=>none
  | some (s',sc',ps')=>some ((.norm,s'),sc',ps')
 | n+1, .seq a b,s,sc,ps=>match evCS prog T n a s sc ps with
  | none=>none
  | some ((.norm,s'),sc',ps')=>evCS prog T n b s' sc' ps'
  | some ((.exit i,s'),sc',ps')=>some ((.exit i,s'),sc',ps')
  | some ((.ret,s'),sc',ps')=>some ((.ret,s'),sc',ps')
 | n+1, .cond c a b,s,sc,ps=>match c.av s,sc with
  | some (.bool v), .b true::sc=>evCS prog T n a s sc (ps++[v=true])
  | some (.bool v), .b false::sc=>evCS prog T n b s sc (ps++[v=false])
  | _,_=>none
 | n+1, .block id c,s,sc,ps=>match evCS prog T n c s sc ps with
  | none=>none
  | some ((.exit i,s'),sc',ps')=>if i=id then some ((.norm,s'),sc',ps') else some ((.exit i,s'),sc',ps')
  | some ((.norm,s'),sc',ps')=>some ((.norm,s'),sc',ps')
  | some ((.ret,s'),sc',ps')=>some ((.ret,s'),sc',ps')
 | n+1, .loop c,s,sc,ps=>match evCS prog T n c s sc ps with
  | none=>none
  | some ((.norm,s'),sc',ps')=>evCS prog T n (.loop c) s' sc' ps'
  | some ((.exit i,s'),sc',ps')=>some ((.exit i,s'),sc',ps')
  | some ((.ret,s'),sc',ps')=>some ((.ret,s'),sc',ps')
 | _+1, .exit id,s,sc,ps=>some ((.exit id,s),sc,ps)
 | _+1, .ret,s,sc,ps=>some ((.ret,s),sc,ps)
theorem evCS_ok {prog:Nat→Option IFunc} {T:Table} (hT:THolds prog T):∀ (n:Nat) {c:ICode} {s s':State} {ex:Ex} {sc sc':List Sc} {ps ps':List Prop},evCS prog T n c s sc ps=some ((ex,s'),sc',ps')→AllP ps'→AllP ps∧evC (lim prog) n c s=some (ex,s'):=by
 intro n
 induction n with
 | zero=>intro c s s' ex sc sc' ps ps' h;simp [evCS] at h
 | succ n ih =>
  intro c s s' ex sc sc' ps ps' h hp
  cases c with
  | skip=>simp only [evCS,Option.some.injEq,Prod.mk.injEq] at h;obtain ⟨⟨rfl,rfl⟩,_,rfl⟩:=h;exact ⟨hp,rfl⟩
  | region d ops =>
   simp only [evCS] at h
   split at h
   ·cases h
   ·rename_i s1 sc1 ps1 h1
    cases h
    obtain ⟨h2,h3⟩:=evOpsS_ok hT h1 hp
    have h4:=h3 (fun t x e=>(by cases e))
    exact ⟨h2,by simp only [evC,h4,Option.map_some]⟩
  | seq a b =>
   simp only [evCS] at h
   split at h
   ·cases h
   ·rename_i s1 sc1 ps1 h1
    obtain ⟨h2,h3⟩:=ih h hp
    obtain ⟨h4,h5⟩:=ih h1 h2
    exact ⟨h4,by simp only [evC,h5];exact h3⟩
   ·rename_i i s1 sc1 ps1 h1
    cases h
    obtain ⟨h4,h5⟩:=ih h1 hp
    exact ⟨h4,by simp only [evC,h5]⟩
   ·rename_i s1 sc1 ps1 h1
    cases h
    obtain ⟨h4,h5⟩:=ih h1 hp
    exact ⟨h4,by simp only [evC,h5]⟩
  | cond c a b =>
   simp only [evCS] at h
   split at h
   ·rename_i v sc1 hc
    obtain ⟨h2,h3⟩:=ih h hp
    rw [AllP_append] at h2
    have hv:v=true:=h2.2.1
    exact ⟨h2.1,by simp only [evC,condA,hc,hv];exact h3⟩
   ·rename_i v sc1 hc
    obtain ⟨h2,h3⟩:=ih h hp
    rw [AllP_append] at h2
    have hv:v=false:=h2.2.1
    exact ⟨h2.1,by simp only [evC,condA,hc,hv];exact h3⟩
   ·cases h
  | block id c =>
   simp only [evCS] at h
   split at h
   ·cases h
   ·rename_i i s1 sc1 ps1 h1
    split at h
    ·rename_i hi
     cases h
     obtain ⟨h4,h5⟩:=ih h1 hp
     exact ⟨h4,by simp only [evC,h5,if_pos hi]⟩
    ·rename_i hi
     cases h
     obtain ⟨h4,h5⟩:=ih h1 hp
     exact ⟨h4,by simp only [evC,h5,if_neg hi]⟩
   ·rename_i s1 sc1 ps1 h1
    cases h
    obtain ⟨h4,h5⟩:=ih h1 hp
    exact ⟨h4,by simp only [evC,h5]⟩
   ·rename_i s1 sc1 ps1 h1
    cases h
    obtain ⟨h4,h5⟩:=ih h1 hp
    exact ⟨h4,by simp only [evC,h5]⟩
  | loop c =>
   simp only [evCS] at h
   split at h
   ·cases h
   ·rename_i s1 sc1 ps1 h1
    obtain ⟨h2,h3⟩:=ih h hp
    obtain ⟨h4,h5⟩:=ih h1 h2
    exact ⟨h4,by simp only [evC,h5];exact h3⟩
   ·rename_i i s1 sc1 ps1 h1
    cases h
    obtain ⟨h4,h5⟩:=ih h1 hp
    exact ⟨h4,by simp only [evC,h5]⟩
   ·rename_i s1 sc1 ps1 h1
    cases h
    obtain ⟨h4,h5⟩:=ih h1 hp
    exact ⟨h4,by simp only [evC,h5]⟩
  | exit id=>simp only [evCS,Option.some.injEq,Prod.mk.injEq] at h;obtain ⟨⟨rfl,rfl⟩,_,rfl⟩:=h;exact ⟨hp,rfl⟩
  | ret=>simp only [evCS,Option.some.injEq,Prod.mk.injEq] at h;obtain ⟨⟨rfl,rfl⟩,_,rfl⟩:=h;exact ⟨hp,rfl⟩
theorem RunsC.script {prog:Nat→Option IFunc} {T:Table} (hT:THolds prog T) (n:Nat) {c:ICode} {s s':State} {ex:Ex} (sc:List Sc) {ps:List Prop}
  (h:evCS prog T n c s sc []=some ((ex,s'),[],ps)) (hp:AllP ps):RunsC prog c s ex s':=evC_holds (lim_holds prog) n (evCS_ok hT n h hp).2
def evFS (prog:Nat→Option IFunc) (T:Table) (n:Nat) (fn:IFunc) (args:List AV) (sc:List Sc):Option (AV × List Prop) :=
 match evCS prog T n fn.body (initA fn args) sc [] with
 | some ((.ret,s),[],ps)=>(resultA s fn.res).map fun r=>(r,ps)
 | some ((.norm,s),[],ps)=>(resultA s fn.res).map fun r=>(r,ps)
 | _=>none
theorem Runs.script {prog:Nat→Option IFunc} {T:Table} (hT:THolds prog T) {f:Nat} {fn:IFunc} (hf:prog f=some fn) (n:Nat) {args:List AV} (hl:args.length=fn.params) (sc:List Sc) {r:AV} {ps:List Prop}
  (h:evFS prog T n fn args sc=some (r,ps)) (hp:AllP ps):Runs prog f args r:=by
 unfold evFS at h
 split at h
 ·rename_i s ps1 h1
  simp only [Option.map_eq_some_iff] at h
  obtain ⟨r',hr,e⟩:=h
  cases e
  exact Runs.of_body hf hl (RunsC.script hT n sc h1 hp) (fun i=>(by intro e;cases e)) hr
 ·rename_i s ps1 h1
  simp only [Option.map_eq_some_iff] at h
  obtain ⟨r',hr,e⟩:=h
  cases e
  exact Runs.of_body hf hl (RunsC.script hT n sc h1 hp) (fun i=>(by intro e;cases e)) hr
 ·cases h
end Go.Ai
