/- Texts of the proof of SturmFactors, packed by pack.py: part 4 of 17. -/
import Derived.Test.YthnnfemologhfaaSfa3
namespace Go.Ai
open Go.IntKind (i64 u64 u32)
open Go.RowKit
def Pw (ops:Array Oper):Option (Nat × Bool)→Option (Nat × Bool)→Bool
 | none,none=>true
 | some (j,b),some (t,b')=>(ops[j]?).bind (·.dst)==some t&&b==b'
 | _,_=>false
def Zm4 (roots:List (Nat × Nat)) (io:IOp):Bool:=io.g.isNone || Wn roots io.ks io.dst
def oOk (P:Program) (roots:List (Nat × Nat)) (ops:Array Oper) (o:Oper) (io:IOp):Bool :=
 kOk P o.op io.k&&o.dst==io.dst&&Ud roots io.ks io.dst io.k&&Pw ops o.guard io.g&&Zm4 roots io
section
variable {P:Program} {Y X0:Nat→Prop} {roots:List (Nat × Nat)} {w0 w:World} {s:Zk} {a:Act} {Q:Exit→Act→World→Prop}
theorem R7 (h:Rel Y X0 roots w0 s a w) {ops:Array Oper} {o:Oper} {g:Option (Nat × Bool)} {b:Bool} (hg:Pw ops o.guard g=true) (hw:W2 s g=some b):Region.wanted o (yielded ops a.tmps)=b:=by
 unfold Pw at hg
 split at hg
 ·rename_i h1
  simp only[W2,Option.some.injEq] at hw
  subst hw
  simp[Region.wanted,h1]
 ·rename_i j b1 t b2 h1
  simp only[Bool.and_eq_true,beq_iff_eq] at hg
  obtain⟨h2,rfl⟩:=hg
  have h0:=h.reg t
  simp only[W2] at hw
  simp only[Region.wanted,h1,yielded,h2,Option.bind_some]
  have hlt:∀ v,a.tmps.getD t Go.undef=v→v ≠ Go.undef→a.tmps[t]?=some v:=by
   intro v hv hne
   rw[Array.getD_eq_getD_getElem?] at hv
   cases hh:a.tmps[t]? with
   | none=>rw[hh] at hv;exact absurd hv.symm hne
   | some u=>rw[hh] at hv;simp at hv;rw[hv]
  cases hr:Z7 s t with
  | val x =>
   rw[hr] at hw h0
   generalize hv:a.tmps.getD t Go.undef=v at h0
   cases h0 with
   | bool c =>
    dsimp only at hw
    rw[hlt _ hv (by intro e;cases e)]
    simp only[Option.some.injEq] at hw
    rw[← hw]
    cases c <;> cases b1 <;> rfl
   | undef =>
    dsimp only at hw
    simp only[Option.some.injEq] at hw
    rw[← hw]
    rw[Array.getD_eq_getD_getElem?] at hv
    cases hh:a.tmps[t]? with
    | none=>simp
    | some u=>rw[hh] at hv;simp at hv;rw[hv];simp[Go.undef]
   | int _ _=>cases hw
   | str _=>cases hw
   | agg _ _ _ _ _=>cases hw
   | tup _ _ _ _=>cases hw
   | nil=>cases hw
   | nil0=>cases hw
   | e0 _ _=>cases hw
   | sl _ _ _ _ _ _ _ _ _ _ _=>cases hw
   | pt _ _ _ _ _ _ _ _=>cases hw
   | fnc _ _ _ _=>cases hw
  | box _=>rw[hr] at hw;cases hw
  | ptr _ _=>rw[hr] at hw;cases hw
  | mem _=>rw[hr] at hw;cases hw
  | own _ _ _=>rw[hr] at hw;cases hw
  | agn _ _ _ _=>rw[hr] at hw;cases hw
  | bxl _=>rw[hr] at hw;cases hw
  | dup _=>rw[hr] at hw;cases hw
  | dead=>rw[hr] at hw;cases hw
 ·cases hg
theorem simOp {ops:Array Oper} {i:Nat} {o:Oper} {io:IOp} {F:Qg} {s':Zk} {K':Act→World→Prop} (h:Rel Y X0 roots w0 s a w) (hF:Dd P F) (hi:ops[i]?=some o) (ho:oOk P roots ops o io=true)
  (hev:Fo F io s=some s') (hK:∀ a' w',Rel Y X0 roots w0 s' a' w'→K' a' w'):wpOp P ops Q i K' a w:=by
 simp only[oOk,Bool.and_eq_true,beq_iff_eq] at ho
 obtain⟨⟨⟨⟨h1,h2⟩,h3⟩,h4⟩,h5⟩:=ho
 simp only[Fo,Gw] at hev
 have hkd:∀ t∈io.ks,U2 (Z7 (kill s io.ks) t)=false:=fun t ht=>by rw[Xl,if_pos ht];rfl
 have h:=h.kill io.ks
 generalize kill s io.ks=s at *
 simp only[wpOp,hi]
 split at hev
 ·cases hev
 ·rename_i hw
  cases hev
  rw[R7 h h4 hw]
  simp only[Bool.false_eq_true,if_false]
  rw[h2]
  refine hK _ _ (h.put ?_ .undef)
  simp only[Zm4,Bool.or_eq_true] at h5
  rcases h5 with h5 | h5
  ·cases hg:io.g with
   | none=>rw[hg] at hw;cases hw
   | some p=>rw[hg] at h5;cases h5
  ·exact Zm hkd h5
 ·rename_i hw
  rw[R7 h h4 hw]
  simp only[if_true]
  split at hev
  ·cases hev
  ·rename_i r l hk
   cases hev
   rw[← h2] at hK h3
   exact .inl (simK h hF h1 hkd h3 hk hK)
def Ng (P:Program) (roots:List (Nat × Nat)) (ops:Array Oper):List Oper→List IOp→Bool
 | [],[]=>true
 | o::l,io::m=>oOk P roots ops o io&&Ng P roots ops l m
 | _,_=>false
theorem Bq {ops:Array Oper}:∀ {l:List Oper} {m:List IOp},Ng P roots ops l m=true→l.length=m.length∧∀ (i:Nat) (o:Oper) (io:IOp),l[i]?=some o→m[i]?=some io→oOk P roots ops o io=true
 | [],[],_=>⟨rfl,fun i o io h=>(by simp at h)⟩
 | o::l,io::m,h=>by
  simp only[Ng,Bool.and_eq_true] at h
  obtain⟨e1,e2⟩:=Bq h.2
  refine⟨by simp[e1],fun i o' io' h1 h2 => ?_⟩
  cases i with
  | zero=>simp at h1 h2;subst h1 h2;exact h.1
  | succ i=>simp at h1 h2;exact e2 i o' io' h1 h2
 | [],_::_,h=>by cases h
 | _::_,[],h=>by cases h
theorem Zm5 {ops:Array Oper} {F:Qg} (hF:Dd P F):∀ {l:List Oper} {m:List IOp} {k:Nat} {s s':Zk} {a:Act} {w:World},(∀ j,l[j]?=ops[k+j]?)→Ng P roots ops l m=true→Rel Y X0 roots w0 s a w →
  Uh F m s=some s'→(∀ a' w',Rel Y X0 roots w0 s' a' w'→Q .normal a' w')→wpOps P ops Q (List.range' k l.length) a w
 | [],[],k,s,s',a,w,_,_,h,hev,hQ=>by
  simp only[Uh,Option.some.injEq] at hev
  subst hev
  exact hQ _ _ h
 | o::l,io::m,k,s,s',a,w,hl,hok,h,hev,hQ=>by
  simp only[Ng,Bool.and_eq_true] at hok
  simp only[Uh] at hev
  cases h1:Fo F io s with
  | none=>rw[h1] at hev;cases hev
  | some s1 =>
   rw[h1] at hev
   have hi:ops[k]?=some o:=by simpa using (hl 0).symm
   rw[List.length_cons,List.range'_succ,wpOps_cons]
   exact simOp h hF hi hok.1 h1 fun a' w' h'=>Zm5 hF (fun j=>by have:=hl (j+1);simpa [Nat.add_assoc,Nat.add_comm 1 j] using this) hok.2 h' hev hQ
 | [],_::_,_,_,_,_,_,_,hok,_,_,_=>by cases hok
 | _::_,[],_,_,_,_,_,_,hok,_,_,_=>by cases hok
def Hf (o:Oper):List Nat:=(o.after.toList.filter (Region.binds .any)).map (·.on)
def Lc:List Oper→List (List Nat)→List (List Nat)
 | [],acc=>acc
 | o::l,acc=>Lc l (acc++[((Hf o)++(Hf o).flatMap fun p=>acc.getD p []).eraseDups])
theorem Za1:∀ (l done:List Oper) (acc:List (List Nat)),acc.length=done.length →
  (∀ (i j:Nat),j∈acc.getD i []→∃ o,done[i]?=some o∧∃ p∈Hf o,j=p∨(p<i∧j∈acc.getD p [])) →
  ∀ (i j:Nat),j∈(Lc l acc).getD i []→∃ o,(done++l)[i]?=some o∧∃ p∈Hf o,j=p∨(p<i∧j∈(Lc l acc).getD p []):=by
 intro l
 induction l with
 | nil=>intro done acc _ h i j hj;simpa [Lc] using h i j hj
 | cons o l ih =>
  intro done acc hlen h i j hj
  simp only[Lc] at hj ⊢
  have:=ih (done++[o]) (acc++[((Hf o)++(Hf o).flatMap fun p=>acc.getD p []).eraseDups]) (by simp[hlen]) (fun i j hj => ?_) i j hj
  ·simpa using this
  ·have lt_of:∀ (q x:Nat),x∈acc.getD q []→q<acc.length:=by
    intro q x hx
    rcases Nat.lt_or_ge q acc.length with h1 | h1
    ·exact h1
    ·rw[List.getD_eq_getElem?_getD,List.getElem?_eq_none h1] at hx;cases hx
   have keep:∀ (q x:Nat),x∈acc.getD q []→x∈(acc++[((Hf o)++(Hf o).flatMap fun p=>acc.getD p []).eraseDups]).getD q []:=by
    intro q x hx
    rw[List.getD_eq_getElem?_getD,List.getElem?_append_left (lt_of q x hx),← List.getD_eq_getElem?_getD]
    exact hx
   rcases Nat.lt_or_ge i acc.length with h1 | h1
   ·rw[List.getD_eq_getElem?_getD,List.getElem?_append_left h1,← List.getD_eq_getElem?_getD] at hj
    obtain⟨o',e1,p,hp,e2⟩:=h i j hj
    refine⟨o',by rw[List.getElem?_append_left (by omega)];exact e1,p,hp,?_⟩
    rcases e2 with e2 | ⟨e2,e3⟩
    ·exact .inl e2
    ·exact .inr ⟨e2,keep p j e3⟩
   ·have hi:i=acc.length:=by
     rcases Nat.lt_or_ge acc.length i with h2 | h2
     ·rw[List.getD_eq_getElem?_getD,List.getElem?_eq_none (by simp;omega)] at hj;cases hj
     ·omega
    subst hi
    rw[List.getD_eq_getElem?_getD,List.getElem?_append_right (Nat.le_refl _)] at hj
    simp only[Nat.sub_self,List.getElem?_cons_zero,Option.getD_some,List.mem_eraseDups,List.mem_append,List.mem_flatMap] at hj
    refine⟨o,by rw[hlen,List.getElem?_append_right (Nat.le_refl _)];simp,?_⟩
    rcases hj with hj | ⟨p,hp,hj⟩
    ·exact⟨j,hj, .inl rfl⟩
    ·exact⟨p,hp, .inr ⟨lt_of p j hj,keep p j hj⟩⟩
def Zc1 (anc:List (List Nat)) (io:List IOp):Bool :=
 io.zipIdx.all fun (b,i)=>(io.take i).zipIdx.all fun (a,j)=>Pv a b || (anc.getD i []).contains j
def Zno (ops:List Oper):Bool:=ops.zipIdx.all fun (o,i)=>(Hf o).all fun p=>decide (p<i)
def M3 (ops:Array Oper) (io:List IOp):Bool:=Zno ops.toList&&Zc1 (Lc ops.toList []) io
theorem P8 {ops:Array Oper} {io:List IOp} (h:M3 ops io=true) :
  (∀ (i:Nat) (o:Oper),ops[i]?=some o→∀ p∈Hf o,p<i) ∧
  ∀ (i j:Nat) (a b:IOp),j<i→io[j]?=some a→io[i]?=some b→Pv a b=true∨j∈(Lc ops.toList []).getD i []:=by
 simp only[M3,Bool.and_eq_true] at h
 constructor
 ·intro i o ho p hp
  have h1:=h.1
  simp only[Zno,List.all_eq_true,Prod.forall] at h1
  have:=h1 o i (by rw[List.mem_zipIdx_iff_getElem?];simpa using ho) p hp
  simpa using this
 ·intro i j x b hji hj hi
  have h1:=h.2
  simp only[Zc1,List.all_eq_true,Prod.forall] at h1
  have h2:=h1 b i (by rw[List.mem_zipIdx_iff_getElem?];simpa using hi)
  have:=h2 x j (by rw[List.mem_zipIdx_iff_getElem?,List.getElem?_take_of_lt hji];simpa using hj)
  simpa using this
end
end Go.Ai

namespace Go.Ai
open Go.IntKind (i64 u64 u32)
open Go.RowKit
section
variable {P:Program} {Y X0:Nat→Prop} {roots:List (Nat × Nat)} {w0:World} {Q:Exit→Act→World→Prop}
def Uk (n:Nat) (listed:Array Bool):List Nat:=(List.range n).filter fun i => !listed.getD i true
theorem V8 {n i:Nat} {listed:Array Bool}:i∈Uk n listed↔i<n∧listed.getD i true=false:=by
 simp[Uk]
theorem B0 (listed:Array Bool) (i j:Nat) (d:Bool):(listed.setIfInBounds i true).getD j d=if i=j∧i<listed.size then true else listed.getD j d:=by
 simp only[Array.getD_eq_getD_getElem?,Array.getElem?_setIfInBounds]
 by_cases h:i=j
 ·subst h
  by_cases h2:i<listed.size <;> simp[h2]
 ·simp[h]
theorem Mu {l:List Nat} (hs:l.Pairwise (·<·)) {i:Nat} (hi:i∈l):∃ pre post,l=pre++i::post∧(∀ j∈pre,j<i)∧l.filter (fun j=>decide (j ≠ i))=pre++post:=by
 induction l with
 | nil=>cases hi
 | cons k l ih =>
  rw[List.pairwise_cons] at hs
  by_cases hk:k=i
  ·subst hk
   refine⟨[],l,rfl,fun j hj=>(by cases hj),?_⟩
   simp only[List.nil_append]
   rw[List.filter_cons_of_neg (by simp)]
   refine List.filter_eq_self.2 fun j hj => ?_
   have:=hs.1 j hj
   simp
   omega
  ·have hi':i∈l:=by
    cases hi with
    | head=>exact absurd rfl hk
    | tail _ h=>exact h
   obtain⟨pre,post,e1,e2,e3⟩:=ih hs.2 hi'
   refine⟨k::pre,post,by rw[e1];rfl,fun j hj => ?_,?_⟩
   ·cases hj with
    | head=>exact hs.1 i hi'
    | tail _ h=>exact e2 j h
   ·rw[List.filter_cons_of_pos (by simp[hk]),e3];rfl
theorem Gp (n:Nat) (listed:Array Bool):(Uk n listed).Pairwise (·<·):=List.Pairwise.filter _ List.pairwise_lt_range
theorem Ec {n i:Nat} {listed:Array Bool} (hi:i<listed.size):Uk n (listed.setIfInBounds i true)=(Uk n listed).filter fun j=>decide (j ≠ i):=by
 unfold Uk
 rw[List.filter_filter]
 apply List.filter_congr
 intro j _
 rw[B0]
 by_cases h:i=j
 ·subst h;simp[hi]
 ·have h':¬ j=i:=fun e=>h e.symm
  simp[h,h']
def Zix (io:List IOp) (i:Nat):IOp:=io.getD i ⟨none, .mov (.c .undef),none,[]⟩
def Zn3 (ops:Array Oper) (listed:Array Bool):Prop:=∀ (i:Nat) (o:Oper),ops[i]?=some o→listed.getD i false=true→∀ p∈Hf o,listed.getD p false=true
theorem Za0 {ops:Array Oper} {listed:Array Bool} (hc:Zn3 ops listed):∀ (i:Nat) (o:Oper),ops[i]?=some o→(∀ p∈Hf o,listed.getD p false=true)→∀ j∈(Lc ops.toList []).getD i [],listed.getD j false=true:=by
 intro i
 induction i using Nat.strongRecOn with
 | _ i ih =>
  intro o ho hp j hj
  obtain⟨o',e1,p,hpp,e2⟩:=Za1 ops.toList [] [] rfl (fun i j h=>(by simp at h)) i j hj
  simp only[List.nil_append,Array.getElem?_toList] at e1
  rw[ho] at e1
  cases e1
  rcases e2 with rfl | ⟨hlt,e3⟩
  ·exact hp _ hpp
  ·have hl:=hp p hpp
   have hps:p<ops.size:=by
    have:=(Array.getElem?_eq_some_iff.1 ho).1
    omega
   exact ih p hlt ops[p] (by simp[hps]) (hc p ops[p] (by simp[hps]) hl) j e3
theorem simAny {ops:Array Oper} {io:List IOp} {F:Qg} {sf:Zk} (hF:Dd P F) (hok:Ng P roots ops ops.toList io=true) (hdr:M3 ops io=true) (hQ:∀ a' w',Rel Y X0 roots w0 sf a' w'→Q .normal a' w') :
  ∀ (fuel:Nat) (listed:Array Bool) (s:Zk) (a:Act) (w:World),listed.size=ops.size→Zn3 ops listed→(Uk ops.size listed).length≤fuel→Rel Y X0 roots w0 s a w →
   Uh F ((Uk ops.size listed).map (Zix io)) s=some sf→wpAny P .any ops Q fuel listed a w:=by
 obtain⟨hback,hpairs⟩:=P8 hdr
 obtain⟨hlen,hget⟩:=Bq hok
 have hlen':io.length=ops.size:=by simpa using hlen.symm
 -- nobody may come up: all have
 have stop:∀ (listed:Array Bool),listed.size=ops.size→Region.ready .any ops listed=[]→Uk ops.size listed=[]:=by
  intro listed hsz hr
  cases hop:Uk ops.size listed with
  | nil=>rfl
  | cons i rest =>
   exfalso
   have hi:=V8.1 (hop ▸ List.mem_cons_self:i∈Uk ops.size listed)
   have hs:=Gp ops.size listed
   rw[hop,List.pairwise_cons] at hs
   have hready:i∈Region.ready .any ops listed:=by
    rw[mem_ready]
    refine⟨hi.2,ops[i],by simp[hi.1],fun e he hb => ?_⟩
    have hp:e.on∈Hf ops[i]:=by
     simp only[Hf,List.mem_map,List.mem_filter]
     exact⟨e,⟨by simpa using he,hb⟩,rfl⟩
    have hlt:=hback i ops[i] (by simp[hi.1]) e.on hp
    cases hh:listed.getD e.on true with
    | false =>
     have:e.on∈Uk ops.size listed:=V8.2 ⟨by omega,hh⟩
     rw[hop] at this
     cases this with
     | head=>omega
     | tail _ h=>have:=hs.1 _ h;omega
    | true =>
     have hsz':e.on<listed.size:=by omega
     simp only[Array.getD_eq_getD_getElem?,Array.getElem?_eq_getElem hsz',Option.getD_some] at hh ⊢
     exact hh
   rw[hr] at hready
   cases hready
 intro fuel
 induction fuel with
 | zero =>
  intro listed s a w hsz hc hl h hev
  have h0:Uk ops.size listed=[]:=List.eq_nil_of_length_eq_zero (by omega)
  rw[h0] at hev
  simp only[List.map_nil,Uh,Option.some.injEq] at hev
  subst hev
  refine⟨?_,hQ _ _ h⟩
  cases hr:Region.ready .any ops listed with
  | nil=>rfl
  | cons i rest =>
   have hi:i∈Region.ready .any ops listed:=by rw[hr];exact List.mem_cons_self
   rw[mem_ready] at hi
   obtain⟨h1,o,h2,_⟩:=hi
   have:i∈Uk ops.size listed:=V8.2 ⟨(Array.getElem?_eq_some_iff.1 h2).1,h1⟩
   rw[h0] at this
   cases this
 | succ fuel ih =>
  intro listed s a w hsz hc hl h hev
  refine⟨fun hr => ?_,fun i hi => ?_⟩
  ·rw[stop listed hsz hr] at hev
   simp only[List.map_nil,Uh,Option.some.injEq] at hev
   subst hev
   exact hQ _ _ h
  ·rw[mem_ready] at hi
   obtain⟨h1,o,h2,h3⟩:=hi
   have hin:i<ops.size:=(Array.getElem?_eq_some_iff.1 h2).1
   have hmem:i∈Uk ops.size listed:=V8.2 ⟨hin,h1⟩
   obtain⟨pre,post,e1,e2,e3⟩:=Mu (Gp _ _) hmem
   have hpr:∀ p∈Hf o,listed.getD p false=true:=by
    intro p hp
    simp only[Hf,List.mem_map,List.mem_filter] at hp
    obtain⟨e,⟨he,hb⟩,rfl⟩:=hp
    exact h3 e (by simpa using he) hb
   have hioi:io[i]?=some (Zix io i):=by
    simp only[Zix,List.getD_eq_getElem?_getD,List.getElem?_eq_getElem (hlen' ▸ hin),Option.getD_some]
   have hind:∀ q∈pre.map (Zix io),Pv q (Zix io i)=true:=by
    intro q hq
    rw[List.mem_map] at hq
    obtain⟨j,hj,rfl⟩:=hq
    have hjlt:=e2 j hj
    have hjop:j∈Uk ops.size listed:=by rw[e1];exact List.mem_append_left _ hj
    have hj2:=V8.1 hjop
    have hioj:io[j]?=some (Zix io j):=by
     simp only[Zix,List.getD_eq_getElem?_getD,List.getElem?_eq_getElem (hlen' ▸ hj2.1),Option.getD_some]
    rcases hpairs i j _ _ hjlt hioj hioi with hh | hh
    ·exact hh
    ·have hlj:=Za0 hc i o h2 hpr j hh
     have hsz':j<listed.size:=by omega
     simp only[Array.getD_eq_getD_getElem?,Array.getElem?_eq_getElem hsz',Option.getD_some] at hlj hj2
     rw[hlj] at hj2
     cases hj2.2
   rw[e1,List.map_append,List.map_cons] at hev
   obtain⟨s1,hs1,hs2⟩:=P5 hind hev
   rw[← List.map_append,← e3,← Ec (by omega)] at hs2
   refine simOp h hF h2 (hget i o _ (by simpa using h2) hioi) hs1 fun a' w' h' => ?_
   refine ih (listed.setIfInBounds i true) s1 a' w' (by simpa using hsz) ?_ ?_ h' hs2
   ·intro k ok hk hkl p hp
    rw[B0] at hkl
    rw[B0]
    split
    ·rfl
    ·split at hkl
     ·rename_i hik
      obtain⟨rfl,_⟩:=hik
      rw[h2] at hk
      cases hk
      exact hpr p hp
     ·exact hc k ok hk hkl p hp
   ·rw[Ec (by omega),e3]
    rw[e1] at hl
    simp at hl ⊢
    omega
theorem Zhz {ops:Array Oper} {io:List IOp} {F:Qg} {s sf:Zk} {a:Act} {w:World} {id:Nat} (hm:P.follows .mixedOrders=true) (hF:Dd P F) (hok:Ng P roots ops ops.toList io=true) (hdr:M3 ops io=true)
  (h:Rel Y X0 roots w0 s a w) (hev:Uh F io s=some sf) (hQ:∀ a' w',Rel Y X0 roots w0 sf a' w'→Q .normal a' w'):(Code.region id ops true).wp P Q a w:=by
 have hlen:=(Bq hok).1
 refine wp_region_any hm ?_
 have hall:Uk ops.size (Array.replicate ops.size false)=List.range ops.size:=by
  unfold Uk
  refine List.filter_eq_self.2 fun i hi => ?_
  have:i<ops.size:=by simpa using hi
  simp[Array.getD_eq_getD_getElem?,this]
 refine simAny hF hok hdr hQ ops.size _ s a _ (by simp) ?_ (by rw[hall];simp) ⟨h.dfr,h.size,⟨h.below.os,h.below.tape,h.below.output,h.below.size,h.below.block⟩,h.low,h.lowY,fun t=>W0.world (h.reg t) ⟨rfl,rfl,rfl,Nat.le_refl _,fun _ _=>rfl⟩,h.inj⟩ ?_
 ·intro i o ho hl
  have hi:=(Array.getElem?_eq_some_iff.1 ho).1
  simp[Array.getD_eq_getD_getElem?,hi] at hl
 ·rw[hall]
  have:(List.range ops.size).map (Zix io)=io:=by
   apply List.ext_getElem?
   intro i
   have hl':io.length=ops.size:=by simpa using hlen.symm
   by_cases hi:i<ops.size
   ·simp[hi,Zix,List.getD_eq_getElem?_getD,List.getElem?_eq_getElem (hl' ▸ hi)]
   ·rw[List.getElem?_eq_none (by simp;omega),List.getElem?_eq_none (by omega)]
  rw[this]
  exact hev
theorem Zhy {ops:Array Oper} {io:List IOp} {F:Qg} {s sf:Zk} {a:Act} {w:World} {id:Nat} (hF:Dd P F) (hok:Ng P roots ops ops.toList io=true)
  (h:Rel Y X0 roots w0 s a w) (hev:Uh F io s=some sf) (hQ:∀ a' w',Rel Y X0 roots w0 sf a' w'→Q .normal a' w'):(Code.region id ops false).wp P Q a w:=by
 refine wp_region ?_
 have:=Zm5 (Q:=Q) hF (k:=0) (fun j=>by simp) hok h hev hQ
 rw[List.range_eq_range']
 simpa using this
end
end Go.Ai

namespace Go.Ai
open Go.IntKind (i64 u64 u32)
open Go.RowKit
def U9 (P:Program) (roots:List (Nat × Nat)):Code→ICode→Bool
 | .skip, .skip=>true
 | .region _ ops draw, .region d io=>draw==d&&Ng P roots ops ops.toList io&&(!draw || M3 ops io)
 | .seq a b, .seq a' b'=>U9 P roots a a'&&U9 P roots b b'
 | .cond c a b, .cond c' a' b'=>Qq c c'&&U9 P roots a a'&&U9 P roots b b'
 | .block id c, .block id' c'=>id==id'&&U9 P roots c c'
 | .loop c, .loop c'=>U9 P roots c c'
 | .exit id, .exit id'=>id==id'
 | .ret, .ret=>true
 | _,_=>false
def Znj:Ex→Exit
 | .norm => .normal
 | .exit id => .exit id
 | .ret => .ret
theorem Mw {p:Nat→Prop} (h:∃ n,p n):∃ n,p n∧∀ m,p m→n≤m:=by
 obtain⟨n,hn⟩:=h
 induction n using Nat.strongRecOn with
 | _ n ih =>
  by_cases hh:∃ m,m<n∧p m
  ·obtain⟨m,hm,hp⟩:=hh
   exact ih m hm hp
  ·exact⟨n,hn,fun m hp=>Nat.le_of_not_lt fun hlt=>hh ⟨m,hlt,hp⟩⟩
section
variable {P:Program} {Y X0:Nat→Prop} {roots:List (Nat × Nat)} {w0:World}
theorem simC (hm:P.follows .mixedOrders=true) {F:Qg} (hF:Dd P F):∀ (n:Nat) (c:Code) (ic:ICode) (s s':Zk) (ex:Ex) (a:Act) (w:World) (Q:Exit→Act→World→Prop),U9 P roots c ic=true →
  Rel Y X0 roots w0 s a w→evC F n ic s=some (ex,s')→(∀ a' w',Rel Y X0 roots w0 s' a' w'→Q (Znj ex) a' w')→c.wp P Q a w:=by
 intro n
 induction n using Nat.strongRecOn with
 | _ n ih =>
  intro c ic s s' ex a w Q hok h hev hQ
  cases n with
  | zero=>simp[evC] at hev
  | succ n =>
   cases ic with
   | skip =>
    cases c <;> simp only[U9] at hok <;> try cases hok
    simp only[evC,Option.some.injEq,Prod.mk.injEq] at hev
    obtain⟨rfl,rfl⟩:=hev
    exact wp_skip (hQ _ _ h)
   | region d io =>
    cases c <;> simp only[U9] at hok <;> try cases hok
    rename_i id ops draw
    simp only[Bool.and_eq_true,beq_iff_eq] at hok
    obtain⟨⟨rfl,h1⟩,h2⟩:=hok
    simp only[evC,Option.map_eq_some_iff] at hev
    obtain⟨s1,hs1,he⟩:=hev
    cases he
    cases draw with
    | false=>exact Zhy hF h1 h hs1 hQ
    | true=>exact Zhz hm hF h1 (by simpa using h2) h hs1 hQ
   | seq x y =>
    cases c <;> simp only[U9] at hok <;> try cases hok
    rename_i c1 c2
    simp only[Bool.and_eq_true] at hok
    simp only[evC] at hev
    refine wp_seq ?_
    split at hev
    ·rename_i s1 h1
     refine ih n (by omega) c1 x s s1 .norm a w _ hok.1 h h1 fun a' w' h' => ?_
     exact ih n (by omega) c2 y s1 s' ex a' w' Q hok.2 h' hev hQ
    ·rename_i h1
     refine ih n (by omega) c1 x s s' ex a w _ hok.1 h hev fun a' w' h' => ?_
     cases ex with
     | norm=>exact absurd hev (h1 s')
     | exit id=>exact hQ _ _ h'
     | ret=>exact hQ _ _ h'
   | cond o x y =>
    cases c <;> simp only[U9] at hok <;> try cases hok
    rename_i o' c1 c2
    simp only[Bool.and_eq_true] at hok
    obtain⟨⟨h1,h2⟩,h3⟩:=hok
    simp only[evC] at hev
    have key:∀ b,Df s o=some b→a.eval o' = .bool b:=by
     intro b hb
     unfold Df at hb
     split at hb
     ·rename_i b' hav
      cases hb
      have:=Qp h h1 hav
      generalize a.eval o'=v at this
      cases this
      rfl
     ·cases hb
    split at hev
    ·rename_i hc
     exact wp_cond_true (key true hc) (ih n (by omega) c1 x s s' ex a w Q h2 h hev hQ)
    ·rename_i hc
     exact wp_cond_false (key false hc) (ih n (by omega) c2 y s s' ex a w Q h3 h hev hQ)
    ·cases hev
   | block id x =>
    cases c <;> simp only[U9] at hok <;> try cases hok
    rename_i id' c1
    simp only[Bool.and_eq_true,beq_iff_eq] at hok
    obtain⟨rfl,hok⟩:=hok
    simp only[evC] at hev
    refine wp_block ?_
    split at hev
    ·rename_i i s1 h1
     refine ih n (by omega) c1 x s s1 (.exit i) a w _ hok h h1 fun a' w' h' => ?_
     simp only[Znj,Exit.inBlock]
     split at hev
     ·rename_i hi
      cases hev
      rw[if_pos hi]
      exact hQ _ _ h'
     ·rename_i hi
      cases hev
      rw[if_neg hi]
      exact hQ _ _ h'
    ·rename_i h1
     refine ih n (by omega) c1 x s s' ex a w _ hok h hev fun a' w' h' => ?_
     cases ex with
     | norm=>exact hQ _ _ h'
     | exit i=>exact absurd hev (h1 i s')
     | ret=>exact hQ _ _ h'
   | loop x =>
    cases c <;> simp only[U9] at hok <;> try cases hok
    rename_i c1
    let p:Act→World→Nat→Prop:=fun a w m=>m≤n+1∧∃ s1,Rel Y X0 roots w0 s1 a w∧evC F m (.loop x) s1=some (ex,s')
    let μ:Act→World→Nat:=fun a w=>@Classical.epsilon Nat ⟨0⟩ fun m=>p a w m∧∀ k,p a w k→m≤k
    have hμ:∀ a w,(∃ m,p a w m)→p a w (μ a w)∧∀ k,p a w k→μ a w≤k:=fun a w he=>@Classical.epsilon_spec_aux Nat ⟨0⟩ _ (Mw he)
    refine wp_loop (fun a w=>∃ m,p a w m) μ ⟨n+1,Nat.le_refl _,s,h,hev⟩ ?_
    intro a1 w1 hI
    obtain⟨⟨hle,s1,hr1,hev1⟩,hmin⟩:=hμ a1 w1 hI
    generalize hmm:μ a1 w1=m at *
    cases m with
    | zero=>simp[evC] at hev1
    | succ m =>
     simp only[evC] at hev1
     split at hev1
     ·rename_i s2 h2
      refine ih m (by omega) c1 x s1 s2 .norm a1 w1 _ hok hr1 h2 fun a' w' h' => ?_
      have hp:p a' w' m:=⟨by omega,s2,h',hev1⟩
      refine⟨⟨m,hp⟩,?_⟩
      have:=(hμ a' w' ⟨m,hp⟩).2 m hp
      omega
     ·rename_i h2
      refine ih m (by omega) c1 x s1 s' ex a1 w1 _ hok hr1 hev1 fun a' w' h' => ?_
      cases ex with
      | norm=>exact absurd hev1 (h2 s')
      | exit i=>exact hQ _ _ h'
      | ret=>exact hQ _ _ h'
   | exit id =>
    cases c <;> simp only[U9] at hok <;> try cases hok
    simp only[beq_iff_eq] at hok
    subst hok
    simp only[evC,Option.some.injEq,Prod.mk.injEq] at hev
    obtain⟨rfl,rfl⟩:=hev
    exact wp_exit (hQ _ _ h)
   | ret =>
    cases c <;> simp only[U9] at hok <;> try cases hok
    simp only[evC,Option.some.injEq,Prod.mk.injEq] at hev
    obtain⟨rfl,rfl⟩:=hev
    exact wp_ret (hQ _ _ h)
end
def T6 (P:Program):ResultVar→IRes→Bool
 | .tmp t, .tmp t'=>t==t'
 | .cell t ty, .cell t' n one=>t==t'&&At P ty n one
 | _,_=>false
def Hp (P:Program):List ResultVar→List IRes→Bool
 | [],[]=>true
 | r::l,r'::l'=>T6 P r r'&&Hp P l l'
 | _,_=>false
def J8 (P:Program) (roots:List (Nat × Nat)) (fn:Func) (ifn:IFunc):Bool :=
 (match fn.body with | some c=>U9 P roots c ifn.body | none=>false)&&fn.ntmps==ifn.slots&&Hp P fn.results.toList ifn.res&&decide (ifn.params≤ifn.slots)
section
variable {P:Program} {Y X0:Nat→Prop} {roots:List (Nat × Nat)} {w0:World}
def Bi (tm:Array Value):ResultVar→Sem Value
 | .tmp t=>pure (tm.getD t Go.undef)
 | .cell a t=>do loadVar t (← asAddr (tm.getD a Go.undef))
theorem T4 (fn:Func) (tm:Array Value):results fn tm=(fn.results.mapM (Bi tm)) >>= fun vs=>pure (if h:vs.size=1 then vs[0] else .tuple vs):=by
 unfold results
 congr 1
theorem Fa {s:Zk} {a:Act} {w:World} (h:Rel Y X0 roots w0 s a w):∀ {l:List ResultVar} {m:List IRes} {xs:List AV},Hp P l m=true→Up s m=some xs →
  ∃ vs:List Value,(l.mapM (Bi a.tmps)).run P w = .ok vs w∧vs.length=xs.length ∧
   ∀ (i:Nat) (h1:i<vs.length) (h2:i<xs.length),Rd Y X0 w vs[i] xs[i]
 | [],[],xs,_,hx=>by
  simp only[Up,Option.some.injEq] at hx
  subst hx
  exact⟨[],rfl,rfl,fun i h1 _=>(by simp at h1)⟩
 | r::l,r'::m,xs,hok,hx=>by
  simp only[Hp,Bool.and_eq_true] at hok
  simp only[Up] at hx
  cases h1:Dn s r' with
  | none=>rw[h1] at hx;cases hx
  | some x =>
   rw[h1] at hx
   cases h2:Up s m with
   | none=>rw[h2] at hx;cases hx
   | some xs' =>
    rw[h2] at hx
    cases hx
    obtain⟨vs,e1,e2,e3⟩:=Fa h hok.2 h2
    have one:∃ v,(Bi a.tmps r).run P w = .ok v w∧Rd Y X0 w v x:=by
     have hr:=hok.1
     cases r with
     | tmp t =>
      cases r' with
      | cell _ _ _=>cases hr
      | tmp t' =>
       simp only[T6,beq_iff_eq] at hr
       subst hr
       have h0:=h.reg t
       simp only[Dn] at h1
       cases hrg:Z7 s t with
       | val y=>rw[hrg] at h1 h0;cases h1;exact⟨_,rfl,Rd.mono h0 fun b hb => .inl (.inl hb)⟩
       | box _=>rw[hrg] at h1;cases h1
       | ptr _ _=>rw[hrg] at h1;cases h1
       | mem _=>rw[hrg] at h1;cases h1
       | own k n cs =>
        rw[hrg] at h1 h0
        cases h1
        refine⟨_,rfl,Ji.frozen h0 (fun b hb => .inl (.inl hb)) (fun c hc hX => ?_) h.lowY⟩
        have h1:=(Ji.block h0 hc).1
        have:=h.low _ hX
        omega
       | agn _ _ _ _=>rw[hrg] at h1;cases h1
       | bxl _=>rw[hrg] at h1;cases h1
       | dup _=>rw[hrg] at h1;cases h1
       | dead=>rw[hrg] at h1;cases h1
     | cell t ty =>
      cases r' with
      | tmp _=>cases hr
      | cell t' n one =>
       simp only[T6,Bool.and_eq_true,beq_iff_eq] at hr
       obtain⟨rfl,hr⟩:=hr
       have h0:=h.reg t
       simp only[Dn] at h1
       cases hrg:Z7 s t with
       | box cs =>
        rw[hrg] at h1 h0
        obtain⟨b,g1,_,g3⟩:=h0
        obtain⟨v,g4,g5⟩:=Zdf (P:=P) hr g3.mem h1
        refine⟨v,?_,g5.mono fun b hb => .inl (.inl hb)⟩
        simp only[Nat.add_zero] at g4
        simp only[Bi,Sem.run_bind,g1,asAddr,Sem.run_pure,Result.andThen_ok,g4]
       | val _=>rw[hrg] at h1;cases h1
       | ptr _ _=>rw[hrg] at h1;cases h1
       | mem _=>rw[hrg] at h1;cases h1
       | own _ _ _=>rw[hrg] at h1;cases h1
       | agn _ _ _ _=>rw[hrg] at h1;cases h1
       | bxl _=>rw[hrg] at h1;cases h1
       | dup _=>rw[hrg] at h1;cases h1
       | dead=>rw[hrg] at h1;cases h1
    obtain⟨v,e4,e5⟩:=one
    refine⟨v::vs,?_,by simp[e2],fun i g1 g2 => ?_⟩
    ·simp only[List.mapM_cons,Sem.run_bind,e4,e1,Result.andThen_ok,Sem.run_pure]
    ·cases i with
     | zero=>exact e5
     | succ i=>exact e3 i (by simpa using g1) (by simpa using g2)
 | [],_::_,_,hok,_=>by cases hok
 | _::_,[],_,hok,_=>by cases hok
theorem W0.arg {Y X:Nat→Prop} {B:Nat} {tm:Array Value} {w:World} {t:Nat} {v:Value} {x:AV} (h:Rd Y X w v x):W0 Y X B roots tm w t v (F4 x):=by
 cases x
 case pt cs=>exact h.ofPt
 all_goals exact h
theorem Zi7 (x:AV):Hi (F4 x)=false:=by cases x <;> rfl
theorem Ziy {ifn:IFunc} {Y X:Nat→Prop} {w:World} {vs:Array Value} {args:List AV} (hlow:∀ b,X b→b<w.heap.size) (hlowY:∀ b,Y b→b<w.heap.size) (hs:vs.size=args.length) (hpar:args.length≤ifn.slots)
  (hr:∀ (i:Nat) (h1:i<vs.size) (h2:i<args.length),Rd Y X w vs[i] args[i]) :
  Rel Y X roots w (H7 ifn args) { tmps:=vs++Array.replicate (ifn.slots-vs.size) Go.undef,defers:=[] } w:=by
 have key:∀ t,(∃ x,Z7 (H7 ifn args) t=F4 x∧args[t]?=some x)∨Z7 (H7 ifn args) t = .dead:=by
  intro t
  simp only[Z7,H7,List.getD_eq_getElem?_getD]
  rcases Nat.lt_or_ge t args.length with h1 | h1
  ·refine .inl ⟨args[t],?_,by simp[h1]⟩
   rw[List.getElem?_append_left (by simpa using h1)]
   simp[h1]
  ·refine .inr ?_
   rw[List.getElem?_append_right (by simpa using h1)]
   rcases Nat.lt_or_ge (t-(args.map F4).length) (ifn.slots-args.length) with h2 | h2
   ·rw[List.getElem?_replicate_of_lt h2];rfl
   ·rw[List.getElem?_eq_none (by simpa using h2)];rfl
 have hne:∀ t,Hi (Z7 (H7 ifn args) t)=false:=by
  intro t
  rcases key t with ⟨x,h1,_⟩ | h1 <;> rw[h1]
  ·exact Zi7 x
  ·rfl
 refine⟨rfl,by simp[H7];omega,Below.refl _ _,hlow,hlowY,fun t => ?_,fun t t' b h1 => ?_⟩
 ·rcases key t with ⟨x,h1,h2⟩ | h1
  ·rw[h1]
   obtain⟨hlt,hx⟩:=List.getElem?_eq_some_iff.1 h2
   have h3:=hr t (by omega) hlt
   have h4:(vs++Array.replicate (ifn.slots-vs.size) Go.undef).getD t Go.undef=vs[t]'(by omega):=by
    rw[Array.getD_eq_getD_getElem?,Array.getElem?_append_left (by omega),Array.getElem?_eq_getElem (by omega)];rfl
   rw[h4,← hx]
   refine W0.arg (h3.mono fun b hb => ?_)
   rcases hb with hb | ⟨t',g1,_⟩
   ·exact .inl hb
   ·rw[hne] at g1;cases g1
  ·rw[h1];trivial
 ·rw[hne] at h1;cases h1
theorem simF (hm:P.follows .mixedOrders=true) {prog:Nat→Option IFunc} (hp:∀ f ifn,prog f=some ifn→∃ fn roots,P.funcs[f]?=some fn∧J8 P roots fn ifn=true):∀ n,Dd P (evF prog n):=by
 intro n
 induction n with
 | zero=>intro f args x h;simp[evF] at h
 | succ n ih =>
  intro f args x h Y X w vs hlow hlowY hs hr
  simp only[evF] at h
  split at h
  ·cases h
  ·rename_i ifn hifn
   split at h
   ·rename_i hpar
    obtain⟨fn,roots,hfn,hok⟩:=hp f ifn hifn
    simp only[J8,Bool.and_eq_true,beq_iff_eq,decide_eq_true_eq] at hok
    obtain⟨⟨⟨h1,h2⟩,h3⟩,h4⟩:=hok
    split at h1
    ·rename_i c hc
     have hrel:Rel Y X roots w (H7 ifn args) { tmps:=vs++Array.replicate (fn.ntmps-vs.size) Go.undef,defers:=[] } w:=by
      rw[h2]
      exact Ziy hlow hlowY hs (by omega) hr
     refine calls_of_wp hfn hc ?_
     -- the end of the body
     have fin:∀ (s:Zk) (a':Act) (w':World),Rel Y X roots w s a' w'→Vv s ifn.res=some x →
       a'.defers=[]∧∃ v,(results fn a'.tmps).run P w' = .ok v w'∧∃ v',Ending.returned v = .returned v'∧Below w.heap.size w w'∧Fs Y X w.heap.size w' v' x:=by
      intro s a' w' hrel' hres
      refine⟨hrel'.dfr,?_⟩
      unfold Vv at hres
      have hrun:∀ (us:List Value),(fn.results.toList.mapM (Bi a'.tmps)).run P w' = .ok us w' →
        (results fn a'.tmps).run P w' = .ok (if h:us.toArray.size=1 then us.toArray[0] else .tuple us.toArray) w':=by
       intro us hus
       rw[T4,Array.mapM_eq_mapM_toList]
       simp only[Sem.run_bind,Sem.run_map,hus,Result.andThen_ok,Sem.run_pure]
      split at hres
      ·rename_i y hy
       cases hres
       generalize hl:ifn.res=lres at hy h3
       unfold Km at hy
       split at hy
       ·rename_i t
        split at hy
        ·rename_i k n cs hr
         cases hy
         cases hfr:fn.results.toList with
         | nil=>rw[hfr] at h3;cases h3
         | cons r rest =>
          rw[hfr] at h3
          cases rest with
          | cons _ _=>simp only[Hp,Bool.and_false] at h3;cases h3
          | nil =>
           simp only[Hp,Bool.and_true] at h3
           cases r with
           | cell _ _=>cases h3
           | tmp t' =>
            simp only[T6,beq_iff_eq] at h3
            subst h3
            refine⟨_,hrun [a'.tmps.getD t' Go.undef] (by rw[hfr];rfl),_,rfl,hrel'.below,?_⟩
            simp only[List.size_toArray,List.length_cons,List.length_nil,Nat.zero_add,dite_true]
            rcases hrel'.ownLow hr with hnil | ⟨b,cap,e1,e2,e3,e4,e5,e6,hXb⟩
            ·exact .inl hnil
            refine .inr ⟨b,cap,e1,e2,e3,e4,e5.mono fun c hc => .inl ?_,e6⟩
            rcases hc with hc | hc
            ·exact .inl hc
            ·simp only[e1,Z1,Wv,List.getElem_toArray,List.getElem_cons_zero,Option.map_some,Option.some.injEq] at hc
             exact .inr (hc ▸ hXb)
        ·rename_i bb k n cs hr
         cases hy
         cases hfr:fn.results.toList with
         | nil=>rw[hfr] at h3;cases h3
         | cons r rest =>
          rw[hfr] at h3
          cases rest with
          | cons _ _=>simp only[Hp,Bool.and_false] at h3;cases h3
          | nil =>
           simp only[Hp,Bool.and_true] at h3
           cases r with
           | cell _ _=>cases h3
           | tmp t' =>
            simp only[T6,beq_iff_eq] at h3
            subst h3
            refine⟨_,hrun [a'.tmps.getD t' Go.undef] (by rw[hfr];rfl),_,rfl,hrel'.below,?_⟩
            simp only[List.size_toArray,List.length_cons,List.length_nil,Nat.zero_add,dite_true]
            have h0:=hrel'.reg t'
            rw[hr] at h0
            have hXS:∀ c,Z1 (a'.tmps.getD t' Go.undef)=some c→XS s a'.tmps c:=fun c hc=>⟨t',by rw[hr];rfl,hc⟩
            exact Uj.own h0 hXS
        ·cases hy
       ·rename_i t n one
        split at hy
        ·rename_i d hr
         split at hy
         ·rename_i bb k m cs hrd
          split at hy
          ·rename_i hn
           obtain⟨rfl,rfl⟩:=hn
           cases hy
           cases hfr:fn.results.toList with
           | nil=>rw[hfr] at h3;cases h3
           | cons r rest =>
            rw[hfr] at h3
            cases rest with
            | cons _ _=>simp only[Hp,Bool.and_false] at h3;cases h3
            | nil =>
             simp only[Hp,Bool.and_true] at h3
             cases r with
             | tmp _=>cases h3
             | cell t' ty =>
              simp only[T6,Bool.and_eq_true,beq_iff_eq] at h3
              obtain⟨rfl,h3⟩:=h3
              have h0:=hrel'.reg t'
              rw[hr] at h0
              obtain⟨_,b,g1,_,_,g4⟩:=h0
              have h5:=hrel'.reg d
              rw[hrd] at h5
              obtain⟨u,hu,h5'⟩:=id h5
              obtain⟨q1,q2⟩:=V6 h3
              rw[hu] at g4
              have hl:=run_loadCells (P:=P) w' ⟨b,0,none⟩ 2 (fun i=>#[Value.bool bb,u].getD i Go.undef) (fun j hj=>by
               rw[Ux,Nat.zero_add,g4 j hj]
               match j,hj with
               | 0,_=>rfl
               | 1,_=>rfl)
              have hload:(Bi a'.tmps (.cell t' ty)).run P w' = .ok (.agg #[.bool bb,u]) w':=by
               simp only[Bi,Sem.run_bind,g1,asAddr,Sem.run_pure,Result.andThen_ok,loadVar,q1,q2,hl,Bool.not_false,if_true]
               rfl
              refine⟨_,hrun [.agg #[.bool bb,u]] (by rw[hfr];simp only[List.mapM_cons,List.mapM_nil,Sem.run_bind,hload,Result.andThen_ok,Sem.run_pure]),_,rfl,hrel'.below,?_⟩
              have hXS:∀ c,Z1 (a'.tmps.getD d Go.undef)=some c→XS s a'.tmps c:=fun c hc=>⟨d,by rw[hrd];rfl,hc⟩
              have:=Uj.own h5 hXS
              rw[hu] at this
              exact this
          ·cases hy
         ·cases hy
        ·cases hy
       ·cases hy
      split at hres
      ·rename_i y hy
       cases hres
       obtain⟨us,g1,g2,g3⟩:=Fa hrel' h3 hy
       refine⟨_,hrun us g1,_,rfl,hrel'.below,?_⟩
       have hl:us.toArray.size=1:=by simpa using g2
       rw[dif_pos hl]
       have:=g3 0 (by simp at g2;omega) (by simp)
       exact .of_rd (by simpa using this)
      ·rename_i ys hne hy
       cases hres
       obtain⟨us,g1,g2,g3⟩:=Fa hrel' h3 hy
       refine⟨_,hrun us g1,_,rfl,hrel'.below,?_⟩
       have hl:¬ us.toArray.size=1:=by
        intro hh
        have:ys.length=1:=by rw[← g2];simpa using hh
        match ys,this with
        | [y],_=>exact hne y rfl
       rw[dif_neg hl]
       exact .of_rd (.tup _ _ (by simpa using g2) (fun i h1 h2=>by simpa using g3 i (by simpa using h1) h2))
      ·cases hres
     split at h
     ·cases h
     ·rename_i ex s hnot hev
      refine simC hm ih n c ifn.body _ s ex _ w _ h1 hrel hev fun a' w' hrel' => ?_
      have:=fin s a' w' hrel' h
      cases ex with
      | norm=>exact this
      | ret=>exact this
      | exit i=>exact (hnot i rfl).elim
     ·cases h
    ·cases h1
   ·cases h
end
end Go.Ai

namespace Go.Ai
open Go.IntKind (i64 u64 u32)
open Go.RowKit
def Le (F G:Qg):Prop:=∀ f args r,F f args=some r→G f args=some r
theorem evK_le {F G:Qg} (h:Le F G) {s:Zk} {k:K} {p:Reg × List (Nat × Reg)} (hk:evK F s k=some p):evK G s k=some p:=by
 cases k
 case call f xs =>
  simp only[evK] at hk ⊢
  split at hk
  ·rename_i vs hvs
   simp only[Option.map_eq_some_iff] at hk ⊢
   obtain⟨v,hv,he⟩:=hk
   exact⟨v,h f vs v hv,he⟩
  ·cases hk
 case clo f xs =>
  simp only[evK] at hk ⊢
  split at hk
  ·rename_i vs hvs
   simp only[Option.map_eq_some_iff] at hk ⊢
   obtain⟨v,hv,he⟩:=hk
   exact⟨v,h f vs v hv,he⟩
  ·cases hk
 case cln f xs ls =>
  simp only[evK] at hk ⊢
  split at hk
  ·rename_i vs hvs
   split at hk
   ·rename_i hl
    rw[if_pos hl]
    simp only[Option.map_eq_some_iff] at hk ⊢
    obtain⟨v,hv,he⟩:=hk
    exact⟨v,h f vs v hv,he⟩
   ·cases hk
  ·cases hk
 case cal f x xs =>
  simp only[evK] at hk ⊢
  split at hk
  ·rename_i f' cs vs hx hvs
   split at hk
   ·rename_i hf
    rw[if_pos hf]
    simp only[Option.map_eq_some_iff] at hk ⊢
    obtain⟨v,hv,he⟩:=hk
    exact⟨v,h f _ v hv,he⟩
   ·cases hk
  ·cases hk
 case brw f x d =>
  simp only[evK] at hk ⊢
  split at hk
  ·split at hk
   ·rename_i hd
    rw[if_pos hd]
    split at hk
    ·split at hk
     ·rename_i hc
      rw[if_pos hc]
      split at hk
      ·rename_i y hy
       rw[h _ _ _ hy]
       exact hk
      ·cases hk
     ·cases hk
    ·cases hk
   ·cases hk
  ·cases hk
 all_goals exact hk
theorem Zea {F G:Qg} (h:Le F G) {o:IOp} {s s':Zk} (he:Fo F o s=some s'):Fo G o s=some s':=by
 simp only[Fo,Gw] at he ⊢
 split at he
 ·cases he
 ·exact he
 ·split at he
  ·cases he
  ·rename_i r l hk
   rw[evK_le h hk]
   exact he
theorem Dz {F G:Qg} (h:Le F G):∀ {l:List IOp} {s s':Zk},Uh F l s=some s'→Uh G l s=some s'
 | [],_,_,he=>he
 | o::l,s,s',he=>by
  simp only[Uh] at he ⊢
  cases h1:Fo F o s with
  | none=>rw[h1] at he;cases he
  | some s1 =>
   rw[h1] at he
   rw[Zea h h1]
   exact Dz h he
theorem Vm {F G:Qg} (h:Le F G):∀ {n m:Nat},n≤m→∀ {c:ICode} {s:Zk} {r:Ex × Zk},evC F n c s=some r→evC G m c s=some r:=by
 intro n
 induction n with
 | zero=>intro m _ c s r he;simp[evC] at he
 | succ n ih =>
  intro m hm c s r he
  obtain⟨m,rfl⟩:∃ m',m=m'+1:=⟨m-1,by omega⟩
  have hm':n≤m:=by omega
  cases c with
  | skip=>exact he
  | region d ops =>
   simp only[evC,Option.map_eq_some_iff] at he ⊢
   obtain⟨s',h1,h2⟩:=he
   exact⟨s',Dz h h1,h2⟩
  | seq a b =>
   simp only[evC] at he ⊢
   cases h1:evC F n a s with
   | none=>rw[h1] at he;cases he
   | some p =>
    rw[h1] at he
    rw[ih hm' h1]
    obtain⟨ex,s1⟩:=p
    cases ex with
    | norm=>exact ih hm' he
    | exit i=>exact he
    | ret=>exact he
  | cond c a b =>
   simp only[evC] at he ⊢
   split at he
   ·exact ih hm' he
   ·exact ih hm' he
   ·cases he
  | block id c =>
   simp only[evC] at he ⊢
   cases h1:evC F n c s with
   | none=>rw[h1] at he;cases he
   | some p =>
    rw[h1] at he
    rw[ih hm' h1]
    exact he
  | loop c =>
   simp only[evC] at he ⊢
   cases h1:evC F n c s with
   | none=>rw[h1] at he;cases he
   | some p =>
    rw[h1] at he
    rw[ih hm' h1]
    obtain⟨ex,s1⟩:=p
    cases ex with
    | norm=>exact ih hm' he
    | exit i=>exact he
    | ret=>exact he
  | exit id=>exact he
  | ret=>exact he
theorem Ui (prog:Nat→Option IFunc):∀ {n m:Nat},n≤m→Le (evF prog n) (evF prog m):=by
 intro n
 induction n with
 | zero=>intro m _ f args r h;simp[evF] at h
 | succ n ih =>
  intro m hm f args r h
  obtain⟨m,rfl⟩:∃ m',m=m'+1:=⟨m-1,by omega⟩
  have hm':n≤m:=by omega
  simp only[evF] at h ⊢
  split at h
  ·cases h
  ·rename_i fn hfn
   split at h
   ·rename_i hl
    rw[if_pos hl]
    cases h1:evC (evF prog n) n fn.body (H7 fn args) with
    | none=>rw[h1] at h;cases h
    | some p =>
     rw[h1] at h
     rw[Vm (ih hm') hm' h1]
     exact h
   ·cases h
def Zd (prog:Nat→Option IFunc) (f:Nat) (args:List AV) (r:AV):Prop:=∃ n,evF prog n f args=some r
def Qu (prog:Nat→Option IFunc) (c:ICode) (s:Zk) (ex:Ex) (s':Zk):Prop:=∃ n,evC (evF prog n) n c s=some (ex,s')
theorem Zd.of_body {prog:Nat→Option IFunc} {f:Nat} {fn:IFunc} {args:List AV} {s:Zk} {ex:Ex} {r:AV} (hf:prog f=some fn) (hl:args.length=fn.params) (h:Qu prog fn.body (H7 fn args) ex s)
  (hex:∀ i,ex ≠ .exit i) (hr:Vv s fn.res=some r):Zd prog f args r:=by
 obtain⟨n,h⟩:=h
 refine⟨n+1,?_⟩
 simp only[evF,hf,if_pos hl,h]
 cases ex with
 | norm=>exact hr
 | ret=>exact hr
 | exit i=>exact absurd rfl (hex i)
theorem Qu.seq {prog:Nat→Option IFunc} {a b:ICode} {s s1 s':Zk} {ex:Ex} (h1:Qu prog a s .norm s1) (h2:Qu prog b s1 ex s'):Qu prog (.seq a b) s ex s':=by
 obtain⟨n,h1⟩:=h1
 obtain⟨m,h2⟩:=h2
 refine⟨max n m+1,?_⟩
 have e1:=Vm (Ui prog (show n≤max n m+1 by omega)) (show n≤max n m by omega) h1
 have e2:=Vm (Ui prog (show m≤max n m+1 by omega)) (show m≤max n m by omega) h2
 simp only[evC,e1,e2]
theorem Qu.seq_out {prog:Nat→Option IFunc} {a b:ICode} {s s':Zk} {ex:Ex} (h1:Qu prog a s ex s') (hex:ex ≠ .norm):Qu prog (.seq a b) s ex s':=by
 obtain⟨n,h1⟩:=h1
 refine⟨n+1,?_⟩
 have e1:=Vm (Ui prog (show n≤n+1 by omega)) (show n≤n by omega) h1
 simp only[evC,e1]
 cases ex with
 | norm=>exact absurd rfl hex
 | exit i=>rfl
 | ret=>rfl
theorem Qu.block {prog:Nat→Option IFunc} {id:Nat} {c:ICode} {s s':Zk} (h:Qu prog c s (.exit id) s'):Qu prog (.block id c) s .norm s':=by
 obtain⟨n,h⟩:=h
 refine⟨n+1,?_⟩
 have e1:=Vm (Ui prog (show n≤n+1 by omega)) (show n≤n by omega) h
 simp only[evC,e1,if_true]
theorem Qu.block_norm {prog:Nat→Option IFunc} {id:Nat} {c:ICode} {s s':Zk} (h:Qu prog c s .norm s'):Qu prog (.block id c) s .norm s':=by
 obtain⟨n,h⟩:=h
 refine⟨n+1,?_⟩
 have e1:=Vm (Ui prog (show n≤n+1 by omega)) (show n≤n by omega) h
 simp only[evC,e1]
theorem Qu.block_out {prog:Nat→Option IFunc} {id i:Nat} {c:ICode} {s s':Zk} (h:Qu prog c s (.exit i) s') (hi:i ≠ id):Qu prog (.block id c) s (.exit i) s':=by
 obtain⟨n,h⟩:=h
 refine⟨n+1,?_⟩
 have e1:=Vm (Ui prog (show n≤n+1 by omega)) (show n≤n by omega) h
 simp only[evC,e1,if_neg hi]
theorem Qu.block_ret {prog:Nat→Option IFunc} {id:Nat} {c:ICode} {s s':Zk} (h:Qu prog c s .ret s'):Qu prog (.block id c) s .ret s':=by
 obtain⟨n,h⟩:=h
 refine⟨n+1,?_⟩
 have e1:=Vm (Ui prog (show n≤n+1 by omega)) (show n≤n by omega) h
 simp only[evC,e1]
theorem Qu.loop {prog:Nat→Option IFunc} {c:ICode} {s s1 s':Zk} {ex:Ex} (h1:Qu prog c s .norm s1) (h2:Qu prog (.loop c) s1 ex s'):Qu prog (.loop c) s ex s':=by
 obtain⟨n,h1⟩:=h1
 obtain⟨m,h2⟩:=h2
 refine⟨max n m+1,?_⟩
 have e1:=Vm (Ui prog (show n≤max n m+1 by omega)) (show n≤max n m by omega) h1
 have e2:=Vm (Ui prog (show m≤max n m+1 by omega)) (show m≤max n m by omega) h2
 simp only[evC,e1,e2]
theorem Qu.loop_out {prog:Nat→Option IFunc} {c:ICode} {s s':Zk} {ex:Ex} (h1:Qu prog c s ex s') (hex:ex ≠ .norm):Qu prog (.loop c) s ex s':=by
 obtain⟨n,h1⟩:=h1
 refine⟨n+1,?_⟩
 have e1:=Vm (Ui prog (show n≤n+1 by omega)) (show n≤n by omega) h1
 simp only[evC,e1]
 cases ex with
 | norm=>exact absurd rfl hex
 | exit i=>rfl
 | ret=>rfl
def L2 (prog:Nat→Option IFunc) (F:Qg):Prop:=∀ f args r,F f args=some r→Zd prog f args r
theorem B7 {prog:Nat→Option IFunc} {F:Qg} (h:L2 prog F):∀ {l:List IOp} {s s':Zk},Uh F l s=some s'→∃ n,Uh (evF prog n) l s=some s'
 | [],s,s',he=>⟨0,he⟩
 | o::l,s,s',he=>by
  simp only[Uh] at he
  cases h1:Fo F o s with
  | none=>rw[h1] at he;cases he
  | some s1 =>
   rw[h1] at he
   obtain⟨n,hn⟩:=B7 h he
   have key:∃ m,Fo (evF prog m) o s=some s1:=by
    simp only[Fo,Gw] at h1 ⊢
    generalize kill s o.ks=s at *
    split at h1
    ·cases h1
    ·exact⟨0,h1⟩
    ·split at h1
     ·cases h1
     ·rename_i r l' hk
      have:∃ m,evK (evF prog m) s o.k=some (r,l'):=by
       cases hkk:o.k
       case call f xs =>
        rw[hkk] at hk
        simp only[evK] at hk ⊢
        split at hk
        ·rename_i vs hvs
         simp only[Option.map_eq_some_iff] at hk
         obtain⟨v,hv,e⟩:=hk
         obtain⟨m,hm⟩:=h f vs v hv
         exact⟨m,by simp only[hm,Option.map_some,e]⟩
        ·cases hk
       case clo f xs =>
        rw[hkk] at hk
        simp only[evK] at hk ⊢
        split at hk
        ·rename_i vs hvs
         simp only[Option.map_eq_some_iff] at hk
         obtain⟨v,hv,e⟩:=hk
         obtain⟨m,hm⟩:=h f vs v hv
         exact⟨m,by simp only[hm,Option.map_some,e]⟩
        ·cases hk
       case cln f xs ls =>
        rw[hkk] at hk
        simp only[evK] at hk ⊢
        split at hk
        ·rename_i vs hvs
         split at hk
         ·rename_i hl
          simp only[Option.map_eq_some_iff] at hk
          obtain⟨v,hv,e⟩:=hk
          obtain⟨m,hm⟩:=h f vs v hv
          exact⟨m,by rw[if_pos hl,hm];simp only[Option.map_some,e]⟩
         ·cases hk
        ·cases hk
       case cal f x xs =>
        rw[hkk] at hk
        simp only[evK] at hk ⊢
        split at hk
        ·rename_i f' cs vs hx hvs
         split at hk
         ·rename_i hf
          simp only[Option.map_eq_some_iff] at hk
          obtain⟨v,hv,e⟩:=hk
          obtain⟨m,hm⟩:=h f _ v hv
          exact⟨m,by rw[if_pos hf,hm];simp only[Option.map_some,e]⟩
         ·cases hk
        ·cases hk
       case brw f x d =>
        rw[hkk] at hk
        simp only[evK] at hk ⊢
        split at hk
        ·split at hk
         ·rename_i hd
          split at hk
          ·split at hk
           ·rename_i hc
            split at hk
            ·rename_i y hy
             obtain⟨m,hm⟩:=h _ _ _ hy
             exact⟨m,by rw[if_pos hd,if_pos hc,hm];exact hk⟩
            ·cases hk
           ·cases hk
          ·cases hk
         ·cases hk
        ·cases hk
       all_goals (rw[hkk] at hk;exact⟨0,hk⟩)
      obtain⟨m,hm⟩:=this
      exact⟨m,by rw[hm];exact h1⟩
   obtain⟨m,hm⟩:=key
   refine⟨max n m,?_⟩
   simp only[Uh,Zea (Ui prog (show m≤max n m by omega)) hm]
   exact Dz (Ui prog (show n≤max n m by omega)) hn
theorem M1 {prog:Nat→Option IFunc} {F:Qg} (h:L2 prog F):∀ (n:Nat) {c:ICode} {s:Zk} {ex:Ex} {s':Zk},evC F n c s=some (ex,s')→Qu prog c s ex s':=by
 intro n
 induction n with
 | zero=>intro c s ex s' he;simp[evC] at he
 | succ n ih =>
  intro c s ex s' he
  cases c with
  | skip=>exact⟨1,he⟩
  | region d ops =>
   simp only[evC,Option.map_eq_some_iff] at he
   obtain⟨s1,h1,h2⟩:=he
   obtain⟨m,hm⟩:=B7 h h1
   refine⟨m+1,?_⟩
   simp only[evC,Dz (Ui prog (show m≤m+1 by omega)) hm,Option.map_some,h2]
  | seq a b =>
   simp only[evC] at he
   split at he
   ·rename_i s1 h1
    exact Qu.seq (ih h1) (ih he)
   ·rename_i h1
    exact Qu.seq_out (ih he) (by rintro rfl;exact h1 s' he)
  | cond c a b =>
   simp only[evC] at he
   split at he
   ·rename_i hc
    obtain⟨m,hm⟩:=ih he
    exact⟨m+1,by simp only[evC,hc];exact Vm (Ui prog (by omega)) (Nat.le_refl _) hm⟩
   ·rename_i hc
    obtain⟨m,hm⟩:=ih he
    exact⟨m+1,by simp only[evC,hc];exact Vm (Ui prog (by omega)) (Nat.le_refl _) hm⟩
   ·cases he
  | block id c =>
   simp only[evC] at he
   split at he
   ·rename_i i s1 h1
    split at he
    ·rename_i hi
     cases he
     subst hi
     exact Qu.block (ih h1)
    ·rename_i hi
     cases he
     exact Qu.block_out (ih h1) hi
   ·rename_i h1
    cases ex with
    | norm=>exact Qu.block_norm (ih he)
    | exit i=>exact absurd he (h1 i s')
    | ret=>exact Qu.block_ret (ih he)
  | loop c =>
   simp only[evC] at he
   split at he
   ·rename_i s1 h1
    exact Qu.loop (ih h1) (ih he)
   ·rename_i h1
    exact Qu.loop_out (ih he) (by rintro rfl;exact h1 s' he)
  | exit id=>exact⟨1,he⟩
  | ret=>exact⟨1,he⟩
theorem Zd.unique {prog:Nat→Option IFunc} {f:Nat} {args:List AV} {r r':AV} (h:Zd prog f args r) (h':Zd prog f args r'):r=r':=by
 obtain⟨n,h⟩:=h
 obtain⟨m,h'⟩:=h'
 have e1:=Ui prog (show n≤max n m by omega) f args r h
 have e2:=Ui prog (show m≤max n m by omega) f args r' h'
 rw[e1] at e2
 exact Option.some.inj e2
open Classical in
noncomputable def lim (prog:Nat→Option IFunc):Qg:=fun f args=>if h:∃ r,Zd prog f args r then some h.choose else none
theorem Ht {prog:Nat→Option IFunc} {f:Nat} {args:List AV} {r:AV} (h:Zd prog f args r):lim prog f args=some r:=by
 have h':∃ r,Zd prog f args r:=⟨r,h⟩
 simp only[lim,dif_pos h']
 exact congrArg some (h'.choose_spec.unique h)
theorem Zdh (prog:Nat→Option IFunc):L2 prog (lim prog):=by
 intro f args r h
 unfold lim at h
 split at h
 ·rename_i h'
  cases h
  exact h'.choose_spec
 ·cases h
abbrev Js:=List (Nat × (List AV→Option (AV × List Prop)))
def De:List Prop→Prop
 | []=>True
 | p::l=>p∧De l
def tab (T:Js) (f:Nat) (args:List AV):Option (AV × List Prop) :=
 match T.lookup f with
 | some g=>g args
 | none=>none
def Qt (prog:Nat→Option IFunc) (T:Js):Prop:=∀ f args r ps,tab T f args=some (r,ps)→De ps→Zd prog f args r
theorem Qt.nil (prog:Nat→Option IFunc):Qt prog []:=fun f args r ps h=>by simp [tab] at h
theorem Qt.cons {prog:Nat→Option IFunc} {T:Js} {f:Nat} {g:List AV→Option (AV × List Prop)} (h:Qt prog T) (hg:∀ args r ps,g args=some (r,ps)→De ps→Zd prog f args r):Qt prog ((f,g)::T):=by
 intro f' args r ps hr
 simp only[tab,List.lookup] at hr
 by_cases hf:f'=f
 ·subst hf
  simp at hr
  exact hg args r ps hr
 ·have:(f'==f)=false:=by simpa using hf
  simp only[this] at hr
  exact h f' args r ps hr
theorem Zd.calls {P:Program} {prog:Nat→Option IFunc} {f:Nat} {args:List AV} {r:AV} (hm:P.follows .mixedOrders=true)
  (hp:∀ f ifn,prog f=some ifn→∃ fn roots,P.funcs[f]?=some fn∧J8 P roots fn ifn=true) (h:Zd prog f args r) (X:Nat→Prop) (w:World) (vs:Array Value)
  (hX:∀ b,X b→b<w.heap.size) (hs:vs.size=args.length) (hr:∀ (i:Nat) (h1:i<vs.size) (h2:i<args.length),Rd (fun _=>False) X w vs[i] args[i]) :
  Calls P f vs w fun e w'=>∃ v,e = .returned v∧Below w.heap.size w w'∧Rd (fun _=>False) X w' v (E6 r):=by
 obtain⟨n,h⟩:=h
 exact (simF hm hp n f args r h _ X w vs hX (fun _ h=>h.elim) hs hr).mono fun e w' ⟨v,h1,h2,h3⟩=>⟨v,h1,h2,h3.thawed hX (fun _ h=>h.elim)⟩
end Go.Ai

namespace Go.Ai
open Go.IntKind (i64 u64 u32)
open Go.RowKit
inductive Sc where
 | b (x:Bool)
 | v (x:AV)
 | l (cs:List AV)
 | r (x:AV)
theorem Xs:∀ {l m:List Prop},De (l++m)↔De l∧De m
 | [],m=>by simp[De]
 | p::l,m=>by simp only[List.cons_append,De,Xs (l:=l),and_assoc]
abbrev R3 (α:Type):=Option (α × List Sc × List Prop)
def Zo1 (op:BinOp) (k k':IntKind) (a b:Int):Option (AV × List Prop) :=
 match op with
 | .quo=>if k=k' then some (.int k (k.wrap (a.tdiv b)),[¬ b=0]) else none
 | .rem=>if k=k' then some (.int k (a.tmod b),[¬ b=0]) else none
 | .shl=>some (.int k (k.wrap (a*2^(min b.toNat k.bits))),[¬ b<0])
 | .shr=>some (.int k (a.fdiv (2^(min b.toNat k.bits))),[¬ b<0])
 | op=>(Zaz op (.int k a) (.int k' b)).map fun v=>(v,[])
theorem Zo0 {op:BinOp} {k k':IntKind} {a b:Int} {v:AV} {ps:List Prop} (h:Zo1 op k k' a b=some (v,ps)) (hp:De ps):Zaz op (.int k a) (.int k' b)=some v:=by
 cases op
 case quo =>
  simp only[Zo1] at h
  split at h
  ·rename_i hk
   cases h
   simp only[Zaz,Kk,hk,intA]
   simp only[Bool.false_eq_true,if_false,if_true,if_neg hp.1]
  ·cases h
 case rem =>
  simp only[Zo1] at h
  split at h
  ·rename_i hk
   cases h
   simp only[Zaz,Kk,hk,intA]
   simp only[Bool.false_eq_true,if_false,if_true,if_neg hp.1]
  ·cases h
 case shl =>
  simp only[Zo1] at h
  cases h
  simp only[Zaz,Kk,if_true,Ma,if_neg hp.1]
 case shr =>
  simp only[Zo1] at h
  cases h
  simp only[Zaz,Kk,if_true,Ma,if_neg hp.1]
 all_goals
  simp only[Zo1,Option.map_eq_some_iff] at h
  obtain⟨u,hu,e⟩:=h
  cases e
  exact hu
abbrev Wx:=Option (Nat × Bool)
def Wx.is (m:Wx) (t:Nat):Option Bool :=
 match m with
 | some (u,x)=>if u=t then some x else none
 | none=>none
def Wx.opd (m:Wx):Opd→Option Bool
 | .t n=>m.is n
 | .c _=>none
def Wx.Ok (s:Zk) (m:Wx):Prop:=∀ t x,m=some (t,x)→Z7 s t = .val (.bool x)
theorem Wx.opd_ok {s:Zk} {m:Wx} (h:m.Ok s) {o:Opd} {x:Bool} (ho:m.opd o=some x):o.av s=some (.bool x):=by
 cases o with
 | c y=>cases ho
 | t n =>
  simp only[Wx.opd,Wx.is] at ho
  split at ho
  ·rename_i u y
   split at ho
   ·rename_i hu
    cases ho
    subst hu
    simp only[Opd.av,Opd.reg,h _ _ rfl]
   ·cases ho
  ·cases ho
def Zuf (s:Zk) (d:Nat):Option Opd→Option (Nat × List Prop)
 | none=>some (d,[])
 | some o=>match o.av s with
  | some (.int _ i)=>some (i.toNat,[0≤i])
  | _=>none
theorem Rc {s:Zk} {d:Nat} {o:Option Opd} {n:Nat} {ps:List Prop} (h:Zuf s d o=some (n,ps)) (hp:De ps):Ad s d o=some n:=by
 cases o with
 | none=>simp only[Zuf,Option.some.injEq,Prod.mk.injEq] at h;rw[← h.1];rfl
 | some o =>
  simp only[Zuf] at h
  simp only[Ad]
  split at h
  ·rename_i k i hi
   cases h
   rw[hi]
   simp only[if_pos hp.1]
  ·cases h
def Em (prog:Nat→Option IFunc) (T:Js) (s:Zk) (m:Wx) (k:K) (sc:List Sc):R3 (Reg × List (Nat × Reg)) :=
 match k with
 | .pick c a b =>
  match m.opd c with
  | some true=>(a.av s).map fun v=>((.val v,[]),sc,[])
  | some false=>(b.av s).map fun v=>((.val v,[]),sc,[])
  | none=>match c.av s,sc with
  | some (.bool c), .b t::sc=>(match t with | true=>(a.av s) | false=>(b.av s)).map fun v=>((.val v,[]),sc,[c=t])
  | _,_=>none
 | .bin op x y =>
  match x.av s,y.av s with
  | some (.int k a),some (.int k' b)=>(Zo1 op k k' a b).map fun p=>((.val p.1,[]),sc,p.2)
  | _,_=>none
 | .ixa x i k =>
  match i.av s,Z7 s x with
  | some (.int _ i), .val (.sl n cs)=>some ((.mem (cs.drop (i.toNat*k)),[]),sc,[0≤i∧i<n])
  | _,_=>none
 | .ixb x i len k =>
  match i.av s,Z7 s x with
  | some (.int _ i), .box _=>some ((.ptr x (i.toNat*k),[]),sc,[0≤i∧i<len])
  | _,_=>none
 | .ld x d n one =>
  match Z7 s x,sc with
  | .mem cs, .v u::sc=>some ((.val u,[]),sc,[Zx cs 0 n one=some u])
  | .ptr d' off,sc=>if d'=d then (match Z7 s d,sc with
   | .own _ _ cs, .v u::sc=>some ((.val u,[]),sc,[Zx cs off n one=some u])
   | .box cs,sc=>(Zx cs off n one).map fun v=>((.val v,[]),sc,[])
   | _,_=>none) else none
  | _,sc=>(evK (fun _ _=>none) s (.ld x d n one)).map fun p=>(p,sc,[])
 | .six x i =>
  match x.av s,i.av s,sc with
  | some (.str b),some (.int _ i), .v (.int .u8 n)::sc=>some ((.val (.int .u8 n),[]),sc,[((if 0≤i then b[i.toNat]? else none).map fun c=>(c.toNat:Int))=some n])
  | _,_,_=>none
 | .call f xs =>
  match avs s xs with
  | some vs=>(match tab T f vs with
   | some p=>some ((.val (E6 p.1),[]),sc,p.2)
   | none=>(match sc with
    | .r r::sc=>some ((.val (E6 r),[]),sc,[Zd prog f vs r])
    | _=>none))
  | none=>none
 | .st x d n v =>
  match v.av s with
  | none=>none
  | some a=>match Vn a n with
   | none=>none
   | some ys=>match Z7 s x with
    | .box cs=>if x=d then (X1 cs 0 ys).map fun cs'=>((.dead,[(d, .box cs')]),sc,[]) else none
    | .ptr d' off=>if d'=d then (match Z7 s d,sc with
     | .own k m cs, .l cs'::sc=>some ((.dead,[(d, .own k m cs')]),sc,[X1 cs off ys=some cs'])
     | .box cs,sc=>(X1 cs off ys).map fun cs'=>((.dead,[(d, .box cs')]),sc,[])
     | _,_=>none) else none
    | _=>none
 | .ixo x d i k =>
  match i.av s with
  | some (.int _ i)=>(match Z7 s x with
   | .val (.sl n cs)=>some ((.mem (cs.drop (i.toNat*k)),[]),sc,[0≤i∧i<n])
   | .dup d'=>if d'=d then (match Z7 s d with
    | .own k' n _=>if k'=k then some ((.ptr d (i.toNat*k),[]),sc,[0≤i∧i<n]) else none
    | _=>none) else none
   | _=>none)
  | _=>none
 | .mks z n =>
  match n.av s with
  | some (.int _ m)=>some ((.own z.length m.toNat (Qv z m.toNat),[]),sc,[0≤m∧m≤1048576])
  | _=>none
 | .apd ow x y k =>
  match y.av s with
  | some (.sl m ys)=>(match x.reg s,sc with
   | .val .nil,sc=>some ((if ow then .own k m ys else .val (.sl m ys),[]),sc,[ys.length=m*k,m≤1048576])
   | .own k' n cs,sc=>if k'=k then some ((if ow then .own k (n+m) (cs++ys) else .val (.sl (n+m) (cs++ys)),Pt x),sc,[ys.length=m*k,n+m≤1048576]) else none
   | _,_=>none)
  | _=>(evK (fun _ _=>none) s (.apd ow x y k)).map fun p=>(p,sc,[])
 | .sli x lo hi mx k =>
  match x.av s with
  | some (.sl n cs)=>(match Zuf s n mx,Zuf s n hi,Zuf s 0 lo with
   | some (m,p1),some (h,p2),some (l,p3)=>some ((.val (.sl (h-l) ((cs.drop (l*k)).take ((h-l)*k))),[]),sc,p1++(p2++(p3++[l≤h∧h≤m∧m≤n∧(mx.isSome→hi.isSome)])))
   | _,_,_=>none)
  | _=>(evK (fun _ _=>none) s (.sli x lo hi mx k)).map fun p=>(p,sc,[])
 | .clo f xs =>
  match avs s xs with
  | some vs=>(match tab T f vs with
   | some p=>some ((Fw p.1,[]),sc,p.2)
   | none=>(match sc with
    | .r r::sc=>some ((Fw r,[]),sc,[Zd prog f vs r])
    | _=>none))
  | none=>none
 | .cln f xs ls =>
  match avs s xs with
  | some vs=>if ls.all (fun t=>Vj (Z7 s t)) then (match tab T f vs with
   | some p=>some ((Fw p.1,[]),sc,p.2)
   | none=>(match sc with
    | .r r::sc=>some ((Fw r,[]),sc,[Zd prog f vs r])
    | _=>none)) else none
  | none=>none
 | .brw f x d =>
  match Z7 s x with
  | .dup d'=>if d'=d then (match Z7 s d with
   | .own _ n cs=>(match tab T f [.sl n cs] with
    | some p=>some ((.val (E6 p.1),[]),sc,[cs.all (fun c => !isI c)=true,Uv (E6 p.1)=true]++p.2)
    | none=>(match sc with
     | .r r::sc=>some ((.val (E6 r),[]),sc,[cs.all (fun c => !isI c)=true,Uv (E6 r)=true,Zd prog f [.sl n cs] r])
     | _=>none))
   | _=>none) else none
  | _=>none
 | .slo x hi k =>
  match hi.av s with
  | some (.int _ h)=>(match Z7 s x with
   | .own k' n cs=>if k'=k then some ((.own k h.toNat (cs.take (h.toNat*k)),[(x, .dead)]),sc,[0≤h∧h≤n]) else none
   | _=>none)
  | _=>none
 | .cal f x xs =>
  match x.av s,avs s xs with
  | some (.fnc f' cs),some vs=>if f'=f then (match tab T f (vs++[.pt cs]) with
   | some p=>some ((.val (E6 p.1),[]),sc,p.2)
   | none=>(match sc with
    | .r r::sc=>some ((.val (E6 r),[]),sc,[Zd prog f (vs++[.pt cs]) r])
    | _=>none)) else none
  | _,_=>none
 | k=>(evK (fun _ _=>none) s k).map fun p=>(p,sc,[])
theorem Zos {prog:Nat→Option IFunc} {T:Js} (hT:Qt prog T) {s:Zk} {m:Wx} (hm:m.Ok s) {k:K} {sc sc':List Sc} {p:Reg × List (Nat × Reg)} {ps:List Prop} (h:Em prog T s m k sc=some (p,sc',ps)) (hp:De ps):evK (lim prog) s k=some p:=by
 cases k
 case pick c a b =>
  simp only[Em] at h
  split at h
  ·rename_i hmo
   simp only[Option.map_eq_some_iff] at h
   obtain⟨v,hv,e⟩:=h
   cases e
   simp only[evK,Wx.opd_ok hm hmo,hv,Option.map_some]
  ·rename_i hmo
   simp only[Option.map_eq_some_iff] at h
   obtain⟨v,hv,e⟩:=h
   cases e
   simp only[evK,Wx.opd_ok hm hmo,hv,Option.map_some]
  split at h
  ·rename_i c' t sc1 hc
   simp only[Option.map_eq_some_iff] at h
   obtain⟨v,hv,e⟩:=h
   cases e
   have:c'=t:=hp.1
   subst this
   cases c' with
   | true=>simp only[evK,hc];simp only at hv;rw[hv];rfl
   | false=>simp only[evK,hc];simp only at hv;rw[hv];rfl
  ·cases h
 case bin op x y =>
  simp only[Em] at h
  split at h
  ·rename_i k1 a k2 b hx hy
   simp only[Option.map_eq_some_iff] at h
   obtain⟨⟨v,ps'⟩,hv,e⟩:=h
   cases e
   simp only[evK,hx,hy,Zo0 hv hp,Option.map_some]
  ·cases h
 case ixa x i k =>
  simp only[Em] at h
  split at h
  ·rename_i k1 iv n cs hi hx
   cases h
   simp only[evK,hi,hx,if_pos hp.1]
  ·cases h
 case ixb x i len k =>
  simp only[Em] at h
  split at h
  ·rename_i k1 iv cs hi hx
   cases h
   simp only[evK,hi,hx,if_pos hp.1]
  ·cases h
 case ld x d n one =>
  simp only[Em] at h
  split at h
  ·rename_i cs u sc1 hx
   cases h
   simp only[evK,hx,hp.1,Option.map_some]
  ·rename_i d' off hx
   split at h
   ·rename_i hd
    split at h
    ·rename_i k m cs u sc1 hr
     cases h
     simp only[evK,hx,if_pos hd,hr,hp.1,Option.map_some]
    ·rename_i cs hr
     simp only[Option.map_eq_some_iff] at h
     obtain⟨q,hq,e⟩:=h
     cases e
     simp only[evK,hx,if_pos hd,hr,hq,Option.map_some]
    ·cases h
   ·cases h
  ·simp only[Option.map_eq_some_iff] at h
   obtain⟨q,hq,e⟩:=h
   cases e
   exact hq
 case st x d n v =>
  simp only[Em] at h
  split at h
  ·cases h
  ·rename_i a ha
   split at h
   ·cases h
   ·rename_i ys hys
    simp only[evK,ha,hys]
    split at h
    ·rename_i cs hx
     rw[hx]
     dsimp only
     split at h
     ·rename_i hd
      simp only[Option.map_eq_some_iff] at h
      obtain⟨q,hq,e⟩:=h
      cases e
      simp only[if_pos hd,hq,Option.map_some]
     ·cases h
    ·rename_i d' off hx
     rw[hx]
     dsimp only
     split at h
     ·rename_i hd
      rw[if_pos hd]
      split at h
      ·rename_i k m cs cs' sc1 hr
       cases h
       simp only[hr,hp.1,Option.map_some]
      ·rename_i cs hr
       simp only[Option.map_eq_some_iff] at h
       obtain⟨q,hq,e⟩:=h
       cases e
       simp only[hr,hq,Option.map_some]
      ·cases h
     ·cases h
    ·cases h
 case ixo x d i k =>
  simp only[Em] at h
  split at h
  ·rename_i k1 iv hi
   split at h
   ·rename_i n cs hx
    cases h
    simp only[evK,hi,hx,if_pos hp.1]
   ·rename_i d' hx
    split at h
    ·rename_i hd
     split at h
     ·rename_i k' n cs hr
      split at h
      ·rename_i hk
       cases h
       simp only[evK,hi,hx,if_pos hd,hr,if_pos (show k'=k∧0≤iv∧iv<(n:Int) from ⟨hk,hp.1⟩)]
      ·cases h
     ·cases h
    ·cases h
   ·cases h
  ·cases h
 case mks z n =>
  simp only[Em] at h
  split at h
  ·rename_i k1 m hn
   cases h
   simp only[evK,hn,if_pos hp.1]
  ·cases h
 case apd ow x y k =>
  simp only[Em] at h
  split at h
  ·rename_i m ys hy
   split at h
   ·rename_i hx
    cases h
    simp only[evK,hy,if_pos hp.1,hx,if_pos hp.2.1]
   ·rename_i k' n cs hx
    split at h
    ·rename_i hk
     cases h
     simp only[evK,hy,if_pos hp.1,hx,if_pos (show k'=k∧n+m≤1048576 from ⟨hk,hp.2.1⟩)]
    ·cases h
   ·cases h
  ·simp only[Option.map_eq_some_iff] at h
   obtain⟨q,hq,e⟩:=h
   cases e
   exact hq
 case sli x lo hi mx k =>
  simp only[Em] at h
  split at h
  ·rename_i n cs hx
   split at h
   ·rename_i m1 p1 h1 p2 l1 p3 b1 b2 b3
    cases h
    rw[Xs,Xs,Xs] at hp
    simp only[evK,hx,Rc b1 hp.1,Rc b2 hp.2.1,Rc b3 hp.2.2.1,if_pos hp.2.2.2.1]
   ·cases h
  ·simp only[Option.map_eq_some_iff] at h
   obtain⟨q,hq,e⟩:=h
   cases e
   exact hq
 case six x i =>
  simp only[Em] at h
  split at h
  ·rename_i b k1 iv n sc1 hx hi
   cases h
   have:=hp.1
   simp only[Option.map_eq_some_iff] at this
   obtain⟨c,hc,rfl⟩:=this
   simp only[evK,hx,hi,hc,Option.map_some]
  ·cases h
 case call f xs =>
  simp only[Em] at h
  split at h
  ·rename_i vs hvs
   split at h
   ·rename_i q hv
    cases h
    simp only[evK,hvs,Ht (hT f vs q.1 q.2 hv hp),Option.map_some]
   ·split at h
    ·rename_i r sc1
     cases h
     simp only[evK,hvs,Ht hp.1,Option.map_some]
    ·cases h
  ·cases h
 case clo f xs =>
  simp only[Em] at h
  split at h
  ·rename_i vs hvs
   split at h
   ·rename_i q hv
    cases h
    simp only[evK,hvs,Ht (hT f vs q.1 q.2 hv hp),Option.map_some]
   ·split at h
    ·rename_i r sc1
     cases h
     simp only[evK,hvs,Ht hp.1,Option.map_some]
    ·cases h
  ·cases h
 case cln f xs ls =>
  simp only[Em] at h
  split at h
  ·rename_i vs hvs
   split at h
   ·rename_i hl
    split at h
    ·rename_i q hv
     cases h
     simp only[evK,hvs,if_pos hl,Ht (hT f vs q.1 q.2 hv hp),Option.map_some]
    ·split at h
     ·rename_i r sc1
      cases h
      simp only[evK,hvs,if_pos hl,Ht hp.1,Option.map_some]
     ·cases h
   ·cases h
  ·cases h
 case brw f x d =>
  simp only[Em] at h
  split at h
  ·rename_i d' hrx
   split at h
   ·rename_i hdd
    split at h
    ·rename_i k n cs hrd
     split at h
     ·rename_i q hv
      cases h
      have h1:=hp.1
      have h2:=hp.2.1
      have h3:=hp.2.2
      simp only[evK,hrx,hdd,hrd,if_true,h1,Ht (hT f _ q.1 q.2 hv h3),h2]
     ·split at h
      ·rename_i r sc1
       cases h
       have h1:=hp.1
       have h2:=hp.2.1
       simp only[evK,hrx,hdd,hrd,if_true,h1,Ht hp.2.2.1,h2]
      ·cases h
    ·cases h
   ·cases h
  ·cases h
 case slo x hi k =>
  simp only[Em] at h
  split at h
  ·rename_i k1 iv hi
   split at h
   ·rename_i k' n cs hx
    split at h
    ·rename_i hk
     cases h
     simp only[evK,hi,hx,if_pos (show k'=k∧0≤iv∧iv≤(n:Int) from ⟨hk,hp.1⟩)]
    ·cases h
   ·cases h
  ·cases h
 case cal f x xs =>
  simp only[Em] at h
  split at h
  ·rename_i f' cs vs hx hvs
   split at h
   ·rename_i hf
    split at h
    ·rename_i q hv
     cases h
     simp only[evK,hx,hvs,if_pos hf,Ht (hT f _ q.1 q.2 hv hp),Option.map_some]
    ·split at h
     ·rename_i r sc1
      cases h
      simp only[evK,hx,hvs,if_pos hf,Ht hp.1,Option.map_some]
     ·cases h
   ·cases h
  ·cases h
 all_goals
  simp only[Em,Option.map_eq_some_iff] at h
  obtain⟨q,hq,e⟩:=h
  cases e
  exact hq
def Zn6 (s:Zk) (m:Wx) (g:Option (Nat × Bool)) (sc:List Sc):R3 (Bool × Wx) :=
 match g with
 | none=>some ((true,m),sc,[])
 | some (t,b) =>
  match m.is t with
  | some x=>some ((x==b,m),sc,[])
  | none=>match Z7 s t,sc with
   | .val (.bool c), .b x::sc=>some ((x==b,some (t,x)),sc,[c=x])
   | .val .undef,sc=>some ((false,m),sc,[])
   | _,_=>none
theorem R6 {s:Zk} {m m':Wx} (hm:m.Ok s) {g:Option (Nat × Bool)} {sc sc':List Sc} {r:Bool} {ps:List Prop} (h:Zn6 s m g sc=some ((r,m'),sc',ps)) (hp:De ps):W2 s g=some r∧m'.Ok s:=by
 unfold Zn6 at h
 split at h
 ·cases h;exact⟨rfl,hm⟩
 ·rename_i t b
  split at h
  ·rename_i x hx
   cases h
   refine⟨?_,hm⟩
   have:=Wx.opd_ok hm (o := .t t) hx
   simp only[Opd.av,Opd.reg] at this
   simp only[W2]
   split at this
   ·rename_i y hy
    cases this
    rw[hy]
   ·cases this
  ·split at h
   ·rename_i c x sc1 hr
    cases h
    have:c=x:=hp.1
    subst this
    refine⟨by simp only[W2,hr],fun u y e => ?_⟩
    cases e
    exact hr
   ·rename_i hr
    cases h
    exact⟨by simp only[W2,hr],hm⟩
   ·cases h
def Wx.after (m:Wx) (wr:List Nat):Wx :=
 match m with
 | some (t,x)=>if wr.contains t then none else some (t,x)
 | none=>none
def Zec (prog:Nat→Option IFunc) (T:Js) (o:IOp) (s:Zk) (m:Wx) (sc:List Sc):R3 (Zk × Wx) :=
 match Zn6 s m o.g sc with
 | none=>none
 | some ((false,m),sc,ps)=>some ((Vz s o.dst (.val .undef),m.after o.wr),sc,ps)
 | some ((true,m),sc,ps)=>match Em prog T s m o.k sc with
  | none=>none
  | some ((r,l),sc,qs)=>some ((Vz (Q9 s l) o.dst r,m.after o.wr),sc,ps++qs)
def Zor (prog:Nat→Option IFunc) (T:Js) (o:IOp) (s:Zk) (m:Wx) (sc:List Sc):R3 (Zk × Wx):=Zec prog T o (kill s o.ks) (m.after o.ks) sc
theorem Wx.kill_ok {s:Zk} {m:Wx} (hm:m.Ok s) (ks:List Nat):(m.after ks).Ok (kill s ks):=by
 intro t x e
 unfold Wx.after at e
 split at e
 ·rename_i t' x'
  split at e
  ·cases e
  ·rename_i hn
   cases e
   rw[Xl,if_neg (by simpa using hn)]
   exact hm _ _ rfl
 ·cases e
theorem Wx.after_ok {F:Qg} {o:IOp} {s s':Zk} {m:Wx} (hm:m.Ok s) (h:Gw F o s=some s'):(m.after o.wr).Ok s':=by
 intro t x e
 unfold Wx.after at e
 split at e
 ·rename_i t' x'
  split at e
  ·cases e
  ·rename_i hn
   cases e
   rw[Tg] at h
   simp only[Option.map_eq_some_iff] at h
   obtain⟨l,hl,rfl⟩:=h
   have hk:=My hl
   rw[G9 (fun p hp e => ?_)]
   ·exact hm _ _ rfl
   ·subst e
    have:=hk p hp
    simp only[List.contains_eq_mem,this,decide_true,not_true_eq_false] at hn
 ·cases e
theorem Zeb {prog:Nat→Option IFunc} {T:Js} (hT:Qt prog T) {o:IOp} {s s':Zk} {m m':Wx} (hm:m.Ok s) {sc sc':List Sc} {ps:List Prop} (h:Zec prog T o s m sc=some ((s',m'),sc',ps)) (hp:De ps):Gw (lim prog) o s=some s'∧m'.Ok s':=by
 unfold Zec at h
 split at h
 ·cases h
 ·rename_i m1 sc1 ps1 hw
  cases h
  obtain⟨h1,h2⟩:=R6 hm hw hp
  have h3:Gw (lim prog) o s=some (Vz s o.dst (.val .undef)):=by simp only[Gw,h1]
  exact⟨h3,Wx.after_ok h2 h3⟩
 ·rename_i m1 sc1 ps1 hw
  split at h
  ·cases h
  ·rename_i r l sc2 qs hk
   cases h
   rw[Xs] at hp
   obtain⟨h1,h2⟩:=R6 hm hw hp.1
   have h3:Gw (lim prog) o s=some (Vz (Q9 s l) o.dst r):=by simp only[Gw,h1,Zos hT h2 hk hp.2]
   exact⟨h3,Wx.after_ok h2 h3⟩
theorem Zi8 {prog:Nat→Option IFunc} {T:Js} (hT:Qt prog T) {o:IOp} {s s':Zk} {m m':Wx} (hm:m.Ok s) {sc sc':List Sc} {ps:List Prop} (h:Zor prog T o s m sc=some ((s',m'),sc',ps)) (hp:De ps):Fo (lim prog) o s=some s'∧m'.Ok s' :=
 Zeb hT (Wx.kill_ok hm o.ks) h hp
def M0 (prog:Nat→Option IFunc) (T:Js):List IOp→Zk→Wx→List Sc→List Prop→R3 Zk
 | [],s,_,sc,ps=>some (s,sc,ps)
 | o::l,s,m,sc,ps=>match Zor prog T o s m sc with
  | none=>none
  | some ((s',m'),sc',qs)=>M0 prog T l s' m' sc' (ps++qs)
theorem Mz {prog:Nat→Option IFunc} {T:Js} (hT:Qt prog T):∀ {l:List IOp} {s s':Zk} {m:Wx} {sc sc':List Sc} {ps ps':List Prop},M0 prog T l s m sc ps=some (s',sc',ps')→De ps'→De ps∧(m.Ok s→Uh (lim prog) l s=some s')
 | [],s,s',m,sc,sc',ps,ps',h,hp=>by
  simp only[M0,Option.some.injEq,Prod.mk.injEq] at h
  obtain⟨rfl,_,rfl⟩:=h
  exact⟨hp,fun _=>rfl⟩
 | o::l,s,s',m,sc,sc',ps,ps',h,hp=>by
  simp only[M0] at h
  cases h1:Zor prog T o s m sc with
  | none=>rw[h1] at h;cases h
  | some q =>
   obtain⟨⟨s1,m1⟩,sc1,qs⟩:=q
   rw[h1] at h
   obtain⟨h2,h3⟩:=Mz hT h hp
   rw[Xs] at h2
   refine⟨h2.1,fun hm => ?_⟩
   obtain⟨h4,h5⟩:=Zi8 hT hm h1 h2.2
   simp only[Uh,h4]
   exact h3 h5
def En (prog:Nat→Option IFunc) (T:Js):Nat→ICode→Zk→List Sc→List Prop→R3 (Ex × Zk)
 | 0,_,_,_,_=>none
 | _+1, .skip,s,sc,ps=>some ((.norm,s),sc,ps)
 | _+1, .region _ ops,s,sc,ps=>match M0 prog T ops s none sc ps with
  | none=>none
  | some (s',sc',ps')=>some ((.norm,s'),sc',ps')
 | n+1, .seq a b,s,sc,ps=>match En prog T n a s sc ps with
  | none=>none
  | some ((.norm,s'),sc',ps')=>En prog T n b s' sc' ps'
  | some ((.exit i,s'),sc',ps')=>some ((.exit i,s'),sc',ps')
  | some ((.ret,s'),sc',ps')=>some ((.ret,s'),sc',ps')
 | n+1, .cond c a b,s,sc,ps=>match c.av s,sc with
  | some (.bool v), .b true::sc=>En prog T n a s sc (ps++[v=true])
  | some (.bool v), .b false::sc=>En prog T n b s sc (ps++[v=false])
  | _,_=>none
 | n+1, .block id c,s,sc,ps=>match En prog T n c s sc ps with
  | none=>none
  | some ((.exit i,s'),sc',ps')=>if i=id then some ((.norm,s'),sc',ps') else some ((.exit i,s'),sc',ps')
  | some ((.norm,s'),sc',ps')=>some ((.norm,s'),sc',ps')
  | some ((.ret,s'),sc',ps')=>some ((.ret,s'),sc',ps')
 | n+1, .loop c,s,sc,ps=>match En prog T n c s sc ps with
  | none=>none
  | some ((.norm,s'),sc',ps')=>En prog T n (.loop c) s' sc' ps'
  | some ((.exit i,s'),sc',ps')=>some ((.exit i,s'),sc',ps')
  | some ((.ret,s'),sc',ps')=>some ((.ret,s'),sc',ps')
 | _+1, .exit id,s,sc,ps=>some ((.exit id,s),sc,ps)
 | _+1, .ret,s,sc,ps=>some ((.ret,s),sc,ps)
theorem Zou {prog:Nat→Option IFunc} {T:Js} (hT:Qt prog T):∀ (n:Nat) {c:ICode} {s s':Zk} {ex:Ex} {sc sc':List Sc} {ps ps':List Prop},En prog T n c s sc ps=some ((ex,s'),sc',ps')→De ps'→De ps∧evC (lim prog) n c s=some (ex,s'):=by
 intro n
 induction n with
 | zero=>intro c s s' ex sc sc' ps ps' h;simp[En] at h
 | succ n ih =>
  intro c s s' ex sc sc' ps ps' h hp
  cases c with
  | skip=>simp only[En,Option.some.injEq,Prod.mk.injEq] at h;obtain⟨⟨rfl,rfl⟩,_,rfl⟩:=h;exact⟨hp,rfl⟩
  | region d ops =>
   simp only[En] at h
   split at h
   ·cases h
   ·rename_i s1 sc1 ps1 h1
    cases h
    obtain⟨h2,h3⟩:=Mz hT h1 hp
    have h4:=h3 (fun t x e=>(by cases e))
    exact⟨h2,by simp only[evC,h4,Option.map_some]⟩
  | seq a b =>
   simp only[En] at h
   split at h
   ·cases h
   ·rename_i s1 sc1 ps1 h1
    obtain⟨h2,h3⟩:=ih h hp
    obtain⟨h4,h5⟩:=ih h1 h2
    exact⟨h4,by simp only[evC,h5];exact h3⟩
   ·rename_i i s1 sc1 ps1 h1
    cases h
    obtain⟨h4,h5⟩:=ih h1 hp
    exact⟨h4,by simp only[evC,h5]⟩
   ·rename_i s1 sc1 ps1 h1
    cases h
    obtain⟨h4,h5⟩:=ih h1 hp
    exact⟨h4,by simp only[evC,h5]⟩
  | cond c a b =>
   simp only[En] at h
   split at h
   ·rename_i v sc1 hc
    obtain⟨h2,h3⟩:=ih h hp
    rw[Xs] at h2
    have hv:v=true:=h2.2.1
    exact⟨h2.1,by simp only[evC,Df,hc,hv];exact h3⟩
   ·rename_i v sc1 hc
    obtain⟨h2,h3⟩:=ih h hp
    rw[Xs] at h2
    have hv:v=false:=h2.2.1
    exact⟨h2.1,by simp only[evC,Df,hc,hv];exact h3⟩
   ·cases h
  | block id c =>
   simp only[En] at h
   split at h
   ·cases h
   ·rename_i i s1 sc1 ps1 h1
    split at h
    ·rename_i hi
     cases h
     obtain⟨h4,h5⟩:=ih h1 hp
     exact⟨h4,by simp only[evC,h5,if_pos hi]⟩
    ·rename_i hi
     cases h
     obtain⟨h4,h5⟩:=ih h1 hp
     exact⟨h4,by simp only[evC,h5,if_neg hi]⟩
   ·rename_i s1 sc1 ps1 h1
    cases h
    obtain⟨h4,h5⟩:=ih h1 hp
    exact⟨h4,by simp only[evC,h5]⟩
   ·rename_i s1 sc1 ps1 h1
    cases h
    obtain⟨h4,h5⟩:=ih h1 hp
    exact⟨h4,by simp only[evC,h5]⟩
  | loop c =>
   simp only[En] at h
   split at h
   ·cases h
   ·rename_i s1 sc1 ps1 h1
    obtain⟨h2,h3⟩:=ih h hp
    obtain⟨h4,h5⟩:=ih h1 h2
    exact⟨h4,by simp only[evC,h5];exact h3⟩
   ·rename_i i s1 sc1 ps1 h1
    cases h
    obtain⟨h4,h5⟩:=ih h1 hp
    exact⟨h4,by simp only[evC,h5]⟩
   ·rename_i s1 sc1 ps1 h1
    cases h
    obtain⟨h4,h5⟩:=ih h1 hp
    exact⟨h4,by simp only[evC,h5]⟩
  | exit id=>simp only[En,Option.some.injEq,Prod.mk.injEq] at h;obtain⟨⟨rfl,rfl⟩,_,rfl⟩:=h;exact⟨hp,rfl⟩
  | ret=>simp only[En,Option.some.injEq,Prod.mk.injEq] at h;obtain⟨⟨rfl,rfl⟩,_,rfl⟩:=h;exact⟨hp,rfl⟩
theorem Qu.script {prog:Nat→Option IFunc} {T:Js} (hT:Qt prog T) (n:Nat) {c:ICode} {s s':Zk} {ex:Ex} (sc:List Sc) {ps:List Prop}
  (h:En prog T n c s sc []=some ((ex,s'),[],ps)) (hp:De ps):Qu prog c s ex s':=M1 (Zdh prog) n (Zou hT n h hp).2
def evFS (prog:Nat→Option IFunc) (T:Js) (n:Nat) (fn:IFunc) (args:List AV) (sc:List Sc):Option (AV × List Prop) :=
 match En prog T n fn.body (H7 fn args) sc [] with
 | some ((.ret,s),[],ps)=>(Vv s fn.res).map fun r=>(r,ps)
 | some ((.norm,s),[],ps)=>(Vv s fn.res).map fun r=>(r,ps)
 | _=>none
theorem Zd.script {prog:Nat→Option IFunc} {T:Js} (hT:Qt prog T) {f:Nat} {fn:IFunc} (hf:prog f=some fn) (n:Nat) {args:List AV} (hl:args.length=fn.params) (sc:List Sc) {r:AV} {ps:List Prop}
  (h:evFS prog T n fn args sc=some (r,ps)) (hp:De ps):Zd prog f args r:=by
 unfold evFS at h
 split at h
 ·rename_i s ps1 h1
  simp only[Option.map_eq_some_iff] at h
  obtain⟨r',hr,e⟩:=h
  cases e
  exact Zd.of_body hf hl (Qu.script hT n sc h1 hp) (fun i=>(by intro e;cases e)) hr
 ·rename_i s ps1 h1
  simp only[Option.map_eq_some_iff] at h
  obtain⟨r',hr,e⟩:=h
  cases e
  exact Zd.of_body hf hl (Qu.script hT n sc h1 hp) (fun i=>(by intro e;cases e)) hr
 ·cases h
end Go.Ai
