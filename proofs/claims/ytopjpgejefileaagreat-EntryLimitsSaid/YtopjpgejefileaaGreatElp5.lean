/- Texts of the proof of EntryLimits, packed by pack.py: part 5 of 13. -/
import Derived.Test.YtopjpgejefileaaGreatElp4
namespace Go.Ai
open Go.IntKind (i64 u64 u32)
open Go.RowKit
def Wd (ops:Array Oper):Option (Nat × Bool)→Option (Nat × Bool)→Bool
 | none,none=>true
 | some (j,b),some (t,b')=>(ops[j]?).bind (·.dst)==some t&&b==b'
 | _,_=>false
def A3 (roots:List (Nat × Nat)) (io:IOp):Bool:=io.g.isNone || Qm roots io.ks io.dst
def oOk (P:Program) (roots:List (Nat × Nat)) (ops:Array Oper) (o:Oper) (io:IOp):Bool :=
 kOk P o.op io.k&&o.dst==io.dst&&Z0 roots io.ks io.dst io.k&&Wd ops o.guard io.g&&A3 roots io
section
variable {P:Program} {Y X0:Nat→Prop} {roots:List (Nat × Nat)} {w0 w:World} {s:Zg} {a:Act} {Q:Exit→Act→World→Prop}
theorem Wn (h:Rel Y X0 roots w0 s a w) {ops:Array Oper} {o:Oper} {g:Option (Nat × Bool)} {b:Bool} (hg:Wd ops o.guard g=true) (hw:Jk s g=some b):Region.wanted o (yielded ops a.tmps)=b:=by
 unfold Wd at hg
 split at hg
 ·rename_i h1
  simp only[Jk,Option.some.injEq] at hw
  subst hw
  simp[Region.wanted,h1]
 ·rename_i j b1 t b2 h1
  simp only[Bool.and_eq_true,beq_iff_eq] at hg
  obtain⟨h2,rfl⟩:=hg
  have h0:=h.reg t
  simp only[Jk] at hw
  simp only[Region.wanted,h1,yielded,h2,Option.bind_some]
  have hlt:∀ v,a.tmps.getD t Go.undef=v→v ≠ Go.undef→a.tmps[t]?=some v:=by
   intro v hv hne
   rw[Array.getD_eq_getD_getElem?] at hv
   cases hh:a.tmps[t]? with
   | none=>rw[hh] at hv;exact absurd hv.symm hne
   | some u=>rw[hh] at hv;simp at hv;rw[hv]
  cases hr:Zk s t with
  | val x =>
   rw[hr] at hw h0
   generalize hv:a.tmps.getD t Go.undef=v at h0
   cases h0 with
   | bool c =>
    dsimp only at hw
    rw[hlt _ hv (by intro e;cases e)]
    simp only[Option.some.injEq] at hw
    rw[← hw]
    cases c <;> cases b1 <;> rfl
   | undef =>
    dsimp only at hw
    simp only[Option.some.injEq] at hw
    rw[← hw]
    rw[Array.getD_eq_getD_getElem?] at hv
    cases hh:a.tmps[t]? with
    | none=>simp
    | some u=>rw[hh] at hv;simp at hv;rw[hv];simp[Go.undef]
   | int _ _=>cases hw
   | str _=>cases hw
   | agg _ _ _ _ _=>cases hw
   | tup _ _ _ _=>cases hw
   | nil=>cases hw
   | nil0=>cases hw
   | e0 _ _=>cases hw
   | sl _ _ _ _ _ _ _ _ _ _ _=>cases hw
   | pt _ _ _ _ _ _ _ _=>cases hw
   | fnc _ _ _ _=>cases hw
  | box _=>rw[hr] at hw;cases hw
  | ptr _ _=>rw[hr] at hw;cases hw
  | mem _=>rw[hr] at hw;cases hw
  | own _ _ _=>rw[hr] at hw;cases hw
  | agn _ _ _ _=>rw[hr] at hw;cases hw
  | bxl _=>rw[hr] at hw;cases hw
  | dup _=>rw[hr] at hw;cases hw
  | sub _ _ _ _=>rw[hr] at hw;cases hw
  | dead=>rw[hr] at hw;cases hw
 ·cases hg
theorem simOp {ops:Array Oper} {i:Nat} {o:Oper} {io:IOp} {F:Zl} {s':Zg} {K':Act→World→Prop} (h:Rel Y X0 roots w0 s a w) (hF:X1 P F) (hi:ops[i]?=some o) (ho:oOk P roots ops o io=true)
  (hev:Xs F io s=some s') (hK:∀ a' w',Rel Y X0 roots w0 s' a' w'→K' a' w'):wpOp P ops Q i K' a w:=by
 simp only[oOk,Bool.and_eq_true,beq_iff_eq] at ho
 obtain⟨⟨⟨⟨h1,h2⟩,h3⟩,h4⟩,h5⟩:=ho
 simp only[Xs,Xh] at hev
 have hkd:∀ t∈io.ks,Z5 (Zk (kill s io.ks) t)=false:=fun t ht=>by rw[Z1,if_pos ht];rfl
 have h:=h.kill io.ks
 generalize kill s io.ks=s at *
 simp only[wpOp,hi]
 split at hev
 ·cases hev
 ·rename_i hw
  cases hev
  rw[Wn h h4 hw]
  simp only[Bool.false_eq_true,if_false]
  rw[h2]
  refine hK _ _ (h.put ?_ .undef)
  simp only[A3,Bool.or_eq_true] at h5
  rcases h5 with h5 | h5
  ·cases hg:io.g with
   | none=>rw[hg] at hw;cases hw
   | some p=>rw[hg] at h5;cases h5
  ·exact Zf hkd h5
 ·rename_i hw
  rw[Wn h h4 hw]
  simp only[if_true]
  split at hev
  ·cases hev
  ·rename_i r l hk
   cases hev
   rw[← h2] at hK h3
   exact .inl (simK h hF h1 hkd h3 hk hK)
def Vf (P:Program) (roots:List (Nat × Nat)) (ops:Array Oper):List Oper→List IOp→Bool
 | [],[]=>true
 | o::l,io::m=>oOk P roots ops o io&&Vf P roots ops l m
 | _,_=>false
theorem Ui {ops:Array Oper}:∀ {l:List Oper} {m:List IOp},Vf P roots ops l m=true→l.length=m.length∧∀ (i:Nat) (o:Oper) (io:IOp),l[i]?=some o→m[i]?=some io→oOk P roots ops o io=true
 | [],[],_=>⟨rfl,fun i o io h=>(by simp at h)⟩
 | o::l,io::m,h=>by
  simp only[Vf,Bool.and_eq_true] at h
  obtain⟨e1,e2⟩:=Ui h.2
  refine⟨by simp[e1],fun i o' io' h1 h2 => ?_⟩
  cases i with
  | zero=>simp at h1 h2;subst h1 h2;exact h.1
  | succ i=>simp at h1 h2;exact e2 i o' io' h1 h2
 | [],_::_,h=>by cases h
 | _::_,[],h=>by cases h
theorem A4 {ops:Array Oper} {F:Zl} (hF:X1 P F):∀ {l:List Oper} {m:List IOp} {k:Nat} {s s':Zg} {a:Act} {w:World},(∀ j,l[j]?=ops[k+j]?)→Vf P roots ops l m=true→Rel Y X0 roots w0 s a w →
  Qb F m s=some s'→(∀ a' w',Rel Y X0 roots w0 s' a' w'→Q .normal a' w')→wpOps P ops Q (List.range' k l.length) a w
 | [],[],k,s,s',a,w,_,_,h,hev,hQ=>by
  simp only[Qb,Option.some.injEq] at hev
  subst hev
  exact hQ _ _ h
 | o::l,io::m,k,s,s',a,w,hl,hok,h,hev,hQ=>by
  simp only[Vf,Bool.and_eq_true] at hok
  simp only[Qb] at hev
  cases h1:Xs F io s with
  | none=>rw[h1] at hev;cases hev
  | some s1 =>
   rw[h1] at hev
   have hi:ops[k]?=some o:=by simpa using (hl 0).symm
   rw[List.length_cons,List.range'_succ,wpOps_cons]
   exact simOp h hF hi hok.1 h1 fun a' w' h'=>A4 hF (fun j=>by have:=hl (j+1);simpa [Nat.add_assoc,Nat.add_comm 1 j] using this) hok.2 h' hev hQ
 | [],_::_,_,_,_,_,_,_,hok,_,_,_=>by cases hok
 | _::_,[],_,_,_,_,_,_,hok,_,_,_=>by cases hok
def Jz (o:Oper):List Nat:=(o.after.toList.filter (Region.binds .any)).map (·.on)
def Vz:List Oper→List (List Nat)→List (List Nat)
 | [],acc=>acc
 | o::l,acc=>Vz l (acc++[((Jz o)++(Jz o).flatMap fun p=>acc.getD p []).eraseDups])
theorem Kc:∀ (l done:List Oper) (acc:List (List Nat)),acc.length=done.length →
  (∀ (i j:Nat),j∈acc.getD i []→∃ o,done[i]?=some o∧∃ p∈Jz o,j=p∨(p<i∧j∈acc.getD p [])) →
  ∀ (i j:Nat),j∈(Vz l acc).getD i []→∃ o,(done++l)[i]?=some o∧∃ p∈Jz o,j=p∨(p<i∧j∈(Vz l acc).getD p []):=by
 intro l
 induction l with
 | nil=>intro done acc _ h i j hj;simpa [Vz] using h i j hj
 | cons o l ih =>
  intro done acc hlen h i j hj
  simp only[Vz] at hj ⊢
  have:=ih (done++[o]) (acc++[((Jz o)++(Jz o).flatMap fun p=>acc.getD p []).eraseDups]) (by simp[hlen]) (fun i j hj => ?_) i j hj
  ·simpa using this
  ·have lt_of:∀ (q x:Nat),x∈acc.getD q []→q<acc.length:=by
    intro q x hx
    rcases Nat.lt_or_ge q acc.length with h1 | h1
    ·exact h1
    ·rw[List.getD_eq_getElem?_getD,List.getElem?_eq_none h1] at hx;cases hx
   have keep:∀ (q x:Nat),x∈acc.getD q []→x∈(acc++[((Jz o)++(Jz o).flatMap fun p=>acc.getD p []).eraseDups]).getD q []:=by
    intro q x hx
    rw[List.getD_eq_getElem?_getD,List.getElem?_append_left (lt_of q x hx),← List.getD_eq_getElem?_getD]
    exact hx
   rcases Nat.lt_or_ge i acc.length with h1 | h1
   ·rw[List.getD_eq_getElem?_getD,List.getElem?_append_left h1,← List.getD_eq_getElem?_getD] at hj
    obtain⟨o',e1,p,hp,e2⟩:=h i j hj
    refine⟨o',by rw[List.getElem?_append_left (by omega)];exact e1,p,hp,?_⟩
    rcases e2 with e2 | ⟨e2,e3⟩
    ·exact .inl e2
    ·exact .inr ⟨e2,keep p j e3⟩
   ·have hi:i=acc.length:=by
     rcases Nat.lt_or_ge acc.length i with h2 | h2
     ·rw[List.getD_eq_getElem?_getD,List.getElem?_eq_none (by simp;omega)] at hj;cases hj
     ·omega
    subst hi
    rw[List.getD_eq_getElem?_getD,List.getElem?_append_right (Nat.le_refl _)] at hj
    simp only[Nat.sub_self,List.getElem?_cons_zero,Option.getD_some,List.mem_eraseDups,List.mem_append,List.mem_flatMap] at hj
    refine⟨o,by rw[hlen,List.getElem?_append_right (Nat.le_refl _)];simp,?_⟩
    rcases hj with hj | ⟨p,hp,hj⟩
    ·exact⟨j,hj, .inl rfl⟩
    ·exact⟨p,hp, .inr ⟨lt_of p j hj,keep p j hj⟩⟩
def Kv (anc:List (List Nat)) (io:List IOp):Bool :=
 io.zipIdx.all fun (b,i)=>(io.take i).zipIdx.all fun (a,j)=>Wc a b || (anc.getD i []).contains j
def A9 (ops:List Oper):Bool:=ops.zipIdx.all fun (o,i)=>(Jz o).all fun p=>decide (p<i)
def Vw (ops:Array Oper) (io:List IOp):Bool:=A9 ops.toList&&Kv (Vz ops.toList []) io
theorem Wj {ops:Array Oper} {io:List IOp} (h:Vw ops io=true) :
  (∀ (i:Nat) (o:Oper),ops[i]?=some o→∀ p∈Jz o,p<i) ∧
  ∀ (i j:Nat) (a b:IOp),j<i→io[j]?=some a→io[i]?=some b→Wc a b=true∨j∈(Vz ops.toList []).getD i []:=by
 simp only[Vw,Bool.and_eq_true] at h
 constructor
 ·intro i o ho p hp
  have h1:=h.1
  simp only[A9,List.all_eq_true,Prod.forall] at h1
  have:=h1 o i (by rw[List.mem_zipIdx_iff_getElem?];simpa using ho) p hp
  simpa using this
 ·intro i j x b hji hj hi
  have h1:=h.2
  simp only[Kv,List.all_eq_true,Prod.forall] at h1
  have h2:=h1 b i (by rw[List.mem_zipIdx_iff_getElem?];simpa using hi)
  have:=h2 x j (by rw[List.mem_zipIdx_iff_getElem?,List.getElem?_take_of_lt hji];simpa using hj)
  simpa using this
end
end Go.Ai

namespace Go.Ai
open Go.IntKind (i64 u64 u32)
open Go.RowKit
section
variable {P:Program} {Y X0:Nat→Prop} {roots:List (Nat × Nat)} {w0:World} {Q:Exit→Act→World→Prop}
def Qd (n:Nat) (listed:Array Bool):List Nat:=(List.range n).filter fun i => !listed.getD i true
theorem Q3 {n i:Nat} {listed:Array Bool}:i∈Qd n listed↔i<n∧listed.getD i true=false:=by
 simp[Qd]
theorem Ul (listed:Array Bool) (i j:Nat) (d:Bool):(listed.setIfInBounds i true).getD j d=if i=j∧i<listed.size then true else listed.getD j d:=by
 simp only[Array.getD_eq_getD_getElem?,Array.getElem?_setIfInBounds]
 by_cases h:i=j
 ·subst h
  by_cases h2:i<listed.size <;> simp[h2]
 ·simp[h]
theorem Vp {l:List Nat} (hs:l.Pairwise (·<·)) {i:Nat} (hi:i∈l):∃ pre post,l=pre++i::post∧(∀ j∈pre,j<i)∧l.filter (fun j=>decide (j ≠ i))=pre++post:=by
 induction l with
 | nil=>cases hi
 | cons k l ih =>
  rw[List.pairwise_cons] at hs
  by_cases hk:k=i
  ·subst hk
   refine⟨[],l,rfl,fun j hj=>(by cases hj),?_⟩
   simp only[List.nil_append]
   rw[List.filter_cons_of_neg (by simp)]
   refine List.filter_eq_self.2 fun j hj => ?_
   have:=hs.1 j hj
   simp
   omega
  ·have hi':i∈l:=by
    cases hi with
    | head=>exact absurd rfl hk
    | tail _ h=>exact h
   obtain⟨pre,post,e1,e2,e3⟩:=ih hs.2 hi'
   refine⟨k::pre,post,by rw[e1];rfl,fun j hj => ?_,?_⟩
   ·cases hj with
    | head=>exact hs.1 i hi'
    | tail _ h=>exact e2 j h
   ·rw[List.filter_cons_of_pos (by simp[hk]),e3];rfl
theorem Xc (n:Nat) (listed:Array Bool):(Qd n listed).Pairwise (·<·):=List.Pairwise.filter _ List.pairwise_lt_range
theorem U2 {n i:Nat} {listed:Array Bool} (hi:i<listed.size):Qd n (listed.setIfInBounds i true)=(Qd n listed).filter fun j=>decide (j ≠ i):=by
 unfold Qd
 rw[List.filter_filter]
 apply List.filter_congr
 intro j _
 rw[Ul]
 by_cases h:i=j
 ·subst h;simp[hi]
 ·have h':¬ j=i:=fun e=>h e.symm
  simp[h,h']
def Gs (io:List IOp) (i:Nat):IOp:=io.getD i ⟨none, .mov (.c .undef),none,[]⟩
def Eb (ops:Array Oper) (listed:Array Bool):Prop:=∀ (i:Nat) (o:Oper),ops[i]?=some o→listed.getD i false=true→∀ p∈Jz o,listed.getD p false=true
theorem Kb {ops:Array Oper} {listed:Array Bool} (hc:Eb ops listed):∀ (i:Nat) (o:Oper),ops[i]?=some o→(∀ p∈Jz o,listed.getD p false=true)→∀ j∈(Vz ops.toList []).getD i [],listed.getD j false=true:=by
 intro i
 induction i using Nat.strongRecOn with
 | _ i ih =>
  intro o ho hp j hj
  obtain⟨o',e1,p,hpp,e2⟩:=Kc ops.toList [] [] rfl (fun i j h=>(by simp at h)) i j hj
  simp only[List.nil_append,Array.getElem?_toList] at e1
  rw[ho] at e1
  cases e1
  rcases e2 with rfl | ⟨hlt,e3⟩
  ·exact hp _ hpp
  ·have hl:=hp p hpp
   have hps:p<ops.size:=by
    have:=(Array.getElem?_eq_some_iff.1 ho).1
    omega
   exact ih p hlt ops[p] (by simp[hps]) (hc p ops[p] (by simp[hps]) hl) j e3
theorem simAny {ops:Array Oper} {io:List IOp} {F:Zl} {sf:Zg} (hF:X1 P F) (hok:Vf P roots ops ops.toList io=true) (hdr:Vw ops io=true) (hQ:∀ a' w',Rel Y X0 roots w0 sf a' w'→Q .normal a' w') :
  ∀ (fuel:Nat) (listed:Array Bool) (s:Zg) (a:Act) (w:World),listed.size=ops.size→Eb ops listed→(Qd ops.size listed).length≤fuel→Rel Y X0 roots w0 s a w →
   Qb F ((Qd ops.size listed).map (Gs io)) s=some sf→wpAny P .any ops Q fuel listed a w:=by
 obtain⟨hback,hpairs⟩:=Wj hdr
 obtain⟨hlen,hget⟩:=Ui hok
 have hlen':io.length=ops.size:=by simpa using hlen.symm
 -- nobody may come up: all have
 have stop:∀ (listed:Array Bool),listed.size=ops.size→Region.ready .any ops listed=[]→Qd ops.size listed=[]:=by
  intro listed hsz hr
  cases hop:Qd ops.size listed with
  | nil=>rfl
  | cons i rest =>
   exfalso
   have hi:=Q3.1 (hop ▸ List.mem_cons_self:i∈Qd ops.size listed)
   have hs:=Xc ops.size listed
   rw[hop,List.pairwise_cons] at hs
   have hready:i∈Region.ready .any ops listed:=by
    rw[mem_ready]
    refine⟨hi.2,ops[i],by simp[hi.1],fun e he hb => ?_⟩
    have hp:e.on∈Jz ops[i]:=by
     simp only[Jz,List.mem_map,List.mem_filter]
     exact⟨e,⟨by simpa using he,hb⟩,rfl⟩
    have hlt:=hback i ops[i] (by simp[hi.1]) e.on hp
    cases hh:listed.getD e.on true with
    | false =>
     have:e.on∈Qd ops.size listed:=Q3.2 ⟨by omega,hh⟩
     rw[hop] at this
     cases this with
     | head=>omega
     | tail _ h=>have:=hs.1 _ h;omega
    | true =>
     have hsz':e.on<listed.size:=by omega
     simp only[Array.getD_eq_getD_getElem?,Array.getElem?_eq_getElem hsz',Option.getD_some] at hh ⊢
     exact hh
   rw[hr] at hready
   cases hready
 intro fuel
 induction fuel with
 | zero =>
  intro listed s a w hsz hc hl h hev
  have h0:Qd ops.size listed=[]:=List.eq_nil_of_length_eq_zero (by omega)
  rw[h0] at hev
  simp only[List.map_nil,Qb,Option.some.injEq] at hev
  subst hev
  refine⟨?_,hQ _ _ h⟩
  cases hr:Region.ready .any ops listed with
  | nil=>rfl
  | cons i rest =>
   have hi:i∈Region.ready .any ops listed:=by rw[hr];exact List.mem_cons_self
   rw[mem_ready] at hi
   obtain⟨h1,o,h2,_⟩:=hi
   have:i∈Qd ops.size listed:=Q3.2 ⟨(Array.getElem?_eq_some_iff.1 h2).1,h1⟩
   rw[h0] at this
   cases this
 | succ fuel ih =>
  intro listed s a w hsz hc hl h hev
  refine⟨fun hr => ?_,fun i hi => ?_⟩
  ·rw[stop listed hsz hr] at hev
   simp only[List.map_nil,Qb,Option.some.injEq] at hev
   subst hev
   exact hQ _ _ h
  ·rw[mem_ready] at hi
   obtain⟨h1,o,h2,h3⟩:=hi
   have hin:i<ops.size:=(Array.getElem?_eq_some_iff.1 h2).1
   have hmem:i∈Qd ops.size listed:=Q3.2 ⟨hin,h1⟩
   obtain⟨pre,post,e1,e2,e3⟩:=Vp (Xc _ _) hmem
   have hpr:∀ p∈Jz o,listed.getD p false=true:=by
    intro p hp
    simp only[Jz,List.mem_map,List.mem_filter] at hp
    obtain⟨e,⟨he,hb⟩,rfl⟩:=hp
    exact h3 e (by simpa using he) hb
   have hioi:io[i]?=some (Gs io i):=by
    simp only[Gs,List.getD_eq_getElem?_getD,List.getElem?_eq_getElem (hlen' ▸ hin),Option.getD_some]
   have hind:∀ q∈pre.map (Gs io),Wc q (Gs io i)=true:=by
    intro q hq
    rw[List.mem_map] at hq
    obtain⟨j,hj,rfl⟩:=hq
    have hjlt:=e2 j hj
    have hjop:j∈Qd ops.size listed:=by rw[e1];exact List.mem_append_left _ hj
    have hj2:=Q3.1 hjop
    have hioj:io[j]?=some (Gs io j):=by
     simp only[Gs,List.getD_eq_getElem?_getD,List.getElem?_eq_getElem (hlen' ▸ hj2.1),Option.getD_some]
    rcases hpairs i j _ _ hjlt hioj hioi with hh | hh
    ·exact hh
    ·have hlj:=Kb hc i o h2 hpr j hh
     have hsz':j<listed.size:=by omega
     simp only[Array.getD_eq_getD_getElem?,Array.getElem?_eq_getElem hsz',Option.getD_some] at hlj hj2
     rw[hlj] at hj2
     cases hj2.2
   rw[e1,List.map_append,List.map_cons] at hev
   obtain⟨s1,hs1,hs2⟩:=Wg hind hev
   rw[← List.map_append,← e3,← U2 (by omega)] at hs2
   refine simOp h hF h2 (hget i o _ (by simpa using h2) hioi) hs1 fun a' w' h' => ?_
   refine ih (listed.setIfInBounds i true) s1 a' w' (by simpa using hsz) ?_ ?_ h' hs2
   ·intro k ok hk hkl p hp
    rw[Ul] at hkl
    rw[Ul]
    split
    ·rfl
    ·split at hkl
     ·rename_i hik
      obtain⟨rfl,_⟩:=hik
      rw[h2] at hk
      cases hk
      exact hpr p hp
     ·exact hc k ok hk hkl p hp
   ·rw[U2 (by omega),e3]
    rw[e1] at hl
    simp at hl ⊢
    omega
theorem Gf {ops:Array Oper} {io:List IOp} {F:Zl} {s sf:Zg} {a:Act} {w:World} {id:Nat} (hm:P.follows .mixedOrders=true) (hF:X1 P F) (hok:Vf P roots ops ops.toList io=true) (hdr:Vw ops io=true)
  (h:Rel Y X0 roots w0 s a w) (hev:Qb F io s=some sf) (hQ:∀ a' w',Rel Y X0 roots w0 sf a' w'→Q .normal a' w'):(Code.region id ops true).wp P Q a w:=by
 have hlen:=(Ui hok).1
 refine wp_region_any hm ?_
 have hall:Qd ops.size (Array.replicate ops.size false)=List.range ops.size:=by
  unfold Qd
  refine List.filter_eq_self.2 fun i hi => ?_
  have:i<ops.size:=by simpa using hi
  simp[Array.getD_eq_getD_getElem?,this]
 refine simAny hF hok hdr hQ ops.size _ s a _ (by simp) ?_ (by rw[hall];simp) ⟨h.dfr,h.size,⟨h.below.os,h.below.tape,h.below.output,h.below.size,h.below.block⟩,h.low,h.lowY,fun t=>Jj.world (h.reg t) ⟨rfl,rfl,rfl,Nat.le_refl _,fun _ _=>rfl⟩,h.inj⟩ ?_
 ·intro i o ho hl
  have hi:=(Array.getElem?_eq_some_iff.1 ho).1
  simp[Array.getD_eq_getD_getElem?,hi] at hl
 ·rw[hall]
  have:(List.range ops.size).map (Gs io)=io:=by
   apply List.ext_getElem?
   intro i
   have hl':io.length=ops.size:=by simpa using hlen.symm
   by_cases hi:i<ops.size
   ·simp[hi,Gs,List.getD_eq_getElem?_getD,List.getElem?_eq_getElem (hl' ▸ hi)]
   ·rw[List.getElem?_eq_none (by simp;omega),List.getElem?_eq_none (by omega)]
  rw[this]
  exact hev
theorem Ge {ops:Array Oper} {io:List IOp} {F:Zl} {s sf:Zg} {a:Act} {w:World} {id:Nat} (hF:X1 P F) (hok:Vf P roots ops ops.toList io=true)
  (h:Rel Y X0 roots w0 s a w) (hev:Qb F io s=some sf) (hQ:∀ a' w',Rel Y X0 roots w0 sf a' w'→Q .normal a' w'):(Code.region id ops false).wp P Q a w:=by
 refine wp_region ?_
 have:=A4 (Q:=Q) hF (k:=0) (fun j=>by simp) hok h hev hQ
 rw[List.range_eq_range']
 simpa using this
end
end Go.Ai
