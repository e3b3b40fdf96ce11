/- Texts of the proof of SturmAdds, packed by pack.py: part 7 of 15. -/
import Derived.Test.YthnnfemologhfaaSad6
namespace Go.Ai
open Go.IntKind (i64 u64 u32)
abbrev Rn:=Bool × List Int
def Zt (r:Rn):Int:=rv r.1 r.2
def cn (n:Int):Rn:=(decide (n<0),Zb n.natAbs)
def pc (rs:List Rn):List AV:=rs.flatMap fun r=>[.bool r.1, .sl r.2.length (lm r.2)]
def Zj (rs:List Rn):List Int:=rs.map Zt
def pk (ps:List Int):List AV:=pc (ps.map cn)
def z0:Rn:=(false,[])
def Xj (K:Nat) (r:Rn):Prop:=U32 r.2∧r.2.length≤K
def Z8 (r:Rn):AV := .agg [.bool r.1, .sl r.2.length (lm r.2)]
theorem Qe (n:Int):Zt (cn n)=n:=Hp n
theorem Zl7:Zt z0=0:=rfl
theorem Qu (ps:List Int):Zj (ps.map cn)=ps:=by
 unfold Zj
 rw[List.map_map]
 have:(Zt ∘ cn)=id:=funext Qe
 rw[this,List.map_id]
theorem Jy {k:Nat} {n:Int} (h:Je k n):Xj k (cn n):=⟨Jt _,h.len⟩
theorem Zcq (k:Nat):Xj k z0:=⟨fun x hx=>(by cases hx),Nat.zero_le _⟩
theorem Xj.mono {j k:Nat} {r:Rn} (h:Xj j r) (hk:j≤k):Xj k r:=⟨h.1,Nat.le_trans h.2 hk⟩
theorem Xj.fits {k:Nat} {r:Rn} (h:Xj k r):Je k (Zt r):=(M6 h.1).mono h.2
theorem Np (rs:List Rn):(pc rs).length=rs.length*2:=by
 induction rs with
 | nil=>rfl
 | cons r rs ih=>simp only[pc,List.flatMap_cons,List.length_append,List.length_cons,List.length_nil] at ih ⊢;omega
theorem Gq (r:Rn) (rs:List Rn):pc (r::rs) = .bool r.1 :: .sl r.2.length (lm r.2)::pc rs:=rfl
theorem Hu (rs ss:List Rn):pc (rs++ss)=pc rs++pc ss:=by simp [pc]
theorem Ei:∀ (i:Nat) (rs:List Rn),(pc rs).drop (i*2)=pc (rs.drop i)
 | 0,rs=>by simp
 | i+1,[]=>by simp[pc]
 | i+1,r::rs=>by
  rw[Gq,Nat.add_mul,Nat.one_mul]
  show (pc rs).drop (i*2)=_
  rw[Ei i rs];rfl
theorem Zbq:∀ (i:Nat) (rs:List Rn),(pc rs).take (i*2)=pc (rs.take i)
 | 0,rs=>by simp[pc]
 | i+1,[]=>by simp[pc]
 | i+1,r::rs=>by
  rw[Gq,Nat.add_mul,Nat.one_mul]
  show _::_::(pc rs).take (i*2)=_
  rw[Zbq i rs];rfl
theorem Dl {rs:List Rn} {i:Nat} (h:i<rs.length):Zx (List.drop (i*2) (pc rs)) 0 2 false=some (Z8 (rs.getD i z0)):=by
 rw[Ei,List.drop_eq_getElem_cons h,Gq]
 simp[Zx,Z8,List.getD_eq_getElem?_getD,List.getElem?_eq_getElem h]
theorem own_pc {rs:List Rn} {i:Nat} (h:i<rs.length):Zx (pc rs) (i*2) 2 false=some (Z8 (rs.getD i z0)):=by
 have h1:=Dl h
 have hl:=Np rs
 simp only[Zx,Bool.false_eq_true,if_false,Nat.zero_add,List.drop_zero,List.length_drop] at h1 ⊢
 rw[if_pos (by omega)] at h1
 rw[if_pos (by omega)]
 exact h1
theorem Zcc {rs:List Rn} {i:Nat} {r:Rn} (h:i<rs.length):X4 (pc rs) (i*2) [.bool r.1, .sl r.2.length (lm r.2)]=some (pc (rs.set i r)):=by
 have hl:=Np rs
 simp only[X4,List.length_cons,List.length_nil]
 rw[if_pos (by omega)]
 congr 1
 have hs:rs.set i r=rs.take i++r::rs.drop (i+1):=by rw[List.set_eq_take_append_cons_drop,if_pos h]
 rw[hs,Hu,Gq,Zbq]
 have:(pc rs).drop (i*2+(0+1+1))=pc (rs.drop (i+1)):=by rw[← Ei];congr 1;omega
 simp only[Nat.zero_add] at this
 rw[this]
 simp
theorem M8 (n:Nat):Qy [.bool false, .sl 0 []] n=pc (List.replicate n z0):=by
 induction n with
 | zero=>rfl
 | succ n ih=>rw[List.replicate_succ,Gq,← ih];rfl
theorem Zlf (rs:List Rn):List.all (pc rs) (fun c => !isI c)=true:=by
 rw[List.all_eq_true]
 intro c hc
 simp only[pc,List.mem_flatMap,List.mem_cons,List.not_mem_nil,or_false] at hc
 obtain⟨r,_,rfl | rfl⟩:=hc <;> rfl
theorem Zml (xs:List Int):List.all (lm xs) isI=true:=by
 rw[List.all_eq_true]
 intro c hc
 simp only[lm,List.mem_map] at hc
 obtain⟨x,_,rfl⟩:=hc
 rfl
theorem Fe (n:Int):Un (Zp n)=true:=by
 simp only[Zp,Un,List.all_cons,H3,Zml,List.all_nil,Bool.and_self]
theorem Z0 (rs:List Rn):(Zj rs).length=rs.length:=by simp [Zj]
theorem Jg (rs:List Rn) (i:Nat):(Zj rs).getD i 0=Zt (rs.getD i z0):=by
 simp only[Zj,List.getD_eq_getElem?_getD,List.getElem?_map]
 cases rs[i]? <;> rfl
theorem Ql {K:Nat} {rs:List Rn} (h:∀ r∈rs,Xj K r) (i:Nat):Xj K (rs.getD i z0):=by
 rw[List.getD_eq_getElem?_getD]
 cases e:rs[i]? with
 | none=>exact Zcq K
 | some r=>exact h r (List.mem_of_getElem? e)
theorem Ry {k:Nat} {ps:List Int} (h:∀ x∈ps,Je k x):∀ r∈ps.map cn,Xj k r:=fun r hr=>by
 obtain⟨x,hx,rfl⟩:=List.mem_map.1 hr
 exact Jy (h x hx)
theorem Xg {k:Nat} {rs:List Rn} (h:∀ r∈rs,Xj k r):∀ x∈Zj rs,Je k x:=fun x hx=>by
 obtain⟨r,hr,rfl⟩:=List.mem_map.1 hx
 exact (h r hr).fits
theorem Px {xs ys:List Int} (h:∀ i,xs.getD i 0=ys.getD i 0):∀ n,Zs xs n=Zs ys n:=by
 intro n
 induction n with
 | zero=>rfl
 | succ n ih=>simp only[Zs,h n,ih]
theorem E9 (xs:List Int):∀ d,Zs xs (xs.length+d)=Zs xs xs.length:=by
 intro d
 induction d with
 | zero=>rfl
 | succ d ih =>
  rw[← Nat.add_assoc]
  simp only[Zs]
  rw[Qt (by omega),if_pos rfl,ih]
theorem Jc (xs:List Int) (i:Nat):(Zh xs).getD i 0=xs.getD i 0:=by
 unfold Zh
 rcases Nat.lt_or_ge i (Zs xs xs.length) with h | h
 ·simp only[List.getD_eq_getElem?_getD,List.getElem?_take,if_pos h]
 ·have e:(xs.take (Zs xs xs.length)).getD i 0=0:=Qt (by simp;omega)
  rw[e]
  rcases Nat.lt_or_ge i xs.length with h2 | h2
  ·exact (Dd xs xs.length i h h2).symm
  ·exact (Qt h2).symm
theorem Kc {xs ys:List Int} (hl:xs.length=ys.length) (h:∀ i,xs.getD i 0=ys.getD i 0):xs=ys:=by
 apply List.ext_getElem hl
 intro i h1 h2
 have:=h i
 simpa [List.getD_eq_getElem?_getD,List.getElem?_eq_getElem h1,List.getElem?_eq_getElem h2] using this
theorem Hm {xs ys:List Int} (h:∀ i,xs.getD i 0=ys.getD i 0):Zh xs=Zh ys:=by
 have hlen:(Zh xs).length=(Zh ys).length:=by
  have h1:∀ zs:List Int,(Zh zs).length=Zs zs zs.length:=fun zs=>by have:=V3 zs zs.length;simp[Zh];omega
  rw[h1,h1]
  rcases Nat.le_total xs.length ys.length with g | g
  ·have:=E9 xs (ys.length-xs.length)
   rw[show xs.length+(ys.length-xs.length)=ys.length by omega] at this
   rw[← this,Px h]
  ·have:=E9 ys (xs.length-ys.length)
   rw[show ys.length+(xs.length-ys.length)=xs.length by omega] at this
   rw[← this,Px h]
 refine Kc hlen fun i => ?_
 rw[Jc,Jc,h i]
theorem Ue (xs:List Int):(Zh xs).length=Zs xs xs.length:=by have:=V3 xs xs.length;simp [Zh];omega
theorem Rk {xs:List Int} {x:Int} (h:x∈Zh xs):x∈xs:=List.mem_of_mem_take h
theorem Dc (xs:List Int):Zh (Zh xs)=Zh xs:=Hm (Jc xs)
def Zc:List Int→Int→Int
 | [],_=>0
 | p::ps,x=>p+x*Zc ps x
theorem Ae {xs:List Int} (h:∀ i,xs.getD i 0=0) (x:Int):Zc xs x=0:=by
 induction xs with
 | nil=>rfl
 | cons p ps ih =>
  have h0:=h 0
  simp at h0
  have:=ih (fun i=>by simpa using h (i+1))
  simp[Zc,h0,this]
theorem Us:∀ {xs ys:List Int},(∀ i,xs.getD i 0=ys.getD i 0)→∀ x,Zc xs x=Zc ys x
 | [],ys,h,x=>(Ae (fun i=>(h i).symm) x).symm
 | p::ps,[],h,x=>Ae (fun i=>h i) x
 | p::ps,q::qs,h,x=>by
  have h0:=h 0
  simp at h0
  simp only[Zc,h0]
  rw[Us (fun i=>by simpa using h (i+1)) x]
theorem W9 (xs:List Int) (x:Int):Zc (Zh xs) x=Zc xs x:=Us (Jc xs) x
def U8 (g:Nat→Rn) (i r:Nat):List Rn:=(List.range i).map g++List.replicate r z0
theorem H4 (g:Nat→Rn) (i r:Nat):(U8 g i r).length=i+r:=by simp [U8]
theorem Be (g:Nat→Rn) (r:Nat):U8 g 0 r=List.replicate r z0:=by simp [U8]
theorem Bf (g:Nat→Rn) (i:Nat):U8 g i 0=(List.range i).map g:=by simp [U8]
theorem Aq (g:Nat→Rn) (i r:Nat):(U8 g i (r+1)).set i (g i)=U8 g (i+1) r:=by
 unfold U8
 rw[List.set_append_right _ _ (by simp),List.range_succ,List.map_append,List.replicate_succ]
 simp
theorem Si (g:Nat→Rn) (n i:Nat):(Zj ((List.range n).map g)).getD i 0=if i<n then Zt (g i) else 0:=by
 rw[Jg,List.getD_eq_getElem?_getD]
 by_cases h:i<n
 ·simp[h]
 ·simp[h,Zl7]
theorem Ed (xs:List Int):(List.range xs.length).map (fun i=>cn (xs.getD i 0))=xs.map cn:=by
 apply List.ext_getElem (by simp)
 intro i h1 h2
 have h3:i<xs.length:=by simpa using h2
 simp[List.getD_eq_getElem?_getD,List.getElem?_eq_getElem h3]
theorem Vz (k:Nat):Je k 0:=by unfold Je;simp;exact Nat.pow_pos (by decide)
theorem Nt {k:Nat} {xs:List Int} (h:∀ x∈xs,Je k x) (i:Nat):Je k (xs.getD i 0):=by
 rw[List.getD_eq_getElem?_getD]
 cases e:xs[i]? with
 | none=>exact Vz k
 | some x=>exact h x (List.mem_of_getElem? e)
def G8 (ps qs:List Int):List Int:=Zh ((List.range (max ps.length qs.length)).map fun i=>ps.getD i 0+qs.getD i 0)
def Xs (ps:List Int):List Int:=ps.map fun x => -x
theorem Xf (ps qs:List Int) (i:Nat):(G8 ps qs).getD i 0=ps.getD i 0+qs.getD i 0:=by
 unfold G8
 rw[Jc,List.getD_eq_getElem?_getD]
 by_cases h:i<max ps.length qs.length
 ·simp[h]
 ·have h1:ps.length≤i:=by omega
  have h2:qs.length≤i:=by omega
  rw[Qt h1,Qt h2]
  simp[h]
theorem Vy (ps:List Int) (i:Nat):(Xs ps).getD i 0 = -(ps.getD i 0):=by
 unfold Xs
 simp only[List.getD_eq_getElem?_getD,List.getElem?_map]
 cases ps[i]? <;> simp
theorem Zbt (ps qs:List Int):Zh (G8 ps qs)=G8 ps qs:=Dc _
theorem Gn (xs:List Int) (x:Int):Zc xs x=xs.getD 0 0+x*Zc (xs.drop 1) x:=by
 cases xs <;> simp[Zc]
theorem B0:∀ (n:Nat) (us bs cs:List Int),us.length≤n→bs.length≤n→cs.length≤n→(∀ i,cs.getD i 0=us.getD i 0+bs.getD i 0)→∀ x,Zc cs x=Zc us x+Zc bs x:=by
 intro n
 induction n with
 | zero =>
  intro us bs cs h1 h2 h3 _ x
  rw[List.eq_nil_of_length_eq_zero (by omega:us.length=0),List.eq_nil_of_length_eq_zero (by omega:bs.length=0),List.eq_nil_of_length_eq_zero (by omega:cs.length=0)]
  rfl
 | succ n ih =>
  intro us bs cs h1 h2 h3 h x
  rw[Gn us,Gn bs,Gn cs,h 0,ih (us.drop 1) (bs.drop 1) (cs.drop 1) (by simp;omega) (by simp;omega) (by simp;omega) (fun i=>by
   have:=h (i+1)
   simpa [List.getD_eq_getElem?_getD,Nat.add_comm] using this) x]
  rw[Int.mul_add]
  omega
theorem Qi (ps qs:List Int) (x:Int):Zc (G8 ps qs) x=Zc ps x+Zc qs x :=
 B0 (max (max ps.length qs.length) (G8 ps qs).length) ps qs _ (by omega) (by omega) (by omega) (Xf ps qs) x
theorem Vq (ps:List Int) (x:Int):Zc (Xs ps) x = -Zc ps x:=by
 induction ps with
 | nil=>rfl
 | cons p ps ih =>
  have:Xs (p::ps) = -p::Xs ps:=rfl
  rw[this]
  simp only[Zc,ih]
  rw[Int.mul_neg]
  omega
def vp (rs : List Rn) : Reg := .val (.sl rs.length (pc rs))
def bR (r : Rn) : Reg := .box [.bool r.1, .sl r.2.length (lm r.2)]
def bN (n : Int) : Reg := .box [.bool (decide (n < 0)), .sl ((Zb (Int.natAbs n)).length) (lm (Zb (Int.natAbs n)))]
end Go.Ai

namespace Go.Ai
open Go.IntKind (i64 u64 u32)
section
variable {prog:Nat→Option IFunc}
theorem Qn.cond_t {c:Opd} {a b:ICode} {s t:Zi} {ex:Ex} (h:c.av s=some (.bool true)) (h1:Qn prog a s ex t):Qn prog (.cond c a b) s ex t:=by
 obtain⟨n,h1⟩:=h1
 refine⟨n+1,?_⟩
 have e1:=U9 (X9 prog (show n≤n+1 by omega)) (Nat.le_refl n) h1
 simp only[evC,Fo,h,e1]
theorem Qn.cond_f {c:Opd} {a b:ICode} {s t:Zi} {ex:Ex} (h:c.av s=some (.bool false)) (h1:Qn prog b s ex t):Qn prog (.cond c a b) s ex t:=by
 obtain⟨n,h1⟩:=h1
 refine⟨n+1,?_⟩
 have e1:=U9 (X9 prog (show n≤n+1 by omega)) (Nat.le_refl n) h1
 simp only[evC,Fo,h,e1]
theorem Za.cond_t {c:Opd} {a b:ICode} {s t:Zi} {ex:Ex} {x:Bool} (h:c.av s=some (.bool x)) (hx:x=true) (h1:Za prog a s ex t):Za prog (.cond c a b) s ex t:=by
 subst hx
 obtain⟨u,k1,k2⟩:=h1
 exact⟨u,Qn.cond_t h k1,k2⟩
theorem Za.cond_f {c:Opd} {a b:ICode} {s t:Zi} {ex:Ex} {x:Bool} (h:c.av s=some (.bool x)) (hx:x=false) (h1:Za prog b s ex t):Za prog (.cond c a b) s ex t:=by
 subst hx
 obtain⟨u,k1,k2⟩:=h1
 exact⟨u,Qn.cond_f h k1,k2⟩
theorem Za.block_out {id:Nat} {c:ICode} {s t:Zi} {i:Nat} (h:Za prog c s (.exit i) t) (hi:i ≠ id):Za prog (.block id c) s (.exit i) t:=by
 obtain⟨u,k1,k2⟩:=h
 exact⟨u,Qn.block_out k1 hi,k2⟩
theorem Za.up {c:ICode} {ex:Ex} {fin:Zi} (st:Nat→Zi) (n:Nat) (hex:ex ≠ .norm) (step:∀ i,i<n→Za prog c (st i) .norm (st (i+1))) (out:Za prog c (st n) ex fin):∀ i,i≤n→Za prog (.loop c) (st i) ex fin:=by
 have key:∀ r i,i+r=n→Za prog (.loop c) (st i) ex fin:=by
  intro r
  induction r with
  | zero =>
   intro i hi
   have:i=n:=by omega
   subst this
   exact Za.loop_out out hex
  | succ r ih =>
   intro i hi
   exact Za.loop (step i (by omega)) (ih (i+1) (by omega))
 intro i hi
 exact key (n-i) i (by omega)
theorem Za.to {c:ICode} {ex:Ex} {s t s' t':Zi} (h:Za prog c s ex t) (hs:s=s') (ht:t=t'):Za prog c s' ex t':=hs ▸ ht ▸ h
end
theorem Uj {X:Int} {n:Nat} (h:0≤X∧X<(n:Int)):Int.toNat X<n:=by omega
theorem Xr {xs:List Int} {X:Int} (h:0≤X∧X<(xs.length:Int)):Zx (List.drop (Int.toNat X*1) (lm xs)) 0 1 true=some (.int .u32 (xs.getD (Int.toNat X) 0)):=J6 (Uj h)
theorem Rm (ws:List Int) (l h:Nat):List.take ((h-l)*1) (List.drop (l*1) (lm ws))=lm ((ws.drop l).take (h-l)):=by
 simp[lm,List.map_take,List.map_drop]
theorem B9 {ws:List Int} {l h m:Nat} {X:Int} {a b:Bool} (hx:0≤X∧X<((h-l:Nat):Int)) (hl:l≤h∧h≤m∧m≤ws.length∧(a=true→b=true)):Zx (List.drop (Int.toNat X*1) (List.take ((h-l)*1) (List.drop (l*1) (lm ws)))) 0 1 true=some (.int .u32 (((ws.drop l).take (h-l)).getD (Int.toNat X) 0)):=by
 rw[Rm];exact J6 (by have:=Uj hx;simp;omega)
theorem Jk {xs:List Int} {n:Nat} (hl:xs.length=n) {X:Int} (h:0≤X∧X<(n:Int)):Zx (lm xs) (Int.toNat X*1) 1 true=some (.int .u32 (xs.getD (Int.toNat X) 0)):=Zbv (hl ▸ Uj h)
theorem J8 {xs:List Int} {n:Nat} (hl:xs.length=n) {X:Int} (h:0≤X∧X<(n:Int)) {v:Int}:X4 (lm xs) (Int.toNat X*1) [.int .u32 v]=some (lm (xs.set (Int.toNat X) v)):=Hf (hl ▸ Uj h)
theorem Xc {rs:List Rn} {X:Int} (h:0≤X∧X<(rs.length:Int)):Zx (List.drop (Int.toNat X*2) (pc rs)) 0 2 false=some (Z8 (rs.getD (Int.toNat X) z0)):=Dl (Uj h)
theorem Vk {rs:List Rn} {n:Nat} (hl:rs.length=n) {X:Int} (h:0≤X∧X<(n:Int)):Zx (pc rs) (Int.toNat X*2) 2 false=some (Z8 (rs.getD (Int.toNat X) z0)):=own_pc (hl ▸ Uj h)
theorem Wv {rs:List Rn} {n:Nat} (hl:rs.length=n) {X:Int} (h:0≤X∧X<(n:Int)) {r:Rn}:X4 (pc rs) (Int.toNat X*2) [.bool r.1, .sl r.2.length (lm r.2)]=some (pc (rs.set (Int.toNat X) r)):=Zcc (hl ▸ Uj h)
theorem N3 {rs:List Rn} {i:Nat} (h:i<rs.length):List.drop (i*2) (pc rs) = .bool (rs.getD i z0).1 :: .sl (rs.getD i z0).2.length (lm (rs.getD i z0).2)::pc (rs.drop (i+1)):=by
 rw[Ei,List.drop_eq_getElem_cons h,Gq]
 simp[List.getD_eq_getElem?_getD,List.getElem?_eq_getElem h]
theorem Py {rs:List Rn} {X:Int} (h:0≤X∧X<(rs.length:Int)):Zx (List.drop 1 (List.drop (Int.toNat X*2) (pc rs))) 0 1 true=some (.sl (rs.getD (Int.toNat X) z0).2.length (lm (rs.getD (Int.toNat X) z0).2)):=by
 rw[N3 (Uj h)];rfl
def li (xs:List Int):List AV:=xs.map (AV.int .i64)
theorem li_get {xs:List Int} {i:Nat} (h:i<xs.length):(li xs)[i]?=some (.int .i64 (xs.getD i 0)):=by
 simp[li,List.getElem?_map,List.getElem?_eq_getElem h,List.getD_eq_getElem?_getD]
theorem Pz {xs:List Int} {X:Int} (h:0≤X∧X<(xs.length:Int)):Zx (List.drop (Int.toNat X*1) (li xs)) 0 1 true=some (.int .i64 (xs.getD (Int.toNat X) 0)):=by
 simp only[Zx,if_true,Nat.mul_one,List.getElem?_drop,Nat.add_zero]
 exact li_get (Uj h)
def pp (ps:List (List Rn)):List AV:=ps.map fun rs => .sl rs.length (pc rs)
theorem pp_get {ps:List (List Rn)} {i:Nat} (h:i<ps.length):(pp ps)[i]?=some (.sl (ps.getD i []).length (pc (ps.getD i []))):=by
 simp[pp,List.getElem?_map,List.getElem?_eq_getElem h,List.getD_eq_getElem?_getD]
theorem V4 {ps:List (List Rn)} {X:Int} (h:0≤X∧X<(ps.length:Int)):Zx (List.drop (Int.toNat X*1) (pp ps)) 0 1 true=some (.sl (ps.getD (Int.toNat X) []).length (pc (ps.getD (Int.toNat X) []))):=by
 simp only[Zx,if_true,Nat.mul_one,List.getElem?_drop,Nat.add_zero]
 exact pp_get (Uj h)
end Go.Ai

namespace Go.Ai
open Go.IntKind (i64 u64 u32)
theorem Zbp (xs:List Int) (i:Nat) (v x:Int) (h:i<xs.length):Zc (xs.set i v) x=Zc xs x+x^i*(v-xs.getD i 0):=by
 induction xs generalizing i with
 | nil=>simp at h
 | cons p ps ih =>
  cases i with
  | zero=>simp only[List.set_cons_zero,Zc,Int.pow_zero,List.getD_cons_zero];omega
  | succ i =>
   simp only[List.set_cons_succ,Zc,List.getD_cons_succ]
   rw[ih i (by simpa using h),Int.pow_succ]
   generalize x^i=q
   generalize Zc ps x=y
   generalize ps.getD i 0=z
   grind
theorem Lf (n:Nat) (x:Int):Zc (List.replicate n 0) x=0:=by
 induction n with
 | zero=>rfl
 | succ n ih=>simp[List.replicate_succ,Zc,ih]
theorem pzero:∀ (d:List Int) (b:Int),(∀ x,b≤x→Zc d x=0)→∀ i,d.getD i 0=0
 | [],_,_,i=>by simp
 | c::d,b,h,i=>by
  have hc:c=0:=by
   have h1:=h (max b (c.natAbs+1)) (by omega)
   simp only[Zc] at h1
   have h2:(max b ((c.natAbs:Int)+1))∣c:=⟨-(Zc d (max b ((c.natAbs:Int)+1))),by rw[Int.mul_neg];omega⟩
   rcases Int.lt_trichotomy c 0 with g | g | g
   ·have:=Int.le_of_dvd (a:=max b ((c.natAbs:Int)+1)) (b := -c) (by omega) ((Int.dvd_neg).2 h2)
    omega
   ·exact g
   ·have:=Int.le_of_dvd (a:=max b ((c.natAbs:Int)+1)) (b:=c) (by omega) h2
    omega
  cases i with
  | zero=>simpa using hc
  | succ i =>
   have:=pzero d (max b 1) (fun x hx=>by
    have h1:=h x (by omega)
    simp only[Zc,hc,Int.zero_add] at h1
    rcases Int.mul_eq_zero.1 h1 with g | g
    ·omega
    ·exact g) i
   simpa using this
theorem X1 {p q:List Int} (h:∀ x,Zc p x=Zc q x) (i:Nat):p.getD i 0=q.getD i 0:=by
 have:=pzero (G8 p (Xs q)) 0 (fun x _=>by rw[Qi,Vq,h x];omega) i
 rw[Xf,Vy] at this
 omega
theorem Vr {p q:List Int} (h:∀ x,Zc p x=Zc q x):Zh p=Zh q:=Hm (X1 h)
def Zgw (p q:List Int):List Int:=G8 p (Xs q)
theorem Ug (p q:List Int) (x:Int):Zc (Zgw p q) x=Zc p x-Zc q x:=by rw [Zgw,Qi,Vq];omega
theorem Zcr (p q:List Int) (i:Nat):(Zgw p q).getD i 0=p.getD i 0-q.getD i 0:=by rw [Zgw,Xf,Vy];omega
def Zu (a:Int) (q:List Int):List Int:=q.map fun x=>a*x
theorem Zn (a:Int) (q:List Int) (x:Int):Zc (Zu a q) x=a*Zc q x:=by
 induction q with
 | nil=>simp[Zu,Zc]
 | cons c q ih =>
  have:Zu a (c::q)=a*c::Zu a q:=rfl
  rw[this]
  simp only[Zc,ih]
  generalize Zc q x=y
  grind
theorem Z4 (a:Int) (q:List Int) (i:Nat):(Zu a q).getD i 0=a*q.getD i 0:=by
 unfold Zu
 simp only[List.getD_eq_getElem?_getD,List.getElem?_map]
 cases q[i]? <;> simp
def Xp:List Int→List Int→List Int
 | [],_=>[]
 | a::p,q=>G8 (Zu a q) (0::Xp p q)
theorem Z1 (p q:List Int) (x:Int):Zc (Xp p q) x=Zc p x*Zc q x:=by
 induction p with
 | nil=>simp[Xp,Zc]
 | cons a p ih =>
  simp only[Xp,Qi,Zn,Zc,ih]
  generalize Zc q x=y
  generalize Zc p x=z
  grind
theorem Nl (p q:List Int):Zh (Xp p q)=Xp p q:=by
 cases p with
 | nil=>rfl
 | cons a p=>exact Zbt _ _
theorem En {k:Nat} {p:List Int} (hp:∀ x∈p,Je k x):∀ x∈Zh p,Je k x:=fun x hx=>hp x (Rk hx)
theorem Zg2 (p q:List Int):(G8 p q).length≤max p.length q.length:=by
 have:=Qz ((List.range (max p.length q.length)).map fun i=>p.getD i 0+q.getD i 0)
 simpa [G8] using this
theorem Jv (p:List Int):(Xs p).length=p.length:=by simp [Xs]
def hv:List Int→Int→Int→Int
 | [],_,_=>0
 | t::ts,x,d=>t*d^ts.length+x*hv ts x d
end Go.Ai

namespace Go.Proofs.Ythnnfemologhfaa
open Go.IntKind (i64 u64 u32)
open Go.Ai
set_option maxRecDepth 100000
theorem Zdr (neg:Bool) (xs:List Int) (c1:((((Zh xs).length:Nat):Int)==0)=true) (n1:Ze Yir 125 [.sl xs.length (lm xs)] (.fresh 1 ((Zh xs).length) (lm (Zh xs)))):Ze Yir 81 [.agg [.bool neg, .sl xs.length (lm xs)]] (.int .i64 0):=Ze.go (fn:=Zqw) W4 rfl 400 rfl [.r (.fresh 1 ((Zh xs).length) (lm (Zh xs))), .b true] (ac n1 (ac c1 a0))
theorem Zdq (neg:Bool) (xs:List Int) (c1:((((Zh xs).length:Nat):Int)==0)=false) (c2:(neg)=true) (n1:Ze Yir 125 [.sl xs.length (lm xs)] (.fresh 1 ((Zh xs).length) (lm (Zh xs)))):Ze Yir 81 [.agg [.bool neg, .sl xs.length (lm xs)]] (.int .i64 (-1)):=Ze.go (fn:=Zqw) W4 rfl 400 rfl [.r (.fresh 1 ((Zh xs).length) (lm (Zh xs))), .b false, .b true] (ac n1 (ac c1 (ac c2 a0)))
theorem Zdp (neg:Bool) (xs:List Int) (c1:((((Zh xs).length:Nat):Int)==0)=false) (c2:(neg)=false) (n1:Ze Yir 125 [.sl xs.length (lm xs)] (.fresh 1 ((Zh xs).length) (lm (Zh xs)))):Ze Yir 81 [.agg [.bool neg, .sl xs.length (lm xs)]] (.int .i64 1):=Ze.go (fn:=Zqw) W4 rfl 400 rfl [.r (.fresh 1 ((Zh xs).length) (lm (Zh xs))), .b false, .b false] (ac n1 (ac c1 (ac c2 a0)))
theorem Yrun93 (neg:Bool) (xs:List Int) (v:Int) (n1:Ze Yir 106 [.bool neg, .sl xs.length (lm xs)] (E4 v)):Ze Yir 93 [.agg [.bool neg, .sl xs.length (lm xs)]] (Zp v):=Ze.go (fn:=Yi93) W4 rfl 400 rfl [.r (E4 v)] (ac n1 a0)
theorem Zb7 (xs:List Int) (v:Int):lm xs++([.int .u32 v]:List AV)=lm (xs++[v]):=by simp [lm]
theorem Pt {xs:List Int} (h:U32 xs) {v:Int} (hv:0≤v∧v<4294967296):U32 (xs++[v]):=by
 intro x hx
 rcases List.mem_append.1 hx with g | g
 ·exact h x g
 ·rw[List.mem_singleton.1 g];exact hv
theorem E7 (xs:List Int) (v:Int):Zo (xs++[v])=Zo xs+4294967296^xs.length*v:=by rw [Ud];simp [Zo]
theorem sr32 {s:Int}:Int.fdiv s (2^(min (Int.toNat 32) (IntKind.bits .u64)))=s / 4294967296:=by
 show Int.fdiv s 4294967296=_
 rw[Int.fdiv_eq_ediv_of_nonneg _ (by omega)]
theorem Zb1 {neg:Bool} {xs:List Int} (hu:U32 xs) (hN:xs.length≤1048576):Ze Yir 106 [.bool neg, .sl xs.length (lm xs)] (E4 (rv neg xs)):=D2 hu hN
theorem Dq {neg:Bool} {xs:List Int} (hu:U32 xs) (hN:xs.length≤1048576):Ze Yir 81 [.agg [.bool neg, .sl xs.length (lm xs)]] (.int .i64 (Vc (rv neg xs))):=by
 have hm:=Ws hN
 have hz:(Zh xs).length=0↔Zo xs=0:=by
  have:=Z3 hu
  rw[A9 hu,Jq];omega
 have hv:=Z3 hu
 by_cases h0:Zo xs=0
 ·have h:=Zdr neg xs (by rw[beq_iff_eq];omega) hm
  have e:Vc (rv neg xs)=0:=by unfold rv;rw[h0];cases neg <;> rfl
  rw[e];exact h
 ·cases neg with
  | true =>
   have h:=Zdq true xs (by rw[beq_eq_false_iff_ne];omega) rfl hm
   have e:Vc (rv true xs) = -1:=by simp only[rv,if_true,Vc]; (repeat' split) <;> omega
   rw[e];exact h
  | false =>
   have h:=Zdp false xs (by rw[beq_eq_false_iff_ne];omega) rfl hm
   have e:Vc (rv false xs)=1:=by simp only[rv,Bool.false_eq_true,if_false,Vc]; (repeat' split) <;> omega
   rw[e];exact h
theorem Za5 {neg:Bool} {xs:List Int} (hu:U32 xs) (hN:xs.length≤1048576):Ze Yir 93 [.agg [.bool neg, .sl xs.length (lm xs)]] (Zp (rv neg xs)):=Yrun93 neg xs _ (Zb1 hu hN)
theorem Zga {xs:List Int} (h:U32 xs):U32 (Zh xs):=(V1 h).1
def TBD:Ji:=TBC
theorem Xt:Qh Yir TBD:=W4
end Go.Proofs.Ythnnfemologhfaa

namespace Go.Proofs.Ythnnfemologhfaa
open Go.IntKind (i64 u64 u32)
open Go.Ai
theorem or64 {q c:Int} {s:Nat} (hq:0≤q) (hs:q*2^s<18446744073709551616) (hs':s≤64) (hc:0≤c∧c<2^s) :
  u64.wrap ((BitVec.ofInt (IntKind.bits .u64) (q*2^s) ||| BitVec.ofInt (IntKind.bits .u64) c).toNat)=q*2^s+c:=by
 obtain⟨a,rfl⟩:∃ a:Nat,q=a:=⟨q.toNat,by omega⟩
 obtain⟨b,rfl⟩:∃ b:Nat,c=b:=⟨c.toNat,by omega⟩
 have e1:(a:Int)*2^s=((a*2^s:Nat):Int):=by rw[Int.natCast_mul,Int.natCast_pow];rfl
 have hb:b<2^s:=by
  have:(b:Int)<((2^s:Nat):Int):=by rw[Int.natCast_pow];exact hc.2
  omega
 have h64:2^s≤2^64:=Nat.pow_le_pow_right (by decide) hs'
 have e64:2^64=18446744073709551616:=by decide
 rw[e1] at hs ⊢
 show u64.wrap ((BitVec.ofInt 64 ((a*2^s:Nat):Int) ||| BitVec.ofInt 64 (b:Int)).toNat:Int)=_
 rw[BitVec.toNat_or,BitVec.ofInt_natCast,BitVec.ofInt_natCast,BitVec.toNat_ofNat,BitVec.toNat_ofNat,Nat.mod_eq_of_lt (by omega),Nat.mod_eq_of_lt (by omega),Nat.mul_comm a,← Nat.two_pow_add_eq_or_of_lt hb,Nat.mul_comm (2^s) a,Jm]
 have hsum:a*2^s+b<18446744073709551616:=by
  have hd:a*2^s+2^s≤2^64:=by
   have hk:2^64=2^(64-s)*2^s:=by rw[← Nat.pow_add];congr 1;omega
   have h1:a<2^(64-s):=by
    rcases Nat.lt_or_ge a (2^(64-s)) with g | g
    ·exact g
    ·have:=Nat.mul_le_mul_right (2^s) g
     omega
   have h2:=Nat.mul_le_mul_right (2^s) (show a+1≤2^(64-s) by omega)
   rw[Nat.add_mul,Nat.one_mul] at h2
   omega
  omega
 omega
theorem Ju (n:Nat):(0:Int)<2^n:=Int.pow_pos (by decide)
theorem K9 {a b:Nat} (h:a≤b):(2:Int)^a≤2^b:=by
 have h1:2^a≤2^b:=Nat.pow_le_pow_right (by decide) h
 have e:∀ n:Nat,(2:Int)^n=((2^n:Nat):Int):=fun n=>by rw[Int.natCast_pow];rfl
 rw[e,e]
 omega
theorem Hs (n:Nat):(4294967296:Int)^n=2^(32*n):=by
 rw[Int.pow_mul];rfl
theorem Ad (n:Nat):(2:Int)^n=4294967296^(n / 32)*2^(n % 32):=by
 rw[Hs,← Int.pow_add,Nat.div_add_mod]
end Go.Proofs.Ythnnfemologhfaa

namespace Go.Proofs.Ythnnfemologhfaa
open Go.IntKind (i64 u64 u32)
open Go.Ai
set_option maxRecDepth 100000
def Mm (neg:Bool) (xs:List Int) (n:Nat) (cs:List AV) (c:Int) (s:Int) (ms:List Int) (i:Int):Zi:=(dds 2 (.box [.bool neg, .sl xs.length (lm xs)]::(dds 1 (.box [.bool false, .sl 0 []]::(.own 1 n cs::(.val (.int .u32 c)::(.val (.int .u64 s)::(.val (.sl ms.length (lm ms))::(.val (.int .i64 i)::(dds 41 []))))))))))
theorem Zox (neg:Bool) (xs:List Int) (n:Nat) (cs:List AV) (c:Int) (s:Int) (ms:List Int) (i:Int)  (c1:(decide (i<(ms.length:Int)))=true) (n1:0≤i∧i<(ms.length:Int)) (n2:¬ s<0) (n3:n+1≤1048576):Za Yir Zfc (Mm neg xs n cs c s ms i) .norm (Mm neg xs (n+1) (cs++([.int .u32 (u32.wrap (u64.wrap ((BitVec.ofInt (IntKind.bits .u64) (u64.wrap ((u64.wrap (ms.getD (Int.toNat i) 0))*2^(min (Int.toNat s) (IntKind.bits .u64)))) ||| BitVec.ofInt (IntKind.bits .u64) (u64.wrap c)).toNat)))]:List AV)) (u32.wrap (Int.fdiv (u64.wrap ((BitVec.ofInt (IntKind.bits .u64) (u64.wrap ((u64.wrap (ms.getD (Int.toNat i) 0))*2^(min (Int.toNat s) (IntKind.bits .u64)))) ||| BitVec.ofInt (IntKind.bits .u64) (u64.wrap c)).toNat)) (2^(min (Int.toNat 32) (IntKind.bits .u64))))) s ms (i64.wrap (i+1))):=(Za.go Xt 400 [.b true, .v (.int .u32 (ms.getD (Int.toNat i) 0))] [2,4,5,6,7,8,9] (ac c1 (ac n1 (ac (Xr n1) (ac n2 (ac (show List.length ([.int .u32 (u32.wrap (u64.wrap ((BitVec.ofInt (IntKind.bits .u64) (u64.wrap ((u64.wrap (ms.getD (Int.toNat i) 0))*2^(min (Int.toNat s) (IntKind.bits .u64)))) ||| BitVec.ofInt (IntKind.bits .u64) (u64.wrap c)).toNat)))]:List AV)=1*1 from rfl) (ac n3 (ac (show ¬ (32:Int)<0 from (by decide)) a0))))))))
theorem Zow (neg:Bool) (xs:List Int) (n:Nat) (cs:List AV) (c:Int) (s:Int) (ms:List Int) (i:Int)  (c1:(decide (i<(ms.length:Int)))=false):Za Yir Zfc (Mm neg xs n cs c s ms i) (.exit 0) (Mm neg xs n cs c s ms i):=(Za.go Xt 400 [.b false] [2,4,5,6,7,8,9] (ac c1 a0))
theorem Znc (neg:Bool) (xs:List Int) (sh:Int) (n:Nat) (cs:List AV) (c i v:Int) (n1:0≤(i64.wrap (Int.tdiv sh 32))∧(i64.wrap (Int.tdiv sh 32))≤1048576) (n2:Ze Yir 125 [.sl xs.length (lm xs)] (.fresh 1 ((Zh xs).length) (lm (Zh xs)))) (hl3:Za Yir (.loop Zfc) (Mm neg xs (Int.toNat (i64.wrap (Int.tdiv sh 32))) (Qy [.int .u32 0] (Int.toNat (i64.wrap (Int.tdiv sh 32)))) 0 (u64.wrap (Int.tmod sh 32)) (Zh xs) 0) (.exit 0) (Mm neg xs n cs c (u64.wrap (Int.tmod sh 32)) (Zh xs) i)) (n4:n+1≤1048576) (n5:Ze Yir 106 [.bool neg, .sl (n+1) (cs++([.int .u32 c]:List AV))] (E4 v)):Ze Yir 126 [.agg [.bool neg, .sl xs.length (lm xs)], .int .i64 sh] (E4 v):=Ze.of_bodyW (fn:=Zey) (s:=(dds 4 (.bxl 50::(dds 45 (.agn (decide (v<0)) 1 ((Zb (Int.natAbs v)).length) (lm (Zb (Int.natAbs v)))::[]))))) (ex := .ret) rfl rfl (Za.seq (Za.go (t:=(.val (.agg [.bool neg, .sl xs.length (lm xs)])::(vi sh::(.box [.bool neg, .sl xs.length (lm xs)]::(dds 1 (.box [.bool false, .sl 0 []]::(dds 46 []))))))) Xt 400 [] [0,1,2,4] a0) (Za.seq (Za.go (t:=(.val (.agg [.bool neg, .sl xs.length (lm xs)])::(vi sh::(.box [.bool neg, .sl xs.length (lm xs)]::(dds 1 (.box [.bool false, .sl 0 []]::(.own 1 (Int.toNat (i64.wrap (Int.tdiv sh 32))) (Qy [.int .u32 0] (Int.toNat (i64.wrap (Int.tdiv sh 32))))::(dds 45 [])))))))) Xt 400 [] [0,1,2,4,5] (ac (show ¬ (32:Int)=0 from (by decide)) (ac n1 a0))) (Za.seq (Za.go (t:=(.val (.agg [.bool neg, .sl xs.length (lm xs)])::(vi sh::(.box [.bool neg, .sl xs.length (lm xs)]::(dds 1 (.box [.bool false, .sl 0 []]::(.own 1 (Int.toNat (i64.wrap (Int.tdiv sh 32))) (Qy [.int .u32 0] (Int.toNat (i64.wrap (Int.tdiv sh 32))))::(.val (.int .u32 0)::(dds 44 []))))))))) Xt 400 [] [0,1,2,4,5,6] a0) (Za.seq (Za.go (t:=(.val (.agg [.bool neg, .sl xs.length (lm xs)])::(vi sh::(.box [.bool neg, .sl xs.length (lm xs)]::(dds 1 (.box [.bool false, .sl 0 []]::(.own 1 (Int.toNat (i64.wrap (Int.tdiv sh 32))) (Qy [.int .u32 0] (Int.toNat (i64.wrap (Int.tdiv sh 32))))::(.val (.int .u32 0)::(.val (.int .u64 (u64.wrap (Int.tmod sh 32)))::(dds 43 [])))))))))) Xt 400 [] [0,1,2,4,5,6,7] (ac (show ¬ (32:Int)=0 from (by decide)) a0)) (Za.seq (Za.go (t:=(.val (.agg [.bool neg, .sl xs.length (lm xs)])::(vi sh::(.box [.bool neg, .sl xs.length (lm xs)]::(dds 1 (.box [.bool false, .sl 0 []]::(.own 1 (Int.toNat (i64.wrap (Int.tdiv sh 32))) (Qy [.int .u32 0] (Int.toNat (i64.wrap (Int.tdiv sh 32))))::(.val (.int .u32 0)::(.val (.int .u64 (u64.wrap (Int.tmod sh 32)))::(.val (.sl ((Zh xs).length) (lm (Zh xs)))::(dds 42 []))))))))))) Xt 400 [.r (.fresh 1 ((Zh xs).length) (lm (Zh xs)))] [0,1,2,4,5,6,7,8] (ac n2 a0)) (Za.seq (Za.seq (Za.go Xt 400 [] [2,4,5,6,7,8,9] a0) (Za.block hl3)) (Za.go Xt 400 [.r (E4 v)] [4,50] (ac (show List.length ([.int .u32 c]:List AV)=1*1 from rfl) (ac n4 (ac n5 a0)))))))))) (by intro i e;cases e) rfl
theorem Sm {x c:Int} {s:Nat} (hx:0≤x∧x<4294967296) (hs:s<32) (hc:0≤c∧c<2^s) :
  u64.wrap ((BitVec.ofInt (IntKind.bits .u64) (u64.wrap ((u64.wrap x)*2^(min (Int.toNat (s:Int)) (IntKind.bits .u64)))) ||| BitVec.ofInt (IntKind.bits .u64) (u64.wrap c)).toNat)=x*2^s+c
  ∧ 0≤(x*2^s+c) / 4294967296∧(x*2^s+c) / 4294967296<2^s∧(2:Int)^s≤2147483648:=by
 have hp:=Ju s
 have hp2:(2:Int)^s≤2147483648:=K9 (show s≤31 by omega)
 have hm:x*2^s≤4294967295*2^s:=Int.mul_le_mul_of_nonneg_right (by omega) (by omega)
 have hm0:0≤x*2^s:=Int.mul_nonneg hx.1 (by omega)
 have hmin:min (Int.toNat (s:Int)) (IntKind.bits .u64)=s:=by
  rw[Int.toNat_natCast]
  show min s 64=s
  omega
 have w1:u64.wrap x=x:=by rw[Jm];omega
 have w2:u64.wrap (x*2^s)=x*2^s:=by rw[Jm];omega
 have w3:u64.wrap c=c:=by rw[Jm];omega
 refine⟨?_,by omega,by omega,hp2⟩
 rw[hmin,w1,w2,w3]
 exact or64 hx.1 (by omega) (by omega) hc
theorem Zi2 {neg:Bool} {xs ms pre:List Int} (hu:U32 ms) {s:Nat} (hs:s<32) (hN:pre.length+ms.length≤1048576):∀ (r i:Nat) (acc:List Int) (c:Int),i+r=ms.length→acc.length=i→U32 acc→0≤c∧c<2^s →
  ∃ (zs:List Int) (c':Int),U32 zs∧zs.length=ms.length∧(0≤c'∧c'<2^s)∧Zo zs+4294967296^ms.length*c'=Zo acc+4294967296^i*(c+2^s*Zo (ms.drop i)) ∧
   Za Yir (.loop Zfc) (Mm neg xs (pre.length+i) (lm (pre++acc)) c (s:Nat) ms (i:Nat)) (.exit 0) (Mm neg xs (pre.length+ms.length) (lm (pre++zs)) c' (s:Nat) ms (ms.length:Nat)):=by
 intro r
 induction r with
 | zero =>
  intro i acc c hi hl hacc hc
  have e1:Zo (ms.drop i)=0:=Xv (by omega)
  have hi':i=ms.length:=by omega
  refine⟨acc,c,hacc,by omega,hc,by rw[e1,hi'];simp,?_⟩
  rw[hi']
  exact Za.loop_out (Zow neg xs _ _ c (s:Nat) ms (ms.length:Nat) (by simp)) (by intro e;cases e)
 | succ r ih =>
  intro i acc c hi hl hacc hc
  have bm:=Zz hu i
  obtain⟨w1,w2,w3,w4⟩:=Sm bm hs hc
  have ei:i64.wrap ((i:Int)+1)=((i+1:Nat):Int):=by rw[w64 (by omega) (by omega)];omega
  have k:=Zox neg xs (pre.length+i) (lm (pre++acc)) c (s:Nat) ms (i:Nat) (by simp;omega) (by omega) (by omega) (by omega)
  have wd:u32.wrap ((ms.getD i 0*2^s+c) / 4294967296)=(ms.getD i 0*2^s+c) / 4294967296:=by rw[Bu];omega
  simp only[Int.toNat_natCast i,w1,sr32,wd,Bu (ms.getD i 0*2^s+c),ei,Zb7,List.append_assoc] at k
  obtain⟨zs,c',q1,q2,q3,q4,q5⟩:=ih (i+1) (acc++[(ms.getD i 0*2^s+c) % 4294967296]) ((ms.getD i 0*2^s+c) / 4294967296) (by omega) (by simp[hl]) (Pt hacc (by omega)) ⟨w2,w3⟩
  refine⟨zs,c',q1,q2,q3,?_,Za.loop k q5⟩
  rw[q4,E7,hl,Q5 ms i,Int.pow_succ]
  have hd:=Int.emod_add_mul_ediv (ms.getD i 0*2^s+c) 4294967296
  generalize (ms.getD i 0*2^s+c) % 4294967296=m at *
  generalize (ms.getD i 0*2^s+c) / 4294967296=d at *
  generalize (4294967296:Int)^i=p at *
  generalize Zo (ms.drop (i+1))=X at *
  generalize (2:Int)^s=T at *
  generalize ms.getD i 0=y at *
  have:c+T*(y+4294967296*X)=m+4294967296*(d+T*X):=by
   have:c+T*(y+4294967296*X)=(y*T+c)+4294967296*(T*X):=by grind
   omega
  rw[this]
  grind
theorem P4 {neg:Bool} {xs ys:List Int} {t:Int} (h:Zo ys=t*Zo xs):rv neg ys=rv neg xs*t:=by
 unfold rv
 rw[h]
 generalize Zo xs=X
 cases neg <;> simp <;> grind
theorem Zl8 {neg:Bool} {xs:List Int} (hu:U32 xs) (n:Nat) (hN:n / 32+xs.length+1≤1048576):Ze Yir 126 [.agg [.bool neg, .sl xs.length (lm xs)], .int .i64 (n:Nat)] (E4 (rv neg xs*2^n)):=by
 have t1:=Qz xs
 have e1:i64.wrap (Int.tdiv (n:Int) 32)=((n / 32:Nat):Int):=by
  rw[Int.tdiv_eq_ediv_of_nonneg (by omega),w64 (by omega) (by omega)];omega
 have e2:u64.wrap (Int.tmod (n:Int) 32)=((n % 32:Nat):Int):=by
  rw[Int.tmod_eq_emod_of_nonneg (by omega),Jm];omega
 obtain⟨zs,c',q1,q2,q3,q4,q5⟩:=Zi2 (neg:=neg) (xs:=xs) (pre:=List.replicate (n / 32) 0) (Zga hu) (s:=n % 32) (by omega) (by simp;omega) (Zh xs).length 0 [] 0 (by omega) rfl (fun x hx=>by cases hx) ⟨by omega,Ju _⟩
 have w4:(2:Int)^(n % 32)≤2147483648:=K9 (show n % 32≤31 by omega)
 simp only[List.length_replicate,List.append_nil,Nat.add_zero,Zo,Int.pow_zero,List.drop_zero,Int.one_mul,Int.zero_add] at q4 q5
 have huz:U32 (List.replicate (n / 32) 0++zs++[c']):=by
  refine Pt ?_ (by omega)
  intro x hx
  rcases List.mem_append.1 hx with g | g
  ·exact Xq _ x g
  ·exact q1 x g
 have hlen:(List.replicate (n / 32) 0++zs++[c']).length=n / 32+(Zh xs).length+1:=by simp[q2];omega
 have hk:=Zb1 (neg:=neg) huz (by omega)
 have hval:Zo (List.replicate (n / 32) 0++zs++[c'])=2^n*Zo xs:=by
  rw[E7,Ud,Xx,Ad n,List.length_append,List.length_replicate,Int.pow_add,q2]
  rw[Hn] at q4
  generalize (4294967296:Int)^(n / 32)=p at *
  generalize (4294967296:Int)^(Zh xs).length=q at *
  generalize (2:Int)^(n % 32)=T at *
  generalize Zo xs=X at *
  generalize Zo zs=Z at *
  grind
 rw[P4 hval,hlen] at hk
 refine Znc neg xs (n:Nat) (n / 32+(Zh xs).length) (lm (List.replicate (n / 32) 0++zs)) c' ((Zh xs).length:Nat) _ (by rw[e1];omega) (Ws (by omega)) (by rw[e1,e2,Int.toNat_natCast,Uk];exact q5) (by omega) (by rw[Zb7];exact hk)
def TBE:Ji:=TBD
theorem Xh:Qh Yir TBE:=Xt
end Go.Proofs.Ythnnfemologhfaa

namespace Go.Proofs.Ythnnfemologhfaa
open Go.IntKind (i64 u64 u32)
open Go.Ai
set_option maxRecDepth 100000
def TQ0:Ji:=[]
theorem Qd:Qh Yir TQ0:=Qh.nil _
def Fs (neg:Bool) (N:Nat) (cs:List AV) (n:Int):Zi:=(dds 1 (.box [.bool neg, .sl N cs]::(.val (.bool false)::(.own 1 0 []::(.val (.int .i64 n)::(dds 26 []))))))
theorem Zo5 (neg:Bool) (N:Nat) (cs:List AV) (n:Int) (x:Int) (c1:(decide (n>0))=true) (c2:(x==0)=true) (n1:0≤(i64.wrap (n-1))∧(i64.wrap (n-1))<(N:Int)) (n2:Zx (List.drop (Int.toNat (i64.wrap (n-1))*1) cs) 0 1 true=some (.int .u32 x)):Za Yir Pm (Fs neg N cs n) .norm (Fs neg N cs (i64.wrap (n-1))):=Za.script (ps:=[(decide (n>0))=true,0≤(i64.wrap (n-1))∧(i64.wrap (n-1))<(N:Int),Zx (List.drop (Int.toNat (i64.wrap (n-1))*1) cs) 0 1 true=some (.int .u32 x),(x==0)=true]) Qd 300 [.b true, .v (.int .u32 x), .b true] [1,2,3,4] (by kernel_rfl) ⟨c1,n1,n2,c2,trivial⟩
theorem Zo4 (neg:Bool) (N:Nat) (cs:List AV) (n:Int) (x:Int) (c1:(decide (n>0))=true) (c2:(x==0)=false) (n1:0≤(i64.wrap (n-1))∧(i64.wrap (n-1))<(N:Int)) (n2:Zx (List.drop (Int.toNat (i64.wrap (n-1))*1) cs) 0 1 true=some (.int .u32 x)):Za Yir Pm (Fs neg N cs n) (.exit 0) (Fs neg N cs n):=Za.script (ps:=[(decide (n>0))=true,0≤(i64.wrap (n-1))∧(i64.wrap (n-1))<(N:Int),Zx (List.drop (Int.toNat (i64.wrap (n-1))*1) cs) 0 1 true=some (.int .u32 x),(x==0)=false]) Qd 300 [.b true, .v (.int .u32 x), .b false] [1,2,3,4] (by kernel_rfl) ⟨c1,n1,n2,c2,trivial⟩
theorem Zo3 (neg:Bool) (N:Nat) (cs:List AV) (n:Int) (c1:(decide (n>0))=false):Za Yir Pm (Fs neg N cs n) (.exit 0) (Fs neg N cs n):=Za.script (ps:=[(decide (n>0))=false,false=false]) Qd 300 [.b false, .b false] [1,2,3,4] (by kernel_rfl) ⟨c1,rfl,trivial⟩
theorem Sd (neg:Bool) (xs:List Int) (hN:xs.length≤1048576):∀ m,m≤xs.length→Za Yir (.loop Pm) (Fs neg xs.length (lm xs) (m:Int)) (.exit 0) (Fs neg xs.length (lm xs) ((Zs xs m:Nat):Int)):=by
 intro m
 induction m with
 | zero =>
  intro _
  exact Za.loop_out (Zo3 neg xs.length (lm xs) ((0:Nat):Int) (by simp)) (by intro e;cases e)
 | succ m ih =>
  intro hm
  have e1:i64.wrap (((m+1:Nat):Int)-1)=(m:Int):=by rw[w64 (by omega) (by omega)];omega
  have hx:=J6 (xs:=xs) (i:=m) (by omega)
  simp only[Zs]
  by_cases h0:xs.getD m 0=0
  ·rw[if_pos h0]
   have h1:=Zo5 neg xs.length (lm xs) ((m+1:Nat):Int) (xs.getD m 0) (by simp) (by rw[h0];rfl) (by rw[e1];omega) (by rw[e1,Int.toNat_natCast];exact hx)
   rw[e1] at h1
   exact Za.loop h1 (ih (by omega))
  ·rw[if_neg h0]
   exact Za.loop_out (Zo4 neg xs.length (lm xs) ((m+1:Nat):Int) (xs.getD m 0) (by simp) (by simpa using h0) (by rw[e1];omega) (by rw[e1,Int.toNat_natCast];exact hx)) (by intro e;cases e)
theorem Mp (xs:List Int) (hl:Za Yir (.loop Pm) (Fs true xs.length (lm xs) (xs.length:Int)) (.exit 0) (Fs true xs.length (lm xs) ((Zs xs xs.length:Nat):Int))) (hsc:0≤(Int.toNat ((Zs xs xs.length:Nat):Int))∧(Int.toNat ((Zs xs xs.length:Nat):Int))≤xs.length∧xs.length≤xs.length∧(false=true→true=true)):Ze Yir 122 [.agg [.bool true, .sl xs.length (lm xs)]] (.tup [.bool (decide (((Zs xs xs.length:Nat):Int)>0)), .sl ((Int.toNat ((Zs xs xs.length:Nat):Int))-0) (List.take (((Int.toNat ((Zs xs xs.length:Nat):Int))-0)*1) (List.drop (0*1) (lm xs)))]):=Ze.of_bodyW (fn:=Zaj) (s:=(dds 1 (.box [.bool true, .sl xs.length (lm xs)]::(.val (.bool (decide (((Zs xs xs.length:Nat):Int)>0)))::(.val (.sl ((Int.toNat ((Zs xs xs.length:Nat):Int))-0) (List.take (((Int.toNat ((Zs xs xs.length:Nat):Int))-0)*1) (List.drop (0*1) (lm xs))))::(.val (.int .i64 ((Zs xs xs.length:Nat):Int))::(dds 16 (.ptr 1 0::(.val (.bool true)::(.val (.bool true)::(.val (.int .i64 ((Zs xs xs.length:Nat):Int))::(.val (.bool (decide (((Zs xs xs.length:Nat):Int)>0)))::(.val (.bool (decide (((Zs xs xs.length:Nat):Int)>0)))::(.ptr 1 1::(.val (.sl xs.length (lm xs))::(.val (.int .i64 ((Zs xs xs.length:Nat):Int))::(.val (.sl ((Int.toNat ((Zs xs xs.length:Nat):Int))-0) (List.take (((Int.toNat ((Zs xs xs.length:Nat):Int))-0)*1) (List.drop (0*1) (lm xs))))::[]))))))))))))))))) (ex := .ret) rfl rfl (Za.seq (Za.script (t:=(.val (.agg [.bool true, .sl xs.length (lm xs)])::(.box [.bool true, .sl xs.length (lm xs)]::(.val (.bool false)::(.own 1 0 []::(dds 27 [])))))) (ps:=[]) Qd 300 [] [0,1,2,3] (by kernel_rfl) trivial) (Za.seq (Za.script (t:=(dds 1 (.box [.bool true, .sl xs.length (lm xs)]::(.val (.bool false)::(.own 1 0 []::(vi (xs.length:Int)::(dds 26 []))))))) (ps:=[]) Qd 300 [] [1,2,3,4] (by kernel_rfl) trivial) (Za.seq (Za.block hl) (Za.script (t:=(dds 1 (.box [.bool true, .sl xs.length (lm xs)]::(.val (.bool (decide (((Zs xs xs.length:Nat):Int)>0)))::(.val (.sl ((Int.toNat ((Zs xs xs.length:Nat):Int))-0) (List.take (((Int.toNat ((Zs xs xs.length:Nat):Int))-0)*1) (List.drop (0*1) (lm xs))))::(vi ((Zs xs xs.length:Nat):Int)::(dds 16 (.ptr 1 0::(.val (.bool true)::(.val (.bool true)::(vi ((Zs xs xs.length:Nat):Int)::(.val (.bool (decide (((Zs xs xs.length:Nat):Int)>0)))::(.val (.bool (decide (((Zs xs xs.length:Nat):Int)>0)))::(.ptr 1 1::(vl xs::(vi ((Zs xs xs.length:Nat):Int)::(.val (.sl ((Int.toNat ((Zs xs xs.length:Nat):Int))-0) (List.take (((Int.toNat ((Zs xs xs.length:Nat):Int))-0)*1) (List.drop (0*1) (lm xs))))::[]))))))))))))))))) (ex := .ret) (ps:=[true=true,0≤((Zs xs xs.length:Nat):Int),0≤(Int.toNat ((Zs xs xs.length:Nat):Int))∧(Int.toNat ((Zs xs xs.length:Nat):Int))≤xs.length∧xs.length≤xs.length∧(false=true→true=true)]) Qd 300 [.b true] [1,2,3,4,21,22,23,24,25,26,27,28,29,30] (by kernel_rfl) ⟨rfl,(Int.natCast_nonneg _),hsc,trivial⟩)))) (by intro i e;cases e) rfl
theorem E0 (xs:List Int) (hl:Za Yir (.loop Pm) (Fs false xs.length (lm xs) (xs.length:Int)) (.exit 0) (Fs false xs.length (lm xs) ((Zs xs xs.length:Nat):Int))) (hsc:0≤(Int.toNat ((Zs xs xs.length:Nat):Int))∧(Int.toNat ((Zs xs xs.length:Nat):Int))≤xs.length∧xs.length≤xs.length∧(false=true→true=true)):Ze Yir 122 [.agg [.bool false, .sl xs.length (lm xs)]] (.tup [.bool false, .sl ((Int.toNat ((Zs xs xs.length:Nat):Int))-0) (List.take (((Int.toNat ((Zs xs xs.length:Nat):Int))-0)*1) (List.drop (0*1) (lm xs)))]):=Ze.of_bodyW (fn:=Zaj) (s:=(dds 1 (.box [.bool false, .sl xs.length (lm xs)]::(.val (.bool false)::(.val (.sl ((Int.toNat ((Zs xs xs.length:Nat):Int))-0) (List.take (((Int.toNat ((Zs xs xs.length:Nat):Int))-0)*1) (List.drop (0*1) (lm xs))))::(.val (.int .i64 ((Zs xs xs.length:Nat):Int))::(dds 16 (.ptr 1 0::(.val (.bool false)::(.val (.bool false)::(.val (.undef)::(.val (.undef)::(.val (.bool false)::(.ptr 1 1::(.val (.sl xs.length (lm xs))::(.val (.int .i64 ((Zs xs xs.length:Nat):Int))::(.val (.sl ((Int.toNat ((Zs xs xs.length:Nat):Int))-0) (List.take (((Int.toNat ((Zs xs xs.length:Nat):Int))-0)*1) (List.drop (0*1) (lm xs))))::[]))))))))))))))))) (ex := .ret) rfl rfl (Za.seq (Za.script (t:=(.val (.agg [.bool false, .sl xs.length (lm xs)])::(.box [.bool false, .sl xs.length (lm xs)]::(.val (.bool false)::(.own 1 0 []::(dds 27 [])))))) (ps:=[]) Qd 300 [] [0,1,2,3] (by kernel_rfl) trivial) (Za.seq (Za.script (t:=(dds 1 (.box [.bool false, .sl xs.length (lm xs)]::(.val (.bool false)::(.own 1 0 []::(vi (xs.length:Int)::(dds 26 []))))))) (ps:=[]) Qd 300 [] [1,2,3,4] (by kernel_rfl) trivial) (Za.seq (Za.block hl) (Za.script (t:=(dds 1 (.box [.bool false, .sl xs.length (lm xs)]::(.val (.bool false)::(.val (.sl ((Int.toNat ((Zs xs xs.length:Nat):Int))-0) (List.take (((Int.toNat ((Zs xs xs.length:Nat):Int))-0)*1) (List.drop (0*1) (lm xs))))::(vi ((Zs xs xs.length:Nat):Int)::(dds 16 (.ptr 1 0::(.val (.bool false)::(.val (.bool false)::(.val (.undef)::(.val (.undef)::(.val (.bool false)::(.ptr 1 1::(vl xs::(vi ((Zs xs xs.length:Nat):Int)::(.val (.sl ((Int.toNat ((Zs xs xs.length:Nat):Int))-0) (List.take (((Int.toNat ((Zs xs xs.length:Nat):Int))-0)*1) (List.drop (0*1) (lm xs))))::[]))))))))))))))))) (ex := .ret) (ps:=[false=false,0≤((Zs xs xs.length:Nat):Int),0≤(Int.toNat ((Zs xs xs.length:Nat):Int))∧(Int.toNat ((Zs xs xs.length:Nat):Int))≤xs.length∧xs.length≤xs.length∧(false=true→true=true)]) Qd 300 [.b false] [1,2,3,4,21,22,23,24,25,26,27,28,29,30] (by kernel_rfl) ⟨rfl,(Int.natCast_nonneg _),hsc,trivial⟩)))) (by intro i e;cases e) rfl
theorem Zax (xs:List Int):(Int.toNat ((Zs xs xs.length:Nat):Int)-0)=(Zh xs).length∧(List.take ((Int.toNat ((Zs xs xs.length:Nat):Int)-0)*1) (List.drop (0*1) (lm xs)))=lm (Zh xs)∧(0≤(Int.toNat ((Zs xs xs.length:Nat):Int))∧(Int.toNat ((Zs xs xs.length:Nat):Int))≤xs.length∧xs.length≤xs.length∧(false=true→true=true)):=by
 have hle:=V3 xs xs.length
 rw[Int.toNat_natCast]
 refine⟨by simp[Zh];omega,by simp[lm,Zh,List.map_take],by omega,hle,Nat.le_refl _,fun h=>by cases h⟩
theorem Q8 {neg:Bool} {xs:List Int} (hu:U32 xs) (hN:xs.length≤1048576):Ze Yir 122 [.agg [.bool neg, .sl xs.length (lm xs)]]
  (.tup [.bool (decide (rv neg xs<0)), .sl (Zb (rv neg xs).natAbs).length (lm (Zb (rv neg xs).natAbs))]):=by
 obtain⟨e1,e2,e3⟩:=Zax xs
 have ht:=A8 (neg:=neg) hu
 have hn:=Zlg (neg:=neg) hu
 have hlen:(Zh xs).length=Zs xs xs.length:=by rw[← e1,Int.toNat_natCast];rfl
 cases neg with
 | true =>
  have h:=Mp xs (Sd true xs hN xs.length (Nat.le_refl _)) e3
  rw[e2,e1,ht] at h
  have e4:decide (((Zs xs xs.length:Nat):Int)>0)=decide (rv true xs<0):=by
   rw[← hn,Bool.true_and,← ht,hlen,decide_eq_decide];omega
  rw[e4] at h
  exact h
 | false =>
  have h:=E0 xs (Sd false xs hN xs.length (Nat.le_refl _)) e3
  rw[e2,e1,ht] at h
  rw[Bool.false_and] at hn
  rw[← hn]
  exact h
def Fr (neg:Bool) (N:Nat) (cs:List AV) (n:Int):Zi:=(.val (.bool neg)::(.val (.sl N cs)::(dds 2 (.box [.bool false, .sl 0 []]::(.val (.int .i64 n)::(dds 23 []))))))
theorem Zot (neg:Bool) (N:Nat) (cs:List AV) (n:Int) (x:Int) (c1:(decide (n>0))=true) (c2:(x==0)=true) (n1:0≤(i64.wrap (n-1))∧(i64.wrap (n-1))<(N:Int)) (n2:Zx (List.drop (Int.toNat (i64.wrap (n-1))*1) cs) 0 1 true=some (.int .u32 x)):Za Yir Pk (Fr neg N cs n) .norm (Fr neg N cs (i64.wrap (n-1))):=Za.script (ps:=[(decide (n>0))=true,0≤(i64.wrap (n-1))∧(i64.wrap (n-1))<(N:Int),Zx (List.drop (Int.toNat (i64.wrap (n-1))*1) cs) 0 1 true=some (.int .u32 x),(x==0)=true]) Qd 300 [.b true, .v (.int .u32 x), .b true] [0,1,4,5] (by kernel_rfl) ⟨c1,n1,n2,c2,trivial⟩
theorem Zos (neg:Bool) (N:Nat) (cs:List AV) (n:Int) (x:Int) (c1:(decide (n>0))=true) (c2:(x==0)=false) (n1:0≤(i64.wrap (n-1))∧(i64.wrap (n-1))<(N:Int)) (n2:Zx (List.drop (Int.toNat (i64.wrap (n-1))*1) cs) 0 1 true=some (.int .u32 x)):Za Yir Pk (Fr neg N cs n) (.exit 0) (Fr neg N cs n):=Za.script (ps:=[(decide (n>0))=true,0≤(i64.wrap (n-1))∧(i64.wrap (n-1))<(N:Int),Zx (List.drop (Int.toNat (i64.wrap (n-1))*1) cs) 0 1 true=some (.int .u32 x),(x==0)=false]) Qd 300 [.b true, .v (.int .u32 x), .b false] [0,1,4,5] (by kernel_rfl) ⟨c1,n1,n2,c2,trivial⟩
theorem Zor (neg:Bool) (N:Nat) (cs:List AV) (n:Int) (c1:(decide (n>0))=false):Za Yir Pk (Fr neg N cs n) (.exit 0) (Fr neg N cs n):=Za.script (ps:=[(decide (n>0))=false,false=false]) Qd 300 [.b false, .b false] [0,1,4,5] (by kernel_rfl) ⟨c1,rfl,trivial⟩
theorem Zi0 (neg:Bool) (xs:List Int) (hN:xs.length≤1048576):∀ m,m≤xs.length→Za Yir (.loop Pk) (Fr neg xs.length (lm xs) (m:Int)) (.exit 0) (Fr neg xs.length (lm xs) ((Zs xs m:Nat):Int)):=by
 intro m
 induction m with
 | zero =>
  intro _
  exact Za.loop_out (Zor neg xs.length (lm xs) ((0:Nat):Int) (by simp)) (by intro e;cases e)
 | succ m ih =>
  intro hm
  have e1:i64.wrap (((m+1:Nat):Int)-1)=(m:Int):=by rw[w64 (by omega) (by omega)];omega
  have hx:=J6 (xs:=xs) (i:=m) (by omega)
  simp only[Zs]
  by_cases h0:xs.getD m 0=0
  ·rw[if_pos h0]
   have h1:=Zot neg xs.length (lm xs) ((m+1:Nat):Int) (xs.getD m 0) (by simp) (by rw[h0];rfl) (by rw[e1];omega) (by rw[e1,Int.toNat_natCast];exact hx)
   rw[e1] at h1
   exact Za.loop h1 (ih (by omega))
  ·rw[if_neg h0]
   exact Za.loop_out (Zos neg xs.length (lm xs) ((m+1:Nat):Int) (xs.getD m 0) (by simp) (by simpa using h0) (by rw[e1];omega) (by rw[e1,Int.toNat_natCast];exact hx)) (by intro e;cases e)
theorem Zd6 (neg:Bool) (xs:List Int) (hz:(((Zs xs xs.length:Nat):Int)==0)=true) (hl:Za Yir (.loop Pk) (Fr neg xs.length (lm xs) (xs.length:Int)) (.exit 0) (Fr neg xs.length (lm xs) ((Zs xs xs.length:Nat):Int))):Ze Yir 133 [.bool neg, .sl xs.length (lm xs)] (.agg [.bool false, .sl 0 []]):=Ze.of_bodyW (fn:=Zah) (s:=(.val (.bool neg)::(.val (.sl xs.length (lm xs))::(dds 2 (.box [.bool false, .sl 0 []]::(.val (.int .i64 ((Zs xs xs.length:Nat):Int))::(dds 14 (.val (.int .i64 ((Zs xs xs.length:Nat):Int))::(.val (.bool (((Zs xs xs.length:Nat):Int)==0))::(.val (.agg [.bool false, .sl 0 []])::(dds 6 []))))))))))) (ex := .ret) rfl rfl (Za.seq (Za.script (t:=(.val (.bool neg)::(vl xs::(dds 2 (.box [.bool false, .sl 0 []]::(dds 24 [])))))) (ps:=[]) Qd 300 [] [0,1,4] (by kernel_rfl) trivial) (Za.seq (Za.script (t:=(.val (.bool neg)::(vl xs::(dds 2 (.box [.bool false, .sl 0 []]::(vi (xs.length:Int)::(dds 23 []))))))) (ps:=[]) Qd 300 [] [0,1,4,5] (by kernel_rfl) trivial) (Za.seq (Za.block hl) (Za.script (t:=(.val (.bool neg)::(vl xs::(dds 2 (.box [.bool false, .sl 0 []]::(vi ((Zs xs xs.length:Nat):Int)::(dds 14 (vi ((Zs xs xs.length:Nat):Int)::(.val (.bool (((Zs xs xs.length:Nat):Int)==0))::(.val (.agg [.bool false, .sl 0 []])::(dds 6 []))))))))))) (ex := .ret) (ps:=[(((Zs xs xs.length:Nat):Int)==0)=true]) Qd 300 [.b true] [0,1,4,5,20,21,22] (by kernel_rfl) ⟨hz,trivial⟩)))) (by intro i e;cases e) rfl
theorem Zd7 (neg:Bool) (xs:List Int) (hz:(((Zs xs xs.length:Nat):Int)==0)=false) (hl:Za Yir (.loop Pk) (Fr neg xs.length (lm xs) (xs.length:Int)) (.exit 0) (Fr neg xs.length (lm xs) ((Zs xs xs.length:Nat):Int))) (hsc:0≤(Int.toNat ((Zs xs xs.length:Nat):Int))∧(Int.toNat ((Zs xs xs.length:Nat):Int))≤(Int.toNat ((Zs xs xs.length:Nat):Int))∧(Int.toNat ((Zs xs xs.length:Nat):Int))≤xs.length∧(true=true→true=true)):Ze Yir 133 [.bool neg, .sl xs.length (lm xs)] (.agg [.bool neg, .sl ((Int.toNat ((Zs xs xs.length:Nat):Int))-0) (List.take (((Int.toNat ((Zs xs xs.length:Nat):Int))-0)*1) (List.drop (0*1) (lm xs)))]):=Ze.of_bodyW (fn:=Zah) (s:=(.val (.bool neg)::(.val (.sl xs.length (lm xs))::(dds 2 (.box [.bool neg, .sl ((Int.toNat ((Zs xs xs.length:Nat):Int))-0) (List.take (((Int.toNat ((Zs xs xs.length:Nat):Int))-0)*1) (List.drop (0*1) (lm xs)))]::(.val (.int .i64 ((Zs xs xs.length:Nat):Int))::(dds 14 (.val (.int .i64 ((Zs xs xs.length:Nat):Int))::(.val (.bool (((Zs xs xs.length:Nat):Int)==0))::(dds 1 (.val (.bool neg)::(.val (.sl xs.length (lm xs))::(.val (.int .i64 ((Zs xs xs.length:Nat):Int))::(.val (.int .i64 ((Zs xs xs.length:Nat):Int))::(.val (.sl ((Int.toNat ((Zs xs xs.length:Nat):Int))-0) (List.take (((Int.toNat ((Zs xs xs.length:Nat):Int))-0)*1) (List.drop (0*1) (lm xs))))::(.val (.agg [.bool neg, .sl ((Int.toNat ((Zs xs xs.length:Nat):Int))-0) (List.take (((Int.toNat ((Zs xs xs.length:Nat):Int))-0)*1) (List.drop (0*1) (lm xs)))])::[])))))))))))))))) (ex := .ret) rfl rfl (Za.seq (Za.script (t:=(.val (.bool neg)::(vl xs::(dds 2 (.box [.bool false, .sl 0 []]::(dds 24 [])))))) (ps:=[]) Qd 300 [] [0,1,4] (by kernel_rfl) trivial) (Za.seq (Za.script (t:=(.val (.bool neg)::(vl xs::(dds 2 (.box [.bool false, .sl 0 []]::(vi (xs.length:Int)::(dds 23 []))))))) (ps:=[]) Qd 300 [] [0,1,4,5] (by kernel_rfl) trivial) (Za.seq (Za.block hl) (Za.script (t:=(.val (.bool neg)::(vl xs::(dds 2 (.box [.bool neg, .sl ((Int.toNat ((Zs xs xs.length:Nat):Int))-0) (List.take (((Int.toNat ((Zs xs xs.length:Nat):Int))-0)*1) (List.drop (0*1) (lm xs)))]::(vi ((Zs xs xs.length:Nat):Int)::(dds 14 (vi ((Zs xs xs.length:Nat):Int)::(.val (.bool (((Zs xs xs.length:Nat):Int)==0))::(dds 1 (.val (.bool neg)::(vl xs::(vi ((Zs xs xs.length:Nat):Int)::(vi ((Zs xs xs.length:Nat):Int)::(.val (.sl ((Int.toNat ((Zs xs xs.length:Nat):Int))-0) (List.take (((Int.toNat ((Zs xs xs.length:Nat):Int))-0)*1) (List.drop (0*1) (lm xs))))::(.val (.agg [.bool neg, .sl ((Int.toNat ((Zs xs xs.length:Nat):Int))-0) (List.take (((Int.toNat ((Zs xs xs.length:Nat):Int))-0)*1) (List.drop (0*1) (lm xs)))])::[])))))))))))))))) (ex := .ret) (ps:=[(((Zs xs xs.length:Nat):Int)==0)=false,0≤((Zs xs xs.length:Nat):Int),0≤((Zs xs xs.length:Nat):Int),0≤(Int.toNat ((Zs xs xs.length:Nat):Int))∧(Int.toNat ((Zs xs xs.length:Nat):Int))≤(Int.toNat ((Zs xs xs.length:Nat):Int))∧(Int.toNat ((Zs xs xs.length:Nat):Int))≤xs.length∧(true=true→true=true)]) Qd 300 [.b false] [0,1,4,5,20,21,23,24,25,26,27,28] (by kernel_rfl) ⟨hz,(Int.natCast_nonneg _),(Int.natCast_nonneg _),hsc,trivial⟩)))) (by intro i e;cases e) rfl
theorem Xm {neg:Bool} {xs:List Int} (hu:U32 xs) (hN:xs.length≤1048576):Ze Yir 133 [.bool neg, .sl xs.length (lm xs)] (Zp (rv neg xs)):=by
 obtain⟨e1,e2,e3⟩:=Zax xs
 have ht:=A8 (neg:=neg) hu
 have hn:=Zlg (neg:=neg) hu
 have hlen:(Zh xs).length=Zs xs xs.length:=by rw[← e1,Int.toNat_natCast];rfl
 have hl:=Zi0 neg xs hN xs.length (Nat.le_refl _)
 by_cases h0:Zs xs xs.length=0
 ·have h:=Zd6 neg xs (by rw[h0];rfl) hl
  have hz:(Zb (rv neg xs).natAbs).length=0:=by rw[← ht,hlen,h0]
  have hv:rv neg xs=0:=by have:=(Jq _).1 hz;omega
  rw[hv]
  exact h
 ·have h:=Zd7 neg xs (by rw[beq_eq_false_iff_ne];omega) hl ⟨e3.1,Nat.le_refl _,e3.2.1,fun _=>rfl⟩
  rw[e2,e1,ht] at h
  have hp:decide (0<(Zb (rv neg xs).natAbs).length)=true:=by rw[← ht,hlen];simp;omega
  rw[hp,Bool.and_true] at hn
  rw[Zp,← hn]
  exact h
theorem Zh7 (n:Int) (c1:decide (n<0)=true) (hcall:Ze Yir 133 [.bool (decide (n<0)), .sl 2 [.int .u32 (u32.wrap (u64.wrap (0-(u64.wrap n)))), .int .u32 (u32.wrap (Int.fdiv (u64.wrap (0-(u64.wrap n))) (2^(min (Int.toNat 32) (IntKind.bits .u64)))))]] (.agg [.bool (decide (n<0)), .sl ((Zb (Int.natAbs n)).length) (lm (Zb (Int.natAbs n)))])):Ze Yir 94 [.int .i64 n] (.agg [.bool (decide (n<0)), .sl ((Zb (Int.natAbs n)).length) (lm (Zb (Int.natAbs n)))]):=Ze.script (ps:=[(decide (n<0))=true,¬ (32:Int)<0,Ze Yir 133 [.bool (decide (n<0)), .sl 2 [.int .u32 (u32.wrap (u64.wrap (0-(u64.wrap n)))), .int .u32 (u32.wrap (Int.fdiv (u64.wrap (0-(u64.wrap n))) (2^(min (Int.toNat 32) (IntKind.bits .u64)))))]] (.agg [.bool (decide (n<0)), .sl ((Zb (Int.natAbs n)).length) (lm (Zb (Int.natAbs n)))])]) Qd rfl 300 rfl [.b true, .r (.agg [.bool (decide (n<0)), .sl ((Zb (Int.natAbs n)).length) (lm (Zb (Int.natAbs n)))])] (by kernel_rfl) ⟨c1,(by decide),hcall,trivial⟩
theorem Zh6 (n:Int) (c1:decide (n<0)=false) (hcall:Ze Yir 133 [.bool (decide (n<0)), .sl 2 [.int .u32 (u32.wrap (u64.wrap n)), .int .u32 (u32.wrap (Int.fdiv (u64.wrap n) (2^(min (Int.toNat 32) (IntKind.bits .u64)))))]] (.agg [.bool (decide (n<0)), .sl ((Zb (Int.natAbs n)).length) (lm (Zb (Int.natAbs n)))])):Ze Yir 94 [.int .i64 n] (.agg [.bool (decide (n<0)), .sl ((Zb (Int.natAbs n)).length) (lm (Zb (Int.natAbs n)))]):=Ze.script (ps:=[(decide (n<0))=false,¬ (32:Int)<0,Ze Yir 133 [.bool (decide (n<0)), .sl 2 [.int .u32 (u32.wrap (u64.wrap n)), .int .u32 (u32.wrap (Int.fdiv (u64.wrap n) (2^(min (Int.toNat 32) (IntKind.bits .u64)))))]] (.agg [.bool (decide (n<0)), .sl ((Zb (Int.natAbs n)).length) (lm (Zb (Int.natAbs n)))])]) Qd rfl 300 rfl [.b false, .r (.agg [.bool (decide (n<0)), .sl ((Zb (Int.natAbs n)).length) (lm (Zb (Int.natAbs n)))])] (by kernel_rfl) ⟨c1,(by decide),hcall,trivial⟩
theorem Zl5 {n:Int} (hn : -9223372036854775808≤n∧n≤9223372036854775807):Ze Yir 94 [.int .i64 n] (Zp n):=by
 cases c1:decide (n<0) with
 | true =>
  have h0:n<0:=by simpa using c1
  have eu:(u64.wrap (0-u64.wrap n)) = -n:=by rw[Jm,Jm];omega
  obtain⟨k1,k2⟩:=Hx (u:=(u64.wrap (0-u64.wrap n))) (by rw[eu];omega)
  refine Zh7 n c1 ?_
  have:=Xm (neg:=true) k1 (by simp)
  have e:rv true [u32.wrap (u64.wrap (0-u64.wrap n)),u32.wrap (Int.fdiv (u64.wrap (0-u64.wrap n)) (2^(min (Int.toNat 32) (IntKind.bits .u64))))]=n:=by
   unfold rv;rw[k2,if_pos rfl,eu];omega
  rw[e,Zp,c1] at this
  rw[c1]
  exact this
 | false =>
  have h0:¬ n<0:=by simpa using c1
  have eu:u64.wrap n=n:=by rw[Jm];omega
  obtain⟨k1,k2⟩:=Hx (u:=u64.wrap n) (by rw[eu];omega)
  refine Zh6 n c1 ?_
  have:=Xm (neg:=false) k1 (by simp)
  have e:rv false [u32.wrap (u64.wrap n),u32.wrap (Int.fdiv (u64.wrap n) (2^(min (Int.toNat 32) (IntKind.bits .u64))))]=n:=by
   unfold rv;rw[if_neg (by decide),k2,eu]
  rw[e,Zp,c1] at this
  rw[c1]
  exact this
theorem Zna (neg:Bool) (xs:List Int) (a r:Int) (h1:Ze Yir 122 [.agg [.bool neg, .sl xs.length (lm xs)]] (.tup [.bool (decide (a<0)), .sl ((Zb (Int.natAbs a)).length) (lm (Zb (Int.natAbs a)))])) (h2:Ze Yir 133 [.bool (decide (a<0)), .sl (Zb (Int.natAbs a)).length (lm (Zb (Int.natAbs a)))] (.agg [.bool (decide (r<0)), .sl ((Zb (Int.natAbs r)).length) (lm (Zb (Int.natAbs r)))])) (hal:List.length (lm (Zb (Int.natAbs a)))=(Zb (Int.natAbs a)).length*1) (han:(Zb (Int.natAbs a)).length≤1048576):Ze Yir 132 [.agg [.bool neg, .sl xs.length (lm xs)]] (.agg [.bool (decide (r<0)), .sl ((Zb (Int.natAbs r)).length) (lm (Zb (Int.natAbs r)))]):=Ze.script (ps:=[Ze Yir 122 [.agg [.bool neg, .sl xs.length (lm xs)]] (.tup [.bool (decide (a<0)), .sl ((Zb (Int.natAbs a)).length) (lm (Zb (Int.natAbs a)))]),List.length (lm (Zb (Int.natAbs a)))=((Zb (Int.natAbs a)).length)*1,((Zb (Int.natAbs a)).length)≤1048576,Ze Yir 133 [.bool (decide (a<0)), .sl ((Zb (Int.natAbs a)).length) (lm (Zb (Int.natAbs a)))] (.agg [.bool (decide (r<0)), .sl ((Zb (Int.natAbs r)).length) (lm (Zb (Int.natAbs r)))])]) Qd rfl 300 rfl [.r (.tup [.bool (decide (a<0)), .sl ((Zb (Int.natAbs a)).length) (lm (Zb (Int.natAbs a)))]), .r (.agg [.bool (decide (r<0)), .sl ((Zb (Int.natAbs r)).length) (lm (Zb (Int.natAbs r)))])] (by kernel_rfl) ⟨h1,hal,han,h2,trivial⟩
theorem Znh (neg:Bool) (xs:List Int) (a r:Int) (h1:Ze Yir 122 [.agg [.bool neg, .sl xs.length (lm xs)]] (.tup [.bool (decide (a<0)), .sl ((Zb (Int.natAbs a)).length) (lm (Zb (Int.natAbs a)))])) (h2:Ze Yir 133 [.bool (!(decide (a<0))), .sl (Zb (Int.natAbs a)).length (lm (Zb (Int.natAbs a)))] (.agg [.bool (decide (r<0)), .sl ((Zb (Int.natAbs r)).length) (lm (Zb (Int.natAbs r)))])) (hal:List.length (lm (Zb (Int.natAbs a)))=(Zb (Int.natAbs a)).length*1) (han:(Zb (Int.natAbs a)).length≤1048576):Ze Yir 112 [.agg [.bool neg, .sl xs.length (lm xs)]] (.agg [.bool (decide (r<0)), .sl ((Zb (Int.natAbs r)).length) (lm (Zb (Int.natAbs r)))]):=Ze.script (ps:=[Ze Yir 122 [.agg [.bool neg, .sl xs.length (lm xs)]] (.tup [.bool (decide (a<0)), .sl ((Zb (Int.natAbs a)).length) (lm (Zb (Int.natAbs a)))]),List.length (lm (Zb (Int.natAbs a)))=((Zb (Int.natAbs a)).length)*1,((Zb (Int.natAbs a)).length)≤1048576,Ze Yir 133 [.bool (!(decide (a<0))), .sl ((Zb (Int.natAbs a)).length) (lm (Zb (Int.natAbs a)))] (.agg [.bool (decide (r<0)), .sl ((Zb (Int.natAbs r)).length) (lm (Zb (Int.natAbs r)))])]) Qd rfl 300 rfl [.r (.tup [.bool (decide (a<0)), .sl ((Zb (Int.natAbs a)).length) (lm (Zb (Int.natAbs a)))]), .r (.agg [.bool (decide (r<0)), .sl ((Zb (Int.natAbs r)).length) (lm (Zb (Int.natAbs r)))])] (by kernel_rfl) ⟨h1,hal,han,h2,trivial⟩
theorem Rp (xs:List Int):List.length (lm xs)=xs.length*1:=by rw [Gt,Nat.mul_one]
theorem rv_pos (n:Int):rv false (Zb n.natAbs)=(n.natAbs:Int):=by unfold rv;rw [if_neg (by decide),Jx]
theorem Zlc (n:Int):rv (!decide (n<0)) (Zb n.natAbs) = -n:=by
 unfold rv
 rw[Jx]
 by_cases h:n<0 <;> simp[h] <;> omega
theorem Zar {neg:Bool} {xs:List Int} (hu:U32 xs) (hN:xs.length≤1048576):Ze Yir 132 [.agg [.bool neg, .sl xs.length (lm xs)]] (Zp (rv neg xs)):=by
 have hl:(Zb (rv neg xs).natAbs).length≤1048576:=Nat.le_trans (Uy hu) hN
 have h2:=Xm (neg:=decide (rv neg xs<0)) (Jt (rv neg xs).natAbs) hl
 rw[Hp] at h2
 exact Zna neg xs (rv neg xs) (rv neg xs) (Q8 hu hN) h2 (Rp _) hl
theorem Po {neg:Bool} {xs:List Int} (hu:U32 xs) (hN:xs.length≤1048576):Ze Yir 112 [.agg [.bool neg, .sl xs.length (lm xs)]] (Zp (-(rv neg xs))):=by
 have hl:(Zb (rv neg xs).natAbs).length≤1048576:=Nat.le_trans (Uy hu) hN
 have h2:=Xm (neg := !decide (rv neg xs<0)) (Jt (rv neg xs).natAbs) hl
 rw[Zlc] at h2
 exact Znh neg xs (rv neg xs) (-(rv neg xs)) (Q8 hu hN) h2 (Rp _) hl
def Zh2 (a:Int):AV :=
 match (((Zb (Int.natAbs a)).length:Nat):Int)==0 with
 | true=>(.int .i64 0)
 | false=>(match decide (a<0) with
 | true=>(.int .i64 (-1))
 | false=>(.int .i64 1))
theorem Yrun73 (neg:Bool) (xs:List Int) (a:Int) (h1:Ze Yir 122 [.agg [.bool neg, .sl xs.length (lm xs)]] (.tup [.bool (decide (a<0)), .sl ((Zb (Int.natAbs a)).length) (lm (Zb (Int.natAbs a)))])):Ze Yir 73 [.agg [.bool neg, .sl xs.length (lm xs)]] (Zh2 a):=by
 unfold Zh2
 cases c1:((((Zb (Int.natAbs a)).length:Nat):Int)==0)
 ·cases c2:(decide (a<0))
  ·exact Ze.script (r := .int .i64 1) (ps:=[Ze Yir 122 [.agg [.bool neg, .sl xs.length (lm xs)]] (.tup [.bool (decide (a<0)), .sl ((Zb (Int.natAbs a)).length) (lm (Zb (Int.natAbs a)))]),((((Zb (Int.natAbs a)).length:Nat):Int)==0)=false,(decide (a<0))=false]) Qd rfl 300 rfl [.r (.tup [.bool (decide (a<0)), .sl ((Zb (Int.natAbs a)).length) (lm (Zb (Int.natAbs a)))]), .b false, .b false] (by kernel_rfl) ⟨h1,c1,c2,trivial⟩
  ·exact Ze.script (r := .int .i64 (-1)) (ps:=[Ze Yir 122 [.agg [.bool neg, .sl xs.length (lm xs)]] (.tup [.bool (decide (a<0)), .sl ((Zb (Int.natAbs a)).length) (lm (Zb (Int.natAbs a)))]),((((Zb (Int.natAbs a)).length:Nat):Int)==0)=false,(decide (a<0))=true]) Qd rfl 300 rfl [.r (.tup [.bool (decide (a<0)), .sl ((Zb (Int.natAbs a)).length) (lm (Zb (Int.natAbs a)))]), .b false, .b true] (by kernel_rfl) ⟨h1,c1,c2,trivial⟩
 ·exact Ze.script (r := .int .i64 0) (ps:=[Ze Yir 122 [.agg [.bool neg, .sl xs.length (lm xs)]] (.tup [.bool (decide (a<0)), .sl ((Zb (Int.natAbs a)).length) (lm (Zb (Int.natAbs a)))]),((((Zb (Int.natAbs a)).length:Nat):Int)==0)=true]) Qd rfl 300 rfl [.r (.tup [.bool (decide (a<0)), .sl ((Zb (Int.natAbs a)).length) (lm (Zb (Int.natAbs a)))]), .b true] (by kernel_rfl) ⟨h1,c1,trivial⟩
theorem Hj {neg:Bool} {xs:List Int} (hu:U32 xs) (hN:xs.length≤1048576):Ze Yir 73 [.agg [.bool neg, .sl xs.length (lm xs)]] (.int .i64 (Vc (rv neg xs))):=by
 have h:=Yrun73 neg xs (rv neg xs) (Q8 hu hN)
 have e:Zh2 (rv neg xs) = .int .i64 (Vc (rv neg xs)):=by
  unfold Zh2 Vc
  have hz:=Jq (rv neg xs).natAbs
  by_cases h0:rv neg xs=0
  ·rw[h0];rfl
  ·have e1:((((Zb (rv neg xs).natAbs).length:Nat):Int)==0)=false:=by rw[beq_eq_false_iff_ne];omega
   rw[e1]
   by_cases h1:rv neg xs<0
   ·simp[h1]
   ·have h2:0<rv neg xs:=by omega
    simp[h1,h2]
 rw[← e];exact h
def TWA:Ji:=TQ0
theorem Zq:Qh Yir TWA:=Qd
end Go.Proofs.Ythnnfemologhfaa

namespace Go.Proofs.Ythnnfemologhfaa
open Go.IntKind (i64 u64 u32)
open Go.Ai
set_option maxRecDepth 100000
def Ks (N:Nat) (cs:List AV) (M:Nat) (ds:List AV) (v i:Int):Zi:=(.val (.sl N cs)::(.val (.sl M ds)::(dds 2 (.val (.int .i64 v)::(.val (.int .i64 i)::(dds 35 []))))))
theorem Zog (N:Nat) (cs:List AV) (M:Nat) (ds:List AV) (v i x y:Int) (c1:(decide (i≥0))=true) (c2:(x != y)=true) (c3:(decide (x<y))=true) (n1:0≤i∧i<(N:Int)) (n2:Zx (List.drop (Int.toNat i*1) cs) 0 1 true=some (.int .u32 x)) (n3:0≤i∧i<(M:Int)) (n4:Zx (List.drop (Int.toNat i*1) ds) 0 1 true=some (.int .u32 y)) (n5:0≤i∧i<(N:Int)) (n6:Zx (List.drop (Int.toNat i*1) cs) 0 1 true=some (.int .u32 x)) (n7:0≤i∧i<(M:Int)) (n8:Zx (List.drop (Int.toNat i*1) ds) 0 1 true=some (.int .u32 y)):Za Yir E1 (Ks N cs M ds v i) .ret (Ks N cs M ds (-1) i):=Za.script (ps:=[(decide (i≥0))=true,0≤i∧i<(N:Int),Zx (List.drop (Int.toNat i*1) cs) 0 1 true=some (.int .u32 x),0≤i∧i<(M:Int),Zx (List.drop (Int.toNat i*1) ds) 0 1 true=some (.int .u32 y),(x != y)=true,0≤i∧i<(N:Int),Zx (List.drop (Int.toNat i*1) cs) 0 1 true=some (.int .u32 x),0≤i∧i<(M:Int),Zx (List.drop (Int.toNat i*1) ds) 0 1 true=some (.int .u32 y),(decide (x<y))=true]) Zq 300 [.b true, .v (.int .u32 x), .v (.int .u32 y), .b true, .v (.int .u32 x), .v (.int .u32 y), .b true] [0,1,4,5] (by kernel_rfl) ⟨c1,n1,n2,n3,n4,c2,n5,n6,n7,n8,c3,trivial⟩
theorem Zof (N:Nat) (cs:List AV) (M:Nat) (ds:List AV) (v i x y:Int) (c1:(decide (i≥0))=true) (c2:(x != y)=true) (c3:(decide (x<y))=false) (n1:0≤i∧i<(N:Int)) (n2:Zx (List.drop (Int.toNat i*1) cs) 0 1 true=some (.int .u32 x)) (n3:0≤i∧i<(M:Int)) (n4:Zx (List.drop (Int.toNat i*1) ds) 0 1 true=some (.int .u32 y)) (n5:0≤i∧i<(N:Int)) (n6:Zx (List.drop (Int.toNat i*1) cs) 0 1 true=some (.int .u32 x)) (n7:0≤i∧i<(M:Int)) (n8:Zx (List.drop (Int.toNat i*1) ds) 0 1 true=some (.int .u32 y)):Za Yir E1 (Ks N cs M ds v i) .ret (Ks N cs M ds 1 i):=Za.script (ps:=[(decide (i≥0))=true,0≤i∧i<(N:Int),Zx (List.drop (Int.toNat i*1) cs) 0 1 true=some (.int .u32 x),0≤i∧i<(M:Int),Zx (List.drop (Int.toNat i*1) ds) 0 1 true=some (.int .u32 y),(x != y)=true,0≤i∧i<(N:Int),Zx (List.drop (Int.toNat i*1) cs) 0 1 true=some (.int .u32 x),0≤i∧i<(M:Int),Zx (List.drop (Int.toNat i*1) ds) 0 1 true=some (.int .u32 y),(decide (x<y))=false]) Zq 300 [.b true, .v (.int .u32 x), .v (.int .u32 y), .b true, .v (.int .u32 x), .v (.int .u32 y), .b false] [0,1,4,5] (by kernel_rfl) ⟨c1,n1,n2,n3,n4,c2,n5,n6,n7,n8,c3,trivial⟩
theorem Zoe (N:Nat) (cs:List AV) (M:Nat) (ds:List AV) (v i x y:Int) (c1:(decide (i≥0))=true) (c2:(x != y)=false) (n1:0≤i∧i<(N:Int)) (n2:Zx (List.drop (Int.toNat i*1) cs) 0 1 true=some (.int .u32 x)) (n3:0≤i∧i<(M:Int)) (n4:Zx (List.drop (Int.toNat i*1) ds) 0 1 true=some (.int .u32 y)):Za Yir E1 (Ks N cs M ds v i) .norm (Ks N cs M ds v (i64.wrap (i-1))):=Za.script (ps:=[(decide (i≥0))=true,0≤i∧i<(N:Int),Zx (List.drop (Int.toNat i*1) cs) 0 1 true=some (.int .u32 x),0≤i∧i<(M:Int),Zx (List.drop (Int.toNat i*1) ds) 0 1 true=some (.int .u32 y),(x != y)=false]) Zq 300 [.b true, .v (.int .u32 x), .v (.int .u32 y), .b false] [0,1,4,5] (by kernel_rfl) ⟨c1,n1,n2,n3,n4,c2,trivial⟩
theorem Zod (N:Nat) (cs:List AV) (M:Nat) (ds:List AV) (v i:Int) (c1:(decide (i≥0))=false):Za Yir E1 (Ks N cs M ds v i) (.exit 0) (Ks N cs M ds v i):=Za.script (ps:=[(decide (i≥0))=false]) Zq 300 [.b false] [0,1,4,5] (by kernel_rfl) ⟨c1,trivial⟩
theorem Zix (xs ys:List Int) (hN:xs.length≤1048576) (hl:xs.length=ys.length):∀ m,m≤xs.length →
  (Fq xs ys m=0∧Za Yir (.loop E1) (Ks xs.length (lm xs) ys.length (lm ys) 0 ((m:Int)-1)) (.exit 0) (Ks xs.length (lm xs) ys.length (lm ys) 0 (-1))) ∨
  (Fq xs ys m ≠ 0∧∃ j,Za Yir (.loop E1) (Ks xs.length (lm xs) ys.length (lm ys) 0 ((m:Int)-1)) .ret (Ks xs.length (lm xs) ys.length (lm ys) (Fq xs ys m) j)):=by
 intro m
 induction m with
 | zero =>
  intro _
  left
  refine⟨rfl,?_⟩
  exact Za.loop_out (Zod xs.length (lm xs) ys.length (lm ys) 0 (((0:Nat):Int)-1) (by simp)) (by intro e;cases e)
 | succ m ih =>
  intro hm
  have e0:((m+1:Nat):Int)-1=(m:Int):=by omega
  have e1:i64.wrap ((m:Int)-1)=(m:Int)-1:=w64 (by omega) (by omega)
  have hx:=J6 (xs:=xs) (i:=m) (by omega)
  have hy:=J6 (xs:=ys) (i:=m) (by omega)
  rw[e0]
  simp only[Fq]
  by_cases h:xs.getD m 0=ys.getD m 0
  ·rw[if_pos h]
   have h1:=Zoe xs.length (lm xs) ys.length (lm ys) 0 (m:Int) (xs.getD m 0) (ys.getD m 0) (by simp) (by simpa using h) (by omega) (by rw[Int.toNat_natCast];exact hx) (by omega) (by rw[Int.toNat_natCast];exact hy)
   rw[e1] at h1
   rcases ih (by omega) with ⟨k1,k2⟩ | ⟨k1,j,k2⟩
   ·exact .inl ⟨k1,Za.loop h1 k2⟩
   ·exact .inr ⟨k1,j,Za.loop h1 k2⟩
  ·rw[if_neg h]
   right
   by_cases hlt:xs.getD m 0<ys.getD m 0
   ·rw[if_pos hlt]
    refine⟨by decide,(m:Int),?_⟩
    exact Za.loop_out (Zog xs.length (lm xs) ys.length (lm ys) 0 (m:Int) (xs.getD m 0) (ys.getD m 0) (by simp) (by simpa using h) (by simpa using hlt) (by omega) (by rw[Int.toNat_natCast];exact hx) (by omega) (by rw[Int.toNat_natCast];exact hy) (by omega) (by rw[Int.toNat_natCast];exact hx) (by omega) (by rw[Int.toNat_natCast];exact hy)) (by intro e;cases e)
   ·rw[if_neg hlt]
    refine⟨by decide,(m:Int),?_⟩
    exact Za.loop_out (Zof xs.length (lm xs) ys.length (lm ys) 0 (m:Int) (xs.getD m 0) (ys.getD m 0) (by simp) (by simpa using h) (by simpa using hlt) (by omega) (by rw[Int.toNat_natCast];exact hx) (by omega) (by rw[Int.toNat_natCast];exact hy) (by omega) (by rw[Int.toNat_natCast];exact hx) (by omega) (by rw[Int.toNat_natCast];exact hy)) (by intro e;cases e)
theorem T6 (xs ys:List Int) (h:((xs.length:Int) != (ys.length:Int))=true) (h2:(decide ((xs.length:Int)<(ys.length:Int)))=true):Ze Yir 150 [.sl xs.length (lm xs), .sl ys.length (lm ys)] (.int .i64 (-1)):=Ze.script (ps:=[((xs.length:Int) != (ys.length:Int))=true,(decide ((xs.length:Int)<(ys.length:Int)))=true]) Zq rfl 300 rfl [.b true, .b true] (by kernel_rfl) ⟨h,h2,trivial⟩
theorem T7 (xs ys:List Int) (h:((xs.length:Int) != (ys.length:Int))=true) (h2:(decide ((xs.length:Int)<(ys.length:Int)))=false):Ze Yir 150 [.sl xs.length (lm xs), .sl ys.length (lm ys)] (.int .i64 1):=Ze.script (ps:=[((xs.length:Int) != (ys.length:Int))=true,(decide ((xs.length:Int)<(ys.length:Int)))=false]) Zq rfl 300 rfl [.b true, .b false] (by kernel_rfl) ⟨h,h2,trivial⟩
theorem T8 (xs ys:List Int) (h:((xs.length:Int) != (ys.length:Int))=false) (hl:Za Yir (.loop E1) (Ks xs.length (lm xs) ys.length (lm ys) 0 (i64.wrap ((xs.length:Int)-1))) (.exit 0) (Ks xs.length (lm xs) ys.length (lm ys) 0 (-1))):Ze Yir 150 [.sl xs.length (lm xs), .sl ys.length (lm ys)] (.int .i64 0):=Ze.of_bodyW (fn:=Zaf) (s:=(.val (.sl xs.length (lm xs))::(.val (.sl ys.length (lm ys))::(dds 2 (.val (.int .i64 0)::(.val (.int .i64 (-1))::(dds 35 []))))))) (ex := .ret) rfl rfl (Za.seq (Za.script (t:=(vl xs::(vl ys::(dds 2 (vi 0::(dds 36 [])))))) (ps:=[]) Zq 300 [] [0,1,4] (by kernel_rfl) trivial) (Za.seq (Za.script (t:=(vl xs::(vl ys::(dds 2 (vi 0::(dds 1 (vl xs::(vi (xs.length:Int)::(vl ys::(vi (ys.length:Int)::(.val (.bool ((xs.length:Int) != (ys.length:Int)))::(dds 30 [])))))))))))) (ps:=[((xs.length:Int) != (ys.length:Int))=false]) Zq 300 [.b false] [0,1,4,6,7,8,9,10] (by kernel_rfl) ⟨h,trivial⟩) (Za.seq (Za.seq (Za.script (t:=(vl xs::(vl ys::(dds 2 (vi 0::(vi (i64.wrap ((xs.length:Int)-1))::(dds 35 []))))))) (ps:=[]) Zq 300 [] [0,1,4,5] (by kernel_rfl) trivial) (Za.block hl)) (Za.script (t:=(vl xs::(vl ys::(dds 2 (vi 0::(vi (-1)::(dds 35 []))))))) (ex := .ret) (ps:=[]) Zq 300 [] [0,1,4,5] (by kernel_rfl) trivial)))) (by intro i e;cases e) rfl
theorem T5 (xs ys:List Int) (r j:Int) (h:((xs.length:Int) != (ys.length:Int))=false) (hl:Za Yir (.loop E1) (Ks xs.length (lm xs) ys.length (lm ys) 0 (i64.wrap ((xs.length:Int)-1))) .ret (Ks xs.length (lm xs) ys.length (lm ys) r j)):Ze Yir 150 [.sl xs.length (lm xs), .sl ys.length (lm ys)] (.int .i64 r):=Ze.of_bodyW (fn:=Zaf) (s:=(.val (.sl xs.length (lm xs))::(.val (.sl ys.length (lm ys))::(dds 2 (.val (.int .i64 r)::(.val (.int .i64 j)::(dds 35 []))))))) (ex := .ret) rfl rfl (Za.seq (Za.script (t:=(vl xs::(vl ys::(dds 2 (vi 0::(dds 36 [])))))) (ps:=[]) Zq 300 [] [0,1,4] (by kernel_rfl) trivial) (Za.seq (Za.script (t:=(vl xs::(vl ys::(dds 2 (vi 0::(dds 1 (vl xs::(vi (xs.length:Int)::(vl ys::(vi (ys.length:Int)::(.val (.bool ((xs.length:Int) != (ys.length:Int)))::(dds 30 [])))))))))))) (ps:=[((xs.length:Int) != (ys.length:Int))=false]) Zq 300 [.b false] [0,1,4,6,7,8,9,10] (by kernel_rfl) ⟨h,trivial⟩) (Za.seq_out (Za.seq (Za.script (t:=(vl xs::(vl ys::(dds 2 (vi 0::(vi (i64.wrap ((xs.length:Int)-1))::(dds 35 []))))))) (ps:=[]) Zq 300 [] [0,1,4,5] (by kernel_rfl) trivial) (Za.block_ret hl)) (by intro e;cases e)))) (by intro i e;cases e) rfl
theorem Vh {xs ys:List Int} (hx:Wc xs) (hy:Wc ys) (hN:xs.length≤1048576):Ze Yir 150 [.sl xs.length (lm xs), .sl ys.length (lm ys)] (.int .i64 (Ux (Zo xs) (Zo ys))):=by
 by_cases hl:xs.length=ys.length
 ·have h:((xs.length:Int) != (ys.length:Int))=false:=by rw[hl];simp
  have hg:=R5 hx.1 hy.1 xs.length (Nat.le_refl _) (by omega)
  rw[List.take_length,hl,List.take_length,← hl] at hg
  have e1:i64.wrap ((xs.length:Int)-1)=(xs.length:Int)-1:=w64 (by omega) (by omega)
  rcases Zix xs ys hN hl xs.length (Nat.le_refl _) with ⟨k1,k2⟩ | ⟨k1,j,k2⟩
  ·rw[← hg,k1]
   exact T8 xs ys h (by rw[e1];exact k2)
  ·rw[← hg]
   exact T5 xs ys _ j h (by rw[e1];exact k2)
 ·have h:((xs.length:Int) != (ys.length:Int))=true:=by simp;omega
  by_cases hlt:xs.length<ys.length
  ·have e:Ux (Zo xs) (Zo ys) = -1:=by unfold Ux;rw[if_pos (Km hx hy hlt)]
   rw[e]
   exact T6 xs ys h (by simp;omega)
  ·have:=Km hy hx (by omega)
   have e:Ux (Zo xs) (Zo ys)=1:=by unfold Ux;rw[if_neg (by omega),if_pos this]
   rw[e]
   exact T7 xs ys h (by simp;omega)
def Gd (la:Nat) (xa:List AV) (lb:Nat) (xb:List AV) (n:Nat) (cs:List AV) (c:Int) (m:Int) (i:Int):Zi:=(.val (.sl la xa)::(.val (.sl lb xb)::(dds 2 (.own 1 0 []::(.own 1 n cs::(.val (.int .u64 c)::(dds 14 (.val (.int .i64 m)::(.val (.int .i64 i)::(dds 35 []))))))))))
theorem Zn8 (la:Nat) (xa:List AV) (lb:Nat) (xb:List AV) (n:Nat) (cs:List AV) (c:Int) (m:Int) (i:Int) (ds:List AV) (x y:Int) (c1:(decide (i<m))=true) (c2:(decide (i<(lb:Int)))=true) (n1:0≤i∧i<(la:Int)) (n2:Zx (List.drop (Int.toNat i*1) xa) 0 1 true=some (.int .u32 x)) (n3:0≤i∧i<(lb:Int)) (n4:Zx (List.drop (Int.toNat i*1) xb) 0 1 true=some (.int .u32 y)) (n5:0≤i∧i<(n:Int)) (n6:X4 cs (Int.toNat i*1) [.int .u32 (u32.wrap (u64.wrap ((u64.wrap ((u64.wrap x)+c))+(u64.wrap y))))]=some ds):Za Yir Mt (Gd la xa lb xb n cs c m i) .norm (Gd la xa lb xb n ds (Int.fdiv (u64.wrap ((u64.wrap ((u64.wrap x)+c))+(u64.wrap y))) (2^(min (Int.toNat 32) (IntKind.bits .u64)))) m (i64.wrap (i+1))):=Za.script (ps:=[(decide (i<m))=true,0≤i∧i<(la:Int),Zx (List.drop (Int.toNat i*1) xa) 0 1 true=some (.int .u32 x),(decide (i<(lb:Int)))=true,0≤i∧i<(lb:Int),Zx (List.drop (Int.toNat i*1) xb) 0 1 true=some (.int .u32 y),¬ (32:Int)<0,0≤i∧i<(n:Int),X4 cs (Int.toNat i*1) [.int .u32 (u32.wrap (u64.wrap ((u64.wrap ((u64.wrap x)+c))+(u64.wrap y))))]=some ds]) Zq 300 [.b true, .v (.int .u32 x), .b true, .v (.int .u32 y), .l ds] [0,1,4,5,6,21,22] (by kernel_rfl) ⟨c1,n1,n2,c2,n3,n4,(by decide),n5,n6,trivial⟩
theorem Zn7 (la:Nat) (xa:List AV) (lb:Nat) (xb:List AV) (n:Nat) (cs:List AV) (c:Int) (m:Int) (i:Int) (ds:List AV) (x:Int) (c1:(decide (i<m))=true) (c2:(decide (i<(lb:Int)))=false) (n1:0≤i∧i<(la:Int)) (n2:Zx (List.drop (Int.toNat i*1) xa) 0 1 true=some (.int .u32 x)) (n3:0≤i∧i<(n:Int)) (n4:X4 cs (Int.toNat i*1) [.int .u32 (u32.wrap (u64.wrap ((u64.wrap x)+c)))]=some ds):Za Yir Mt (Gd la xa lb xb n cs c m i) .norm (Gd la xa lb xb n ds (Int.fdiv (u64.wrap ((u64.wrap x)+c)) (2^(min (Int.toNat 32) (IntKind.bits .u64)))) m (i64.wrap (i+1))):=Za.script (ps:=[(decide (i<m))=true,0≤i∧i<(la:Int),Zx (List.drop (Int.toNat i*1) xa) 0 1 true=some (.int .u32 x),(decide (i<(lb:Int)))=false,¬ (32:Int)<0,0≤i∧i<(n:Int),X4 cs (Int.toNat i*1) [.int .u32 (u32.wrap (u64.wrap ((u64.wrap x)+c)))]=some ds]) Zq 300 [.b true, .v (.int .u32 x), .b false, .l ds] [0,1,4,5,6,21,22] (by kernel_rfl) ⟨c1,n1,n2,c2,(by decide),n3,n4,trivial⟩
theorem Zn6 (la:Nat) (xa:List AV) (lb:Nat) (xb:List AV) (n:Nat) (cs:List AV) (c:Int) (m:Int) (i:Int) (c1:(decide (i<m))=false):Za Yir Mt (Gd la xa lb xb n cs c m i) (.exit 0) (Gd la xa lb xb n cs c m i):=Za.script (ps:=[(decide (i<m))=false]) Zq 300 [.b false] [0,1,4,5,6,21,22] (by kernel_rfl) ⟨c1,trivial⟩
theorem Ziu (xs ys:List Int) (hx:U32 xs) (hy:U32 ys) (n:Nat) (hn:n≤1048576) (hxn:xs.length≤n):∀ (r i:Nat) (o:List Int) (c:Int),r+i=xs.length→o.length=n→U32 o→0≤c∧c≤1 →
  Za Yir (.loop Mt) (Gd xs.length (lm xs) ys.length (lm ys) n (lm o) c (xs.length:Int) (i:Int)) (.exit 0)
   (Gd xs.length (lm xs) ys.length (lm ys) n (lm (Gb xs ys r i o c).1) (Gb xs ys r i o c).2 (xs.length:Int) (xs.length:Int)):=by
 intro r
 induction r with
 | zero =>
  intro i o c hi _ _ _
  have hi':i=xs.length:=by omega
  subst hi'
  exact Za.loop_out (Zn6 xs.length (lm xs) ys.length (lm ys) n (lm o) c (xs.length:Int) (xs.length:Int) (by simp)) (by intro e;cases e)
 | succ r ih =>
  intro i o c hi hlo hu hc
  have h1:=Zz hx i
  have h2:=Zz hy i
  have ei:i64.wrap ((i:Int)+1)=((i+1:Nat):Int):=by rw[w64 (by omega) (by omega)];omega
  have hxi:=J6 (xs:=xs) (i:=i) (by omega)
  have hst:=Hf (xs:=o) (i:=i) (v:=(xs.getD i 0+c+ys.getD i 0) % 4294967296) (by omega)
  by_cases hy2:i<ys.length
  ·have hyi:=J6 (xs:=ys) (i:=i) hy2
   have eW:u32.wrap (u64.wrap (u64.wrap (u64.wrap (xs.getD i 0)+c)+u64.wrap (ys.getD i 0)))=(xs.getD i 0+c+ys.getD i 0) % 4294967296:=by rw[Bu,Jm,Jm,Jm,Jm];omega
   have eC:Int.fdiv (u64.wrap (u64.wrap (u64.wrap (xs.getD i 0)+c)+u64.wrap (ys.getD i 0))) (2^(min (Int.toNat 32) (IntKind.bits .u64)))=((xs.getD i 0+c+ys.getD i 0) / 4294967296):=by
    show Int.fdiv _ 4294967296=_
    rw[Int.fdiv_eq_ediv_of_nonneg _ (by omega),Jm,Jm,Jm,Jm];omega
   have k:=Zn8 xs.length (lm xs) ys.length (lm ys) n (lm o) c (xs.length:Int) (i:Int) (lm (o.set i ((xs.getD i 0+c+ys.getD i 0) % 4294967296))) (xs.getD i 0) (ys.getD i 0)
    (by simp;omega) (by simp;omega) (by omega) (by rw[Int.toNat_natCast];exact hxi) (by omega) (by rw[Int.toNat_natCast];exact hyi) (by omega) (by rw[Int.toNat_natCast,eW];exact hst)
   rw[eC,ei] at k
   exact Za.loop k (ih (i+1) _ _ (by omega) (by simpa using hlo) (Q7 hu (by omega)) (by omega))
  ·have hy0:=Qt (xs:=ys) (i:=i) (by omega)
   have eW:u32.wrap (u64.wrap (u64.wrap (xs.getD i 0)+c))=(xs.getD i 0+c+ys.getD i 0) % 4294967296:=by rw[Bu,Jm,Jm];omega
   have eC:Int.fdiv (u64.wrap (u64.wrap (xs.getD i 0)+c)) (2^(min (Int.toNat 32) (IntKind.bits .u64)))=((xs.getD i 0+c+ys.getD i 0) / 4294967296):=by
    show Int.fdiv _ 4294967296=_
    rw[Int.fdiv_eq_ediv_of_nonneg _ (by omega),Jm,Jm];omega
   have k:=Zn7 xs.length (lm xs) ys.length (lm ys) n (lm o) c (xs.length:Int) (i:Int) (lm (o.set i ((xs.getD i 0+c+ys.getD i 0) % 4294967296))) (xs.getD i 0)
    (by simp;omega) (by simp;omega) (by omega) (by rw[Int.toNat_natCast];exact hxi) (by omega) (by rw[Int.toNat_natCast,eW];exact hst)
   rw[eC,ei] at k
   exact Za.loop k (ih (i+1) _ _ (by omega) (by simpa using hlo) (Q7 hu (by omega)) (by omega))
def B6 (la:Nat) (xa:List AV) (lb:Nat) (xb:List AV) (n:Nat) (cs:List AV) (c:Int) (m:Int) (i:Int):Zi:=(.val (.sl la xa)::(.val (.sl lb xb)::(dds 2 (.own 1 0 []::(.own 1 n cs::(.val (.int .u64 c)::(dds 6 (.val (.int .i64 m)::(.val (.int .i64 i)::(dds 29 []))))))))))
theorem Zn5 (la:Nat) (xa:List AV) (lb:Nat) (xb:List AV) (n:Nat) (cs:List AV) (c:Int) (m:Int) (i:Int) (ds:List AV) (x y:Int) (c1:(decide (i<m))=true) (c2:(decide (i<(lb:Int)))=true) (n1:0≤i∧i<(la:Int)) (n2:Zx (List.drop (Int.toNat i*1) xa) 0 1 true=some (.int .u32 x)) (n3:0≤i∧i<(lb:Int)) (n4:Zx (List.drop (Int.toNat i*1) xb) 0 1 true=some (.int .u32 y)) (n5:0≤i∧i<(n:Int)) (n6:X4 cs (Int.toNat i*1) [.int .u32 (u32.wrap (u64.wrap ((u64.wrap ((u64.wrap x)-c))-(u64.wrap y))))]=some ds):Za Yir Zam (B6 la xa lb xb n cs c m i) .norm (B6 la xa lb xb n ds (Int.fdiv (u64.wrap ((u64.wrap ((u64.wrap x)-c))-(u64.wrap y))) (2^(min (Int.toNat 63) (IntKind.bits .u64)))) m (i64.wrap (i+1))):=Za.script (ps:=[(decide (i<m))=true,0≤i∧i<(la:Int),Zx (List.drop (Int.toNat i*1) xa) 0 1 true=some (.int .u32 x),(decide (i<(lb:Int)))=true,0≤i∧i<(lb:Int),Zx (List.drop (Int.toNat i*1) xb) 0 1 true=some (.int .u32 y),¬ (63:Int)<0,0≤i∧i<(n:Int),X4 cs (Int.toNat i*1) [.int .u32 (u32.wrap (u64.wrap ((u64.wrap ((u64.wrap x)-c))-(u64.wrap y))))]=some ds]) Zq 300 [.b true, .v (.int .u32 x), .b true, .v (.int .u32 y), .l ds] [0,1,4,5,6,13,14] (by kernel_rfl) ⟨c1,n1,n2,c2,n3,n4,(by decide),n5,n6,trivial⟩
theorem Zn4 (la:Nat) (xa:List AV) (lb:Nat) (xb:List AV) (n:Nat) (cs:List AV) (c:Int) (m:Int) (i:Int) (ds:List AV) (x:Int) (c1:(decide (i<m))=true) (c2:(decide (i<(lb:Int)))=false) (n1:0≤i∧i<(la:Int)) (n2:Zx (List.drop (Int.toNat i*1) xa) 0 1 true=some (.int .u32 x)) (n3:0≤i∧i<(n:Int)) (n4:X4 cs (Int.toNat i*1) [.int .u32 (u32.wrap (u64.wrap ((u64.wrap x)-c)))]=some ds):Za Yir Zam (B6 la xa lb xb n cs c m i) .norm (B6 la xa lb xb n ds (Int.fdiv (u64.wrap ((u64.wrap x)-c)) (2^(min (Int.toNat 63) (IntKind.bits .u64)))) m (i64.wrap (i+1))):=Za.script (ps:=[(decide (i<m))=true,0≤i∧i<(la:Int),Zx (List.drop (Int.toNat i*1) xa) 0 1 true=some (.int .u32 x),(decide (i<(lb:Int)))=false,¬ (63:Int)<0,0≤i∧i<(n:Int),X4 cs (Int.toNat i*1) [.int .u32 (u32.wrap (u64.wrap ((u64.wrap x)-c)))]=some ds]) Zq 300 [.b true, .v (.int .u32 x), .b false, .l ds] [0,1,4,5,6,13,14] (by kernel_rfl) ⟨c1,n1,n2,c2,(by decide),n3,n4,trivial⟩
theorem Zn3 (la:Nat) (xa:List AV) (lb:Nat) (xb:List AV) (n:Nat) (cs:List AV) (c:Int) (m:Int) (i:Int) (c1:(decide (i<m))=false):Za Yir Zam (B6 la xa lb xb n cs c m i) (.exit 0) (B6 la xa lb xb n cs c m i):=Za.script (ps:=[(decide (i<m))=false]) Zq 300 [.b false] [0,1,4,5,6,13,14] (by kernel_rfl) ⟨c1,trivial⟩
theorem Zit (xs ys:List Int) (hx:U32 xs) (hy:U32 ys) (n:Nat) (hn:n≤1048576) (hxn:xs.length≤n):∀ (r i:Nat) (o:List Int) (c:Int),r+i=xs.length→o.length=n→U32 o→0≤c∧c≤1 →
  Za Yir (.loop Zam) (B6 xs.length (lm xs) ys.length (lm ys) n (lm o) c (xs.length:Int) (i:Int)) (.exit 0)
   (B6 xs.length (lm xs) ys.length (lm ys) n (lm (Gh xs ys r i o c).1) (Gh xs ys r i o c).2 (xs.length:Int) (xs.length:Int)):=by
 intro r
 induction r with
 | zero =>
  intro i o c hi _ _ _
  have hi':i=xs.length:=by omega
  subst hi'
  exact Za.loop_out (Zn3 xs.length (lm xs) ys.length (lm ys) n (lm o) c (xs.length:Int) (xs.length:Int) (by simp)) (by intro e;cases e)
 | succ r ih =>
  intro i o c hi hlo hu hc
  have h1:=Zz hx i
  have h2:=Zz hy i
  have ei:i64.wrap ((i:Int)+1)=((i+1:Nat):Int):=by rw[w64 (by omega) (by omega)];omega
  have hxi:=J6 (xs:=xs) (i:=i) (by omega)
  have hst:=Hf (xs:=o) (i:=i) (v:=(xs.getD i 0-c-ys.getD i 0) % 4294967296) (by omega)
  by_cases hy2:i<ys.length
  ·have hyi:=J6 (xs:=ys) (i:=i) hy2
   have eW:u32.wrap (u64.wrap (u64.wrap (u64.wrap (xs.getD i 0)-c)-u64.wrap (ys.getD i 0)))=(xs.getD i 0-c-ys.getD i 0) % 4294967296:=by rw[Bu,Jm,Jm,Jm,Jm];omega
   have eC:Int.fdiv (u64.wrap (u64.wrap (u64.wrap (xs.getD i 0)-c)-u64.wrap (ys.getD i 0))) (2^(min (Int.toNat 63) (IntKind.bits .u64)))=(-((xs.getD i 0-c-ys.getD i 0) / 4294967296)):=by
    show Int.fdiv _ 9223372036854775808=_
    rw[Int.fdiv_eq_ediv_of_nonneg _ (by omega),Jm,Jm,Jm,Jm];omega
   have k:=Zn5 xs.length (lm xs) ys.length (lm ys) n (lm o) c (xs.length:Int) (i:Int) (lm (o.set i ((xs.getD i 0-c-ys.getD i 0) % 4294967296))) (xs.getD i 0) (ys.getD i 0)
    (by simp;omega) (by simp;omega) (by omega) (by rw[Int.toNat_natCast];exact hxi) (by omega) (by rw[Int.toNat_natCast];exact hyi) (by omega) (by rw[Int.toNat_natCast,eW];exact hst)
   rw[eC,ei] at k
   exact Za.loop k (ih (i+1) _ _ (by omega) (by simpa using hlo) (Q7 hu (by omega)) (by omega))
  ·have hy0:=Qt (xs:=ys) (i:=i) (by omega)
   have eW:u32.wrap (u64.wrap (u64.wrap (xs.getD i 0)-c))=(xs.getD i 0-c-ys.getD i 0) % 4294967296:=by rw[Bu,Jm,Jm];omega
   have eC:Int.fdiv (u64.wrap (u64.wrap (xs.getD i 0)-c)) (2^(min (Int.toNat 63) (IntKind.bits .u64)))=(-((xs.getD i 0-c-ys.getD i 0) / 4294967296)):=by
    show Int.fdiv _ 9223372036854775808=_
    rw[Int.fdiv_eq_ediv_of_nonneg _ (by omega),Jm,Jm];omega
   have k:=Zn4 xs.length (lm xs) ys.length (lm ys) n (lm o) c (xs.length:Int) (i:Int) (lm (o.set i ((xs.getD i 0-c-ys.getD i 0) % 4294967296))) (xs.getD i 0)
    (by simp;omega) (by simp;omega) (by omega) (by rw[Int.toNat_natCast];exact hxi) (by omega) (by rw[Int.toNat_natCast,eW];exact hst)
   rw[eC,ei] at k
   exact Za.loop k (ih (i+1) _ _ (by omega) (by simpa using hlo) (Q7 hu (by omega)) (by omega))
theorem T3 (xs ys o:List Int) (c:Int) (h:(decide ((xs.length:Int)<(ys.length:Int)))=true) (hmk:0≤i64.wrap ((ys.length:Int)+1)∧i64.wrap ((ys.length:Int)+1)≤1048576) (hl:Za Yir (.loop Mt) (Gd ys.length (lm ys) xs.length (lm xs) (Int.toNat (i64.wrap ((ys.length:Int)+1))) (Qy [.int .u32 0] (Int.toNat (i64.wrap ((ys.length:Int)+1)))) 0 (ys.length:Int) 0) (.exit 0) (Gd ys.length (lm ys) xs.length (lm xs) (Int.toNat (i64.wrap ((ys.length:Int)+1))) (lm o) c (ys.length:Int) (ys.length:Int))) (hix:0≤(ys.length:Int)∧(ys.length:Int)<(((Int.toNat (i64.wrap ((ys.length:Int)+1))):Nat):Int)) (hst:X4 (lm o) (Int.toNat (ys.length:Int)*1) [.int .u32 (u32.wrap c)]=some (lm (o.set ys.length c))):Ze Yir 156 [.sl xs.length (lm xs), .sl ys.length (lm ys)] (.fresh 1 (Int.toNat (i64.wrap ((ys.length:Int)+1))) (lm (o.set ys.length c))):=Ze.of_bodyW (fn:=Zae) (s:=(.val (.sl ys.length (lm ys))::(.val (.sl xs.length (lm xs))::(dds 2 (.own 1 (Int.toNat (i64.wrap ((ys.length:Int)+1))) (lm (o.set ys.length c))::(dds 1 (.val (.int .u64 c)::(dds 14 (.val (.int .i64 (ys.length:Int))::(.val (.int .i64 (ys.length:Int))::(dds 28 (.dup 5::(.val (.sl ys.length (lm ys))::(.val (.int .i64 (ys.length:Int))::(.val (.int .u64 c)::(.val (.int .u32 (u32.wrap c))::(.ptr 5 (Int.toNat (ys.length:Int)*1)::(dds 1 [])))))))))))))))))) (ex := .ret) rfl rfl (Za.seq (Za.script (t:=(vl xs::(vl ys::(dds 2 (.own 1 0 []::(dds 53 [])))))) (ps:=[]) Zq 300 [] [0,1,4] (by kernel_rfl) trivial) (Za.seq (Za.script (t:=(vl ys::(vl xs::(dds 2 (.own 1 0 []::(dds 4 (vl xs::(vi (xs.length:Int)::(vl ys::(vi (ys.length:Int)::(.val (.bool (decide ((xs.length:Int)<(ys.length:Int))))::(vl ys::(vl xs::(dds 42 [])))))))))))))) (ps:=[(decide ((xs.length:Int)<(ys.length:Int)))=true]) Zq 300 [.b true] [0,1,4,9,10,11,12,13,14,15] (by kernel_rfl) ⟨h,trivial⟩) (Za.seq (Za.script (t:=(vl ys::(vl xs::(dds 2 (.own 1 0 []::(.own 1 (Int.toNat (i64.wrap ((ys.length:Int)+1))) (Qy [.int .u32 0] (Int.toNat (i64.wrap ((ys.length:Int)+1))))::(dds 3 (vl xs::(vi (xs.length:Int)::(vl ys::(vi (ys.length:Int)::(.val (.bool (decide ((xs.length:Int)<(ys.length:Int))))::(vl ys::(vl xs::(vl ys::(vi (ys.length:Int)::(vi (i64.wrap ((ys.length:Int)+1))::(dds 39 [])))))))))))))))))) (ps:=[0≤(i64.wrap ((ys.length:Int)+1))∧(i64.wrap ((ys.length:Int)+1))≤1048576]) Zq 300 [] [0,1,4,5,9,10,11,12,13,14,15,16,17,18] (by kernel_rfl) ⟨hmk,trivial⟩) (Za.seq (Za.script (t:=(vl ys::(vl xs::(dds 2 (.own 1 0 []::(.own 1 (Int.toNat (i64.wrap ((ys.length:Int)+1))) (Qy [.int .u32 0] (Int.toNat (i64.wrap ((ys.length:Int)+1))))::(.val (.int .u64 0)::(dds 2 (vl xs::(vi (xs.length:Int)::(vl ys::(vi (ys.length:Int)::(.val (.bool (decide ((xs.length:Int)<(ys.length:Int))))::(vl ys::(vl xs::(vl ys::(vi (ys.length:Int)::(vi (i64.wrap ((ys.length:Int)+1))::(dds 39 []))))))))))))))))))) (ps:=[]) Zq 300 [] [0,1,4,5,6,9,10,11,12,13,14,15,16,17,18] (by kernel_rfl) trivial) (Za.seq (Za.seq (Za.script (t:=(vl ys::(vl xs::(dds 2 (.own 1 0 []::(.own 1 (Int.toNat (i64.wrap ((ys.length:Int)+1))) (Qy [.int .u32 0] (Int.toNat (i64.wrap ((ys.length:Int)+1))))::(.val (.int .u64 0)::(dds 14 (vi (ys.length:Int)::(vi 0::(dds 35 []))))))))))) (ps:=[]) Zq 300 [] [0,1,4,5,6,21,22] (by kernel_rfl) trivial) (Za.block hl)) (Za.script (t:=(vl ys::(vl xs::(dds 2 (.own 1 (Int.toNat (i64.wrap ((ys.length:Int)+1))) (lm (o.set ys.length c))::(dds 1 (.val (.int .u64 c)::(dds 14 (vi (ys.length:Int)::(vi (ys.length:Int)::(dds 28 (.dup 5::(vl ys::(vi (ys.length:Int)::(.val (.int .u64 c)::(.val (.int .u32 (u32.wrap c))::(.ptr 5 (Int.toNat (ys.length:Int)*1)::(dds 1 [])))))))))))))))))) (ex := .ret) (ps:=[0≤(ys.length:Int)∧(ys.length:Int)<(((Int.toNat (i64.wrap ((ys.length:Int)+1))):Nat):Int),X4 (lm o) (Int.toNat (ys.length:Int)*1) [.int .u32 (u32.wrap c)]=some (lm (o.set ys.length c))]) Zq 300 [.l (lm (o.set ys.length c))] [0,1,4,6,21,22,51,52,53,54,55,56] (by kernel_rfl) ⟨hix,hst,trivial⟩)))))) (by intro i e;cases e) rfl
theorem T4 (xs ys o:List Int) (c:Int) (h:(decide ((xs.length:Int)<(ys.length:Int)))=false) (hmk:0≤i64.wrap ((xs.length:Int)+1)∧i64.wrap ((xs.length:Int)+1)≤1048576) (hl:Za Yir (.loop Mt) (Gd xs.length (lm xs) ys.length (lm ys) (Int.toNat (i64.wrap ((xs.length:Int)+1))) (Qy [.int .u32 0] (Int.toNat (i64.wrap ((xs.length:Int)+1)))) 0 (xs.length:Int) 0) (.exit 0) (Gd xs.length (lm xs) ys.length (lm ys) (Int.toNat (i64.wrap ((xs.length:Int)+1))) (lm o) c (xs.length:Int) (xs.length:Int))) (hix:0≤(xs.length:Int)∧(xs.length:Int)<(((Int.toNat (i64.wrap ((xs.length:Int)+1))):Nat):Int)) (hst:X4 (lm o) (Int.toNat (xs.length:Int)*1) [.int .u32 (u32.wrap c)]=some (lm (o.set xs.length c))):Ze Yir 156 [.sl xs.length (lm xs), .sl ys.length (lm ys)] (.fresh 1 (Int.toNat (i64.wrap ((xs.length:Int)+1))) (lm (o.set xs.length c))):=Ze.of_bodyW (fn:=Zae) (s:=(.val (.sl xs.length (lm xs))::(.val (.sl ys.length (lm ys))::(dds 2 (.own 1 (Int.toNat (i64.wrap ((xs.length:Int)+1))) (lm (o.set xs.length c))::(dds 1 (.val (.int .u64 c)::(dds 14 (.val (.int .i64 (xs.length:Int))::(.val (.int .i64 (xs.length:Int))::(dds 28 (.dup 5::(.val (.sl xs.length (lm xs))::(.val (.int .i64 (xs.length:Int))::(.val (.int .u64 c)::(.val (.int .u32 (u32.wrap c))::(.ptr 5 (Int.toNat (xs.length:Int)*1)::(dds 1 [])))))))))))))))))) (ex := .ret) rfl rfl (Za.seq (Za.script (t:=(vl xs::(vl ys::(dds 2 (.own 1 0 []::(dds 53 [])))))) (ps:=[]) Zq 300 [] [0,1,4] (by kernel_rfl) trivial) (Za.seq (Za.script (t:=(vl xs::(vl ys::(dds 2 (.own 1 0 []::(dds 4 (vl xs::(vi (xs.length:Int)::(vl ys::(vi (ys.length:Int)::(.val (.bool (decide ((xs.length:Int)<(ys.length:Int))))::(dds 44 [])))))))))))) (ps:=[(decide ((xs.length:Int)<(ys.length:Int)))=false]) Zq 300 [.b false] [0,1,4,9,10,11,12,13] (by kernel_rfl) ⟨h,trivial⟩) (Za.seq (Za.script (t:=(vl xs::(vl ys::(dds 2 (.own 1 0 []::(.own 1 (Int.toNat (i64.wrap ((xs.length:Int)+1))) (Qy [.int .u32 0] (Int.toNat (i64.wrap ((xs.length:Int)+1))))::(dds 3 (vl xs::(vi (xs.length:Int)::(vl ys::(vi (ys.length:Int)::(.val (.bool (decide ((xs.length:Int)<(ys.length:Int))))::(dds 2 (vl xs::(vi (xs.length:Int)::(vi (i64.wrap ((xs.length:Int)+1))::(dds 39 []))))))))))))))))) (ps:=[0≤(i64.wrap ((xs.length:Int)+1))∧(i64.wrap ((xs.length:Int)+1))≤1048576]) Zq 300 [] [0,1,4,5,9,10,11,12,13,16,17,18] (by kernel_rfl) ⟨hmk,trivial⟩) (Za.seq (Za.script (t:=(vl xs::(vl ys::(dds 2 (.own 1 0 []::(.own 1 (Int.toNat (i64.wrap ((xs.length:Int)+1))) (Qy [.int .u32 0] (Int.toNat (i64.wrap ((xs.length:Int)+1))))::(.val (.int .u64 0)::(dds 2 (vl xs::(vi (xs.length:Int)::(vl ys::(vi (ys.length:Int)::(.val (.bool (decide ((xs.length:Int)<(ys.length:Int))))::(dds 2 (vl xs::(vi (xs.length:Int)::(vi (i64.wrap ((xs.length:Int)+1))::(dds 39 [])))))))))))))))))) (ps:=[]) Zq 300 [] [0,1,4,5,6,9,10,11,12,13,16,17,18] (by kernel_rfl) trivial) (Za.seq (Za.seq (Za.script (t:=(vl xs::(vl ys::(dds 2 (.own 1 0 []::(.own 1 (Int.toNat (i64.wrap ((xs.length:Int)+1))) (Qy [.int .u32 0] (Int.toNat (i64.wrap ((xs.length:Int)+1))))::(.val (.int .u64 0)::(dds 14 (vi (xs.length:Int)::(vi 0::(dds 35 []))))))))))) (ps:=[]) Zq 300 [] [0,1,4,5,6,21,22] (by kernel_rfl) trivial) (Za.block hl)) (Za.script (t:=(vl xs::(vl ys::(dds 2 (.own 1 (Int.toNat (i64.wrap ((xs.length:Int)+1))) (lm (o.set xs.length c))::(dds 1 (.val (.int .u64 c)::(dds 14 (vi (xs.length:Int)::(vi (xs.length:Int)::(dds 28 (.dup 5::(vl xs::(vi (xs.length:Int)::(.val (.int .u64 c)::(.val (.int .u32 (u32.wrap c))::(.ptr 5 (Int.toNat (xs.length:Int)*1)::(dds 1 [])))))))))))))))))) (ex := .ret) (ps:=[0≤(xs.length:Int)∧(xs.length:Int)<(((Int.toNat (i64.wrap ((xs.length:Int)+1))):Nat):Int),X4 (lm o) (Int.toNat (xs.length:Int)*1) [.int .u32 (u32.wrap c)]=some (lm (o.set xs.length c))]) Zq 300 [.l (lm (o.set xs.length c))] [0,1,4,6,21,22,51,52,53,54,55,56] (by kernel_rfl) ⟨hix,hst,trivial⟩)))))) (by intro i e;cases e) rfl
theorem Fi {xs ys:List Int} (hx:U32 xs) (hy:U32 ys) (hl:ys.length≤xs.length) (hN:xs.length<1048576):∃ o c,(o:List Int).length=xs.length+1∧U32 (o.set xs.length c)∧Zo (o.set xs.length c)=Zo xs+Zo ys∧(0≤c∧c≤1) ∧
  Za Yir (.loop Mt) (Gd xs.length (lm xs) ys.length (lm ys) (xs.length+1) (lm (List.replicate (xs.length+1) 0)) 0 (xs.length:Int) 0) (.exit 0) (Gd xs.length (lm xs) ys.length (lm ys) (xs.length+1) (lm o) c (xs.length:Int) (xs.length:Int)):=by
 have hg:=Ziu xs ys hx hy (xs.length+1) (by omega) (by omega) xs.length 0 (List.replicate (xs.length+1) 0) 0 (by omega) (by simp) (Xq _) (by omega)
 cases e:Gb xs ys xs.length 0 (List.replicate (xs.length+1) 0) 0 with
 | mk o c =>
  obtain⟨g1,g2,g3,g4,g5⟩:=Zdn hx hy hl o c e
  rw[e] at hg
  exact⟨o,c,g1,g4,g5,g3,hg⟩
theorem Mf {xs ys:List Int} (hx:U32 xs) (hy:U32 ys) (h1:xs.length<1048576) (h2:ys.length<1048576):∃ zs,U32 zs∧Zo zs=Zo xs+Zo ys∧zs.length≤1048576∧Ze Yir 156 [.sl xs.length (lm xs), .sl ys.length (lm ys)] (.fresh 1 zs.length (lm zs)):=by
 by_cases hlt:xs.length<ys.length
 ·obtain⟨o,c,g1,g2,g3,g4,g5⟩:=Fi hy hx (by omega) h2
  have e1:i64.wrap ((ys.length:Int)+1)=((ys.length+1:Nat):Int):=by rw[w64 (by omega) (by omega)];omega
  have e2:Int.toNat (i64.wrap ((ys.length:Int)+1))=ys.length+1:=by rw[e1,Int.toNat_natCast]
  have hst:=Hf (xs:=o) (i:=ys.length) (v:=c) (by omega)
  have h:=T3 xs ys o c (by simp;omega) (by rw[e1];omega) (by rw[e2,Uk];exact g5) (by rw[e2];omega) (by rw[Int.toNat_natCast,Bu,Int.emod_eq_of_lt (by omega) (by omega)];exact hst)
  refine⟨o.set ys.length c,g2,by rw[g3,Int.add_comm],by simp;omega,?_⟩
  rw[e2] at h
  rw[List.length_set,g1]
  exact h
 ·obtain⟨o,c,g1,g2,g3,g4,g5⟩:=Fi hx hy (by omega) h1
  have e1:i64.wrap ((xs.length:Int)+1)=((xs.length+1:Nat):Int):=by rw[w64 (by omega) (by omega)];omega
  have e2:Int.toNat (i64.wrap ((xs.length:Int)+1))=xs.length+1:=by rw[e1,Int.toNat_natCast]
  have hst:=Hf (xs:=o) (i:=xs.length) (v:=c) (by omega)
  have h:=T4 xs ys o c (by simp;omega) (by rw[e1];omega) (by rw[e2,Uk];exact g5) (by rw[e2];omega) (by rw[Int.toNat_natCast,Bu,Int.emod_eq_of_lt (by omega) (by omega)];exact hst)
  refine⟨o.set xs.length c,g2,g3,by simp;omega,?_⟩
  rw[e2] at h
  rw[List.length_set,g1]
  exact h
theorem Zm3 (xs ys o:List Int) (c:Int) (hmk:0≤(xs.length:Int)∧(xs.length:Int)≤1048576) (hl:Za Yir (.loop Zam) (B6 xs.length (lm xs) ys.length (lm ys) (Int.toNat (xs.length:Int)) (Qy [.int .u32 0] (Int.toNat (xs.length:Int))) 0 (xs.length:Int) 0) (.exit 0) (B6 xs.length (lm xs) ys.length (lm ys) (Int.toNat (xs.length:Int)) (lm o) c (xs.length:Int) (xs.length:Int))):Ze Yir 157 [.sl xs.length (lm xs), .sl ys.length (lm ys)] (.fresh 1 (Int.toNat (xs.length:Int)) (lm o)):=Ze.of_bodyW (fn:=Zeq) (s:=(.val (.sl xs.length (lm xs))::(.val (.sl ys.length (lm ys))::(dds 2 (.own 1 (Int.toNat (xs.length:Int)) (lm o)::(dds 1 (.val (.int .u64 c)::(dds 6 (.val (.int .i64 (xs.length:Int))::(.val (.int .i64 (xs.length:Int))::(dds 29 []))))))))))) (ex := .ret) rfl rfl (Za.seq (Za.script (t:=(vl xs::(vl ys::(dds 2 (.own 1 0 []::(dds 39 [])))))) (ps:=[]) Zq 300 [] [0,1,4] (by kernel_rfl) trivial) (Za.seq (Za.script (t:=(vl xs::(vl ys::(dds 2 (.own 1 0 []::(.own 1 (Int.toNat (xs.length:Int)) (Qy [.int .u32 0] (Int.toNat (xs.length:Int)))::(dds 3 (vl xs::(vi (xs.length:Int)::(dds 33 [])))))))))) (ps:=[0≤(xs.length:Int)∧(xs.length:Int)≤1048576]) Zq 300 [] [0,1,4,5,9,10] (by kernel_rfl) ⟨hmk,trivial⟩) (Za.seq (Za.script (t:=(vl xs::(vl ys::(dds 2 (.own 1 0 []::(.own 1 (Int.toNat (xs.length:Int)) (Qy [.int .u32 0] (Int.toNat (xs.length:Int)))::(.val (.int .u64 0)::(dds 2 (vl xs::(vi (xs.length:Int)::(dds 33 []))))))))))) (ps:=[]) Zq 300 [] [0,1,4,5,6,9,10] (by kernel_rfl) trivial) (Za.seq (Za.seq (Za.script (t:=(vl xs::(vl ys::(dds 2 (.own 1 0 []::(.own 1 (Int.toNat (xs.length:Int)) (Qy [.int .u32 0] (Int.toNat (xs.length:Int)))::(.val (.int .u64 0)::(dds 6 (vi (xs.length:Int)::(vi 0::(dds 29 []))))))))))) (ps:=[]) Zq 300 [] [0,1,4,5,6,13,14] (by kernel_rfl) trivial) (Za.block hl)) (Za.script (t:=(vl xs::(vl ys::(dds 2 (.own 1 (Int.toNat (xs.length:Int)) (lm o)::(dds 1 (.val (.int .u64 c)::(dds 6 (vi (xs.length:Int)::(vi (xs.length:Int)::(dds 29 []))))))))))) (ex := .ret) (ps:=[]) Zq 300 [] [0,1,4,6,13,14] (by kernel_rfl) trivial))))) (by intro i e;cases e) rfl
theorem G5 {xs ys:List Int} (hx:U32 xs) (hy:U32 ys) (hl:ys.length≤xs.length) (hv:Zo ys≤Zo xs) (hN:xs.length≤1048576):∃ zs,U32 zs∧Zo zs=Zo xs-Zo ys∧zs.length≤1048576∧Ze Yir 157 [.sl xs.length (lm xs), .sl ys.length (lm ys)] (.fresh 1 zs.length (lm zs)):=by
 have hg:=Zit xs ys hx hy xs.length hN (Nat.le_refl _) xs.length 0 (List.replicate xs.length 0) 0 (by omega) (by simp) (Xq _) (by omega)
 cases e:Gh xs ys xs.length 0 (List.replicate xs.length 0) 0 with
 | mk o c =>
  obtain⟨g1,g2,g3⟩:=Za2 hx hy hl hv o c e
  rw[e] at hg
  have h:=Zm3 xs ys o c (by omega) (by rw[Int.toNat_natCast,Uk];exact hg)
  rw[Int.toNat_natCast] at h
  refine⟨o,g2,g3,by omega,?_⟩
  rw[g1]
  exact h
theorem Zdu (na:Bool) (p:Nat) (nb:Bool) (q:Nat) (zs:List Int) (r:Int) (h:(na==nb)=true) (h1:Ze Yir 156 [.sl (Zb p).length (lm (Zb p)), .sl (Zb q).length (lm (Zb q))] (.fresh 1 zs.length (lm zs))) (h2:Ze Yir 133 [.bool na, .sl zs.length (lm zs)] (.agg [.bool (decide (r<0)), .sl ((Zb (Int.natAbs r)).length) (lm (Zb (Int.natAbs r)))])):Ze Yir 148 [.bool na, .sl ((Zb p).length) (lm (Zb p)), .bool nb, .sl ((Zb q).length) (lm (Zb q))] (.agg [.bool (decide (r<0)), .sl ((Zb (Int.natAbs r)).length) (lm (Zb (Int.natAbs r)))]):=Ze.script (ps:=[(na==nb)=true,Ze Yir 156 [.sl ((Zb p).length) (lm (Zb p)), .sl ((Zb q).length) (lm (Zb q))] (.fresh 1 zs.length (lm zs)),Ze Yir 133 [.bool na, .sl zs.length (lm zs)] (.agg [.bool (decide (r<0)), .sl ((Zb (Int.natAbs r)).length) (lm (Zb (Int.natAbs r)))])]) Zq rfl 300 rfl [.b true, .r (.fresh 1 zs.length (lm zs)), .r (.agg [.bool (decide (r<0)), .sl ((Zb (Int.natAbs r)).length) (lm (Zb (Int.natAbs r)))])] (by kernel_rfl) ⟨h,h1,h2,trivial⟩
theorem Zdt (na:Bool) (p:Nat) (nb:Bool) (q:Nat) (zs:List Int) (r:Int) (k:Int) (h:(na==nb)=false) (h3:Ze Yir 150 [.sl (Zb p).length (lm (Zb p)), .sl (Zb q).length (lm (Zb q))] (.int .i64 k)) (hk:(decide (k≥0))=true) (h1:Ze Yir 157 [.sl (Zb p).length (lm (Zb p)), .sl (Zb q).length (lm (Zb q))] (.fresh 1 zs.length (lm zs))) (h2:Ze Yir 133 [.bool na, .sl zs.length (lm zs)] (.agg [.bool (decide (r<0)), .sl ((Zb (Int.natAbs r)).length) (lm (Zb (Int.natAbs r)))])):Ze Yir 148 [.bool na, .sl ((Zb p).length) (lm (Zb p)), .bool nb, .sl ((Zb q).length) (lm (Zb q))] (.agg [.bool (decide (r<0)), .sl ((Zb (Int.natAbs r)).length) (lm (Zb (Int.natAbs r)))]):=Ze.script (ps:=[(na==nb)=false,Ze Yir 150 [.sl ((Zb p).length) (lm (Zb p)), .sl ((Zb q).length) (lm (Zb q))] (.int .i64 k),(decide (k≥0))=true,Ze Yir 157 [.sl ((Zb p).length) (lm (Zb p)), .sl ((Zb q).length) (lm (Zb q))] (.fresh 1 zs.length (lm zs)),Ze Yir 133 [.bool na, .sl zs.length (lm zs)] (.agg [.bool (decide (r<0)), .sl ((Zb (Int.natAbs r)).length) (lm (Zb (Int.natAbs r)))])]) Zq rfl 300 rfl [.b false, .r (.int .i64 k), .b true, .r (.fresh 1 zs.length (lm zs)), .r (.agg [.bool (decide (r<0)), .sl ((Zb (Int.natAbs r)).length) (lm (Zb (Int.natAbs r)))])] (by kernel_rfl) ⟨h,h3,hk,h1,h2,trivial⟩
theorem Zds (na:Bool) (p:Nat) (nb:Bool) (q:Nat) (zs:List Int) (r:Int) (k:Int) (h:(na==nb)=false) (h3:Ze Yir 150 [.sl (Zb p).length (lm (Zb p)), .sl (Zb q).length (lm (Zb q))] (.int .i64 k)) (hk:(decide (k≥0))=false) (h1:Ze Yir 157 [.sl (Zb q).length (lm (Zb q)), .sl (Zb p).length (lm (Zb p))] (.fresh 1 zs.length (lm zs))) (h2:Ze Yir 133 [.bool nb, .sl zs.length (lm zs)] (.agg [.bool (decide (r<0)), .sl ((Zb (Int.natAbs r)).length) (lm (Zb (Int.natAbs r)))])):Ze Yir 148 [.bool na, .sl ((Zb p).length) (lm (Zb p)), .bool nb, .sl ((Zb q).length) (lm (Zb q))] (.agg [.bool (decide (r<0)), .sl ((Zb (Int.natAbs r)).length) (lm (Zb (Int.natAbs r)))]):=Ze.script (ps:=[(na==nb)=false,Ze Yir 150 [.sl ((Zb p).length) (lm (Zb p)), .sl ((Zb q).length) (lm (Zb q))] (.int .i64 k),(decide (k≥0))=false,Ze Yir 157 [.sl ((Zb q).length) (lm (Zb q)), .sl ((Zb p).length) (lm (Zb p))] (.fresh 1 zs.length (lm zs)),Ze Yir 133 [.bool nb, .sl zs.length (lm zs)] (.agg [.bool (decide (r<0)), .sl ((Zb (Int.natAbs r)).length) (lm (Zb (Int.natAbs r)))])]) Zq rfl 300 rfl [.b false, .r (.int .i64 k), .b false, .r (.fresh 1 zs.length (lm zs)), .r (.agg [.bool (decide (r<0)), .sl ((Zb (Int.natAbs r)).length) (lm (Zb (Int.natAbs r)))])] (by kernel_rfl) ⟨h,h3,hk,h1,h2,trivial⟩
theorem Za1 {na nb:Bool} {p q:Nat} (hp:(Zb p).length<1048576) (hq:(Zb q).length<1048576):Ze Yir 148 [.bool na, .sl (Zb p).length (lm (Zb p)), .bool nb, .sl (Zb q).length (lm (Zb q))] (Zp (rv na (Zb p)+rv nb (Zb q))):=by
 have up:=Jt p
 have uq:=Jt q
 by_cases e:na=nb
 ·subst e
  obtain⟨zs,z1,z2,z3,z4⟩:=Mf up uq hp hq
  have h2:=Xm (neg:=na) z1 z3
  have ev:rv na zs=rv na (Zb p)+rv na (Zb q):=by
   unfold rv;rw[z2];cases na <;> simp <;> omega
  rw[ev] at h2
  exact Zdu na p na q zs _ (by simp) z4 h2
 ·have hne:(na==nb)=false:=by simpa using e
  have hc:=Vh (Qr p) (Qr q) (by omega)
  have hnb:nb = !na:=by cases na <;> cases nb <;> simp_all
  have lenle:∀ {a b:Nat},Zo (Zb a)≤Zo (Zb b)→(Zb a).length≤(Zb b).length:=by
   intro a b h
   rcases Nat.lt_or_ge (Zb b).length (Zb a).length with g | g
   ·have:=Km (Qr b) (Qr a) g;omega
   ·exact g
  by_cases hk:Zo (Zb q)≤Zo (Zb p)
  ·obtain⟨zs,z1,z2,z3,z4⟩:=G5 up uq (lenle hk) hk (by omega)
   have h2:=Xm (neg:=na) z1 z3
   have ev:rv na zs=rv na (Zb p)+rv nb (Zb q):=by
    subst hnb;unfold rv;rw[z2];cases na <;> simp <;> omega
   rw[ev] at h2
   refine Zdt na p nb q zs _ _ hne hc ?_ z4 h2
   unfold Ux;rw[if_neg (by omega)];split <;> rfl
  ·obtain⟨zs,z1,z2,z3,z4⟩:=G5 uq up (lenle (by omega)) (by omega) (by omega)
   have h2:=Xm (neg:=nb) z1 z3
   have ev:rv nb zs=rv na (Zb p)+rv nb (Zb q):=by
    subst hnb;unfold rv;rw[z2];cases na <;> simp <;> omega
   rw[ev] at h2
   refine Zds na p nb q zs _ _ hne hc ?_ z4 h2
   unfold Ux;rw[if_pos (by omega)];rfl
theorem Zne (na:Bool) (xs:List Int) (nb:Bool) (ys:List Int) (a b r:Int) (h1:Ze Yir 122 [.agg [.bool na, .sl xs.length (lm xs)]] (.tup [.bool (decide (a<0)), .sl (Zb (Int.natAbs a)).length (lm (Zb (Int.natAbs a)))])) (h2:Ze Yir 122 [.agg [.bool nb, .sl ys.length (lm ys)]] (.tup [.bool (decide (b<0)), .sl (Zb (Int.natAbs b)).length (lm (Zb (Int.natAbs b)))])) (h3:Ze Yir 148 [.bool (decide (a<0)), .sl (Zb (Int.natAbs a)).length (lm (Zb (Int.natAbs a))), .bool (decide (b<0)), .sl (Zb (Int.natAbs b)).length (lm (Zb (Int.natAbs b)))] (.agg [.bool (decide (r<0)), .sl ((Zb (Int.natAbs r)).length) (lm (Zb (Int.natAbs r)))])):Ze Yir 121 [.agg [.bool na, .sl xs.length (lm xs)], .agg [.bool nb, .sl ys.length (lm ys)]] (.agg [.bool (decide (r<0)), .sl ((Zb (Int.natAbs r)).length) (lm (Zb (Int.natAbs r)))]):=Ze.script (ps:=[Ze Yir 122 [.agg [.bool na, .sl xs.length (lm xs)]] (.tup [.bool (decide (a<0)), .sl ((Zb (Int.natAbs a)).length) (lm (Zb (Int.natAbs a)))]),Ze Yir 122 [.agg [.bool nb, .sl ys.length (lm ys)]] (.tup [.bool (decide (b<0)), .sl ((Zb (Int.natAbs b)).length) (lm (Zb (Int.natAbs b)))]),Ze Yir 148 [.bool (decide (a<0)), .sl ((Zb (Int.natAbs a)).length) (lm (Zb (Int.natAbs a))), .bool (decide (b<0)), .sl ((Zb (Int.natAbs b)).length) (lm (Zb (Int.natAbs b)))] (.agg [.bool (decide (r<0)), .sl ((Zb (Int.natAbs r)).length) (lm (Zb (Int.natAbs r)))])]) Zq rfl 300 rfl [.r (.tup [.bool (decide (a<0)), .sl ((Zb (Int.natAbs a)).length) (lm (Zb (Int.natAbs a)))]), .r (.tup [.bool (decide (b<0)), .sl ((Zb (Int.natAbs b)).length) (lm (Zb (Int.natAbs b)))]), .r (.agg [.bool (decide (r<0)), .sl ((Zb (Int.natAbs r)).length) (lm (Zb (Int.natAbs r)))])] (by kernel_rfl) ⟨h1,h2,h3,trivial⟩
theorem Zf8 {na nb:Bool} {xs ys:List Int} (hx:U32 xs) (hy:U32 ys) (h1:xs.length<1048576) (h2:ys.length<1048576):Ze Yir 121 [.agg [.bool na, .sl xs.length (lm xs)], .agg [.bool nb, .sl ys.length (lm ys)]] (Zp (rv na xs+rv nb ys)):=by
 have l1:=Nat.lt_of_le_of_lt (Uy (neg:=na) hx) h1
 have l2:=Nat.lt_of_le_of_lt (Uy (neg:=nb) hy) h2
 have h3:=Za1 (na:=decide (rv na xs<0)) (nb:=decide (rv nb ys<0)) l1 l2
 rw[Hp,Hp] at h3
 exact Zne na xs nb ys (rv na xs) (rv nb ys) _ (Q8 hx (by omega)) (Q8 hy (by omega)) h3
theorem Zng (na:Bool) (xs:List Int) (nb:Bool) (ys:List Int) (a b r:Int) (h1:Ze Yir 122 [.agg [.bool na, .sl xs.length (lm xs)]] (.tup [.bool (decide (a<0)), .sl (Zb (Int.natAbs a)).length (lm (Zb (Int.natAbs a)))])) (h2:Ze Yir 122 [.agg [.bool nb, .sl ys.length (lm ys)]] (.tup [.bool (decide (b<0)), .sl (Zb (Int.natAbs b)).length (lm (Zb (Int.natAbs b)))])) (h3:Ze Yir 148 [.bool (decide (a<0)), .sl (Zb (Int.natAbs a)).length (lm (Zb (Int.natAbs a))), .bool (!(decide (b<0))), .sl (Zb (Int.natAbs b)).length (lm (Zb (Int.natAbs b)))] (.agg [.bool (decide (r<0)), .sl ((Zb (Int.natAbs r)).length) (lm (Zb (Int.natAbs r)))])):Ze Yir 114 [.agg [.bool na, .sl xs.length (lm xs)], .agg [.bool nb, .sl ys.length (lm ys)]] (.agg [.bool (decide (r<0)), .sl ((Zb (Int.natAbs r)).length) (lm (Zb (Int.natAbs r)))]):=Ze.script (ps:=[Ze Yir 122 [.agg [.bool na, .sl xs.length (lm xs)]] (.tup [.bool (decide (a<0)), .sl ((Zb (Int.natAbs a)).length) (lm (Zb (Int.natAbs a)))]),Ze Yir 122 [.agg [.bool nb, .sl ys.length (lm ys)]] (.tup [.bool (decide (b<0)), .sl ((Zb (Int.natAbs b)).length) (lm (Zb (Int.natAbs b)))]),Ze Yir 148 [.bool (decide (a<0)), .sl ((Zb (Int.natAbs a)).length) (lm (Zb (Int.natAbs a))), .bool (!(decide (b<0))), .sl ((Zb (Int.natAbs b)).length) (lm (Zb (Int.natAbs b)))] (.agg [.bool (decide (r<0)), .sl ((Zb (Int.natAbs r)).length) (lm (Zb (Int.natAbs r)))])]) Zq rfl 300 rfl [.r (.tup [.bool (decide (a<0)), .sl ((Zb (Int.natAbs a)).length) (lm (Zb (Int.natAbs a)))]), .r (.tup [.bool (decide (b<0)), .sl ((Zb (Int.natAbs b)).length) (lm (Zb (Int.natAbs b)))]), .r (.agg [.bool (decide (r<0)), .sl ((Zb (Int.natAbs r)).length) (lm (Zb (Int.natAbs r)))])] (by kernel_rfl) ⟨h1,h2,h3,trivial⟩
theorem Zf4 {na nb:Bool} {xs ys:List Int} (hx:U32 xs) (hy:U32 ys) (h1:xs.length<1048576) (h2:ys.length<1048576):Ze Yir 114 [.agg [.bool na, .sl xs.length (lm xs)], .agg [.bool nb, .sl ys.length (lm ys)]] (Zp (rv na xs-rv nb ys)):=by
 have l1:=Nat.lt_of_le_of_lt (Uy (neg:=na) hx) h1
 have l2:=Nat.lt_of_le_of_lt (Uy (neg:=nb) hy) h2
 have h3:=Za1 (na:=decide (rv na xs<0)) (nb := !decide (rv nb ys<0)) l1 l2
 rw[Hp,Zlc,← Int.sub_eq_add_neg] at h3
 exact Zng na xs nb ys (rv na xs) (rv nb ys) _ (Q8 hx (by omega)) (Q8 hy (by omega)) h3
def TWB:Ji:=TWA
theorem Zf:Qh Yir TWB:=Zq
end Go.Proofs.Ythnnfemologhfaa

namespace Go.Ai
open Go.IntKind (i64 u64 u32)
section
variable {prog:Nat→Option IFunc}
theorem Za.keep {c:ICode} {ex:Ex} {s t t':Zi} (ks:List Nat) (h:Za prog c s ex t) (e:Zcf ks t=t'):Za prog c s ex t':=e ▸ Za.weak h (SLe.refl _) (Rs ks t)
theorem Za.upTo {c:ICode} {ex:Ex} {fin:Zi} (st:Nat→Zi) (n:Nat) (hex:ex ≠ .norm) (out:Za prog c (st n) ex fin):∀ i,i≤n→(∀ t,i≤t→t<n→Za prog c (st t) .norm (st (t+1)))→Za prog (.loop c) (st i) ex fin:=by
 intro i hi
 obtain⟨r,hr⟩:∃ r,i+r=n:=⟨n-i,by omega⟩
 induction r generalizing i with
 | zero =>
  intro _
  have:i=n:=by omega
  subst this
  exact Za.loop_out out hex
 | succ r ih =>
  intro hs
  exact Za.loop (hs i (Nat.le_refl _) (by omega)) (ih (i+1) (by omega) (by omega) (fun t h1 h2=>hs t (by omega) h2))
theorem Gy (f:Nat→Bool) (m:Nat):∀ r i,i+r=m→(∀ j,i≤j→j<m→f j=false)∨∃ j,i≤j∧j<m∧f j=true∧∀ t,i≤t→t<j→f t=false:=by
 intro r
 induction r with
 | zero=>intro i hi;left;intro j h1 h2;omega
 | succ r ih =>
  intro i hi
  cases hf:f i with
  | true=>right;exact⟨i,Nat.le_refl _,by omega,hf,fun t h1 h2=>by omega⟩
  | false =>
   rcases ih (i+1) (by omega) with h | ⟨j,h1,h2,h3,h4⟩
   ·left
    intro j h1 h2
    by_cases e:j=i
    ·rw[e];exact hf
    ·exact h j (by omega) h2
   ·right
    refine⟨j,by omega,h2,h3,fun t h5 h6 => ?_⟩
    by_cases e:t=i
    ·rw[e];exact hf
    ·exact h4 t (by omega) h6
end
end Go.Ai

namespace Go.Ai
open Go.IntKind (i64 u64 u32)
theorem Xa (us:List Int) {j:Nat} (h:j≤us.length):Zo us=Zo (us.take j)+4294967296^j*Zo (us.drop j):=by
 have:=Ud (us.take j) (us.drop j)
 rw[List.take_append_drop,List.length_take,Nat.min_eq_left h] at this
 exact this
theorem Zge {us ws:List Int} {j:Nat} (hl:ws.length=us.length) (h:∀ t,t<j→ws.getD t 0=us.getD t 0):ws.take j=us.take j:=by
 apply List.ext_getElem?
 intro t
 rcases Nat.lt_or_ge t j with g | g
 ·rw[List.getElem?_take_of_lt g,List.getElem?_take_of_lt g]
  have:=h t g
  rw[List.getD_eq_getElem?_getD,List.getD_eq_getElem?_getD] at this
  rcases Nat.lt_or_ge t us.length with k | k
  ·rw[List.getElem?_eq_getElem k,List.getElem?_eq_getElem (by omega)] at this ⊢
   simpa using this
  ·rw[List.getElem?_eq_none k,List.getElem?_eq_none (by omega)]
 ·rw[List.getElem?_eq_none (by simp;omega),List.getElem?_eq_none (by simp;omega)]
theorem X5 {us:List Int} (h:U32 us) (j:Nat):U32 (us.drop j):=fun x hx=>h x (List.mem_of_mem_drop hx)
theorem Ui {us:List Int} (h:U32 us) (j:Nat):U32 (us.take j):=fun x hx=>h x (List.mem_of_mem_take hx)
theorem Ki {us:List Int} (hu:U32 us) {n:Nat} {V:Int} (hV:V≤4294967296^n) (h:Zo us<V):Zo (us.drop n)=0:=by
 have h0:=Z3 (X5 hu n)
 rcases Nat.lt_or_ge n us.length with g | g
 ·have e:=Xa us (Nat.le_of_lt g)
  have h1:=Z3 (Ui hu n)
  have hp:=Jw n
  apply Int.le_antisymm ?_ h0
  apply Int.not_lt.1
  intro hc
  have:=Int.mul_le_mul_of_nonneg_left (show 1≤Zo (us.drop n) by omega) (show (0:Int)≤4294967296^n by omega)
  omega
 ·exact Xv g
theorem Wn {us:List Int} (hu:U32 us) (n:Nat):Zo (us.take n)<4294967296^n:=by
 have h:=Vi (Ui hu n)
 exact Int.lt_of_lt_of_le h (W8 (by simp;omega))
end Go.Ai
