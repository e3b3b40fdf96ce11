/- Texts of the proof of SturmFactors, packed by pack.py: part 16 of 17. -/
import Derived.Deep.Slices
import Derived.Test.YthnnfemologhfaaSfa15
namespace Go.Ai
open Go.IntKind (i64 u64 u32)
open Go.RowKit Go.WideShapes Go.ChangeShapes
def rep (n:Nat) (ks:List CK):List CK:=match n with
 | 0=>[]
 | n+1=>rep n ks++ks
theorem T7 (n:Nat) (ks:List CK):(rep n ks).length=n*ks.length:=by
 induction n with
 | zero=>simp[rep]
 | succ n ih=>simp[rep,ih,Nat.succ_mul]
theorem Mo {α β:Type} {f:α→Option β}:∀ {l:List α} {r:List β},l.mapM f=some r→r.length=l.length∧∀ (i:Nat) (h:i<l.length) (h':i<r.length),f l[i]=some r[i]
 | [],r,h=>by simp at h;subst h;exact⟨rfl,fun i h=>absurd h (Nat.not_lt_zero i)⟩
 | a::l,r,h=>by
  rw[List.mapM_cons] at h
  cases h1:f a with
  | none=>rw[h1] at h;cases h
  | some b =>
   rw[h1] at h
   cases h2:l.mapM f with
   | none=>simp[h2] at h
   | some bs =>
    rw[h2] at h
    cases h
    obtain⟨e,k⟩:=Mo h2
    refine⟨by simp[e],fun i => ?_⟩
    cases i with
    | zero=>intro _ _;exact h1
    | succ i=>intro a b;exact k i (by simpa using a) (by simpa using b)
section
variable {H:Type} {enc:TypeId × Value→H} {P:Program} {w:World} {base:Nat} {spare:Nat→Bool} {held:Bool}
theorem Zof {r:Reach} {b0:Nat} {t e:TypeId} {v:Value} {d:DataW H} {ps:List MemPlace} {ks:List CK} (n:Nat) (hu:P.underlying t=some (.slice e)) (hk:Zud P n e=some ks) (hc:ks.length=P.cellsOf e)
  (hval:Value.okWide P w r b0 t v) (hd:DataW.Trod enc P w base spare held t v d ps) :
  v = .slice none 0 0∨∃ (b off len cap:Nat) (cs:List Value),v = .slice (some ⟨b,off,none⟩) len cap∧len≤cap∧cap≤maxLen∧Jo (rep len ks) cs ∧
   ∀ (i:Nat) (h:i<cs.length),w.cell? ⟨b,off+i,none⟩=some cs[i]:=by
 obtain⟨fuel,hf⟩:=hd
 obtain⟨a0,l0,c0,hv⟩:=okWide_slice hu hval
 subst hv
 rcases Go.Deep.open_slice hu hf with ⟨h0,_⟩ | ⟨a,len,cap,m,nn,D,Pl,h1,hb,hl,hm,hmm,_,hx⟩
 ·left;simpa [Value.cells] using h0
 ·right
  have e1:Value.slice a0 l0 c0 = .slice (some a) len cap:=by simpa [Value.cells] using h1
  injection e1 with ea el ec
  subst ea;subst el;subst ec
  have hsp:a.spot=none:=by
   simp only[Value.okWide,hu,Cell.okWide,Cell.ok,World.has] at hval
   exact hval.2.2.2.1
  obtain⟨b,off,sp⟩:=a
  simp only at hsp
  subst hsp
  have hlm:l0≤m:=by rw[hmm];split <;> omega
  have key:∀ k,k≤l0→∃ cs:List Value,Jo (rep k ks) cs∧∀ (i:Nat) (h:i<cs.length),w.cell? ⟨b,off+i,none⟩=some cs[i]:=by
   intro k
   induction k with
   | zero=>intro _;exact⟨[],rfl,fun i h=>absurd h (Nat.not_lt_zero i)⟩
   | succ k ih =>
    intro hkl
    obtain⟨cs,h1,h2⟩:=ih (by omega)
    obtain⟨cs',h3,h4⟩:=hx k (by omega)
    have h5:=(Zd1 n).1 e ks hk nn cs' _ h4
    refine⟨cs++cs',h1.append h5,fun i hi => ?_⟩
    have hlen:=h1.length
    rw[T7] at hlen
    by_cases hik:i<cs.length
    ·rw[List.getElem_append_left hik];exact h2 i hik
    ·rw[List.getElem_append_right (by omega)]
     have hi':i-cs.length<cs'.length:=by rw[List.length_append] at hi;omega
     unfold World.cells? at h3
     split at h3
     ·obtain⟨l1,l2⟩:=Mo h3
      have:=l2 (i-cs.length) (by rw[← l1];exact hi') hi'
      rw[← this,List.getElem_range]
      congr 1
      have hq:k*P.cellsOf e=cs.length:=by rw[hlen,hc]
      rw[hq]
      have ho:off+i=off+cs.length+(i-cs.length):=by omega
      rw[ho]
      unfold Addr.add
      by_cases z1:cs.length=0 <;> by_cases z2:i-cs.length=0 <;> simp[z1,z2] <;> omega
     ·cases h3
  obtain⟨cs,h1,h2⟩:=key l0 (Nat.le_refl _)
  exact⟨b,off,l0,c0,cs,rfl,hl,hm,h1,h2⟩
end
theorem Zay {k:IntKind}:∀ {n:Nat} {cs:List Value},Jo (rep n [.int k]) cs→∃ xs:List Int,xs.length=n∧cs=xs.map (Value.int k)∧∀ x∈xs,(Lit.int k x).wf=true:=by
 intro n
 induction n with
 | zero=>intro cs h;cases h;exact⟨[],rfl,rfl,fun x hx=>by cases hx⟩
 | succ n ih =>
  intro cs h
  have hsp:∀ {a b:List CK} {cs:List Value},Jo (a++b) cs→∃ c d,cs=c++d∧Jo a c∧Jo b d:=by
   intro a
   induction a with
   | nil=>intro b cs h;exact⟨[],cs,rfl,rfl,h⟩
   | cons x a ia =>
    intro b cs h
    obtain⟨c,cs',e,hc,h⟩:=h
    obtain⟨p,q,e',hp,hq⟩:=ia h
    exact⟨c::p,q,by rw[e,e'];rfl,⟨c,p,rfl,hc,hp⟩,hq⟩
  obtain⟨c,d,rfl,h1,h2⟩:=hsp h
  obtain⟨xs,e1,rfl,hx⟩:=ih h1
  obtain⟨_,_,rfl,⟨m,rfl,hm⟩,h3⟩:=h2
  cases h3
  refine⟨xs++[m],by simp[e1],by simp,fun x h => ?_⟩
  rcases List.mem_append.1 h with g | g
  ·exact hx x g
  ·simp at g;subst g;exact hm
theorem Zh9 {Y X:Nat→Prop} {w:World} {b off len cap:Nat} {cs:List Value} {az:List AV} (hX:¬ X b) (hY:¬ Y b) (hn:len≤cap) (hd:Dat az) (h:RdL Y X w cs az)
  (hcell:∀ (i:Nat) (h:i<cs.length),w.cell? ⟨b,off+i,none⟩=some cs[i]):Rd Y X w (.slice (some ⟨b,off,none⟩) len cap) (.sl len az):=by
 obtain⟨e,k⟩:=h.at
 refine .sl b off len cap az (fun i=>cs.getD i Go.undef) hd hn (fun _=>hX) (fun _=>hY) (fun i hi => ?_) (fun i hi => ?_)
 ·rw[hcell i (by omega)]
  simp[List.getD,List.getElem?_eq_getElem (show i<cs.length by omega)]
 ·have:cs.getD i Go.undef=cs[i]'(by omega):=by simp[List.getD,List.getElem?_eq_getElem (show i<cs.length by omega)]
  rw[this]
  exact k i (by omega) hi
theorem Sm {Y X:Nat→Prop} {w:World} {k:IntKind}:∀ xs:List Int,RdL Y X w (xs.map (Value.int k)) (xs.map (AV.int k))
 | []=>trivial
 | x::xs=>⟨.int k x,Sm xs⟩
theorem Zjd {k:IntKind} (xs:List Int):Dat (xs.map (AV.int k)):=fun x hx=>by
 obtain⟨y,_,rfl⟩:=List.mem_map.1 hx;rfl
def Zn2 (k:IntKind) (x:AV):Prop:=∃ xs:List Int,(∀ n∈xs,(Lit.int k n).wf=true)∧x = .sl xs.length (xs.map (AV.int k))
section
variable {H:Type} {enc:TypeId × Value→H} {P:Program} {w:World} {base:Nat} {spare:Nat→Bool} {held:Bool}
theorem Pp {r:Reach} {b0:Nat} {t e:TypeId} {v:Value} {d:DataW H} {ps:List MemPlace} {k:IntKind} (n:Nat) (hu:P.underlying t=some (.slice e)) (hk:Zud P n e=some [.int k]) (hc:1=P.cellsOf e)
  (hval:Value.okWide P w r b0 t v) (hd:DataW.Trod enc P w base spare held t v d ps):∃ x,Rd (fun _=>False) (fun _=>False) w v x∧Zn2 k x:=by
 rcases Zof n hu hk hc hval hd with rfl | ⟨b,off,len,cap,cs,rfl,hl,_,hcs,hcell⟩
 ·exact⟨.sl 0 [], .nil0,[],fun n hn=>(by cases hn),rfl⟩
 ·obtain⟨xs,rfl,rfl,hw⟩:=Zay hcs
  exact⟨_,Zh9 (fun h=>h) (fun h=>h) hl (Zjd xs) (Sm xs) hcell,⟨xs,hw,rfl⟩⟩
end
section
variable {H:Type} {enc:TypeId × Value→H} {P:Program} {w:World} {base:Nat} {spare:Nat→Bool} {held:Bool}
end
end Go.Ai

namespace Go.Proofs.Ythnnfemologhfaa
open Go.IntKind (i64 u64 u32)
open Go.Ai
set_option maxRecDepth 100000
theorem Zap {l:AV} {lo hi:Int} (hl:Zn2 .i64 l):Zd Yir 10 [l, .int .i64 lo, .int .i64 hi] (.bool true):=by
 obtain⟨xs,_,rfl⟩:=hl
 exact Zi5 (xs:=xs)
end Go.Proofs.Ythnnfemologhfaa

namespace Go.Ai
open Go.IntKind (i64 u64 u32)
open Go.RowKit Go.WideShapes Go.ChangeShapes
inductive SH where
 | int (k:IntKind)
 | bool
 | str
 | sl (ks:List SH)
def repS (n:Nat) (ks:List SH):List SH:=match n with
 | 0=>[]
 | n+1=>repS n ks++ks
mutual
inductive AIs:SH→AV→Prop where
 | int {k:IntKind} {n:Int} (h:(Lit.int k n).wf=true):AIs (.int k) (.int k n)
 | bool {b:Bool}:AIs .bool (.bool b)
 | str {s:ByteArray}:AIs .str (.str s)
 | sl {ks:List SH} {n:Nat} {az:List AV} (h:AsAre (repS n ks) az):AIs (.sl ks) (.sl n az)
inductive AsAre:List SH→List AV→Prop where
 | nil:AsAre [] []
 | cons {k:SH} {a:AV} {ks:List SH} {az:List AV} (h:AIs k a) (hs:AsAre ks az):AsAre (k::ks) (a::az)
end
theorem AsAre.append:∀ {ks ls:List SH} {a b:List AV},AsAre ks a→AsAre ls b→AsAre (ks++ls) (a++b)
 | _,_,_,_, .nil,h=>h
 | _,_,_,_, .cons h hs,h' => .cons h (hs.append h')
theorem AsAre.length:∀ {ks:List SH} {a:List AV},AsAre ks a→a.length=ks.length
 | _,_, .nil=>rfl
 | _,_, .cons _ hs=>by simp[hs.length]
mutual
def shape (P:Program):Nat→TypeId→Option (List SH)
 | 0,_=>none
 | n+1,t=>match P.underlying t with
  | some .bool=>some [.bool]
  | some (.int k)=>some [.int k]
  | some .string=>some [.str]
  | some (.slice e)=>match shape P n e with
   | some ks=>if ks.length=P.cellsOf e∧0<ks.length then some [.sl ks] else none
   | none=>none
  | some (.struct fs)=>match Zm6 P n fs.toList 0 with
   | some ks=>if ks.length=P.cellsOf t then some ks else none
   | none=>none
  | _=>none
def Zm6 (P:Program):Nat→List Field→Nat→Option (List SH)
 | _,[],_=>some []
 | 0,_::_,_=>none
 | n+1,f::fs,off=>match shape P n f.type with
  | some ks=>if f.offset=off∧ks.length=P.cellsOf f.type then
    match Zm6 P n fs (off+ks.length) with
    | some ls=>some (ks++ls)
    | none=>none
   else none
  | none=>none
end
theorem RdL.append {Y X:Nat→Prop} {w:World}:∀ {a c:List Value} {b d:List AV},RdL Y X w a b→RdL Y X w c d→RdL Y X w (a++c) (b++d)
 | [],_,[],_,_,h=>h
 | _::_,_,_::_,_,h,h'=>⟨h.1,RdL.append h.2 h'⟩
 | [],_,_::_,_,h,_=>h.elim
 | _::_,_,[],_,h,_=>h.elim
section
variable {H:Type} {enc:TypeId × Value→H} {P:Program} {w:World} {base:Nat} {spare:Nat→Bool} {held:Bool}
end
end Go.Ai

namespace Go.Ai
open Go.IntKind (i64 u64 u32)
open Go.RowKit
theorem AsAre.split:∀ {ks ls:List SH} {az:List AV},AsAre (ks++ls) az→∃ a b,az=a++b∧AsAre ks a∧AsAre ls b
 | [],_,az,h=>⟨[],az,rfl, .nil,h⟩
 | _::_,_,_, .cons h hs=>by
  obtain⟨a,b,rfl,h1,h2⟩:=AsAre.split hs
  exact⟨_::a,b,rfl, .cons h h1,h2⟩
end Go.Ai
