/- Texts of the proof of SturmAdds, packed by pack.py: part 14 of 15. -/
import Derived.Deep.Slices
import Derived.Test.YthnnfemologhfaaSad13
namespace Go.Ai
open Go.IntKind (i64 u64 u32)
open Go.RowKit Go.WideShapes Go.ChangeShapes
def rep (n:Nat) (ks:List CK):List CK:=match n with
 | 0=>[]
 | n+1=>rep n ks++ks
theorem Sw (n:Nat) (ks:List CK):(rep n ks).length=n*ks.length:=by
 induction n with
 | zero=>simp[rep]
 | succ n ih=>simp[rep,ih,Nat.succ_mul]
theorem Hy {α β:Type} {f:α→Option β}:∀ {l:List α} {r:List β},l.mapM f=some r→r.length=l.length∧∀ (i:Nat) (h:i<l.length) (h':i<r.length),f l[i]=some r[i]
 | [],r,h=>by simp at h;subst h;exact⟨rfl,fun i h=>absurd h (Nat.not_lt_zero i)⟩
 | a::l,r,h=>by
  rw[List.mapM_cons] at h
  cases h1:f a with
  | none=>rw[h1] at h;cases h
  | some b =>
   rw[h1] at h
   cases h2:l.mapM f with
   | none=>simp[h2] at h
   | some bs =>
    rw[h2] at h
    cases h
    obtain⟨e,k⟩:=Hy h2
    refine⟨by simp[e],fun i => ?_⟩
    cases i with
    | zero=>intro _ _;exact h1
    | succ i=>intro a b;exact k i (by simpa using a) (by simpa using b)
section
variable {H:Type} {enc:TypeId × Value→H} {P:Program} {w:World} {base:Nat} {spare:Nat→Bool} {held:Bool}
theorem Zmi {r:Reach} {b0:Nat} {t e:TypeId} {v:Value} {d:DataW H} {ps:List MemPlace} {ks:List CK} (n:Nat) (hu:P.underlying t=some (.slice e)) (hk:Zrv P n e=some ks) (hc:ks.length=P.cellsOf e)
  (hval:Value.okWide P w r b0 t v) (hd:DataW.Trod enc P w base spare held t v d ps) :
  v = .slice none 0 0∨∃ (b off len cap:Nat) (cs:List Value),v = .slice (some ⟨b,off,none⟩) len cap∧len≤cap∧cap≤maxLen∧Jl (rep len ks) cs ∧
   ∀ (i:Nat) (h:i<cs.length),w.cell? ⟨b,off+i,none⟩=some cs[i]:=by
 obtain⟨fuel,hf⟩:=hd
 obtain⟨a0,l0,c0,hv⟩:=okWide_slice hu hval
 subst hv
 rcases Go.Deep.open_slice hu hf with ⟨h0,_⟩ | ⟨a,len,cap,m,nn,D,Pl,h1,hb,hl,hm,hmm,_,hx⟩
 ·left;simpa [Value.cells] using h0
 ·right
  have e1:Value.slice a0 l0 c0 = .slice (some a) len cap:=by simpa [Value.cells] using h1
  injection e1 with ea el ec
  subst ea;subst el;subst ec
  have hsp:a.spot=none:=by
   simp only[Value.okWide,hu,Cell.okWide,Cell.ok,World.has] at hval
   exact hval.2.2.2.1
  obtain⟨b,off,sp⟩:=a
  simp only at hsp
  subst hsp
  have hlm:l0≤m:=by rw[hmm];split <;> omega
  have key:∀ k,k≤l0→∃ cs:List Value,Jl (rep k ks) cs∧∀ (i:Nat) (h:i<cs.length),w.cell? ⟨b,off+i,none⟩=some cs[i]:=by
   intro k
   induction k with
   | zero=>intro _;exact⟨[],rfl,fun i h=>absurd h (Nat.not_lt_zero i)⟩
   | succ k ih =>
    intro hkl
    obtain⟨cs,h1,h2⟩:=ih (by omega)
    obtain⟨cs',h3,h4⟩:=hx k (by omega)
    have h5:=(Zcv n).1 e ks hk nn cs' _ h4
    refine⟨cs++cs',h1.append h5,fun i hi => ?_⟩
    have hlen:=h1.length
    rw[Sw] at hlen
    by_cases hik:i<cs.length
    ·rw[List.getElem_append_left hik];exact h2 i hik
    ·rw[List.getElem_append_right (by omega)]
     have hi':i-cs.length<cs'.length:=by rw[List.length_append] at hi;omega
     unfold World.cells? at h3
     split at h3
     ·obtain⟨l1,l2⟩:=Hy h3
      have:=l2 (i-cs.length) (by rw[← l1];exact hi') hi'
      rw[← this,List.getElem_range]
      congr 1
      have hq:k*P.cellsOf e=cs.length:=by rw[hlen,hc]
      rw[hq]
      have ho:off+i=off+cs.length+(i-cs.length):=by omega
      rw[ho]
      unfold Addr.add
      by_cases z1:cs.length=0 <;> by_cases z2:i-cs.length=0 <;> simp[z1,z2] <;> omega
     ·cases h3
  obtain⟨cs,h1,h2⟩:=key l0 (Nat.le_refl _)
  exact⟨b,off,l0,c0,cs,rfl,hl,hm,h1,h2⟩
end
theorem Tp {k:IntKind}:∀ {n:Nat} {cs:List Value},Jl (rep n [.int k]) cs→∃ xs:List Int,xs.length=n∧cs=xs.map (Value.int k)∧∀ x∈xs,(Lit.int k x).wf=true:=by
 intro n
 induction n with
 | zero=>intro cs h;cases h;exact⟨[],rfl,rfl,fun x hx=>by cases hx⟩
 | succ n ih =>
  intro cs h
  have hsp:∀ {a b:List CK} {cs:List Value},Jl (a++b) cs→∃ c d,cs=c++d∧Jl a c∧Jl b d:=by
   intro a
   induction a with
   | nil=>intro b cs h;exact⟨[],cs,rfl,rfl,h⟩
   | cons x a ia =>
    intro b cs h
    obtain⟨c,cs',e,hc,h⟩:=h
    obtain⟨p,q,e',hp,hq⟩:=ia h
    exact⟨c::p,q,by rw[e,e'];rfl,⟨c,p,rfl,hc,hp⟩,hq⟩
  obtain⟨c,d,rfl,h1,h2⟩:=hsp h
  obtain⟨xs,e1,rfl,hx⟩:=ih h1
  obtain⟨_,_,rfl,⟨m,rfl,hm⟩,h3⟩:=h2
  cases h3
  refine⟨xs++[m],by simp[e1],by simp,fun x h => ?_⟩
  rcases List.mem_append.1 h with g | g
  ·exact hx x g
  ·simp at g;subst g;exact hm
theorem P7 {Y X:Nat→Prop} {w:World} {b off len cap:Nat} {cs:List Value} {az:List AV} (hX:¬ X b) (hY:¬ Y b) (hn:len≤cap) (hd:Dat az) (h:RdL Y X w cs az)
  (hcell:∀ (i:Nat) (h:i<cs.length),w.cell? ⟨b,off+i,none⟩=some cs[i]):Rd Y X w (.slice (some ⟨b,off,none⟩) len cap) (.sl len az):=by
 obtain⟨e,k⟩:=h.at
 refine .sl b off len cap az (fun i=>cs.getD i Go.undef) hd hn (fun _=>hX) (fun _=>hY) (fun i hi => ?_) (fun i hi => ?_)
 ·rw[hcell i (by omega)]
  simp[List.getD,List.getElem?_eq_getElem (show i<cs.length by omega)]
 ·have:cs.getD i Go.undef=cs[i]'(by omega):=by simp[List.getD,List.getElem?_eq_getElem (show i<cs.length by omega)]
  rw[this]
  exact k i (by omega) hi
theorem P8 {Y X:Nat→Prop} {w:World} {k:IntKind}:∀ xs:List Int,RdL Y X w (xs.map (Value.int k)) (xs.map (AV.int k))
 | []=>trivial
 | x::xs=>⟨.int k x,P8 xs⟩
theorem Zht {k:IntKind} (xs:List Int):Dat (xs.map (AV.int k)):=fun x hx=>by
 obtain⟨y,_,rfl⟩:=List.mem_map.1 hx;rfl
def Zl2 (k:IntKind) (x:AV):Prop:=∃ xs:List Int,(∀ n∈xs,(Lit.int k n).wf=true)∧x = .sl xs.length (xs.map (AV.int k))
section
variable {H:Type} {enc:TypeId × Value→H} {P:Program} {w:World} {base:Nat} {spare:Nat→Bool} {held:Bool}
theorem Li {r:Reach} {b0:Nat} {t e:TypeId} {v:Value} {d:DataW H} {ps:List MemPlace} {k:IntKind} (n:Nat) (hu:P.underlying t=some (.slice e)) (hk:Zrv P n e=some [.int k]) (hc:1=P.cellsOf e)
  (hval:Value.okWide P w r b0 t v) (hd:DataW.Trod enc P w base spare held t v d ps):∃ x,Rd (fun _=>False) (fun _=>False) w v x∧Zl2 k x:=by
 rcases Zmi n hu hk hc hval hd with rfl | ⟨b,off,len,cap,cs,rfl,hl,_,hcs,hcell⟩
 ·exact⟨.sl 0 [], .nil0,[],fun n hn=>(by cases hn),rfl⟩
 ·obtain⟨xs,rfl,rfl,hw⟩:=Tp hcs
  exact⟨_,P7 (fun h=>h) (fun h=>h) hl (Zht xs) (P8 xs) hcell,⟨xs,hw,rfl⟩⟩
end
section
variable {H:Type} {enc:TypeId × Value→H} {P:Program} {w:World} {base:Nat} {spare:Nat→Bool} {held:Bool}
end
end Go.Ai

namespace Go.Proofs.Ythnnfemologhfaa
open Go.IntKind (i64 u64 u32)
open Go.Ai
set_option maxRecDepth 100000
theorem Tu {l:AV} {ps:List Rn} (hl:Zl2 .i64 l) (h3:∀ r∈ps,U32 r.2):Ze Yir 11 [.sl ps.length (pc ps),l] (.bool true):=by
 obtain⟨xs,_,rfl⟩:=hl
 exact Zh0 (xs:=xs) h3
end Go.Proofs.Ythnnfemologhfaa

namespace Go.Ai
open Go.IntKind (i64 u64 u32)
open Go.RowKit Go.WideShapes Go.ChangeShapes
inductive SH where
 | int (k:IntKind)
 | bool
 | str
 | sl (ks:List SH)
def Zld (n:Nat) (ks:List SH):List SH:=match n with
 | 0=>[]
 | n+1=>Zld n ks++ks
theorem M9 (n:Nat) (ks:List SH):(Zld n ks).length=n*ks.length:=by
 induction n with
 | zero=>simp[Zld]
 | succ n ih=>simp[Zld,ih,Nat.succ_mul]
mutual
inductive AIs:SH→AV→Prop where
 | int {k:IntKind} {n:Int} (h:(Lit.int k n).wf=true):AIs (.int k) (.int k n)
 | bool {b:Bool}:AIs .bool (.bool b)
 | str {s:ByteArray}:AIs .str (.str s)
 | sl {ks:List SH} {n:Nat} {az:List AV} (h:AsAre (Zld n ks) az):AIs (.sl ks) (.sl n az)
inductive AsAre:List SH→List AV→Prop where
 | nil:AsAre [] []
 | cons {k:SH} {a:AV} {ks:List SH} {az:List AV} (h:AIs k a) (hs:AsAre ks az):AsAre (k::ks) (a::az)
end
theorem AIs.data {k:SH} {a:AV} (h:AIs k a):Fb a=true:=by cases h <;> rfl
theorem AsAre.dat:∀ {ks:List SH} {az:List AV},AsAre ks az→Dat az
 | _,_, .nil=>fun x hx=>by cases hx
 | _,_, .cons h hs=>fun x hx=>by
  cases hx with
  | head=>exact h.data
  | tail _ hx=>exact hs.dat x hx
theorem AsAre.append:∀ {ks ls:List SH} {a b:List AV},AsAre ks a→AsAre ls b→AsAre (ks++ls) (a++b)
 | _,_,_,_, .nil,h=>h
 | _,_,_,_, .cons h hs,h' => .cons h (hs.append h')
theorem AsAre.length:∀ {ks:List SH} {a:List AV},AsAre ks a→a.length=ks.length
 | _,_, .nil=>rfl
 | _,_, .cons _ hs=>by simp[hs.length]
mutual
def So (P:Program):Nat→TypeId→Option (List SH)
 | 0,_=>none
 | n+1,t=>match P.underlying t with
  | some .bool=>some [.bool]
  | some (.int k)=>some [.int k]
  | some .string=>some [.str]
  | some (.slice e)=>match So P n e with
   | some ks=>if ks.length=P.cellsOf e∧0<ks.length then some [.sl ks] else none
   | none=>none
  | some (.struct fs)=>match Do P n fs.toList 0 with
   | some ks=>if ks.length=P.cellsOf t then some ks else none
   | none=>none
  | _=>none
def Do (P:Program):Nat→List Field→Nat→Option (List SH)
 | _,[],_=>some []
 | 0,_::_,_=>none
 | n+1,f::fs,off=>match So P n f.type with
  | some ks=>if f.offset=off∧ks.length=P.cellsOf f.type then
    match Do P n fs (off+ks.length) with
    | some ls=>some (ks++ls)
    | none=>none
   else none
  | none=>none
end
theorem RdL.append {Y X:Nat→Prop} {w:World}:∀ {a c:List Value} {b d:List AV},RdL Y X w a b→RdL Y X w c d→RdL Y X w (a++c) (b++d)
 | [],_,[],_,_,h=>h
 | _::_,_,_::_,_,h,h'=>⟨h.1,RdL.append h.2 h'⟩
 | [],_,_::_,_,h,_=>h.elim
 | _::_,_,[],_,h,_=>h.elim
section
variable {H:Type} {enc:TypeId × Value→H} {P:Program} {w:World} {base:Nat} {spare:Nat→Bool} {held:Bool}
abbrev F0:Nat→Prop:=fun _=>False
theorem Sn (n:Nat) :
  (∀ t ks,So P n t=some ks→∀ fuel cs x,DataW.trod enc P w base spare held fuel t cs=some x→∃ az,RdL F0 F0 w cs az∧AsAre ks az) ∧
  (∀ fs off ks,Do P n fs off=some ks→∀ fuel (cs:List Value) xs,off+ks.length≤cs.length →
   fs.mapM (fun f=>DataW.trod enc P w base spare held fuel f.type ((cs.drop f.offset).take (P.cellsOf f.type)))=some xs→∃ az,RdL F0 F0 w ((cs.drop off).take ks.length) az∧AsAre ks az):=by
 induction n with
 | zero =>
  refine⟨fun t ks h=>by simp[So] at h,fun fs off ks h fuel cs xs hl hm => ?_⟩
  cases fs with
  | nil=>simp[Do] at h;subst h;exact⟨[],by simp[RdL], .nil⟩
  | cons f fs=>simp[Do] at h
 | succ n ih =>
  constructor
  ·intro t ks h fuel cs x hx
   cases fuel with
   | zero=>simp[DataW.trod] at hx
   | succ fuel =>
    unfold So at h
    split at h
    ·rename_i hu
     cases h
     unfold DataW.trod at hx
     rw[hu] at hx
     split at hx <;> simp_all
     exact⟨[.bool _],⟨.bool _,trivial⟩, .cons .bool .nil⟩
    ·rename_i k hu
     cases h
     obtain⟨m,e,_,hw⟩:=DataW.trod_int hu hx
     subst e
     exact⟨[.int k m],⟨.int k m,trivial⟩, .cons (.int hw) .nil⟩
    ·rename_i hu
     cases h
     obtain⟨s,e,_,_⟩:=DataW.trod_string hu hx
     subst e
     exact⟨[.str s],⟨.str s,trivial⟩, .cons .str .nil⟩
    ·rename_i e hu
     split at h
     ·rename_i ls hls
      split at h
      ·rename_i hlen
       cases h
       rcases Go.Deep.open_slice hu hx with ⟨h0,_⟩ | ⟨a,len,cap,m,nn,D,Pl,h1,hb,hl,hm,hmm,_,hx'⟩
       ·subst h0
        exact⟨[.sl 0 []],⟨.nil0,trivial⟩, .cons (.sl .nil) .nil⟩
       ·subst h1
        rcases Nat.eq_zero_or_pos len with h0 | hpos
        ·subst h0
         exact⟨[.sl 0 []],⟨.e0 _ _,trivial⟩, .cons (.sl .nil) .nil⟩
        ·have hlm:len≤m:=by rw[hmm];split <;> omega
         have hspot:a.spot=none:=by
          obtain⟨cs',h3,_⟩:=hx' 0 (by omega)
          unfold World.cells? at h3
          split at h3
          ·obtain⟨l1,l2⟩:=Hy h3
           rw[List.length_range] at l1
           have:=l2 0 (by rw[List.length_range];omega) (by omega)
           have:=World.cell?_spot this
           simpa [Addr.add] using this
          ·cases h3
         obtain⟨b,off,sp⟩:=a
         simp only at hspot
         subst hspot
         have key:∀ k,k≤len→∃ (cs:List Value) (az:List AV),RdL F0 F0 w cs az∧AsAre (Zld k ls) az∧∀ (i:Nat) (h:i<cs.length),w.cell? ⟨b,off+i,none⟩=some cs[i]:=by
          intro k
          induction k with
          | zero=>intro _;exact⟨[],[],trivial, .nil,fun i h=>absurd h (Nat.not_lt_zero i)⟩
          | succ k ihk =>
           intro hkl
           obtain⟨cs,az,h1,h2,h2'⟩:=ihk (by omega)
           obtain⟨cs',h3,h4⟩:=hx' k (by omega)
           obtain⟨az',h5,h6⟩:=ih.1 e ls hls nn cs' _ h4
           refine⟨cs++cs',az++az',h1.append h5,h2.append h6,fun i hi => ?_⟩
           have hlen2:cs.length=k*ls.length:=by rw[(h1.at).1,h2.length,M9]
           by_cases hik:i<cs.length
           ·rw[List.getElem_append_left hik];exact h2' i hik
           ·rw[List.getElem_append_right (by omega)]
            have hi':i-cs.length<cs'.length:=by rw[List.length_append] at hi;omega
            unfold World.cells? at h3
            split at h3
            ·obtain⟨l1,l2⟩:=Hy h3
             have:=l2 (i-cs.length) (by rw[← l1];exact hi') hi'
             rw[← this,List.getElem_range]
             congr 1
             have hq:k*P.cellsOf e=cs.length:=by rw[hlen2,hlen.1]
             rw[hq]
             have ho:off+i=off+cs.length+(i-cs.length):=by omega
             rw[ho]
             unfold Addr.add
             by_cases z1:cs.length=0 <;> by_cases z2:i-cs.length=0 <;> simp[z1,z2] <;> omega
            ·cases h3
         obtain⟨cs,az,h1,h2,h3⟩:=key len (Nat.le_refl _)
         exact⟨[.sl len az],⟨P7 (fun h=>h) (fun h=>h) hl h2.dat h1 h3,trivial⟩, .cons (.sl h2) .nil⟩
      ·cases h
     ·cases h
    ·rename_i fs hu
     split at h
     ·rename_i ls hls
      split at h
      ·rename_i hlen
       cases h
       obtain⟨hl,xs,hm,_⟩:cs.length=P.cellsOf t∧∃ xs,fs.toList.mapM (fun f=>DataW.trod enc P w base spare held fuel f.type ((cs.drop f.offset).take (P.cellsOf f.type)))=some xs∧True:=by
        unfold DataW.trod at hx
        rw[hu] at hx
        simp only at hx
        split at hx
        ·rename_i hl
         refine⟨hl,?_⟩
         cases hm:fs.toList.mapM (fun f=>DataW.trod enc P w base spare held fuel f.type ((cs.drop f.offset).take (P.cellsOf f.type))) with
         | none=>rw[hm] at hx;cases hx
         | some xs=>exact⟨xs,rfl,trivial⟩
        ·cases hx
       have:=(ih.2 fs.toList 0 ks hls fuel cs xs (by omega) hm)
       rw[List.drop_zero,List.take_of_length_le (by omega)] at this
       exact this
      ·cases h
     ·cases h
    ·cases h
  ·intro fs off ks h fuel cs xs hl hm
   cases fs with
   | nil=>simp[Do] at h;subst h;exact⟨[],by simp[RdL], .nil⟩
   | cons f fs =>
    unfold Do at h
    split at h
    ·rename_i ls hls
     split at h
     ·rename_i ho
      split at h
      ·rename_i ms hms
       cases h
       rw[List.mapM_cons] at hm
       cases h1:DataW.trod enc P w base spare held fuel f.type ((cs.drop f.offset).take (P.cellsOf f.type)) with
       | none=>rw[h1] at hm;cases hm
       | some y =>
        rw[h1] at hm
        cases h2:fs.mapM (fun f=>DataW.trod enc P w base spare held fuel f.type ((cs.drop f.offset).take (P.cellsOf f.type))) with
        | none=>simp[h2] at hm
        | some ys =>
         rw[List.length_append] at hl ⊢
         obtain⟨as1,a1,a1'⟩:=ih.1 f.type ls hls fuel _ y h1
         obtain⟨as2,a2,a2'⟩:=ih.2 fs (off+ls.length) ms hms fuel cs ys (by omega) h2
         rw[ho.1,← ho.2] at a1
         rw[List.take_add,List.drop_drop]
         exact⟨as1++as2,a1.append a2,a1'.append a2'⟩
      ·cases h
     ·cases h
    ·cases h
theorem Zbw {r:Reach} {b0:Nat} {t e:TypeId} {v:Value} {d:DataW H} {ps:List MemPlace} {ks:List SH} (n:Nat) (hu:P.underlying t=some (.slice e)) (hk:So P n t=some [.sl ks])
  (hval:Value.okWide P w r b0 t v) (hd:DataW.Trod enc P w base spare held t v d ps):∃ x,Rd (fun _=>False) (fun _=>False) w v x∧AIs (.sl ks) x:=by
 obtain⟨fuel,hf⟩:=hd
 obtain⟨a0,l0,c0,hv⟩:=okWide_slice hu hval
 subst hv
 obtain⟨az,h1,h2⟩:=(Sn n).1 t _ hk fuel _ _ hf
 cases h2 with
 | cons h hs =>
  cases hs
  exact⟨_,h1.1,h⟩
end
end Go.Ai

namespace Go.Ai
open Go.IntKind (i64 u64 u32)
open Go.RowKit
theorem AsAre.split:∀ {ks ls:List SH} {az:List AV},AsAre (ks++ls) az→∃ a b,az=a++b∧AsAre ks a∧AsAre ls b
 | [],_,az,h=>⟨[],az,rfl, .nil,h⟩
 | _::_,_,_, .cons h hs=>by
  obtain⟨a,b,rfl,h1,h2⟩:=AsAre.split hs
  exact⟨_::a,b,rfl, .cons h h1,h2⟩
theorem wf_u32 {n:Int} (h:(Lit.int .u32 n).wf=true):0≤n∧n<4294967296:=by
 simp only[Lit.wf,IntKind.min,IntKind.max,IntKind.signed,IntKind.bits] at h
 simp at h
 omega
theorem Ro:∀ {n:Nat} {az:List AV},AsAre (Zld n [.int .u32]) az→∃ xs:List Int,xs.length=n∧U32 xs∧az=lm xs
 | 0,_, .nil=>⟨[],rfl,(fun x hx=>nomatch hx),rfl⟩
 | n+1,az,h=>by
  obtain⟨a,b,rfl,h1,h2⟩:=AsAre.split h
  obtain⟨xs,e1,e2,rfl⟩:=Ro h1
  cases h2 with
  | cons h3 h4 =>
   cases h4
   cases h3 with
   | int hw =>
    rename_i m
    refine⟨xs++[m],by simp[e1],fun x hx => ?_,by simp[lm]⟩
    rcases List.mem_append.1 hx with g | g
    ·exact e2 x g
    ·rw[List.mem_singleton.1 g];exact wf_u32 hw
theorem int_of {az:List AV} (h:AsAre [.bool, .sl [.int .u32]] az):∃ r:Rn,U32 r.2∧az=[.bool r.1, .sl r.2.length (lm r.2)]:=by
 cases h with
 | cons h1 h2 =>
  cases h1
  cases h2 with
  | cons h3 h4 =>
   cases h4
   cases h3 with
   | sl h5 =>
    obtain⟨xs,rfl,e2,rfl⟩:=Ro h5
    exact⟨(_,xs),e2,rfl⟩
theorem Zcl:∀ {n:Nat} {az:List AV},AsAre (Zld n [.bool, .sl [.int .u32]]) az→∃ rs:List Rn,rs.length=n∧(∀ r∈rs,U32 r.2)∧az=pc rs
 | 0,_, .nil=>⟨[],rfl,(fun x hx=>nomatch hx),rfl⟩
 | n+1,az,h=>by
  obtain⟨a,b,rfl,h1,h2⟩:=AsAre.split h
  obtain⟨rs,e1,e2,rfl⟩:=Zcl h1
  obtain⟨r,hr,rfl⟩:=int_of h2
  refine⟨rs++[r],by simp[e1],fun x hx => ?_,by rw[Hu];rfl⟩
  rcases List.mem_append.1 hx with g | g
  ·exact e2 x g
  ·rw[List.mem_singleton.1 g];exact hr
abbrev polyS:SH := .sl [.bool, .sl [.int .u32]]
theorem Zmg {x:AV} (h:AIs polyS x):∃ rs:List Rn,(∀ r∈rs,U32 r.2)∧x = .sl rs.length (pc rs):=by
 cases h with
 | sl h1 =>
  obtain⟨rs,rfl,h2,rfl⟩:=Zcl h1
  exact⟨rs,h2,rfl⟩
end Go.Ai
