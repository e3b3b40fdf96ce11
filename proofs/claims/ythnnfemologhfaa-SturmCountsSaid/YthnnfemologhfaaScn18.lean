/- Texts of the proof of SturmCounts, packed by pack.py: part 18 of 19. -/
import Derived.Deep.Slices
import Derived.Test.YthnnfemologhfaaScn17
namespace Go.Ai
open Go.IntKind (i64 u64 u32)
open Go.RowKit Go.WideShapes Go.ChangeShapes
theorem Ac {α β:Type} {f:α→Option β}:∀ {l:List α} {r:List β},l.mapM f=some r→r.length=l.length∧∀ (i:Nat) (h:i<l.length) (h':i<r.length),f l[i]=some r[i]
 | [],r,h=>by simp at h;subst h;exact⟨rfl,fun i h=>absurd h (Nat.not_lt_zero i)⟩
 | a::l,r,h=>by
  rw[List.mapM_cons] at h
  cases h1:f a with
  | none=>rw[h1] at h;cases h
  | some b =>
   rw[h1] at h
   cases h2:l.mapM f with
   | none=>simp[h2] at h
   | some bs =>
    rw[h2] at h
    cases h
    obtain⟨e,k⟩:=Ac h2
    refine⟨by simp[e],fun i => ?_⟩
    cases i with
    | zero=>intro _ _;exact h1
    | succ i=>intro a b;exact k i (by simpa using a) (by simpa using b)
section
variable {H:Type} {enc:TypeId × Value→H} {P:Program} {w:World} {base:Nat} {spare:Nat→Bool} {held:Bool}
end
theorem Zj5 {Y X:Nat→Prop} {w:World} {b off len cap:Nat} {cs:List Value} {az:List AV} (hX:¬ X b) (hY:¬ Y b) (hn:len≤cap) (hd:Dat az) (h:RdL Y X w cs az)
  (hcell:∀ (i:Nat) (h:i<cs.length),w.cell? ⟨b,off+i,none⟩=some cs[i]):Rd Y X w (.slice (some ⟨b,off,none⟩) len cap) (.sl len az):=by
 obtain⟨e,k⟩:=h.at
 refine .sl b off len cap az (fun i=>cs.getD i Go.undef) hd hn (fun _=>hX) (fun _=>hY) (fun i hi => ?_) (fun i hi => ?_)
 ·rw[hcell i (by omega)]
  simp[List.getD,List.getElem?_eq_getElem (show i<cs.length by omega)]
 ·have:cs.getD i Go.undef=cs[i]'(by omega):=by simp[List.getD,List.getElem?_eq_getElem (show i<cs.length by omega)]
  rw[this]
  exact k i (by omega) hi
section
variable {H:Type} {enc:TypeId × Value→H} {P:Program} {w:World} {base:Nat} {spare:Nat→Bool} {held:Bool}
end
section
variable {H:Type} {enc:TypeId × Value→H} {P:Program} {w:World} {base:Nat} {spare:Nat→Bool} {held:Bool}
end
end Go.Ai

namespace Go.Ai
open Go.IntKind (i64 u64 u32)
open Go.RowKit Go.WideShapes Go.ChangeShapes
inductive SH where
 | int (k:IntKind)
 | bool
 | str
 | sl (ks:List SH)
def Zp5 (n:Nat) (ks:List SH):List SH:=match n with
 | 0=>[]
 | n+1=>Zp5 n ks++ks
theorem Rc (n:Nat) (ks:List SH):(Zp5 n ks).length=n*ks.length:=by
 induction n with
 | zero=>simp[Zp5]
 | succ n ih=>simp[Zp5,ih,Nat.succ_mul]
mutual
inductive AIs:SH→AV→Prop where
 | int {k:IntKind} {n:Int} (h:(Lit.int k n).wf=true):AIs (.int k) (.int k n)
 | bool {b:Bool}:AIs .bool (.bool b)
 | str {s:ByteArray}:AIs .str (.str s)
 | sl {ks:List SH} {n:Nat} {az:List AV} (h:AsAre (Zp5 n ks) az):AIs (.sl ks) (.sl n az)
inductive AsAre:List SH→List AV→Prop where
 | nil:AsAre [] []
 | cons {k:SH} {a:AV} {ks:List SH} {az:List AV} (h:AIs k a) (hs:AsAre ks az):AsAre (k::ks) (a::az)
end
theorem AIs.data {k:SH} {a:AV} (h:AIs k a):Dc a=true:=by cases h <;> rfl
theorem AsAre.dat:∀ {ks:List SH} {az:List AV},AsAre ks az→Dat az
 | _,_, .nil=>fun x hx=>by cases hx
 | _,_, .cons h hs=>fun x hx=>by
  cases hx with
  | head=>exact h.data
  | tail _ hx=>exact hs.dat x hx
theorem AsAre.append:∀ {ks ls:List SH} {a b:List AV},AsAre ks a→AsAre ls b→AsAre (ks++ls) (a++b)
 | _,_,_,_, .nil,h=>h
 | _,_,_,_, .cons h hs,h' => .cons h (hs.append h')
theorem AsAre.length:∀ {ks:List SH} {a:List AV},AsAre ks a→a.length=ks.length
 | _,_, .nil=>rfl
 | _,_, .cons _ hs=>by simp[hs.length]
mutual
def P5 (P:Program):Nat→TypeId→Option (List SH)
 | 0,_=>none
 | n+1,t=>match P.underlying t with
  | some .bool=>some [.bool]
  | some (.int k)=>some [.int k]
  | some .string=>some [.str]
  | some (.slice e)=>match P5 P n e with
   | some ks=>if ks.length=P.cellsOf e∧0<ks.length then some [.sl ks] else none
   | none=>none
  | some (.struct fs)=>match Bx P n fs.toList 0 with
   | some ks=>if ks.length=P.cellsOf t then some ks else none
   | none=>none
  | _=>none
def Bx (P:Program):Nat→List Field→Nat→Option (List SH)
 | _,[],_=>some []
 | 0,_::_,_=>none
 | n+1,f::fs,off=>match P5 P n f.type with
  | some ks=>if f.offset=off∧ks.length=P.cellsOf f.type then
    match Bx P n fs (off+ks.length) with
    | some ls=>some (ks++ls)
    | none=>none
   else none
  | none=>none
end
theorem RdL.append {Y X:Nat→Prop} {w:World}:∀ {a c:List Value} {b d:List AV},RdL Y X w a b→RdL Y X w c d→RdL Y X w (a++c) (b++d)
 | [],_,[],_,_,h=>h
 | _::_,_,_::_,_,h,h'=>⟨h.1,RdL.append h.2 h'⟩
 | [],_,_::_,_,h,_=>h.elim
 | _::_,_,[],_,h,_=>h.elim
section
variable {H:Type} {enc:TypeId × Value→H} {P:Program} {w:World} {base:Nat} {spare:Nat→Bool} {held:Bool}
abbrev F0:Nat→Prop:=fun _=>False
theorem El (n:Nat) :
  (∀ t ks,P5 P n t=some ks→∀ fuel cs x,DataW.trod enc P w base spare held fuel t cs=some x→∃ az,RdL F0 F0 w cs az∧AsAre ks az) ∧
  (∀ fs off ks,Bx P n fs off=some ks→∀ fuel (cs:List Value) xs,off+ks.length≤cs.length →
   fs.mapM (fun f=>DataW.trod enc P w base spare held fuel f.type ((cs.drop f.offset).take (P.cellsOf f.type)))=some xs→∃ az,RdL F0 F0 w ((cs.drop off).take ks.length) az∧AsAre ks az):=by
 induction n with
 | zero =>
  refine⟨fun t ks h=>by simp[P5] at h,fun fs off ks h fuel cs xs hl hm => ?_⟩
  cases fs with
  | nil=>simp[Bx] at h;subst h;exact⟨[],by simp[RdL], .nil⟩
  | cons f fs=>simp[Bx] at h
 | succ n ih =>
  constructor
  ·intro t ks h fuel cs x hx
   cases fuel with
   | zero=>simp[DataW.trod] at hx
   | succ fuel =>
    unfold P5 at h
    split at h
    ·rename_i hu
     cases h
     unfold DataW.trod at hx
     rw[hu] at hx
     split at hx <;> simp_all
     exact⟨[.bool _],⟨.bool _,trivial⟩, .cons .bool .nil⟩
    ·rename_i k hu
     cases h
     obtain⟨m,e,_,hw⟩:=DataW.trod_int hu hx
     subst e
     exact⟨[.int k m],⟨.int k m,trivial⟩, .cons (.int hw) .nil⟩
    ·rename_i hu
     cases h
     obtain⟨s,e,_,_⟩:=DataW.trod_string hu hx
     subst e
     exact⟨[.str s],⟨.str s,trivial⟩, .cons .str .nil⟩
    ·rename_i e hu
     split at h
     ·rename_i ls hls
      split at h
      ·rename_i hlen
       cases h
       rcases Go.Deep.open_slice hu hx with ⟨h0,_⟩ | ⟨a,len,cap,m,nn,D,Pl,h1,hb,hl,hm,hmm,_,hx'⟩
       ·subst h0
        exact⟨[.sl 0 []],⟨.nil0,trivial⟩, .cons (.sl .nil) .nil⟩
       ·subst h1
        rcases Nat.eq_zero_or_pos len with h0 | hpos
        ·subst h0
         exact⟨[.sl 0 []],⟨.e0 _ _,trivial⟩, .cons (.sl .nil) .nil⟩
        ·have hlm:len≤m:=by rw[hmm];split <;> omega
         have hspot:a.spot=none:=by
          obtain⟨cs',h3,_⟩:=hx' 0 (by omega)
          unfold World.cells? at h3
          split at h3
          ·obtain⟨l1,l2⟩:=Ac h3
           rw[List.length_range] at l1
           have:=l2 0 (by rw[List.length_range];omega) (by omega)
           have:=World.cell?_spot this
           simpa [Addr.add] using this
          ·cases h3
         obtain⟨b,off,sp⟩:=a
         simp only at hspot
         subst hspot
         have key:∀ k,k≤len→∃ (cs:List Value) (az:List AV),RdL F0 F0 w cs az∧AsAre (Zp5 k ls) az∧∀ (i:Nat) (h:i<cs.length),w.cell? ⟨b,off+i,none⟩=some cs[i]:=by
          intro k
          induction k with
          | zero=>intro _;exact⟨[],[],trivial, .nil,fun i h=>absurd h (Nat.not_lt_zero i)⟩
          | succ k ihk =>
           intro hkl
           obtain⟨cs,az,h1,h2,h2'⟩:=ihk (by omega)
           obtain⟨cs',h3,h4⟩:=hx' k (by omega)
           obtain⟨az',h5,h6⟩:=ih.1 e ls hls nn cs' _ h4
           refine⟨cs++cs',az++az',h1.append h5,h2.append h6,fun i hi => ?_⟩
           have hlen2:cs.length=k*ls.length:=by rw[(h1.at).1,h2.length,Rc]
           by_cases hik:i<cs.length
           ·rw[List.getElem_append_left hik];exact h2' i hik
           ·rw[List.getElem_append_right (by omega)]
            have hi':i-cs.length<cs'.length:=by rw[List.length_append] at hi;omega
            unfold World.cells? at h3
            split at h3
            ·obtain⟨l1,l2⟩:=Ac h3
             have:=l2 (i-cs.length) (by rw[← l1];exact hi') hi'
             rw[← this,List.getElem_range]
             congr 1
             have hq:k*P.cellsOf e=cs.length:=by rw[hlen2,hlen.1]
             rw[hq]
             have ho:off+i=off+cs.length+(i-cs.length):=by omega
             rw[ho]
             unfold Addr.add
             by_cases z1:cs.length=0 <;> by_cases z2:i-cs.length=0 <;> simp[z1,z2] <;> omega
            ·cases h3
         obtain⟨cs,az,h1,h2,h3⟩:=key len (Nat.le_refl _)
         exact⟨[.sl len az],⟨Zj5 (fun h=>h) (fun h=>h) hl h2.dat h1 h3,trivial⟩, .cons (.sl h2) .nil⟩
      ·cases h
     ·cases h
    ·rename_i fs hu
     split at h
     ·rename_i ls hls
      split at h
      ·rename_i hlen
       cases h
       obtain⟨hl,xs,hm,_⟩:cs.length=P.cellsOf t∧∃ xs,fs.toList.mapM (fun f=>DataW.trod enc P w base spare held fuel f.type ((cs.drop f.offset).take (P.cellsOf f.type)))=some xs∧True:=by
        unfold DataW.trod at hx
        rw[hu] at hx
        simp only at hx
        split at hx
        ·rename_i hl
         refine⟨hl,?_⟩
         cases hm:fs.toList.mapM (fun f=>DataW.trod enc P w base spare held fuel f.type ((cs.drop f.offset).take (P.cellsOf f.type))) with
         | none=>rw[hm] at hx;cases hx
         | some xs=>exact⟨xs,rfl,trivial⟩
        ·cases hx
       have:=(ih.2 fs.toList 0 ks hls fuel cs xs (by omega) hm)
       rw[List.drop_zero,List.take_of_length_le (by omega)] at this
       exact this
      ·cases h
     ·cases h
    ·cases h
  ·intro fs off ks h fuel cs xs hl hm
   cases fs with
   | nil=>simp[Bx] at h;subst h;exact⟨[],by simp[RdL], .nil⟩
   | cons f fs =>
    unfold Bx at h
    split at h
    ·rename_i ls hls
     split at h
     ·rename_i ho
      split at h
      ·rename_i ms hms
       cases h
       rw[List.mapM_cons] at hm
       cases h1:DataW.trod enc P w base spare held fuel f.type ((cs.drop f.offset).take (P.cellsOf f.type)) with
       | none=>rw[h1] at hm;cases hm
       | some y =>
        rw[h1] at hm
        cases h2:fs.mapM (fun f=>DataW.trod enc P w base spare held fuel f.type ((cs.drop f.offset).take (P.cellsOf f.type))) with
        | none=>simp[h2] at hm
        | some ys =>
         rw[List.length_append] at hl ⊢
         obtain⟨as1,a1,a1'⟩:=ih.1 f.type ls hls fuel _ y h1
         obtain⟨as2,a2,a2'⟩:=ih.2 fs (off+ls.length) ms hms fuel cs ys (by omega) h2
         rw[ho.1,← ho.2] at a1
         rw[List.take_add,List.drop_drop]
         exact⟨as1++as2,a1.append a2,a1'.append a2'⟩
      ·cases h
     ·cases h
    ·cases h
theorem Zee {r:Reach} {b0:Nat} {t e:TypeId} {v:Value} {d:DataW H} {ps:List MemPlace} {ks:List SH} (n:Nat) (hu:P.underlying t=some (.slice e)) (hk:P5 P n t=some [.sl ks])
  (hval:Value.okWide P w r b0 t v) (hd:DataW.Trod enc P w base spare held t v d ps):∃ x,Rd (fun _=>False) (fun _=>False) w v x∧AIs (.sl ks) x:=by
 obtain⟨fuel,hf⟩:=hd
 obtain⟨a0,l0,c0,hv⟩:=okWide_slice hu hval
 subst hv
 obtain⟨az,h1,h2⟩:=(El n).1 t _ hk fuel _ _ hf
 cases h2 with
 | cons h hs =>
  cases hs
  exact⟨_,h1.1,h⟩
theorem Eu {r:Reach} {b0:Nat} {t:TypeId} {fs:Array Field} {v:Value} {d:DataW H} {ps:List MemPlace} {ks:List SH} (n:Nat) (hu:P.underlying t=some (.struct fs)) (hk:P5 P n t=some ks)
  (hval:Value.okWide P w r b0 t v) (hd:DataW.Trod enc P w base spare held t v d ps):∃ az,Rd (fun _=>False) (fun _=>False) w v (.agg az)∧AsAre ks az:=by
 obtain⟨cs,rfl,hsz⟩:=okWide_struct hu hval
 obtain⟨fuel,hf⟩:=hd
 obtain⟨az,h1,h2⟩:=(El n).1 t ks hk fuel _ _ hf
 obtain⟨e,k⟩:=h1.at
 refine⟨az, .agg cs az h2.dat (by simpa [Value.cells] using e) (fun i h3 h4 => ?_),h2⟩
 have:=k i (by simpa [Value.cells] using h3) h4
 simpa [Value.cells] using this
end
end Go.Ai

namespace Go.Ai
open Go.IntKind (i64 u64 u32)
open Go.RowKit
theorem AsAre.split:∀ {ks ls:List SH} {az:List AV},AsAre (ks++ls) az→∃ a b,az=a++b∧AsAre ks a∧AsAre ls b
 | [],_,az,h=>⟨[],az,rfl, .nil,h⟩
 | _::_,_,_, .cons h hs=>by
  obtain⟨a,b,rfl,h1,h2⟩:=AsAre.split hs
  exact⟨_::a,b,rfl, .cons h h1,h2⟩
theorem wf_u32 {n:Int} (h:(Lit.int .u32 n).wf=true):0≤n∧n<4294967296:=by
 simp only[Lit.wf,IntKind.min,IntKind.max,IntKind.signed,IntKind.bits] at h
 simp at h
 omega
theorem wf_i64 {n:Int} (h:(Lit.int .i64 n).wf=true) : -9223372036854775808≤n∧n≤9223372036854775807:=by
 simp only[Lit.wf,IntKind.min,IntKind.max,IntKind.signed,IntKind.bits] at h
 simp at h
 omega
theorem Zaj:∀ {n:Nat} {az:List AV},AsAre (Zp5 n [.int .u32]) az→∃ xs:List Int,xs.length=n∧U32 xs∧az=lm xs
 | 0,_, .nil=>⟨[],rfl,(fun x hx=>nomatch hx),rfl⟩
 | n+1,az,h=>by
  obtain⟨a,b,rfl,h1,h2⟩:=AsAre.split h
  obtain⟨xs,e1,e2,rfl⟩:=Zaj h1
  cases h2 with
  | cons h3 h4 =>
   cases h4
   cases h3 with
   | int hw =>
    rename_i m
    refine⟨xs++[m],by simp[e1],fun x hx => ?_,by simp[lm]⟩
    rcases List.mem_append.1 hx with g | g
    ·exact e2 x g
    ·rw[List.mem_singleton.1 g];exact wf_u32 hw
theorem Zqg {az:List AV} (h:AsAre [.bool, .sl [.int .u32]] az):∃ r:Rn,U32 r.2∧az=[.bool r.1, .sl r.2.length (lm r.2)]:=by
 cases h with
 | cons h1 h2 =>
  cases h1
  cases h2 with
  | cons h3 h4 =>
   cases h4
   cases h3 with
   | sl h5 =>
    obtain⟨xs,rfl,e2,rfl⟩:=Zaj h5
    exact⟨(_,xs),e2,rfl⟩
theorem Zex:∀ {n:Nat} {az:List AV},AsAre (Zp5 n [.bool, .sl [.int .u32]]) az→∃ rs:List Rn,rs.length=n∧(∀ r∈rs,U32 r.2)∧az=pc rs
 | 0,_, .nil=>⟨[],rfl,(fun x hx=>nomatch hx),rfl⟩
 | n+1,az,h=>by
  obtain⟨a,b,rfl,h1,h2⟩:=AsAre.split h
  obtain⟨rs,e1,e2,rfl⟩:=Zex h1
  obtain⟨r,hr,rfl⟩:=Zqg h2
  refine⟨rs++[r],by simp[e1],fun x hx => ?_,by rw[Gn];rfl⟩
  rcases List.mem_append.1 hx with g | g
  ·exact e2 x g
  ·rw[List.mem_singleton.1 g];exact hr
abbrev polyS:SH := .sl [.bool, .sl [.int .u32]]
theorem Zri {x:AV} (h:AIs polyS x):∃ rs:List Rn,(∀ r∈rs,U32 r.2)∧x = .sl rs.length (pc rs):=by
 cases h with
 | sl h1 =>
  obtain⟨rs,rfl,h2,rfl⟩:=Zex h1
  exact⟨rs,h2,rfl⟩
abbrev dyS:List SH:=[.bool, .sl [.int .u32], .int .i64]
theorem Lp {az:List AV} (h:AsAre dyS az):∃ (r:Rn) (e:Int),U32 r.2∧(-9223372036854775808≤e∧e≤9223372036854775807)∧az=[.bool r.1, .sl r.2.length (lm r.2), .int .i64 e]:=by
 obtain⟨a,b,rfl,h1,h2⟩:=AsAre.split (ks:=[.bool, .sl [.int .u32]]) (ls:=[.int .i64]) h
 obtain⟨r,hr,rfl⟩:=Zqg h1
 cases h2 with
 | cons h3 h4 =>
  cases h4
  cases h3 with
  | int hw=>exact⟨r,_,hr,wf_i64 hw,rfl⟩
end Go.Ai
