/- pinballref01: products. -/
import Derived.Test.YthnnfemologhfaaBigB
namespace Go.Proofs.Ythnnfemologhfaa
open Go.Ai
set_option maxRecDepth 100000

def Try.co141 : ICode := .seq (.seq (.region false [oM 15 6,
   oM 16 0,
   o1 17 (.len (.t 16)),
   oB 18 .lss 15 17])
  (.cond (.t 18) (.skip)
  (.exit 0)))
  (.seq (.block 1 (.seq (.region false [o1 7 (.mov (.c (.int .u64 0)))])
  (.seq (.seq (.region false [o1 8 (.mov (.c (.int .i64 0)))])
  (.block 2 (.loop (.seq (.seq (.region false [oM 21 8,
   oM 22 1,
   o1 23 (.len (.t 22)),
   oB 24 .lss 21 23])
  (.cond (.t 24) (.skip)
  (.exit 2)))
  (.seq (.block 3 (.seq (.region true [oM 27 7,
   o1 28 (.cpy 5),
   oM 29 6,
   oM 30 8,
   oB 31 .add 29 30,
   o1 32 (.ixo 28 5 (.t 31) 1),
   o1 33 (.ld 32 5 1 true),
   o1 34 (.cv .u64 (.t 33)),
   oM 35 0,
   oM 36 6,
   o1 37 (.ixa 35 (.t 36) 1),
   o1 38 (.ld 37 37 1 true),
   o1 39 (.cv .u64 (.t 38)),
   oM 40 1,
   oM 41 8,
   o1 42 (.ixa 40 (.t 41) 1),
   o1 43 (.ld 42 42 1 true),
   o1 44 (.cv .u64 (.t 43)),
   oB 45 .mul 39 44,
   oB 46 .add 34 45,
   oB 47 .add 27 46,
   oM 7 47])
  (.seq (.region false [o1 48 (.cpy 5),
   oM 49 6,
   oM 50 8,
   oB 51 .add 49 50,
   oM 52 7,
   o1 53 (.cv .u32 (.t 52)),
   o1 54 (.ixo 48 5 (.t 51) 1),
   oN (.st 54 5 1 (.t 53))])
  (.region false [oM 55 7,
   o1 56 (.bin .shr (.t 55) (.c (.int .u64 32))),
   oM 7 56]))))
  (.region false [oM 25 8,
   o1 26 (.bin .add (.t 25) (.c (.int .i64 1))),
   oM 8 26]))))))
  (.region false [o1 57 (.cpy 5),
   oM 58 6,
   oM 59 1,
   o1 60 (.len (.t 59)),
   oB 61 .add 58 60,
   oM 62 7,
   o1 63 (.cv .u32 (.t 62)),
   o1 64 (.ixo 57 5 (.t 61) 1),
   oN (.st 64 5 1 (.t 63))]))))
  (.region false [oM 19 6,
   o1 20 (.bin .add (.t 19) (.c (.int .i64 1))),
   oM 6 20]))
def Try.ci141 : ICode := .seq (.seq (.region false [oM 21 8,
   oM 22 1,
   o1 23 (.len (.t 22)),
   oB 24 .lss 21 23])
  (.cond (.t 24) (.skip)
  (.exit 2)))
  (.seq (.block 3 (.seq (.region true [oM 27 7,
   o1 28 (.cpy 5),
   oM 29 6,
   oM 30 8,
   oB 31 .add 29 30,
   o1 32 (.ixo 28 5 (.t 31) 1),
   o1 33 (.ld 32 5 1 true),
   o1 34 (.cv .u64 (.t 33)),
   oM 35 0,
   oM 36 6,
   o1 37 (.ixa 35 (.t 36) 1),
   o1 38 (.ld 37 37 1 true),
   o1 39 (.cv .u64 (.t 38)),
   oM 40 1,
   oM 41 8,
   o1 42 (.ixa 40 (.t 41) 1),
   o1 43 (.ld 42 42 1 true),
   o1 44 (.cv .u64 (.t 43)),
   oB 45 .mul 39 44,
   oB 46 .add 34 45,
   oB 47 .add 27 46,
   oM 7 47])
  (.seq (.region false [o1 48 (.cpy 5),
   oM 49 6,
   oM 50 8,
   oB 51 .add 49 50,
   oM 52 7,
   o1 53 (.cv .u32 (.t 52)),
   o1 54 (.ixo 48 5 (.t 51) 1),
   oN (.st 54 5 1 (.t 53))])
  (.region false [oM 55 7,
   o1 56 (.bin .shr (.t 55) (.c (.int .u64 32))),
   oM 7 56]))))
  (.region false [oM 25 8,
   o1 26 (.bin .add (.t 25) (.c (.int .i64 1))),
   oM 8 26]))
def Try.so141 (la : Nat) (xa : List AV) (lb : Nat) (bs : List AV) (n : Nat) (cs : List AV) (i : Int) : State := (.val (.sl la xa) :: (.val (.sl lb bs) :: (dds 2 (.own 1 0 [] :: (.own 1 n cs :: (.val (.int .i64 i) :: (dds 59 [])))))))
def Try.si141 (la : Nat) (xa : List AV) (lb : Nat) (bs : List AV) (n : Nat) (cs : List AV) (i c k : Int) : State := (.val (.sl la xa) :: (.val (.sl lb bs) :: (dds 2 (.own 1 0 [] :: (.own 1 n cs :: (.val (.int .i64 i) :: (.val (.int .u64 c) :: (.val (.int .i64 k) :: (dds 57 [])))))))))
theorem Try.ki141_1 (la : Nat) (xa : List AV) (lb : Nat) (bs : List AV) (n : Nat) (cs ds : List AV) (i c k x y z : Int) (c1 : (decide (k < ((lb : Nat) : Int))) = true) (n1 : 0 ≤ (IntKind.i64.wrap (i + k)) ∧ (IntKind.i64.wrap (i + k)) < ((n : Nat) : Int)) (n2 : takeA cs (Int.toNat (IntKind.i64.wrap (i + k)) * 1) 1 true = some (.int .u32 z)) (n3 : 0 ≤ i ∧ i < ((la : Nat) : Int)) (n4 : takeA (List.drop (Int.toNat i * 1) xa) 0 1 true = some (.int .u32 x)) (n5 : 0 ≤ k ∧ k < ((lb : Nat) : Int)) (n6 : takeA (List.drop (Int.toNat k * 1) bs) 0 1 true = some (.int .u32 y)) (n7 : 0 ≤ (IntKind.i64.wrap (i + k)) ∧ (IntKind.i64.wrap (i + k)) < ((n : Nat) : Int)) (n8 : layA cs (Int.toNat (IntKind.i64.wrap (i + k)) * 1) [.int .u32 (IntKind.u32.wrap (IntKind.u64.wrap (c + (IntKind.u64.wrap ((IntKind.u64.wrap z) + (IntKind.u64.wrap ((IntKind.u64.wrap x) * (IntKind.u64.wrap y))))))))] = some ds) : RunsW Try.ir Try.ci141 (Try.si141 la xa lb bs n cs i c k) .norm (Try.si141 la xa lb bs n ds i (Int.fdiv (IntKind.u64.wrap (c + (IntKind.u64.wrap ((IntKind.u64.wrap z) + (IntKind.u64.wrap ((IntKind.u64.wrap x) * (IntKind.u64.wrap y))))))) (2 ^ (min (Int.toNat 32) (IntKind.bits .u64)))) (IntKind.i64.wrap (k + 1))) :=
  RunsW.script (ps := [(decide (k < ((lb : Nat) : Int))) = true, 0 ≤ (IntKind.i64.wrap (i + k)) ∧ (IntKind.i64.wrap (i + k)) < ((n : Nat) : Int), takeA cs (Int.toNat (IntKind.i64.wrap (i + k)) * 1) 1 true = some (.int .u32 z), 0 ≤ i ∧ i < ((la : Nat) : Int), takeA (List.drop (Int.toNat i * 1) xa) 0 1 true = some (.int .u32 x), 0 ≤ k ∧ k < ((lb : Nat) : Int), takeA (List.drop (Int.toNat k * 1) bs) 0 1 true = some (.int .u32 y), 0 ≤ (IntKind.i64.wrap (i + k)) ∧ (IntKind.i64.wrap (i + k)) < ((n : Nat) : Int), layA cs (Int.toNat (IntKind.i64.wrap (i + k)) * 1) [.int .u32 (IntKind.u32.wrap (IntKind.u64.wrap (c + (IntKind.u64.wrap ((IntKind.u64.wrap z) + (IntKind.u64.wrap ((IntKind.u64.wrap x) * (IntKind.u64.wrap y))))))))] = some ds, ¬ (32 : Int) < 0]) TBB_holds 300 [.b true, .v (.int .u32 z), .v (.int .u32 x), .v (.int .u32 y), .l ds] [0, 1, 4, 5, 6, 7, 8] (by kernel_rfl) ⟨c1, n1, n2, n3, n4, n5, n6, n7, n8, (by decide), trivial⟩
theorem Try.ki141_2 (la : Nat) (xa : List AV) (lb : Nat) (bs : List AV) (n : Nat) (cs : List AV) (i c k : Int) (c1 : (decide (k < ((lb : Nat) : Int))) = false) : RunsW Try.ir Try.ci141 (Try.si141 la xa lb bs n cs i c k) (.exit 2) (Try.si141 la xa lb bs n cs i c k) :=
  RunsW.script (ps := [(decide (k < ((lb : Nat) : Int))) = false]) TBB_holds 300 [.b false] [0, 1, 4, 5, 6, 7, 8] (by kernel_rfl) ⟨c1, trivial⟩
theorem Try.ko141_no (la : Nat) (xa : List AV) (lb : Nat) (bs : List AV) (n : Nat) (cs : List AV) (i : Int) (h : (decide (i < ((la : Nat) : Int))) = false) : RunsW Try.ir Try.co141 (Try.so141 la xa lb bs n cs i) (.exit 0) (Try.so141 la xa lb bs n cs i) :=
  RunsW.script (ps := [(decide (i < ((la : Nat) : Int))) = false]) TBB_holds 300 [.b false] [0, 1, 4, 5, 6] (by kernel_rfl) ⟨h, trivial⟩
theorem Try.ko141_yes (la : Nat) (xa : List AV) (lb : Nat) (bs : List AV) (n : Nat) (cs ds es : List AV) (i c k : Int) (h : (decide (i < ((la : Nat) : Int))) = true)
    (hl : RunsW Try.ir (.loop Try.ci141) (Try.si141 la xa lb bs n cs i 0 0) (.exit 2) (Try.si141 la xa lb bs n ds i c k))
    (hix : 0 ≤ IntKind.i64.wrap (i + ((lb : Nat) : Int)) ∧ IntKind.i64.wrap (i + ((lb : Nat) : Int)) < ((n : Nat) : Int)) (hst : layA ds (Int.toNat (IntKind.i64.wrap (i + ((lb : Nat) : Int))) * 1) [.int .u32 (IntKind.u32.wrap c)] = some es) :
    RunsW Try.ir Try.co141 (Try.so141 la xa lb bs n cs i) .norm (Try.so141 la xa lb bs n es (IntKind.i64.wrap (i + 1))) :=
  (RunsW.seq (RunsW.script (t := (.val (.sl la xa) :: (.val (.sl lb bs) :: (dds 2 (.own 1 0 [] :: (.own 1 n cs :: (.val (.int .i64 i) :: (dds 8 (.val (.int .i64 i) :: (.val (.sl la xa) :: (.val (.int .i64 ((la : Nat) : Int)) :: (.val (.bool (decide (i < ((la : Nat) : Int)))) :: (dds 47 []))))))))))))) (ex := .norm) (ps := [(decide (i < ((la : Nat) : Int))) = true]) TBB_holds 300 [.b true] [0, 1, 4, 5, 6, 15, 16, 17, 18] (by kernel_rfl) ⟨h, trivial⟩)
    (RunsW.seq (RunsW.block_norm (RunsW.seq (RunsW.script (t := (.val (.sl la xa) :: (.val (.sl lb bs) :: (dds 2 (.own 1 0 [] :: (.own 1 n cs :: (.val (.int .i64 i) :: (.val (.int .u64 0) :: (dds 7 (.val (.int .i64 i) :: (.val (.sl la xa) :: (.val (.int .i64 ((la : Nat) : Int)) :: (.val (.bool (decide (i < ((la : Nat) : Int)))) :: (dds 47 [])))))))))))))) (ex := .norm) (ps := []) TBB_holds 300 [] [0, 1, 4, 5, 6, 7, 15, 16, 17, 18] (by kernel_rfl) trivial)
    (RunsW.seq (RunsW.seq (RunsW.script (t := (.val (.sl la xa) :: (.val (.sl lb bs) :: (dds 2 (.own 1 0 [] :: (.own 1 n cs :: (.val (.int .i64 i) :: (.val (.int .u64 0) :: (.val (.int .i64 0) :: (dds 57 [])))))))))) (ex := .norm) (ps := []) TBB_holds 300 [] [0, 1, 4, 5, 6, 7, 8] (by kernel_rfl) trivial)
    (RunsW.block hl))
    (RunsW.script (t := (.val (.sl la xa) :: (.val (.sl lb bs) :: (dds 2 (.own 1 0 [] :: (.own 1 n es :: (.val (.int .i64 i) :: (.val (.int .u64 c) :: (.val (.int .i64 k) :: (dds 48 (.dup 5 :: (.val (.int .i64 i) :: (.val (.sl lb bs) :: (.val (.int .i64 ((lb : Nat) : Int)) :: (.val (.int .i64 (IntKind.i64.wrap (i + ((lb : Nat) : Int)))) :: (.val (.int .u64 c) :: (.val (.int .u32 (IntKind.u32.wrap c)) :: (.ptr 5 (Int.toNat (IntKind.i64.wrap (i + ((lb : Nat) : Int))) * 1) :: (dds 1 []))))))))))))))))))) (ex := .norm) (ps := [0 ≤ (IntKind.i64.wrap (i + ((lb : Nat) : Int))) ∧ (IntKind.i64.wrap (i + ((lb : Nat) : Int))) < ((n : Nat) : Int), layA ds (Int.toNat (IntKind.i64.wrap (i + ((lb : Nat) : Int))) * 1) [.int .u32 (IntKind.u32.wrap c)] = some es]) TBB_holds 300 [.l es] [0, 1, 4, 5, 6, 7, 8, 57, 58, 59, 60, 61, 62, 63, 64] (by kernel_rfl) ⟨hix, hst, trivial⟩))))
    (RunsW.script (t := (.val (.sl la xa) :: (.val (.sl lb bs) :: (dds 2 (.own 1 0 [] :: (.own 1 n es :: (.val (.int .i64 (IntKind.i64.wrap (i + 1))) :: (dds 59 [])))))))) (ex := .norm) (ps := []) TBB_holds 300 [] [0, 1, 4, 5, 6] (by kernel_rfl) trivial)))


/-- One row of a product: limb k on, r limbs to go. -/
def innGo (a : Int) (bs : List Int) (i : Nat) : Nat → Nat → List Int → Int → List Int × Int
  | 0, _, out, c => (out, c)
  | r + 1, k, out, c => innGo a bs i r (k + 1) (out.set (i + k) ((c + (out.getD (i + k) 0 + a * bs.getD k 0)) % 4294967296)) ((c + (out.getD (i + k) 0 + a * bs.getD k 0)) / 4294967296)

theorem word_bd {a b c o : Int} (ha : 0 ≤ a ∧ a < 4294967296) (hb : 0 ≤ b ∧ b < 4294967296) (hc : 0 ≤ c ∧ c < 4294967296) (ho : 0 ≤ o ∧ o < 4294967296) :
    0 ≤ a * b ∧ a * b ≤ 18446744065119617025 ∧ 0 ≤ c + (o + a * b) ∧ c + (o + a * b) < 18446744073709551616 := by
  have h1 := Int.mul_nonneg ha.1 hb.1
  have h2 : a * b ≤ 4294967295 * 4294967295 := Int.mul_le_mul (by omega) (by omega) hb.1 (by omega)
  omega

theorem getD_set_ne {xs : List Int} {i j : Nat} {v : Int} (h : i ≠ j) : (xs.set i v).getD j 0 = xs.getD j 0 := by
  simp only [List.getD_eq_getElem?_getD, List.getElem?_set_ne h]

theorem innGo_ok {a : Int} {bs : List Int} {i : Nat} (ha : 0 ≤ a ∧ a < 4294967296) (hb : U32 bs) : ∀ (r k : Nat) (out : List Int) (c : Int), r + k = bs.length → i + bs.length ≤ out.length → U32 out → 0 ≤ c ∧ c < 4294967296 →
    (innGo a bs i r k out c).1.length = out.length ∧ U32 (innGo a bs i r k out c).1 ∧ (0 ≤ (innGo a bs i r k out c).2 ∧ (innGo a bs i r k out c).2 < 4294967296) ∧
    valL (innGo a bs i r k out c).1 + 4294967296 ^ (i + bs.length) * (innGo a bs i r k out c).2 = valL out + 4294967296 ^ (i + k) * (c + a * valL (bs.drop k)) ∧
    ∀ j, i + bs.length ≤ j → (innGo a bs i r k out c).1.getD j 0 = out.getD j 0 := by
  intro r
  induction r with
  | zero =>
    intro k out c hk _ hu hc
    have hk' : k = bs.length := by omega
    subst hk'
    refine ⟨rfl, hu, hc, ?_, fun _ _ => rfl⟩
    simp [innGo, valL]
  | succ r ih =>
    intro k out c hk hl hu hc
    have hbk := getD_u32 hb k
    have hok := getD_u32 hu (i + k)
    obtain ⟨w1, w2, w3, w4⟩ := word_bd ha hbk hc hok
    have hlt : i + k < out.length := by omega
    simp only [innGo]
    generalize hW : c + (out.getD (i + k) 0 + a * bs.getD k 0) = W at *
    have hm : 0 ≤ W % 4294967296 ∧ W % 4294967296 < 4294967296 := by omega
    obtain ⟨g1, g2, g3, g4, g5⟩ := ih (k + 1) (out.set (i + k) (W % 4294967296)) (W / 4294967296) (by omega) (by simpa using hl) (u32_set hu hm) (by omega)
    refine ⟨by simpa using g1, g2, g3, ?_, fun j hj => ?_⟩
    · rw [g4, valL_set out (i + k) _ hlt]
      have hd : valL (bs.drop k) = bs.getD k 0 + 4294967296 * valL (bs.drop (k + 1)) := by
        rw [List.drop_eq_getElem_cons (show k < bs.length by omega)]
        simp [valL, List.getD_eq_getElem?_getD, List.getElem?_eq_getElem (show k < bs.length by omega)]
      rw [hd]
      have hp : (4294967296 : Int) ^ (i + (k + 1)) = 4294967296 ^ (i + k) * 4294967296 := by rw [← Nat.add_assoc, Int.pow_succ]
      rw [hp]
      generalize (4294967296 : Int) ^ (i + k) = p at *
      generalize valL (bs.drop (k + 1)) = V at *
      have e1 : W = 4294967296 * (W / 4294967296) + W % 4294967296 := by omega
      have e2 : c = W - out.getD (i + k) 0 - a * bs.getD k 0 := by omega
      rw [e2]
      generalize W / 4294967296 = q at *
      generalize W % 4294967296 = m at *
      generalize out.getD (i + k) 0 = o at *
      generalize bs.getD k 0 = b at *
      subst e1
      grind
    · rw [g5 j hj, getD_set_ne (by omega)]

theorem Try.loopi141 (xa bs : List Int) (ha : U32 xa) (hb : U32 bs) (n i : Nat) (hn : n ≤ 1048576) (hi : i < xa.length) (hib : i + bs.length ≤ n) : ∀ (r k : Nat) (out : List Int) (c : Int), r + k = bs.length → out.length = n → U32 out → 0 ≤ c ∧ c < 4294967296 →
    RunsW Try.ir (.loop Try.ci141) (Try.si141 xa.length (lm xa) bs.length (lm bs) n (lm out) ((i : Nat) : Int) c ((k : Nat) : Int)) (.exit 2)
      (Try.si141 xa.length (lm xa) bs.length (lm bs) n (lm (innGo (xa.getD i 0) bs i r k out c).1) ((i : Nat) : Int) (innGo (xa.getD i 0) bs i r k out c).2 ((bs.length : Nat) : Int)) := by
  intro r
  induction r with
  | zero =>
    intro k out c hk _ _ _
    have hk' : k = bs.length := by omega
    subst hk'
    exact RunsW.loop_out (Try.ki141_2 xa.length (lm xa) bs.length (lm bs) n (lm out) ((i : Nat) : Int) c ((bs.length : Nat) : Int) (by simp)) (by intro e; cases e)
  | succ r ih =>
    intro k out c hk hl hu hc
    have hai := getD_u32 ha i
    have hbk := getD_u32 hb k
    have hok := getD_u32 hu (i + k)
    obtain ⟨w1, w2, w3, w4⟩ := word_bd hai hbk hc hok
    have ei : IntKind.i64.wrap (((i : Nat) : Int) + ((k : Nat) : Int)) = ((i + k : Nat) : Int) := by rw [w64 (by omega) (by omega)]; omega
    have ek : IntKind.i64.wrap (((k : Nat) : Int) + 1) = ((k + 1 : Nat) : Int) := by rw [w64 (by omega) (by omega)]; omega
    have hz := own_lim (xs := out) (i := i + k) (by omega)
    have hx := take_lim (xs := xa) (i := i) hi
    have hy := take_lim (xs := bs) (i := k) (by omega)
    have hst := lay_lim (xs := out) (i := i + k) (v := (c + (out.getD (i + k) 0 + xa.getD i 0 * bs.getD k 0)) % 4294967296) (by omega)
    have eW : IntKind.u64.wrap (c + IntKind.u64.wrap (IntKind.u64.wrap (out.getD (i + k) 0) + IntKind.u64.wrap (IntKind.u64.wrap (xa.getD i 0) * IntKind.u64.wrap (bs.getD k 0)))) = c + (out.getD (i + k) 0 + xa.getD i 0 * bs.getD k 0) := by
      have q1 : IntKind.u64.wrap (xa.getD i 0) = xa.getD i 0 := by rw [wu64m]; omega
      have q2 : IntKind.u64.wrap (bs.getD k 0) = bs.getD k 0 := by rw [wu64m]; omega
      have q3 : IntKind.u64.wrap (out.getD (i + k) 0) = out.getD (i + k) 0 := by rw [wu64m]; omega
      rw [q1, q2, q3, wu64m, wu64m, wu64m]
      omega
    have eS : Int.fdiv (c + (out.getD (i + k) 0 + xa.getD i 0 * bs.getD k 0)) (2 ^ (min (Int.toNat 32) (IntKind.bits .u64))) = (c + (out.getD (i + k) 0 + xa.getD i 0 * bs.getD k 0)) / 4294967296 := by
      show Int.fdiv _ 4294967296 = _
      rw [Int.fdiv_eq_ediv_of_nonneg _ (by omega)]
    have h1 := Try.ki141_1 xa.length (lm xa) bs.length (lm bs) n (lm out) (lm (out.set (i + k) ((c + (out.getD (i + k) 0 + xa.getD i 0 * bs.getD k 0)) % 4294967296))) ((i : Nat) : Int) c ((k : Nat) : Int) (xa.getD i 0) (bs.getD k 0) (out.getD (i + k) 0)
      (by simp; omega) (by rw [ei]; omega) (by rw [ei, Int.toNat_natCast]; exact hz) (by omega) (by rw [Int.toNat_natCast]; exact hx) (by omega) (by rw [Int.toNat_natCast]; exact hy) (by rw [ei]; omega) (by rw [ei, Int.toNat_natCast, eW, wu32]; exact hst)
    rw [eW, eS, ek] at h1
    exact RunsW.loop h1 (ih (k + 1) _ _ (by omega) (by simpa using hl) (u32_set hu (by omega)) (by omega))

theorem Try.loopo141 (xa bs : List Int) (ha : U32 xa) (hb : U32 bs) (hN : xa.length + bs.length ≤ 1048576) : ∀ (r i : Nat) (out : List Int), r + i = xa.length → out.length = xa.length + bs.length → U32 out → (∀ j, i + bs.length ≤ j → out.getD j 0 = 0) →
    ∃ out', out'.length = xa.length + bs.length ∧ U32 out' ∧ valL out' = valL out + 4294967296 ^ i * (valL (xa.drop i) * valL bs) ∧
      RunsW Try.ir (.loop Try.co141) (Try.so141 xa.length (lm xa) bs.length (lm bs) (xa.length + bs.length) (lm out) ((i : Nat) : Int)) (.exit 0) (Try.so141 xa.length (lm xa) bs.length (lm bs) (xa.length + bs.length) (lm out') ((xa.length : Nat) : Int)) := by
  intro r
  induction r with
  | zero =>
    intro i out hi hl hu _
    have hi' : i = xa.length := by omega
    subst hi'
    refine ⟨out, hl, hu, by simp [valL], ?_⟩
    exact RunsW.loop_out (Try.ko141_no xa.length (lm xa) bs.length (lm bs) (xa.length + bs.length) (lm out) ((xa.length : Nat) : Int) (by simp)) (by intro e; cases e)
  | succ r ih =>
    intro i out hi hl hu hz
    have hai := getD_u32 ha i
    have hlt : i < xa.length := by omega
    have hin := Try.loopi141 xa bs ha hb (xa.length + bs.length) i hN hlt (by omega) bs.length 0 out 0 (by omega) hl hu (by omega)
    obtain ⟨g1, g2, g3, g4, g5⟩ := innGo_ok (i := i) hai hb bs.length 0 out 0 (by omega) (by omega) hu (by omega)
    generalize innGo (xa.getD i 0) bs i bs.length 0 out 0 = q at *
    obtain ⟨ds, c⟩ := q
    dsimp only at g1 g2 g3 g4 g5 hin
    have ei : IntKind.i64.wrap (((i : Nat) : Int) + ((bs.length : Nat) : Int)) = ((i + bs.length : Nat) : Int) := by rw [w64 (by omega) (by omega)]; omega
    have ei1 : IntKind.i64.wrap (((i : Nat) : Int) + 1) = ((i + 1 : Nat) : Int) := by rw [w64 (by omega) (by omega)]; omega
    have ec : IntKind.u32.wrap c = c := by rw [wu32]; omega
    have hst := lay_lim (xs := ds) (i := i + bs.length) (v := c) (by omega)
    have h1 := Try.ko141_yes xa.length (lm xa) bs.length (lm bs) (xa.length + bs.length) (lm out) (lm ds) (lm (ds.set (i + bs.length) c)) ((i : Nat) : Int) c ((bs.length : Nat) : Int) (by simp; omega) hin (by rw [ei]; omega) (by rw [ei, Int.toNat_natCast, ec]; exact hst)
    rw [ei1] at h1
    obtain ⟨out', k1, k2, k3, k4⟩ := ih (i + 1) (ds.set (i + bs.length) c) (by omega) (by simp; omega) (u32_set g2 g3) (fun j hj => by rw [getD_set_ne (by omega), g5 j (by omega), hz j (by omega)])
    refine ⟨out', k1, k2, ?_, RunsW.loop h1 k4⟩
    have hv : valL (ds.set (i + bs.length) c) = valL out + 4294967296 ^ i * (xa.getD i 0 * valL bs) := by
      rw [valL_set ds _ _ (by omega), g5 _ (Nat.le_refl _), hz _ (Nat.le_refl _)]
      simp only [Nat.add_zero, List.drop_zero, Int.zero_add, Int.sub_zero] at g4 ⊢
      exact g4
    have hd : valL (xa.drop i) = xa.getD i 0 + 4294967296 * valL (xa.drop (i + 1)) := by
      rw [List.drop_eq_getElem_cons hlt]
      simp [valL, List.getD_eq_getElem?_getD, List.getElem?_eq_getElem hlt]
    rw [k3, hv, hd, Int.pow_succ]
    generalize (4294967296 : Int) ^ i = p at *
    generalize valL (xa.drop (i + 1)) = V at *
    grind

theorem mulMag_run {xa bs : List Int} (ha : U32 xa) (hb : U32 bs) (hN : xa.length + bs.length ≤ 1048576) :
    ∃ out, out.length = xa.length + bs.length ∧ U32 out ∧ valL out = valL xa * valL bs ∧ Runs Try.ir 141 [.sl xa.length (lm xa), .sl bs.length (lm bs)] (.fresh 1 out.length (lm out)) := by
  have en : IntKind.i64.wrap (((xa.length : Nat) : Int) + ((bs.length : Nat) : Int)) = ((xa.length + bs.length : Nat) : Int) := by rw [w64 (by omega) (by omega)]; omega
  have eN : (Int.toNat (IntKind.i64.wrap (((xa.length : Nat) : Int) + ((bs.length : Nat) : Int)))) = xa.length + bs.length := by rw [en, Int.toNat_natCast]
  obtain ⟨out, h1, h2, h3, h4⟩ := Try.loopo141 xa bs ha hb hN xa.length 0 (List.replicate (xa.length + bs.length) 0) (by omega) (by simp) (fun x hx => by rw [List.eq_of_mem_replicate hx]; omega) (fun j _ => by simp [List.getD_eq_getElem?_getD, List.getElem?_replicate]; split <;> rfl)
  refine ⟨out, h1, h2, ?_, ?_⟩
  · rw [h3, valL_zeros]; simp
  have hmk : 0 ≤ IntKind.i64.wrap (((xa.length : Nat) : Int) + ((bs.length : Nat) : Int)) ∧ IntKind.i64.wrap (((xa.length : Nat) : Int) + ((bs.length : Nat) : Int)) ≤ 1048576 := by rw [en]; omega
  have hl : RunsW Try.ir (.loop Try.co141) (Try.so141 xa.length (lm xa) bs.length (lm bs) (Int.toNat (IntKind.i64.wrap (((xa.length : Nat) : Int) + ((bs.length : Nat) : Int)))) (replA [.int .u32 0] (Int.toNat (IntKind.i64.wrap (((xa.length : Nat) : Int) + ((bs.length : Nat) : Int))))) 0) (.exit 0) (Try.so141 xa.length (lm xa) bs.length (lm bs) (Int.toNat (IntKind.i64.wrap (((xa.length : Nat) : Int) + ((bs.length : Nat) : Int)))) (lm out) ((xa.length : Nat) : Int)) := by
    rw [eN, repl_lim]; exact h4
  have := Runs.of_bodyW (prog := Try.ir) (f := 141) (args := [.sl xa.length (lm xa), .sl bs.length (lm bs)]) (r := .fresh 1 (Int.toNat (IntKind.i64.wrap (((xa.length : Nat) : Int) + ((bs.length : Nat) : Int)))) (lm out)) (fn := Try.i141) (s := (.val (.sl xa.length (lm xa)) :: (.val (.sl bs.length (lm bs)) :: (dds 2 (.own 1 (Int.toNat (IntKind.i64.wrap (((xa.length : Nat) : Int) + ((bs.length : Nat) : Int)))) (lm out) :: (dds 1 (.val (.int .i64 ((xa.length : Nat) : Int)) :: (dds 59 [])))))))) (ex := .ret) rfl rfl
    (RunsW.seq (RunsW.script (t := (.val (.sl xa.length (lm xa)) :: (.val (.sl bs.length (lm bs)) :: (dds 2 (.own 1 0 [] :: (dds 61 [])))))) (ex := .norm) (ps := []) TBB_holds 300 [] [0, 1, 4] (by kernel_rfl) trivial)
    (RunsW.seq (RunsW.script (t := (.val (.sl xa.length (lm xa)) :: (.val (.sl bs.length (lm bs)) :: (dds 2 (.own 1 0 [] :: (.own 1 (Int.toNat (IntKind.i64.wrap (((xa.length : Nat) : Int) + ((bs.length : Nat) : Int)))) (replA [.int .u32 0] (Int.toNat (IntKind.i64.wrap (((xa.length : Nat) : Int) + ((bs.length : Nat) : Int))))) :: (dds 3 (.val (.sl xa.length (lm xa)) :: (.val (.int .i64 ((xa.length : Nat) : Int)) :: (.val (.sl bs.length (lm bs)) :: (.val (.int .i64 ((bs.length : Nat) : Int)) :: (.val (.int .i64 (IntKind.i64.wrap (((xa.length : Nat) : Int) + ((bs.length : Nat) : Int)))) :: (dds 52 []))))))))))))) (ex := .norm) (ps := [0 ≤ (IntKind.i64.wrap (((xa.length : Nat) : Int) + ((bs.length : Nat) : Int))) ∧ (IntKind.i64.wrap (((xa.length : Nat) : Int) + ((bs.length : Nat) : Int))) ≤ 1048576]) TBB_holds 300 [] [0, 1, 4, 5, 9, 10, 11, 12, 13] (by kernel_rfl) ⟨hmk, trivial⟩)
    (RunsW.seq (RunsW.seq (RunsW.script (t := (.val (.sl xa.length (lm xa)) :: (.val (.sl bs.length (lm bs)) :: (dds 2 (.own 1 0 [] :: (.own 1 (Int.toNat (IntKind.i64.wrap (((xa.length : Nat) : Int) + ((bs.length : Nat) : Int)))) (replA [.int .u32 0] (Int.toNat (IntKind.i64.wrap (((xa.length : Nat) : Int) + ((bs.length : Nat) : Int))))) :: (.val (.int .i64 0) :: (dds 59 [])))))))) (ex := .norm) (ps := []) TBB_holds 300 [] [0, 1, 4, 5, 6] (by kernel_rfl) trivial)
    (RunsW.block hl))
    (RunsW.script (t := (.val (.sl xa.length (lm xa)) :: (.val (.sl bs.length (lm bs)) :: (dds 2 (.own 1 (Int.toNat (IntKind.i64.wrap (((xa.length : Nat) : Int) + ((bs.length : Nat) : Int)))) (lm out) :: (dds 1 (.val (.int .i64 ((xa.length : Nat) : Int)) :: (dds 59 [])))))))) (ex := .ret) (ps := []) TBB_holds 300 [] [0, 1, 4, 6] (by kernel_rfl) trivial)))) (by intro i e; cases e) rfl
  rw [eN, ← h1] at this
  exact this

theorem Try.run105 (na : Bool) (ma : Nat) (nb : Bool) (mb : Nat) (nr : Bool) (mr : Nat) (out : List Int) (ha : (limbs ma).length ≤ 1048576) (hb : (limbs mb).length ≤ 1048576) (hm : Runs Try.ir 141 [.sl ((limbs ma).length) (lm (limbs ma)), .sl ((limbs mb).length) (lm (limbs mb))] (.fresh 1 out.length (lm out))) (hk : Runs Try.ir 106 [.bool (!(na == nb)), .sl out.length (lm out)] (.agg [.bool nr, .sl ((limbs mr).length) (lm (limbs mr))])) : Runs Try.ir 105 [.agg [.bool na, .sl ((limbs ma).length) (lm (limbs ma))], .agg [.bool nb, .sl ((limbs mb).length) (lm (limbs mb))]] (.agg [.bool nr, .sl ((limbs mr).length) (lm (limbs mr))]) :=
  Runs.script (ps := [Runs Try.ir 125 [.sl ((limbs ma).length) (lm (limbs ma))] (.fresh 1 ((limbs ma).length) (lm (limbs ma))), Runs Try.ir 125 [.sl ((limbs mb).length) (lm (limbs mb))] (.fresh 1 ((limbs mb).length) (lm (limbs mb))), Runs Try.ir 141 [.sl ((limbs ma).length) (lm (limbs ma)), .sl ((limbs mb).length) (lm (limbs mb))] (.fresh 1 out.length (lm out)), Runs Try.ir 106 [.bool (!(na == nb)), .sl out.length (lm out)] (.agg [.bool nr, .sl ((limbs mr).length) (lm (limbs mr))])]) TBB_holds rfl 300 rfl [.r (.fresh 1 ((limbs ma).length) (lm (limbs ma))), .r (.fresh 1 ((limbs mb).length) (lm (limbs mb))), .r (.fresh 1 out.length (lm out)), .r (.agg [.bool nr, .sl ((limbs mr).length) (lm (limbs mr))])] (by kernel_rfl) ⟨(mag_canon ha), (mag_canon hb), hm, hk, trivial⟩

theorem times_run {a b : Int} (hN : (limbs a.natAbs).length + (limbs b.natAbs).length ≤ 1048576) : Runs Try.ir 105 [bigAV a, bigAV b] (bigAV (a * b)) := by
  obtain ⟨out, h1, h2, h3, h4⟩ := mulMag_run (limbs_canon a.natAbs).1 (limbs_canon b.natAbs).1 hN
  have hk := make1_run (neg := !(decide (a < 0) == decide (b < 0))) h2 (by omega)
  rw [h3, limbs_val, limbs_val] at hk
  have e : (if (!(decide (a < 0) == decide (b < 0))) = true then -(((a.natAbs : Nat) : Int) * ((b.natAbs : Nat) : Int)) else ((a.natAbs : Nat) : Int) * ((b.natAbs : Nat) : Int)) = a * b := by
    by_cases g1 : a < 0 <;> by_cases g2 : b < 0
    · have e1 : ((a.natAbs : Nat) : Int) = -a := by omega
      have e2 : ((b.natAbs : Nat) : Int) = -b := by omega
      rw [e1, e2]; simp [g1, g2] <;> grind
    · have e1 : ((a.natAbs : Nat) : Int) = -a := by omega
      have e2 : ((b.natAbs : Nat) : Int) = b := by omega
      rw [e1, e2]; simp [g1, g2] <;> grind
    · have e1 : ((a.natAbs : Nat) : Int) = a := by omega
      have e2 : ((b.natAbs : Nat) : Int) = -b := by omega
      rw [e1, e2]; simp [g1, g2] <;> grind
    · have e1 : ((a.natAbs : Nat) : Int) = a := by omega
      have e2 : ((b.natAbs : Nat) : Int) = b := by omega
      rw [e1, e2]; simp [g1, g2] <;> grind
  rw [e] at hk
  exact Try.run105 _ _ _ _ _ _ out (by omega) (by omega) h4 hk

def TBC : Table := TBB
theorem TBC_holds : THolds Try.ir TBC := TBB_holds
end Go.Proofs.Ythnnfemologhfaa
