/- Numbers of binary digits. -/
import Derived.Test.YthnnfemologhfaaWideA
import Derived.Test.YthnnfemologhfaaWordz
import Derived.Test.YthnnfemologhfaaArith2
import Derived.Test.YthnnfemologhfaaWalk2
namespace Go.Proofs.Ythnnfemologhfaa
open Go.Ai
set_option maxRecDepth 100000

def len8N (n : Nat) : Nat := if n = 0 then 0 else Nat.log2 n + 1
def len8 (i : Int) : Int := (len8N i.toNat : Nat)
theorem len8_all : ∀ n : Nat, n < 256 → (text_14a5d850[n]?).map (fun c => ((c.toNat : Nat) : Int)) = some ((len8N n : Nat) : Int) := by
  have h : (List.range 256).all (fun n => decide ((text_14a5d850[n]?).map (fun c => ((c.toNat : Nat) : Int)) = some ((len8N n : Nat) : Int))) = true := by decide +kernel
  intro n hn
  have := List.all_eq_true.1 h n (by simpa using hn)
  simpa using this
theorem len8_ok (x : Int) : ((if 0 ≤ (IntKind.u8.wrap x) then (text_14a5d850)[(Int.toNat (IntKind.u8.wrap x))]? else none).map fun c => ((c.toNat : Nat) : Int)) = some (len8 (IntKind.u8.wrap x)) := by
  have hw : 0 ≤ IntKind.u8.wrap x ∧ IntKind.u8.wrap x < 256 := by
    simp only [IntKind.wrap, IntKind.bits, IntKind.signed, Bool.false_and, Bool.false_eq_true, if_false]
    omega
  rw [if_pos hw.1]
  exact len8_all _ (by omega)

def len32W (x : Int) : Int :=
  match decide (x ≥ 65536) with
  | true => (match decide ((Int.fdiv x (2 ^ (min (Int.toNat 16) (IntKind.bits .u32)))) ≥ 256) with
  | true => (IntKind.i64.wrap (24 + (IntKind.i64.wrap (len8 (IntKind.u8.wrap (Int.fdiv (Int.fdiv x (2 ^ (min (Int.toNat 16) (IntKind.bits .u32)))) (2 ^ (min (Int.toNat 8) (IntKind.bits .u32)))))))))
  | false => (IntKind.i64.wrap (16 + (IntKind.i64.wrap (len8 (IntKind.u8.wrap (Int.fdiv x (2 ^ (min (Int.toNat 16) (IntKind.bits .u32))))))))))
  | false => (match decide (x ≥ 256) with
  | true => (IntKind.i64.wrap (8 + (IntKind.i64.wrap (len8 (IntKind.u8.wrap (Int.fdiv x (2 ^ (min (Int.toNat 8) (IntKind.bits .u32)))))))))
  | false => (IntKind.i64.wrap (0 + (IntKind.i64.wrap (len8 (IntKind.u8.wrap x))))))
theorem Try.run123 (x : Int)  : Runs Try.ir 123 [.int .u32 x] (.int .i64 (len32W x)) := by
  unfold len32W
  cases c1 : (decide (x ≥ 65536))
  · cases c2 : (decide (x ≥ 256))
    · exact Runs.script (r := .int .i64 (IntKind.i64.wrap (0 + (IntKind.i64.wrap (len8 (IntKind.u8.wrap x)))))) (ps := [(decide (x ≥ 65536)) = false, (decide (x ≥ 256)) = false, ((if 0 ≤ (IntKind.u8.wrap x) then (text_14a5d850)[(Int.toNat (IntKind.u8.wrap x))]? else none).map fun c => ((c.toNat : Nat) : Int)) = some (len8 (IntKind.u8.wrap x))]) TWA_holds rfl 300 rfl [.b false, .b false, .v (.int .u8 (len8 (IntKind.u8.wrap x)))] (by kernel_rfl) ⟨c1, c2, (len8_ok _), trivial⟩
    · exact Runs.script (r := .int .i64 (IntKind.i64.wrap (8 + (IntKind.i64.wrap (len8 (IntKind.u8.wrap (Int.fdiv x (2 ^ (min (Int.toNat 8) (IntKind.bits .u32)))))))))) (ps := [(decide (x ≥ 65536)) = false, (decide (x ≥ 256)) = true, ¬ (8 : Int) < 0, ((if 0 ≤ (IntKind.u8.wrap (Int.fdiv x (2 ^ (min (Int.toNat 8) (IntKind.bits .u32))))) then (text_14a5d850)[(Int.toNat (IntKind.u8.wrap (Int.fdiv x (2 ^ (min (Int.toNat 8) (IntKind.bits .u32))))))]? else none).map fun c => ((c.toNat : Nat) : Int)) = some (len8 (IntKind.u8.wrap (Int.fdiv x (2 ^ (min (Int.toNat 8) (IntKind.bits .u32))))))]) TWA_holds rfl 300 rfl [.b false, .b true, .v (.int .u8 (len8 (IntKind.u8.wrap (Int.fdiv x (2 ^ (min (Int.toNat 8) (IntKind.bits .u32)))))))] (by kernel_rfl) ⟨c1, c2, (by decide), (len8_ok _), trivial⟩
  · cases c2 : (decide ((Int.fdiv x (2 ^ (min (Int.toNat 16) (IntKind.bits .u32)))) ≥ 256))
    · exact Runs.script (r := .int .i64 (IntKind.i64.wrap (16 + (IntKind.i64.wrap (len8 (IntKind.u8.wrap (Int.fdiv x (2 ^ (min (Int.toNat 16) (IntKind.bits .u32)))))))))) (ps := [(decide (x ≥ 65536)) = true, ¬ (16 : Int) < 0, (decide ((Int.fdiv x (2 ^ (min (Int.toNat 16) (IntKind.bits .u32)))) ≥ 256)) = false, ((if 0 ≤ (IntKind.u8.wrap (Int.fdiv x (2 ^ (min (Int.toNat 16) (IntKind.bits .u32))))) then (text_14a5d850)[(Int.toNat (IntKind.u8.wrap (Int.fdiv x (2 ^ (min (Int.toNat 16) (IntKind.bits .u32))))))]? else none).map fun c => ((c.toNat : Nat) : Int)) = some (len8 (IntKind.u8.wrap (Int.fdiv x (2 ^ (min (Int.toNat 16) (IntKind.bits .u32))))))]) TWA_holds rfl 300 rfl [.b true, .b false, .v (.int .u8 (len8 (IntKind.u8.wrap (Int.fdiv x (2 ^ (min (Int.toNat 16) (IntKind.bits .u32)))))))] (by kernel_rfl) ⟨c1, (by decide), c2, (len8_ok _), trivial⟩
    · exact Runs.script (r := .int .i64 (IntKind.i64.wrap (24 + (IntKind.i64.wrap (len8 (IntKind.u8.wrap (Int.fdiv (Int.fdiv x (2 ^ (min (Int.toNat 16) (IntKind.bits .u32)))) (2 ^ (min (Int.toNat 8) (IntKind.bits .u32)))))))))) (ps := [(decide (x ≥ 65536)) = true, ¬ (16 : Int) < 0, (decide ((Int.fdiv x (2 ^ (min (Int.toNat 16) (IntKind.bits .u32)))) ≥ 256)) = true, ¬ (8 : Int) < 0, ((if 0 ≤ (IntKind.u8.wrap (Int.fdiv (Int.fdiv x (2 ^ (min (Int.toNat 16) (IntKind.bits .u32)))) (2 ^ (min (Int.toNat 8) (IntKind.bits .u32))))) then (text_14a5d850)[(Int.toNat (IntKind.u8.wrap (Int.fdiv (Int.fdiv x (2 ^ (min (Int.toNat 16) (IntKind.bits .u32)))) (2 ^ (min (Int.toNat 8) (IntKind.bits .u32))))))]? else none).map fun c => ((c.toNat : Nat) : Int)) = some (len8 (IntKind.u8.wrap (Int.fdiv (Int.fdiv x (2 ^ (min (Int.toNat 16) (IntKind.bits .u32)))) (2 ^ (min (Int.toNat 8) (IntKind.bits .u32))))))]) TWA_holds rfl 300 rfl [.b true, .b true, .v (.int .u8 (len8 (IntKind.u8.wrap (Int.fdiv (Int.fdiv x (2 ^ (min (Int.toNat 16) (IntKind.bits .u32)))) (2 ^ (min (Int.toNat 8) (IntKind.bits .u32)))))))] (by kernel_rfl) ⟨c1, (by decide), c2, (by decide), (len8_ok _), trivial⟩

theorem Try.run154 (x l : Int) (n1 : Runs Try.ir 123 [.int .u32 x] (.int .i64 l)) : Runs Try.ir 154 [.int .u32 x] (.int .i64 (IntKind.i64.wrap (32 - l))) :=
  Runs.script (r := .int .i64 (IntKind.i64.wrap (32 - l))) (ps := [Runs Try.ir 123 [.int .u32 x] (.int .i64 l)]) TWA_holds rfl 400 rfl [.r (.int .i64 l)] (by kernel_rfl) ⟨n1, trivial⟩

theorem Try.q111 (n na : Bool) (xs as1 : List Int) (v : Int) (n1 : List.length (lm as1) = as1.length * 1)
    (n2 : as1.length ≤ 1048576)
    (n3 : Runs Try.ir 122 [.agg [.bool n, .sl xs.length (lm xs)]] (.tup [.bool na, .sl as1.length (lm as1)]))
    (n4 : Runs Try.ir 133 [.bool false, .sl as1.length (lm as1)] (.agg [.bool (decide (v < 0)), .sl ((limbs (Int.natAbs v)).length) (lm (limbs (Int.natAbs v)))])) : Runs Try.ir 111 [.agg [.bool n, .sl xs.length (lm xs)]] (.agg [.bool (decide (v < 0)), .sl ((limbs (Int.natAbs v)).length) (lm (limbs (Int.natAbs v)))]) :=
  Runs.script (r := .agg [.bool (decide (v < 0)), .sl ((limbs (Int.natAbs v)).length) (lm (limbs (Int.natAbs v)))]) (ps := [Runs Try.ir 122 [.agg [.bool n, .sl xs.length (lm xs)]] (.tup [.bool na, .sl as1.length (lm as1)]), List.length (lm as1) = as1.length * 1, as1.length ≤ 1048576, Runs Try.ir 133 [.bool false, .sl as1.length (lm as1)] (.agg [.bool (decide (v < 0)), .sl ((limbs (Int.natAbs v)).length) (lm (limbs (Int.natAbs v)))])]) TWA_holds rfl 400 rfl [.r (.tup [.bool na, .sl as1.length (lm as1)]), .r (.agg [.bool (decide (v < 0)), .sl ((limbs (Int.natAbs v)).length) (lm (limbs (Int.natAbs v)))])] (by kernel_rfl) ⟨n3, n1, n2, n4, trivial⟩

theorem Try.q76 (n na : Bool) (xs as1 : List Int) (n1 : Runs Try.ir 122 [.agg [.bool n, .sl xs.length (lm xs)]] (.tup [.bool na, .sl as1.length (lm as1)])) : Runs Try.ir 76 [.agg [.bool n, .sl xs.length (lm xs)]] (.int .i64 ((as1.length : Nat) : Int)) :=
  Runs.script (r := .int .i64 ((as1.length : Nat) : Int)) (ps := [Runs Try.ir 122 [.agg [.bool n, .sl xs.length (lm xs)]] (.tup [.bool na, .sl as1.length (lm as1)])]) TWA_holds rfl 400 rfl [.r (.tup [.bool na, .sl as1.length (lm as1)])] (by kernel_rfl) ⟨n1, trivial⟩

theorem Try.run77_1 (n na : Bool) (xs as1 : List Int) (c1 : (((as1.length : Nat) : Int) == 0) = true)
    (n1 : Runs Try.ir 122 [.agg [.bool n, .sl xs.length (lm xs)]] (.tup [.bool na, .sl as1.length (lm as1)])) : Runs Try.ir 77 [.agg [.bool n, .sl xs.length (lm xs)]] (.int .i64 0) :=
  Runs.script (r := .int .i64 0) (ps := [Runs Try.ir 122 [.agg [.bool n, .sl xs.length (lm xs)]] (.tup [.bool na, .sl as1.length (lm as1)]), (((as1.length : Nat) : Int) == 0) = true]) TWA_holds rfl 400 rfl [.r (.tup [.bool na, .sl as1.length (lm as1)]), .b true] (by kernel_rfl) ⟨n1, c1, trivial⟩

theorem Try.run77_2 (n na : Bool) (xs as1 : List Int) (l : Int) (c1 : (((as1.length : Nat) : Int) == 0) = false)
    (n1 : 0 ≤ (IntKind.i64.wrap (((as1.length : Nat) : Int) - 1)) ∧ (IntKind.i64.wrap (((as1.length : Nat) : Int) - 1)) < ((as1.length : Nat) : Int))
    (n2 : Runs Try.ir 122 [.agg [.bool n, .sl xs.length (lm xs)]] (.tup [.bool na, .sl as1.length (lm as1)]))
    (n3 : Runs Try.ir 123 [.int .u32 (as1.getD (Int.toNat (IntKind.i64.wrap (((as1.length : Nat) : Int) - 1))) 0)] (.int .i64 l)) : Runs Try.ir 77 [.agg [.bool n, .sl xs.length (lm xs)]] (.int .i64 (IntKind.i64.wrap ((IntKind.i64.wrap (32 * (IntKind.i64.wrap (((as1.length : Nat) : Int) - 1)))) + l))) :=
  Runs.script (r := .int .i64 (IntKind.i64.wrap ((IntKind.i64.wrap (32 * (IntKind.i64.wrap (((as1.length : Nat) : Int) - 1)))) + l))) (ps := [Runs Try.ir 122 [.agg [.bool n, .sl xs.length (lm xs)]] (.tup [.bool na, .sl as1.length (lm as1)]), (((as1.length : Nat) : Int) == 0) = false, 0 ≤ (IntKind.i64.wrap (((as1.length : Nat) : Int) - 1)) ∧ (IntKind.i64.wrap (((as1.length : Nat) : Int) - 1)) < ((as1.length : Nat) : Int), takeA (List.drop (Int.toNat (IntKind.i64.wrap (((as1.length : Nat) : Int) - 1)) * 1) (lm as1)) 0 1 true = some (.int .u32 (as1.getD (Int.toNat (IntKind.i64.wrap (((as1.length : Nat) : Int) - 1))) 0)), Runs Try.ir 123 [.int .u32 (as1.getD (Int.toNat (IntKind.i64.wrap (((as1.length : Nat) : Int) - 1))) 0)] (.int .i64 l)]) TWA_holds rfl 400 rfl [.r (.tup [.bool na, .sl as1.length (lm as1)]), .b false, .v (.int .u32 (as1.getD (Int.toNat (IntKind.i64.wrap (((as1.length : Nat) : Int) - 1))) 0)), .r (.int .i64 l)] (by kernel_rfl) ⟨n2, c1, n1, (take_limI n1), n3, trivial⟩

theorem log2_shift (n k : Nat) (h : n / 2 ^ k ≠ 0) : Nat.log2 n = Nat.log2 (n / 2 ^ k) + k := by
  have hn : n ≠ 0 := by intro e; subst e; simp at h
  have := (Nat.log2_eq_iff h).1 rfl
  rw [Nat.log2_eq_iff hn]
  generalize Nat.log2 (n / 2 ^ k) = j at *
  have hp : 0 < 2 ^ k := Nat.two_pow_pos k
  constructor
  · rw [Nat.pow_add]
    exact (Nat.le_div_iff_mul_le hp).1 this.1
  · have : n < 2 ^ (j + 1) * 2 ^ k := (Nat.div_lt_iff_lt_mul hp).1 this.2
    rw [← Nat.pow_add] at this
    have e : j + k + 1 = j + 1 + k := by omega
    rw [e]; exact this
theorem len8_nat (v : Nat) (h : v < 256) (h0 : v ≠ 0) : len8 (IntKind.u8.wrap (v : Int)) = ((Nat.log2 v + 1 : Nat) : Int) := by
  have hw : IntKind.u8.wrap (v : Int) = v := by
    simp only [IntKind.wrap, IntKind.bits, IntKind.signed, Bool.false_and, Bool.false_eq_true, if_false]
    omega
  rw [hw]
  unfold len8 len8N
  rw [Int.toNat_natCast, if_neg h0]
theorem shr32 (n : Nat) (k : Nat) (hk : k ≤ 32) : Int.fdiv (n : Int) (2 ^ (min (Int.toNat (k : Int)) (IntKind.bits .u32))) = ((n / 2 ^ k : Nat) : Int) := by
  have e : min (Int.toNat (k : Int)) (IntKind.bits .u32) = k := by
    show min (Int.toNat (k : Int)) 32 = k
    rw [Int.toNat_natCast]; omega
  rw [e, Int.fdiv_eq_ediv_of_nonneg _ (Int.pow_nonneg (by omega))]
  have : (2 : Int) ^ k = ((2 ^ k : Nat) : Int) := by simp
  rw [this, ← Int.natCast_ediv]
theorem len32_eq (n : Nat) (h : n < 4294967296) (h0 : n ≠ 0) : len32W (n : Int) = ((Nat.log2 n + 1 : Nat) : Int) := by
  have s16 (n : Nat) : Int.fdiv (n : Int) (2 ^ (min (Int.toNat 16) (IntKind.bits .u32))) = ((n / 2 ^ 16 : Nat) : Int) := shr32 n 16 (by omega)
  have s8 (n : Nat) : Int.fdiv (n : Int) (2 ^ (min (Int.toNat 8) (IntKind.bits .u32))) = ((n / 2 ^ 8 : Nat) : Int) := shr32 n 8 (by omega)
  have fin (v c : Nat) (hv : v < 256) (hv0 : v ≠ 0) (hc : c ≤ 56) : IntKind.i64.wrap ((c : Int) + IntKind.i64.wrap (len8 (IntKind.u8.wrap (v : Int)))) = ((Nat.log2 v + 1 + c : Nat) : Int) := by
    have : Nat.log2 v < 8 := (Nat.log2_lt hv0).2 hv
    rw [len8_nat v hv hv0, w64 (n := ((Nat.log2 v + 1 : Nat) : Int)) (by omega) (by omega), w64 (by omega) (by omega)]
    omega
  unfold len32W
  simp only [s16, s8]
  by_cases b : n < 65536
  · have b' : decide ((n : Int) ≥ 65536) = false := by simp; omega
    rw [b']
    by_cases c : n < 256
    · have c' : decide ((n : Int) ≥ 256) = false := by simp; omega
      rw [c']
      exact fin n 0 c h0 (by omega)
    · have c' : decide ((n : Int) ≥ 256) = true := by simp; omega
      rw [c', log2_shift n 8 (by omega)]
      have := fin (n / 2 ^ 8) 8 (by omega) (by omega) (by omega)
      exact this.trans (by omega)
  · have b' : decide ((n : Int) ≥ 65536) = true := by simp; omega
    rw [b']
    dsimp only
    by_cases c : n / 2 ^ 16 < 256
    · have c' : decide (((n / 2 ^ 16 : Nat) : Int) ≥ 256) = false := by simp; omega
      rw [c', log2_shift n 16 (by omega)]
      have := fin (n / 2 ^ 16) 16 (by omega) (by omega) (by omega)
      exact this.trans (by omega)
    · have c' : decide (((n / 2 ^ 16 : Nat) : Int) ≥ 256) = true := by simp; omega
      rw [c', log2_shift n 16 (by omega), log2_shift (n / 2 ^ 16) 8 (by omega)]
      have := fin (n / 2 ^ 16 / 2 ^ 8) 24 (by omega) (by omega) (by omega)
      exact this.trans (by omega)
theorem len32_run {n : Nat} (h : n < 4294967296) (h0 : n ≠ 0) : Runs Try.ir 123 [.int .u32 (n : Nat)] (.int .i64 ((Nat.log2 n + 1 : Nat) : Int)) := by
  have := Try.run123 (n : Nat)
  rwa [len32_eq n h h0] at this
/-- The shift that brings the first bit to its place. -/
theorem lz_run {x : Int} (hx : 0 < x ∧ x < 4294967296) : ∃ s : Nat, s < 32 ∧ 2147483648 ≤ x * 2 ^ s ∧ x * 2 ^ s < 4294967296 ∧ Runs Try.ir 154 [.int .u32 x] (.int .i64 (s : Nat)) := by
  obtain ⟨n, rfl⟩ : ∃ n : Nat, x = n := ⟨x.toNat, by omega⟩
  have hn0 : n ≠ 0 := by omega
  have hl := (Nat.log2_eq_iff hn0).1 rfl
  have hlt : Nat.log2 n < 32 := (Nat.log2_lt hn0).2 (by omega)
  refine ⟨31 - Nat.log2 n, by omega, ?_, ?_, ?_⟩
  · have : 2 ^ 31 ≤ n * 2 ^ (31 - Nat.log2 n) := by
      have h := Nat.mul_le_mul_right (2 ^ (31 - Nat.log2 n)) hl.1
      rwa [← Nat.pow_add, show Nat.log2 n + (31 - Nat.log2 n) = 31 by omega] at h
    have e : ((n : Nat) : Int) * 2 ^ (31 - Nat.log2 n) = ((n * 2 ^ (31 - Nat.log2 n) : Nat) : Int) := by rw [Int.natCast_mul, Int.natCast_pow]; rfl
    rw [e]; omega
  · have : n * 2 ^ (31 - Nat.log2 n) < 2 ^ 32 := by
      have h := Nat.mul_lt_mul_of_pos_right hl.2 (Nat.two_pow_pos (31 - Nat.log2 n))
      rwa [← Nat.pow_add, show Nat.log2 n + 1 + (31 - Nat.log2 n) = 32 by omega] at h
    have e : ((n : Nat) : Int) * 2 ^ (31 - Nat.log2 n) = ((n * 2 ^ (31 - Nat.log2 n) : Nat) : Int) := by rw [Int.natCast_mul, Int.natCast_pow]; rfl
    rw [e]; omega
  · have h := Try.run154 (n : Nat) _ (len32_run (by omega) hn0)
    rw [w64 (by omega) (by omega)] at h
    rwa [show (32 : Int) - ((Nat.log2 n + 1 : Nat) : Int) = ((31 - Nat.log2 n : Nat) : Int) by omega] at h

theorem wsize_run {neg : Bool} {xs : List Int} (hu : U32 xs) (hN : xs.length ≤ 1048576) : Runs Try.ir 76 [.agg [.bool neg, .sl xs.length (lm xs)]] (.int .i64 (((limbs (rv neg xs).natAbs).length : Nat) : Int)) :=
  Try.q76 neg _ xs _ (limbs_run hu hN)
theorem wabs_run {neg : Bool} {xs : List Int} (hu : U32 xs) (hN : xs.length ≤ 1048576) : Runs Try.ir 111 [.agg [.bool neg, .sl xs.length (lm xs)]] (bigAV ((rv neg xs).natAbs : Nat)) := by
  have l1 := rv_len (neg := neg) hu
  have h := made_run (neg := false) (big_u32 (rv neg xs).natAbs) (by omega)
  rw [rv_pos] at h
  exact Try.q111 neg _ xs _ _ (lim_al _) (by omega) (limbs_run hu hN) h
/-- The number of binary digits. -/
def blen (n : Nat) : Nat := if n = 0 then 0 else Nat.log2 n + 1
theorem top_limb {n : Nat} (h : n ≠ 0) : 1 ≤ (limbs n).length ∧ ∃ x : Nat, (limbs n).getD ((limbs n).length - 1) 0 = x ∧ x ≠ 0 ∧ x < 4294967296 ∧ n / 2 ^ (32 * ((limbs n).length - 1)) = x := by
  have hc := limbs_canon n
  have hn0 : limbs n ≠ [] := by rw [Ne, limbs_nil]; exact h
  have hl := List.length_pos_iff.2 hn0
  have ht := getD_u32 hc.1 ((limbs n).length - 1)
  have hz : (limbs n).getD ((limbs n).length - 1) 0 ≠ 0 := by
    rcases hc.2 with g | g
    · exact absurd g hn0
    · exact g
  have hs := val_split (limbs n) (j := (limbs n).length - 1) (by omega)
  have hd := drop_val (limbs n) ((limbs n).length - 1)
  rw [drop_end (xs := limbs n) (i := (limbs n).length - 1 + 1) (by omega), Int.mul_zero, Int.add_zero] at hd
  have h1 := take_lt hc.1 ((limbs n).length - 1)
  have h0 := valL_nonneg (u32_take hc.1 ((limbs n).length - 1))
  rw [hd, limbs_val] at hs
  generalize (limbs n).length - 1 = j at *
  generalize (limbs n).getD j 0 = x at *
  obtain ⟨x, rfl⟩ : ∃ y : Nat, x = y := ⟨x.toNat, by omega⟩
  refine ⟨hl, x, rfl, by omega, by omega, ?_⟩
  generalize valL (List.take j (limbs n)) = L at *
  have e : ((n / 2 ^ (32 * j) : Nat) : Int) = (x : Int) := by
    rw [Int.natCast_ediv, Int.natCast_pow, show ((2 : Nat) : Int) ^ (32 * j) = 4294967296 ^ j by rw [pow32_two]; rfl, hs]
    have hp := pow32_pos j
    rw [Int.mul_comm (4294967296 ^ j), Int.add_mul_ediv_right _ _ (by omega), Int.ediv_eq_zero_of_lt h0 h1, Int.zero_add]
  omega
theorem wbits_run {neg : Bool} {xs : List Int} (hu : U32 xs) (hN : xs.length ≤ 1048576) : Runs Try.ir 77 [.agg [.bool neg, .sl xs.length (lm xs)]] (.int .i64 ((blen (rv neg xs).natAbs : Nat) : Int)) := by
  have l1 := rv_len (neg := neg) hu
  have r1 := limbs_run (neg := neg) hu hN
  generalize rv neg xs = a at *
  by_cases h0 : a.natAbs = 0
  · have h := Try.run77_1 neg _ xs _ (by rw [h0]; rfl) r1
    rw [show blen a.natAbs = 0 by unfold blen; rw [if_pos h0]]
    exact h
  · obtain ⟨t1, x, t2, t3, t4, t5⟩ := top_limb h0
    have e1 : IntKind.i64.wrap ((((limbs a.natAbs).length : Nat) : Int) - 1) = (((limbs a.natAbs).length - 1 : Nat) : Int) := by rw [w64 (by omega) (by omega)]; omega
    have hl := len32_run t4 t3
    have h := Try.run77_2 neg _ xs (limbs a.natAbs) _ (by rw [beq_eq_false_iff_ne]; omega) (by rw [e1]; omega) r1 (by rw [e1, Int.toNat_natCast, t2]; exact hl)
    have hlog : Nat.log2 x < 32 := (Nat.log2_lt t3).2 t4
    rw [e1, w64 (n := 32 * (((limbs a.natAbs).length - 1 : Nat) : Int)) (by omega) (by omega), w64 (by omega) (by omega)] at h
    have e2 : blen a.natAbs = Nat.log2 x + 1 + 32 * ((limbs a.natAbs).length - 1) := by
      unfold blen
      rw [if_neg h0, log2_shift a.natAbs (32 * ((limbs a.natAbs).length - 1)) (by rw [t5]; exact t3), t5]
      omega
    rw [e2]
    rwa [show 32 * (((limbs a.natAbs).length - 1 : Nat) : Int) + ((Nat.log2 x + 1 : Nat) : Int) = ((Nat.log2 x + 1 + 32 * ((limbs a.natAbs).length - 1) : Nat) : Int) by omega] at h


def TBiA : Table := TWA
theorem TBiA_holds : THolds Try.ir TBiA := TWA_holds
end Go.Proofs.Ythnnfemologhfaa
