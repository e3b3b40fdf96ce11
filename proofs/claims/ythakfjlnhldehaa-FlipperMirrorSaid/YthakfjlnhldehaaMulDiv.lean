/- vector.MulDiv in full: the product over the third, cut off toward zero, where that is an int. -/
import Derived.Test.YthakfjlnhldehaaDiv
namespace Go.Proofs.Ythakfjlnhldehaa
open Go.Ai
set_option maxRecDepth 100000

theorem div64_any {h l y : Int} (g : 0 ≤ h ∧ h < y ∧ 0 ≤ l ∧ l < 18446744073709551616 ∧ y < 18446744073709551616) : Runs Try.ir 79 [.int .u64 h, .int .u64 l, .int .u64 y] (.tup [.int .u64 ((h * 18446744073709551616 + l) / y), .int .u64 ((h * 18446744073709551616 + l) % y)]) := by
  by_cases h0 : h = 0
  · exact div64_row ⟨h0, by omega, by omega, by omega⟩
  · have := div64_full h l y h.toNat l.toNat y.toNat (by omega) (by omega) (by omega) (by omega) (by omega) (by omega) (by omega)
    rw [Int.natCast_ediv, Int.natCast_emod] at this
    have e1 : ((h.toNat * 18446744073709551616 + l.toNat : Nat) : Int) = h * 18446744073709551616 + l := by omega
    have e2 : ((y.toNat : Nat) : Int) = y := by omega
    rw [e1, e2] at this
    exact this

def g78x : List AV → Option (AV × List Prop)
  | [.int .i64 n] => some (.int .u64 (absI n), [-9223372036854775808 ≤ n ∧ n ≤ 9223372036854775807])
  | _ => none
def TZ1 : Table := (78, g78x) :: TFlip
theorem TZ1_holds : THolds Try.ir TZ1 := THolds.cons TFlip_holds (by
  intro args r ps h hp
  unfold g78x at h
  split at h
  · cases h; exact absW_eq hp.1 ▸ Try.run78 _
  · cases h)

def g77x : List AV → Option (AV × List Prop)
  | [.int .u64 x, .int .u64 y] => some (.tup [.int .u64 ((x * y) / 18446744073709551616), .int .u64 ((x * y) % 18446744073709551616)], [0 ≤ x ∧ x < 18446744073709551616 ∧ 0 ≤ y ∧ y < 18446744073709551616])
  | _ => none
def TZ2 : Table := (77, g77x) :: TZ1
theorem TZ2_holds : THolds Try.ir TZ2 := THolds.cons TZ1_holds (by
  intro args r ps h hp
  unfold g77x at h
  split at h
  · cases h; exact mul64_row hp.1
  · cases h)

def g79x : List AV → Option (AV × List Prop)
  | [.int .u64 h, .int .u64 l, .int .u64 y] => some (.tup [.int .u64 ((h * 18446744073709551616 + l) / y), .int .u64 ((h * 18446744073709551616 + l) % y)], [0 ≤ h ∧ h < y ∧ 0 ≤ l ∧ l < 18446744073709551616 ∧ y < 18446744073709551616])
  | _ => none
def TZ3 : Table := (79, g79x) :: TZ2
theorem TZ3_holds : THolds Try.ir TZ3 := THolds.cons TZ2_holds (by
  intro args r ps h hp
  unfold g79x at h
  split at h
  · cases h; exact div64_any hp.1
  · cases h)

def mulDivF (a b c : Int) : Int × Bool :=
  match c == 0 with
  | true => ((0, false))
  | false => (match decide ((((absI a) * (absI b)) / 18446744073709551616) ≥ (absI c)) with
  | true => ((0, false))
  | false => (match (!((decide (a < 0)) == (decide (b < 0)))) == (decide (c < 0)) with
  | true => (match decide ((((((absI a) * (absI b)) / 18446744073709551616) * 18446744073709551616 + (((absI a) * (absI b)) % 18446744073709551616)) / (absI c)) < 9223372036854775808) with
  | true => ((IntKind.i64.wrap (((((absI a) * (absI b)) / 18446744073709551616) * 18446744073709551616 + (((absI a) * (absI b)) % 18446744073709551616)) / (absI c)), true))
  | false => ((0, false)))
  | false => (match decide ((((((absI a) * (absI b)) / 18446744073709551616) * 18446744073709551616 + (((absI a) * (absI b)) % 18446744073709551616)) / (absI c)) ≤ 9223372036854775808) with
  | true => ((IntKind.i64.wrap (IntKind.u64.wrap (0 - (((((absI a) * (absI b)) / 18446744073709551616) * 18446744073709551616 + (((absI a) * (absI b)) % 18446744073709551616)) / (absI c)))), true))
  | false => ((0, false)))))
theorem Try.run58_f (a b c : Int) (w_a : -9223372036854775808 ≤ a ∧ a ≤ 9223372036854775807) (w_b : -9223372036854775808 ≤ b ∧ b ≤ 9223372036854775807) (w_c : -9223372036854775808 ≤ c ∧ c ≤ 9223372036854775807) (hm : 0 ≤ (absI a) ∧ (absI a) < 18446744073709551616 ∧ 0 ≤ (absI b) ∧ (absI b) < 18446744073709551616) (hd : (((absI a) * (absI b)) / 18446744073709551616) < (absI c) → 0 ≤ (((absI a) * (absI b)) / 18446744073709551616) ∧ (((absI a) * (absI b)) / 18446744073709551616) < (absI c) ∧ 0 ≤ (((absI a) * (absI b)) % 18446744073709551616) ∧ (((absI a) * (absI b)) % 18446744073709551616) < 18446744073709551616 ∧ (absI c) < 18446744073709551616) : Runs Try.ir 58 [.int .i64 a, .int .i64 b, .int .i64 c] (.tup [.int .i64 ((mulDivF a b c).1), .bool ((mulDivF a b c).2)]) := by
  unfold mulDivF
  cases c1 : (c == 0)
  · cases c2 : (decide ((((absI a) * (absI b)) / 18446744073709551616) ≥ (absI c)))
    · cases c3 : ((!((decide (a < 0)) == (decide (b < 0)))) == (decide (c < 0)))
      · cases c4 : (decide ((((((absI a) * (absI b)) / 18446744073709551616) * 18446744073709551616 + (((absI a) * (absI b)) % 18446744073709551616)) / (absI c)) ≤ 9223372036854775808))
        · exact Runs.script (r := .tup [.int .i64 0, .bool false]) (ps := [(c == 0) = false, -9223372036854775808 ≤ a ∧ a ≤ 9223372036854775807, -9223372036854775808 ≤ b ∧ b ≤ 9223372036854775807, 0 ≤ (absI a) ∧ (absI a) < 18446744073709551616 ∧ 0 ≤ (absI b) ∧ (absI b) < 18446744073709551616, -9223372036854775808 ≤ c ∧ c ≤ 9223372036854775807, (decide ((((absI a) * (absI b)) / 18446744073709551616) ≥ (absI c))) = false, 0 ≤ (((absI a) * (absI b)) / 18446744073709551616) ∧ (((absI a) * (absI b)) / 18446744073709551616) < (absI c) ∧ 0 ≤ (((absI a) * (absI b)) % 18446744073709551616) ∧ (((absI a) * (absI b)) % 18446744073709551616) < 18446744073709551616 ∧ (absI c) < 18446744073709551616, (!((!((decide (a < 0)) == (decide (b < 0)))) == (decide (c < 0)))) = true, (decide ((((((absI a) * (absI b)) / 18446744073709551616) * 18446744073709551616 + (((absI a) * (absI b)) % 18446744073709551616)) / (absI c)) ≤ 9223372036854775808)) = false, (!(!((!((decide (a < 0)) == (decide (b < 0)))) == (decide (c < 0))))) = false, false = false]) TZ3_holds rfl 300 rfl [.b false, .b false, .b true, .b false, .b false, .b false] (by kernel_rfl) ⟨c1, w_a, w_b, hm, w_c, c2, (hd (by simpa using c2)), (by rw [c3]; rfl), c4, (by rw [c3]; rfl), rfl, trivial⟩
        · exact Runs.script (r := .tup [.int .i64 (IntKind.i64.wrap (IntKind.u64.wrap (0 - (((((absI a) * (absI b)) / 18446744073709551616) * 18446744073709551616 + (((absI a) * (absI b)) % 18446744073709551616)) / (absI c))))), .bool true]) (ps := [(c == 0) = false, -9223372036854775808 ≤ a ∧ a ≤ 9223372036854775807, -9223372036854775808 ≤ b ∧ b ≤ 9223372036854775807, 0 ≤ (absI a) ∧ (absI a) < 18446744073709551616 ∧ 0 ≤ (absI b) ∧ (absI b) < 18446744073709551616, -9223372036854775808 ≤ c ∧ c ≤ 9223372036854775807, (decide ((((absI a) * (absI b)) / 18446744073709551616) ≥ (absI c))) = false, 0 ≤ (((absI a) * (absI b)) / 18446744073709551616) ∧ (((absI a) * (absI b)) / 18446744073709551616) < (absI c) ∧ 0 ≤ (((absI a) * (absI b)) % 18446744073709551616) ∧ (((absI a) * (absI b)) % 18446744073709551616) < 18446744073709551616 ∧ (absI c) < 18446744073709551616, (!((!((decide (a < 0)) == (decide (b < 0)))) == (decide (c < 0)))) = true, (decide ((((((absI a) * (absI b)) / 18446744073709551616) * 18446744073709551616 + (((absI a) * (absI b)) % 18446744073709551616)) / (absI c)) ≤ 9223372036854775808)) = true]) TZ3_holds rfl 300 rfl [.b false, .b false, .b true, .b true] (by kernel_rfl) ⟨c1, w_a, w_b, hm, w_c, c2, (hd (by simpa using c2)), (by rw [c3]; rfl), c4, trivial⟩
      · cases c4 : (decide ((((((absI a) * (absI b)) / 18446744073709551616) * 18446744073709551616 + (((absI a) * (absI b)) % 18446744073709551616)) / (absI c)) < 9223372036854775808))
        · exact Runs.script (r := .tup [.int .i64 0, .bool false]) (ps := [(c == 0) = false, -9223372036854775808 ≤ a ∧ a ≤ 9223372036854775807, -9223372036854775808 ≤ b ∧ b ≤ 9223372036854775807, 0 ≤ (absI a) ∧ (absI a) < 18446744073709551616 ∧ 0 ≤ (absI b) ∧ (absI b) < 18446744073709551616, -9223372036854775808 ≤ c ∧ c ≤ 9223372036854775807, (decide ((((absI a) * (absI b)) / 18446744073709551616) ≥ (absI c))) = false, 0 ≤ (((absI a) * (absI b)) / 18446744073709551616) ∧ (((absI a) * (absI b)) / 18446744073709551616) < (absI c) ∧ 0 ≤ (((absI a) * (absI b)) % 18446744073709551616) ∧ (((absI a) * (absI b)) % 18446744073709551616) < 18446744073709551616 ∧ (absI c) < 18446744073709551616, (!((!((decide (a < 0)) == (decide (b < 0)))) == (decide (c < 0)))) = false, false = false, (!(!((!((decide (a < 0)) == (decide (b < 0)))) == (decide (c < 0))))) = true, (decide ((((((absI a) * (absI b)) / 18446744073709551616) * 18446744073709551616 + (((absI a) * (absI b)) % 18446744073709551616)) / (absI c)) < 9223372036854775808)) = false]) TZ3_holds rfl 300 rfl [.b false, .b false, .b false, .b false, .b true, .b false] (by kernel_rfl) ⟨c1, w_a, w_b, hm, w_c, c2, (hd (by simpa using c2)), (by rw [c3]; rfl), rfl, (by rw [c3]; rfl), c4, trivial⟩
        · exact Runs.script (r := .tup [.int .i64 (IntKind.i64.wrap (((((absI a) * (absI b)) / 18446744073709551616) * 18446744073709551616 + (((absI a) * (absI b)) % 18446744073709551616)) / (absI c))), .bool true]) (ps := [(c == 0) = false, -9223372036854775808 ≤ a ∧ a ≤ 9223372036854775807, -9223372036854775808 ≤ b ∧ b ≤ 9223372036854775807, 0 ≤ (absI a) ∧ (absI a) < 18446744073709551616 ∧ 0 ≤ (absI b) ∧ (absI b) < 18446744073709551616, -9223372036854775808 ≤ c ∧ c ≤ 9223372036854775807, (decide ((((absI a) * (absI b)) / 18446744073709551616) ≥ (absI c))) = false, 0 ≤ (((absI a) * (absI b)) / 18446744073709551616) ∧ (((absI a) * (absI b)) / 18446744073709551616) < (absI c) ∧ 0 ≤ (((absI a) * (absI b)) % 18446744073709551616) ∧ (((absI a) * (absI b)) % 18446744073709551616) < 18446744073709551616 ∧ (absI c) < 18446744073709551616, (!((!((decide (a < 0)) == (decide (b < 0)))) == (decide (c < 0)))) = false, false = false, (!(!((!((decide (a < 0)) == (decide (b < 0)))) == (decide (c < 0))))) = true, (decide ((((((absI a) * (absI b)) / 18446744073709551616) * 18446744073709551616 + (((absI a) * (absI b)) % 18446744073709551616)) / (absI c)) < 9223372036854775808)) = true]) TZ3_holds rfl 300 rfl [.b false, .b false, .b false, .b false, .b true, .b true] (by kernel_rfl) ⟨c1, w_a, w_b, hm, w_c, c2, (hd (by simpa using c2)), (by rw [c3]; rfl), rfl, (by rw [c3]; rfl), c4, trivial⟩
    · exact Runs.script (r := .tup [.int .i64 0, .bool false]) (ps := [(c == 0) = false, -9223372036854775808 ≤ a ∧ a ≤ 9223372036854775807, -9223372036854775808 ≤ b ∧ b ≤ 9223372036854775807, 0 ≤ (absI a) ∧ (absI a) < 18446744073709551616 ∧ 0 ≤ (absI b) ∧ (absI b) < 18446744073709551616, -9223372036854775808 ≤ c ∧ c ≤ 9223372036854775807, (decide ((((absI a) * (absI b)) / 18446744073709551616) ≥ (absI c))) = true]) TZ3_holds rfl 300 rfl [.b false, .b true] (by kernel_rfl) ⟨c1, w_a, w_b, hm, w_c, c2, trivial⟩
  · exact Runs.script (r := .tup [.int .i64 0, .bool false]) (ps := [(c == 0) = true]) TZ3_holds rfl 300 rfl [.b true] (by kernel_rfl) ⟨c1, trivial⟩

def mulDivI (a b c : Int) : Int × Bool :=
  if c = 0 then (0, false) else if -9223372036854775808 ≤ Int.tdiv (a * b) c ∧ Int.tdiv (a * b) c < 9223372036854775808 then (Int.tdiv (a * b) c, true) else (0, false)

theorem tdiv_sign (p c : Int) : Int.tdiv p c = if decide (p < 0) = decide (c < 0) then absI p / absI c else -(absI p / absI c) := by
  by_cases hc : c < 0
  · have e := Int.tdiv_neg p (-c)
    rw [Int.neg_neg] at e
    rw [e, tdiv_abs]
    have hac : absI c = -c := by unfold absI; rw [if_pos hc]
    by_cases hp : p < 0
    · simp [hp, hc, hac]
    · simp [hp, hc, hac]
  · have hac : absI c = c := by unfold absI; rw [if_neg hc]
    rw [tdiv_abs]
    by_cases hp : p < 0
    · simp [hp, hc, hac]
    · simp [hp, hc, hac]

theorem w64_neg (q : Int) (h0 : 0 ≤ q) (h1 : q ≤ 9223372036854775808) : IntKind.i64.wrap (IntKind.u64.wrap (0 - q)) = -q := by
  rw [wu64_mod]
  by_cases hz : q = 0
  · subst hz; rfl
  · have : (0 - q) % 18446744073709551616 = 18446744073709551616 - q := by omega
    rw [this]
    exact w64_top (by omega) (by omega)

theorem sign_mul (a b : Int) (h : a * b ≠ 0) : (!(decide (a < 0) == decide (b < 0))) = decide (a * b < 0) := by
  have ha : a ≠ 0 := fun e => h (by rw [e]; simp)
  have hb : b ≠ 0 := fun e => h (by rw [e]; simp)
  by_cases g1 : a < 0 <;> by_cases g2 : b < 0
  · have := Int.mul_pos_of_neg_of_neg g1 g2
    have h3 : ¬ a * b < 0 := by omega
    simp [g1, g2, h3]
  · have := Int.mul_neg_of_neg_of_pos g1 (show 0 < b by omega)
    simp [g1, g2, this]
  · have := Int.mul_neg_of_pos_of_neg (show 0 < a by omega) g2
    simp [g1, g2, this]
  · have := Int.mul_pos (show 0 < a by omega) (show 0 < b by omega)
    have h3 : ¬ a * b < 0 := by omega
    simp [g1, g2, h3]

theorem mulDivF_eq {a b c : Int} (wc : -9223372036854775808 ≤ c ∧ c ≤ 9223372036854775807) : mulDivF a b c = mulDivI a b c := by
  unfold mulDivF mulDivI
  by_cases hc : c = 0
  · subst hc; rfl
  have hc0 : (c == 0) = false := by simpa using hc
  rw [hc0, if_neg hc]
  have hC : 0 < absI c := by unfold absI; split <;> omega
  have hCu : absI c ≤ 9223372036854775808 := absI_lt wc
  rw [absI_mul]
  have hP0 := absI_nonneg (a * b)
  have hq0 : 0 ≤ absI (a * b) / absI c := Int.ediv_nonneg hP0 (by omega)
  have hsum : absI (a * b) / 18446744073709551616 * 18446744073709551616 + absI (a * b) % 18446744073709551616 = absI (a * b) := by omega
  rw [hsum]
  have hts := tdiv_sign (a * b) c
  by_cases hh : absI (a * b) / 18446744073709551616 ≥ absI c
  · have hd : decide (absI (a * b) / 18446744073709551616 ≥ absI c) = true := by simpa using hh
    rw [hd]
    have hbig : 18446744073709551616 ≤ absI (a * b) / absI c := by
      apply Int.le_ediv_of_mul_le hC
      omega
    rw [if_neg]
    rw [hts]
    split <;> omega
  · have hd : decide (absI (a * b) / 18446744073709551616 ≥ absI c) = false := by simpa using hh
    rw [hd]
    dsimp only
    by_cases hz : a * b = 0
    · have hq : absI (a * b) / absI c = 0 := by rw [hz]; simp [absI]
      have ht : Int.tdiv (a * b) c = 0 := by rw [hz]; simp
      rw [hq, ht]
      cases (!decide (a < 0) == decide (b < 0)) == decide (c < 0) <;> rfl
    · rw [sign_mul a b hz]
      by_cases hs : decide (a * b < 0) = decide (c < 0)
      · rw [if_pos hs] at hts
        have : (decide (a * b < 0) == decide (c < 0)) = true := by simpa using hs
        rw [this, hts]
        dsimp only
        by_cases hlt : absI (a * b) / absI c < 9223372036854775808
        · have : decide (absI (a * b) / absI c < 9223372036854775808) = true := by simpa using hlt
          rw [this, if_pos (by omega), w64 (by omega) (by omega)]
        · have : decide (absI (a * b) / absI c < 9223372036854775808) = false := by simpa using hlt
          rw [this, if_neg (by omega)]
      · rw [if_neg hs] at hts
        have : (decide (a * b < 0) == decide (c < 0)) = false := by simpa using hs
        rw [this, hts]
        dsimp only
        by_cases hlt : absI (a * b) / absI c ≤ 9223372036854775808
        · have : decide (absI (a * b) / absI c ≤ 9223372036854775808) = true := by simpa using hlt
          rw [this, if_pos (by omega), w64_neg _ hq0 hlt]
        · have : decide (absI (a * b) / absI c ≤ 9223372036854775808) = false := by simpa using hlt
          rw [this, if_neg (by omega)]

theorem muldiv_any {a b c : Int} (wa : -9223372036854775808 ≤ a ∧ a ≤ 9223372036854775807) (wb : -9223372036854775808 ≤ b ∧ b ≤ 9223372036854775807) (wc : -9223372036854775808 ≤ c ∧ c ≤ 9223372036854775807) :
    Runs Try.ir 58 [.int .i64 a, .int .i64 b, .int .i64 c] (.tup [.int .i64 (mulDivI a b c).1, .bool (mulDivI a b c).2]) := by
  have h1 := absI_nonneg a
  have h2 := absI_nonneg b
  have h3 := absI_lt wa
  have h4 := absI_lt wb
  have h5 := absI_lt wc
  have hp := Int.mul_nonneg h1 h2
  have := Try.run58_f a b c wa wb wc (by omega) (fun g => by
    have k1 : 0 ≤ absI a * absI b / 18446744073709551616 := Int.ediv_nonneg hp (by omega)
    refine ⟨k1, g, Int.emod_nonneg _ (by omega), Int.emod_lt_of_pos _ (by omega), by omega⟩)
  rw [mulDivF_eq wc] at this
  exact this

def TMulDiv0 : Table := TZ3
theorem TMulDiv0_holds : THolds Try.ir TMulDiv0 := TZ3_holds
end Go.Proofs.Ythakfjlnhldehaa
