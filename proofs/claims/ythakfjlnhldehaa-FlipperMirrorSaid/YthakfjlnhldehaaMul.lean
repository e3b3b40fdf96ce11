/- vector.MulDiv where the product is no longer than a word. -/
import Derived.Test.YthakfjlnhldehaaFlip
namespace Go.Proofs.Ythakfjlnhldehaa
open Go.Ai
set_option maxRecDepth 100000

def absW (n : Int) : Int :=
  match decide (n < 0) with
  | true => (IntKind.u64.wrap (0 - (IntKind.u64.wrap n)))
  | false => (IntKind.u64.wrap n)
theorem Try.run78 (n : Int)  : Runs Try.ir 78 [.int .i64 n] (.int .u64 (absW n)) := by
  unfold absW
  cases c1 : (decide (n < 0))
  · exact Runs.script (r := .int .u64 (IntKind.u64.wrap n)) (ps := [(decide (n < 0)) = false]) TFlip_holds rfl 300 rfl [.b false] (by kernel_rfl) ⟨c1, trivial⟩
  · exact Runs.script (r := .int .u64 (IntKind.u64.wrap (0 - (IntKind.u64.wrap n)))) (ps := [(decide (n < 0)) = true]) TFlip_holds rfl 300 rfl [.b true] (by kernel_rfl) ⟨c1, trivial⟩

def mul64 (x y : Int) : Int × Int :=
  (IntKind.u64.wrap ((IntKind.u64.wrap ((IntKind.u64.wrap ((Int.fdiv x (2 ^ (min (Int.toNat 32) (IntKind.bits .u64)))) * (Int.fdiv y (2 ^ (min (Int.toNat 32) (IntKind.bits .u64)))))) + (Int.fdiv (IntKind.u64.wrap ((IntKind.u64.wrap ((Int.fdiv x (2 ^ (min (Int.toNat 32) (IntKind.bits .u64)))) * (IntKind.u64.wrap ((BitVec.ofInt (IntKind.bits .u64) y &&& BitVec.ofInt (IntKind.bits .u64) 4294967295).toNat)))) + (Int.fdiv (IntKind.u64.wrap ((IntKind.u64.wrap ((BitVec.ofInt (IntKind.bits .u64) x &&& BitVec.ofInt (IntKind.bits .u64) 4294967295).toNat)) * (IntKind.u64.wrap ((BitVec.ofInt (IntKind.bits .u64) y &&& BitVec.ofInt (IntKind.bits .u64) 4294967295).toNat)))) (2 ^ (min (Int.toNat 32) (IntKind.bits .u64)))))) (2 ^ (min (Int.toNat 32) (IntKind.bits .u64)))))) + (Int.fdiv (IntKind.u64.wrap ((IntKind.u64.wrap ((BitVec.ofInt (IntKind.bits .u64) (IntKind.u64.wrap ((IntKind.u64.wrap ((Int.fdiv x (2 ^ (min (Int.toNat 32) (IntKind.bits .u64)))) * (IntKind.u64.wrap ((BitVec.ofInt (IntKind.bits .u64) y &&& BitVec.ofInt (IntKind.bits .u64) 4294967295).toNat)))) + (Int.fdiv (IntKind.u64.wrap ((IntKind.u64.wrap ((BitVec.ofInt (IntKind.bits .u64) x &&& BitVec.ofInt (IntKind.bits .u64) 4294967295).toNat)) * (IntKind.u64.wrap ((BitVec.ofInt (IntKind.bits .u64) y &&& BitVec.ofInt (IntKind.bits .u64) 4294967295).toNat)))) (2 ^ (min (Int.toNat 32) (IntKind.bits .u64)))))) &&& BitVec.ofInt (IntKind.bits .u64) 4294967295).toNat)) + (IntKind.u64.wrap ((IntKind.u64.wrap ((BitVec.ofInt (IntKind.bits .u64) x &&& BitVec.ofInt (IntKind.bits .u64) 4294967295).toNat)) * (Int.fdiv y (2 ^ (min (Int.toNat 32) (IntKind.bits .u64)))))))) (2 ^ (min (Int.toNat 32) (IntKind.bits .u64))))), IntKind.u64.wrap (x * y))
theorem Try.run77 (x y : Int)  : Runs Try.ir 77 [.int .u64 x, .int .u64 y] (.tup [.int .u64 ((mul64 x y).1), .int .u64 ((mul64 x y).2)]) := by
  unfold mul64
  exact Runs.script (r := .tup [.int .u64 (IntKind.u64.wrap ((IntKind.u64.wrap ((IntKind.u64.wrap ((Int.fdiv x (2 ^ (min (Int.toNat 32) (IntKind.bits .u64)))) * (Int.fdiv y (2 ^ (min (Int.toNat 32) (IntKind.bits .u64)))))) + (Int.fdiv (IntKind.u64.wrap ((IntKind.u64.wrap ((Int.fdiv x (2 ^ (min (Int.toNat 32) (IntKind.bits .u64)))) * (IntKind.u64.wrap ((BitVec.ofInt (IntKind.bits .u64) y &&& BitVec.ofInt (IntKind.bits .u64) 4294967295).toNat)))) + (Int.fdiv (IntKind.u64.wrap ((IntKind.u64.wrap ((BitVec.ofInt (IntKind.bits .u64) x &&& BitVec.ofInt (IntKind.bits .u64) 4294967295).toNat)) * (IntKind.u64.wrap ((BitVec.ofInt (IntKind.bits .u64) y &&& BitVec.ofInt (IntKind.bits .u64) 4294967295).toNat)))) (2 ^ (min (Int.toNat 32) (IntKind.bits .u64)))))) (2 ^ (min (Int.toNat 32) (IntKind.bits .u64)))))) + (Int.fdiv (IntKind.u64.wrap ((IntKind.u64.wrap ((BitVec.ofInt (IntKind.bits .u64) (IntKind.u64.wrap ((IntKind.u64.wrap ((Int.fdiv x (2 ^ (min (Int.toNat 32) (IntKind.bits .u64)))) * (IntKind.u64.wrap ((BitVec.ofInt (IntKind.bits .u64) y &&& BitVec.ofInt (IntKind.bits .u64) 4294967295).toNat)))) + (Int.fdiv (IntKind.u64.wrap ((IntKind.u64.wrap ((BitVec.ofInt (IntKind.bits .u64) x &&& BitVec.ofInt (IntKind.bits .u64) 4294967295).toNat)) * (IntKind.u64.wrap ((BitVec.ofInt (IntKind.bits .u64) y &&& BitVec.ofInt (IntKind.bits .u64) 4294967295).toNat)))) (2 ^ (min (Int.toNat 32) (IntKind.bits .u64)))))) &&& BitVec.ofInt (IntKind.bits .u64) 4294967295).toNat)) + (IntKind.u64.wrap ((IntKind.u64.wrap ((BitVec.ofInt (IntKind.bits .u64) x &&& BitVec.ofInt (IntKind.bits .u64) 4294967295).toNat)) * (Int.fdiv y (2 ^ (min (Int.toNat 32) (IntKind.bits .u64)))))))) (2 ^ (min (Int.toNat 32) (IntKind.bits .u64)))))), .int .u64 (IntKind.u64.wrap (x * y))]) (ps := [¬ (32 : Int) < 0, ¬ (32 : Int) < 0, ¬ (32 : Int) < 0, ¬ (32 : Int) < 0, ¬ (32 : Int) < 0]) TFlip_holds rfl 300 rfl [] (by kernel_rfl) ⟨(by decide), (by decide), (by decide), (by decide), (by decide), trivial⟩

def div64 (l y : Int) : Int × Int :=
  (IntKind.u64.wrap (Int.tdiv l y), Int.tmod l y)
theorem Try.run79_0 (h l y : Int) (h0 : (y == 0) = false) (h1 : (decide (y ≤ h)) = false) (h2 : (h == 0) = true) (hz : ¬ y = 0) : Runs Try.ir 79 [.int .u64 h, .int .u64 l, .int .u64 y] (.tup [.int .u64 ((div64 l y).1), .int .u64 ((div64 l y).2)]) := by
  unfold div64
  exact Runs.script (r := .tup [.int .u64 (IntKind.u64.wrap (Int.tdiv l y)), .int .u64 (Int.tmod l y)]) (ps := [(y == 0) = false, (decide (y ≤ h)) = false, (h == 0) = true, ¬ y = 0, ¬ y = 0]) TFlip_holds rfl 300 rfl [.b false, .b false, .b true] (by kernel_rfl) ⟨h0, h1, h2, hz, hz, trivial⟩

def absI (n : Int) : Int := if n < 0 then -n else n
theorem absI_nonneg (n : Int) : 0 ≤ absI n := by unfold absI; split <;> omega
theorem absI_lt {n : Int} (h : -9223372036854775808 ≤ n ∧ n ≤ 9223372036854775807) : absI n ≤ 9223372036854775808 := by unfold absI; split <;> omega

theorem wu64 {n : Int} (h1 : 0 ≤ n) (h2 : n < 18446744073709551616) : IntKind.u64.wrap n = n := by
  simp only [IntKind.wrap, IntKind.bits, IntKind.signed, Bool.false_and, Bool.false_eq_true, if_false]
  omega
theorem wu64_mod (n : Int) : IntKind.u64.wrap n = n % 18446744073709551616 := by
  simp only [IntKind.wrap, IntKind.bits, IntKind.signed, Bool.false_and, Bool.false_eq_true, if_false]
  omega

theorem absW_eq {n : Int} (h : -9223372036854775808 ≤ n ∧ n ≤ 9223372036854775807) : absW n = absI n := by
  unfold absW absI
  rw [wu64_mod, wu64_mod]
  by_cases g : n < 0
  · simp only [g, decide_true, if_true]; omega
  · simp only [g, decide_false, if_false]; omega

theorem mask32 {x : Int} (h1 : 0 ≤ x) (h2 : x < 18446744073709551616) : IntKind.u64.wrap ((BitVec.ofInt (IntKind.bits .u64) x &&& BitVec.ofInt (IntKind.bits .u64) 4294967295).toNat) = x % 4294967296 := by
  obtain ⟨n, rfl⟩ : ∃ n : Nat, x = n := ⟨x.toNat, by omega⟩
  show IntKind.u64.wrap ((BitVec.ofInt 64 (n : Int) &&& BitVec.ofInt 64 ((4294967295 : Nat) : Int)).toNat : Int) = _
  rw [BitVec.toNat_and, BitVec.ofInt_natCast, BitVec.ofInt_natCast, BitVec.toNat_ofNat, BitVec.toNat_ofNat, Nat.mod_eq_of_lt (by omega), Nat.mod_eq_of_lt (by omega)]
  have : n &&& 4294967295 = n % 4294967296 := Nat.and_two_pow_sub_one_eq_mod n 32
  rw [this]
  have := Nat.mod_lt n (show 0 < 4294967296 by omega)
  rw [wu64 (by omega) (by omega)]
  omega

theorem shr32 {x : Int} : Int.fdiv x (2 ^ (min (Int.toNat 32) (IntKind.bits .u64))) = x / 4294967296 := by
  show Int.fdiv x 4294967296 = _
  rw [Int.fdiv_eq_ediv_of_nonneg _ (by omega)]

theorem mul_le2 {a b M : Int} (h1 : 0 ≤ a) (h2 : a ≤ M) (h3 : 0 ≤ b) (h4 : b ≤ M) : 0 ≤ a * b ∧ a * b ≤ M * M :=
  ⟨Int.mul_nonneg h1 h3, Int.mul_le_mul h2 h4 h3 (by omega)⟩

theorem mul64_eq {x y : Int} (h : 0 ≤ x ∧ x < 18446744073709551616 ∧ 0 ≤ y ∧ y < 18446744073709551616) : mul64 x y = ((x * y) / 18446744073709551616, (x * y) % 18446744073709551616) := by
  obtain ⟨hx1, hx2, hy1, hy2⟩ := h
  unfold mul64
  rw [mask32 hx1 hx2, mask32 hy1 hy2]
  simp only [shr32]
  generalize hX1 : x / 4294967296 = a
  generalize hX0 : x % 4294967296 = b
  generalize hY1 : y / 4294967296 = c
  generalize hY0 : y % 4294967296 = d
  have p1 := mul_le2 (a := a) (b := c) (M := 4294967295) (by omega) (by omega) (by omega) (by omega)
  have p2 := mul_le2 (a := a) (b := d) (M := 4294967295) (by omega) (by omega) (by omega) (by omega)
  have p3 := mul_le2 (a := b) (b := c) (M := 4294967295) (by omega) (by omega) (by omega) (by omega)
  have p4 := mul_le2 (a := b) (b := d) (M := 4294967295) (by omega) (by omega) (by omega) (by omega)
  have e : x * y = (a * c) * 18446744073709551616 + (a * d + b * c) * 4294967296 + b * d := by
    have ex : x = a * 4294967296 + b := by omega
    have ey : y = c * 4294967296 + d := by omega
    rw [ex, ey]; grind
  rw [wu64 (n := b * d) (by omega) (by omega), wu64 (n := a * d) (by omega) (by omega), wu64 (n := a * c) (by omega) (by omega), wu64 (n := b * c) (by omega) (by omega)]
  rw [wu64 (n := a * d + b * d / 4294967296) (by omega) (by omega)]
  rw [mask32 (by omega) (by omega)]
  rw [wu64 (n := (a * d + b * d / 4294967296) % 4294967296 + b * c) (by omega) (by omega)]
  rw [wu64 (n := a * c + (a * d + b * d / 4294967296) / 4294967296) (by omega) (by omega)]
  rw [wu64 (by omega) (by omega), wu64_mod (x * y), e]
  congr 1
  omega

theorem div64_eq {l y : Int} (h : 0 ≤ l ∧ l < 18446744073709551616 ∧ 0 < y) : div64 l y = (l / y, l % y) := by
  unfold div64
  rw [Int.tdiv_eq_ediv_of_nonneg h.1, Int.tmod_eq_emod_of_nonneg h.1]
  have h1 := Int.ediv_nonneg h.1 (Int.le_of_lt h.2.2)
  have h2 := Int.ediv_le_self y h.1
  rw [wu64 h1 (by omega)]

theorem mul64_row {x y : Int} (h : 0 ≤ x ∧ x < 18446744073709551616 ∧ 0 ≤ y ∧ y < 18446744073709551616) : Runs Try.ir 77 [.int .u64 x, .int .u64 y] (.tup [.int .u64 ((x * y) / 18446744073709551616), .int .u64 ((x * y) % 18446744073709551616)]) := by
  have := Try.run77 x y
  rw [mul64_eq h] at this
  exact this
theorem div64_row {h l y : Int} (g : h = 0 ∧ 0 ≤ l ∧ l < 18446744073709551616 ∧ 0 < y) : Runs Try.ir 79 [.int .u64 h, .int .u64 l, .int .u64 y] (.tup [.int .u64 ((h * 18446744073709551616 + l) / y), .int .u64 ((h * 18446744073709551616 + l) % y)]) := by
  obtain ⟨rfl, g⟩ := g
  have := Try.run79_0 0 l y (by simp; omega) (by simp; omega) rfl (by omega)
  rw [div64_eq g] at this
  rw [Int.zero_mul, Int.zero_add]
  exact this

def g78 : List AV → Option (AV × List Prop)
  | [.int .i64 n] => some (.int .u64 (absI n), [-9223372036854775808 ≤ n ∧ n ≤ 9223372036854775807])
  | _ => none
def TM1 : Table := (78, g78) :: TFlip
theorem TM1_holds : THolds Try.ir TM1 := THolds.cons TFlip_holds (by
  intro args r ps h hp
  unfold g78 at h
  split at h
  · cases h; exact absW_eq hp.1 ▸ Try.run78 _
  · cases h)

def g77 : List AV → Option (AV × List Prop)
  | [.int .u64 x, .int .u64 y] => some (.tup [.int .u64 ((x * y) / 18446744073709551616), .int .u64 ((x * y) % 18446744073709551616)], [0 ≤ x ∧ x < 18446744073709551616 ∧ 0 ≤ y ∧ y < 18446744073709551616])
  | _ => none
def TM2 : Table := (77, g77) :: TM1
theorem TM2_holds : THolds Try.ir TM2 := THolds.cons TM1_holds (by
  intro args r ps h hp
  unfold g77 at h
  split at h
  · cases h; exact mul64_row hp.1
  · cases h)

def g79 : List AV → Option (AV × List Prop)
  | [.int .u64 h, .int .u64 l, .int .u64 y] => some (.tup [.int .u64 ((h * 18446744073709551616 + l) / y), .int .u64 ((h * 18446744073709551616 + l) % y)], [h = 0 ∧ 0 ≤ l ∧ l < 18446744073709551616 ∧ 0 < y])
  | _ => none
def TM3 : Table := (79, g79) :: TM2
theorem TM3_holds : THolds Try.ir TM3 := THolds.cons TM2_holds (by
  intro args r ps h hp
  unfold g79 at h
  split at h
  · cases h; exact div64_row hp.1
  · cases h)

def mulDivW (a b c : Int) : Int × Bool :=
  match (!((decide (a < 0)) == (decide (b < 0)))) == (decide (c < 0)) with
  | true => (match decide ((((((absI a) * (absI b)) / 18446744073709551616) * 18446744073709551616 + (((absI a) * (absI b)) % 18446744073709551616)) / (absI c)) < 9223372036854775808) with
  | true => ((IntKind.i64.wrap (((((absI a) * (absI b)) / 18446744073709551616) * 18446744073709551616 + (((absI a) * (absI b)) % 18446744073709551616)) / (absI c)), true))
  | false => ((0, false)))
  | false => (match decide ((((((absI a) * (absI b)) / 18446744073709551616) * 18446744073709551616 + (((absI a) * (absI b)) % 18446744073709551616)) / (absI c)) ≤ 9223372036854775808) with
  | true => ((IntKind.i64.wrap (IntKind.u64.wrap (0 - (((((absI a) * (absI b)) / 18446744073709551616) * 18446744073709551616 + (((absI a) * (absI b)) % 18446744073709551616)) / (absI c)))), true))
  | false => ((0, false)))
theorem Try.run58 (a b c : Int) (w_a : -9223372036854775808 ≤ a ∧ a ≤ 9223372036854775807) (w_b : -9223372036854775808 ≤ b ∧ b ≤ 9223372036854775807) (w_c : -9223372036854775808 ≤ c ∧ c ≤ 9223372036854775807) (hm : 0 ≤ (absI a) ∧ (absI a) < 18446744073709551616 ∧ 0 ≤ (absI b) ∧ (absI b) < 18446744073709551616) (hd : (((absI a) * (absI b)) / 18446744073709551616) = 0 ∧ 0 ≤ (((absI a) * (absI b)) % 18446744073709551616) ∧ (((absI a) * (absI b)) % 18446744073709551616) < 18446744073709551616 ∧ 0 < (absI c)) (hc : (c == 0) = false) (hh : (decide ((((absI a) * (absI b)) / 18446744073709551616) ≥ (absI c))) = false) : Runs Try.ir 58 [.int .i64 a, .int .i64 b, .int .i64 c] (.tup [.int .i64 ((mulDivW a b c).1), .bool ((mulDivW a b c).2)]) := by
  unfold mulDivW
  cases c1 : ((!((decide (a < 0)) == (decide (b < 0)))) == (decide (c < 0)))
  · cases c2 : (decide ((((((absI a) * (absI b)) / 18446744073709551616) * 18446744073709551616 + (((absI a) * (absI b)) % 18446744073709551616)) / (absI c)) ≤ 9223372036854775808))
    · exact Runs.script (r := .tup [.int .i64 0, .bool false]) (ps := [(c == 0) = false, -9223372036854775808 ≤ a ∧ a ≤ 9223372036854775807, -9223372036854775808 ≤ b ∧ b ≤ 9223372036854775807, 0 ≤ (absI a) ∧ (absI a) < 18446744073709551616 ∧ 0 ≤ (absI b) ∧ (absI b) < 18446744073709551616, -9223372036854775808 ≤ c ∧ c ≤ 9223372036854775807, (decide ((((absI a) * (absI b)) / 18446744073709551616) ≥ (absI c))) = false, (((absI a) * (absI b)) / 18446744073709551616) = 0 ∧ 0 ≤ (((absI a) * (absI b)) % 18446744073709551616) ∧ (((absI a) * (absI b)) % 18446744073709551616) < 18446744073709551616 ∧ 0 < (absI c), (!((!((decide (a < 0)) == (decide (b < 0)))) == (decide (c < 0)))) = true, (decide ((((((absI a) * (absI b)) / 18446744073709551616) * 18446744073709551616 + (((absI a) * (absI b)) % 18446744073709551616)) / (absI c)) ≤ 9223372036854775808)) = false, (!(!((!((decide (a < 0)) == (decide (b < 0)))) == (decide (c < 0))))) = false, false = false]) TM3_holds rfl 300 rfl [.b false, .b false, .b true, .b false, .b false, .b false] (by kernel_rfl) ⟨hc, w_a, w_b, hm, w_c, hh, hd, (by rw [c1]; rfl), c2, (by rw [c1]; rfl), rfl, trivial⟩
    · exact Runs.script (r := .tup [.int .i64 (IntKind.i64.wrap (IntKind.u64.wrap (0 - (((((absI a) * (absI b)) / 18446744073709551616) * 18446744073709551616 + (((absI a) * (absI b)) % 18446744073709551616)) / (absI c))))), .bool true]) (ps := [(c == 0) = false, -9223372036854775808 ≤ a ∧ a ≤ 9223372036854775807, -9223372036854775808 ≤ b ∧ b ≤ 9223372036854775807, 0 ≤ (absI a) ∧ (absI a) < 18446744073709551616 ∧ 0 ≤ (absI b) ∧ (absI b) < 18446744073709551616, -9223372036854775808 ≤ c ∧ c ≤ 9223372036854775807, (decide ((((absI a) * (absI b)) / 18446744073709551616) ≥ (absI c))) = false, (((absI a) * (absI b)) / 18446744073709551616) = 0 ∧ 0 ≤ (((absI a) * (absI b)) % 18446744073709551616) ∧ (((absI a) * (absI b)) % 18446744073709551616) < 18446744073709551616 ∧ 0 < (absI c), (!((!((decide (a < 0)) == (decide (b < 0)))) == (decide (c < 0)))) = true, (decide ((((((absI a) * (absI b)) / 18446744073709551616) * 18446744073709551616 + (((absI a) * (absI b)) % 18446744073709551616)) / (absI c)) ≤ 9223372036854775808)) = true]) TM3_holds rfl 300 rfl [.b false, .b false, .b true, .b true] (by kernel_rfl) ⟨hc, w_a, w_b, hm, w_c, hh, hd, (by rw [c1]; rfl), c2, trivial⟩
  · cases c2 : (decide ((((((absI a) * (absI b)) / 18446744073709551616) * 18446744073709551616 + (((absI a) * (absI b)) % 18446744073709551616)) / (absI c)) < 9223372036854775808))
    · exact Runs.script (r := .tup [.int .i64 0, .bool false]) (ps := [(c == 0) = false, -9223372036854775808 ≤ a ∧ a ≤ 9223372036854775807, -9223372036854775808 ≤ b ∧ b ≤ 9223372036854775807, 0 ≤ (absI a) ∧ (absI a) < 18446744073709551616 ∧ 0 ≤ (absI b) ∧ (absI b) < 18446744073709551616, -9223372036854775808 ≤ c ∧ c ≤ 9223372036854775807, (decide ((((absI a) * (absI b)) / 18446744073709551616) ≥ (absI c))) = false, (((absI a) * (absI b)) / 18446744073709551616) = 0 ∧ 0 ≤ (((absI a) * (absI b)) % 18446744073709551616) ∧ (((absI a) * (absI b)) % 18446744073709551616) < 18446744073709551616 ∧ 0 < (absI c), (!((!((decide (a < 0)) == (decide (b < 0)))) == (decide (c < 0)))) = false, false = false, (!(!((!((decide (a < 0)) == (decide (b < 0)))) == (decide (c < 0))))) = true, (decide ((((((absI a) * (absI b)) / 18446744073709551616) * 18446744073709551616 + (((absI a) * (absI b)) % 18446744073709551616)) / (absI c)) < 9223372036854775808)) = false]) TM3_holds rfl 300 rfl [.b false, .b false, .b false, .b false, .b true, .b false] (by kernel_rfl) ⟨hc, w_a, w_b, hm, w_c, hh, hd, (by rw [c1]; rfl), rfl, (by rw [c1]; rfl), c2, trivial⟩
    · exact Runs.script (r := .tup [.int .i64 (IntKind.i64.wrap (((((absI a) * (absI b)) / 18446744073709551616) * 18446744073709551616 + (((absI a) * (absI b)) % 18446744073709551616)) / (absI c))), .bool true]) (ps := [(c == 0) = false, -9223372036854775808 ≤ a ∧ a ≤ 9223372036854775807, -9223372036854775808 ≤ b ∧ b ≤ 9223372036854775807, 0 ≤ (absI a) ∧ (absI a) < 18446744073709551616 ∧ 0 ≤ (absI b) ∧ (absI b) < 18446744073709551616, -9223372036854775808 ≤ c ∧ c ≤ 9223372036854775807, (decide ((((absI a) * (absI b)) / 18446744073709551616) ≥ (absI c))) = false, (((absI a) * (absI b)) / 18446744073709551616) = 0 ∧ 0 ≤ (((absI a) * (absI b)) % 18446744073709551616) ∧ (((absI a) * (absI b)) % 18446744073709551616) < 18446744073709551616 ∧ 0 < (absI c), (!((!((decide (a < 0)) == (decide (b < 0)))) == (decide (c < 0)))) = false, false = false, (!(!((!((decide (a < 0)) == (decide (b < 0)))) == (decide (c < 0))))) = true, (decide ((((((absI a) * (absI b)) / 18446744073709551616) * 18446744073709551616 + (((absI a) * (absI b)) % 18446744073709551616)) / (absI c)) < 9223372036854775808)) = true]) TM3_holds rfl 300 rfl [.b false, .b false, .b false, .b false, .b true, .b true] (by kernel_rfl) ⟨hc, w_a, w_b, hm, w_c, hh, hd, (by rw [c1]; rfl), rfl, (by rw [c1]; rfl), c2, trivial⟩

theorem w64_top {q : Int} (h0 : 0 < q) (h1 : q ≤ 9223372036854775808) : IntKind.i64.wrap (18446744073709551616 - q) = -q := by
  simp only [IntKind.wrap, IntKind.bits, IntKind.signed, Bool.true_and]
  split
  · omega
  · rename_i h
    exact absurd (decide_eq_true (by omega)) h

theorem absI_mul (a b : Int) : absI a * absI b = absI (a * b) := by
  unfold absI
  by_cases ha : a < 0 <;> by_cases hb : b < 0
  · rw [if_pos ha, if_pos hb, if_neg (by have := Int.mul_pos_of_neg_of_neg ha hb; omega), Int.neg_mul_neg]
  · rw [if_pos ha, if_neg hb]
    rcases Int.lt_or_eq_of_le (show 0 ≤ b by omega) with h | h
    · rw [if_pos (Int.mul_neg_of_neg_of_pos ha h), Int.neg_mul]
    · subst h; simp
  · rw [if_neg ha, if_pos hb]
    rcases Int.lt_or_eq_of_le (show 0 ≤ a by omega) with h | h
    · rw [if_pos (Int.mul_neg_of_pos_of_neg h hb), Int.mul_neg]
    · subst h; simp
  · rw [if_neg ha, if_neg hb, if_neg (by have := Int.mul_nonneg (show 0 ≤ a by omega) (show 0 ≤ b by omega); omega)]

theorem tdiv_abs (p c : Int) : Int.tdiv p c = if p < 0 then -(absI p / c) else absI p / c := by
  unfold absI
  by_cases h : p < 0
  · rw [if_pos h, if_pos h]
    have e := Int.neg_tdiv (-p) c
    rw [Int.neg_neg, Int.tdiv_eq_ediv_of_nonneg (show 0 ≤ -p by omega)] at e
    exact e
  · rw [if_neg h, if_neg h, Int.tdiv_eq_ediv_of_nonneg (by omega)]

theorem muldiv_row {a b c : Int} (wa : -9223372036854775808 ≤ a ∧ a ≤ 9223372036854775807) (wb : -9223372036854775808 ≤ b ∧ b ≤ 9223372036854775807) (wc : 0 < c ∧ c ≤ 9223372036854775807)
    (hp : -9223372036854775808 < a * b ∧ a * b < 9223372036854775808) : Runs Try.ir 58 [.int .i64 a, .int .i64 b, .int .i64 c] (.tup [.int .i64 (Int.tdiv (a * b) c), .bool true]) := by
  have h1 := absI_nonneg a
  have h2 := absI_nonneg b
  have h3 := absI_lt wa
  have h4 := absI_lt wb
  have hab := absI_mul a b
  have hP0 := absI_nonneg (a * b)
  have hP1 : absI (a * b) < 9223372036854775808 := by unfold absI; split <;> omega
  have hc : absI c = c := by unfold absI; rw [if_neg (by omega)]
  have e0 : absI a * absI b / 18446744073709551616 = 0 := by rw [hab]; omega
  have e1 : absI a * absI b % 18446744073709551616 = absI a * absI b := by rw [hab]; omega
  have := Try.run58 a b c wa wb (by omega) (by omega) (by rw [hc]; omega) (by simp; omega) (by rw [e0, hc]; simp; omega)
  have hq0 : 0 ≤ absI (a * b) / c := Int.ediv_nonneg hP0 (by omega)
  have hq1 : absI (a * b) / c ≤ absI (a * b) := Int.ediv_le_self c hP0
  have key : mulDivW a b c = (Int.tdiv (a * b) c, true) := by
    unfold mulDivW
    rw [e0, e1, hc, Int.zero_mul, Int.zero_add, hab, tdiv_abs]
    have c1 : decide (c < 0) = false := by simp; omega
    have c2 : decide (absI (a * b) / c < 9223372036854775808) = true := by simp; omega
    have c3 : decide (absI (a * b) / c ≤ 9223372036854775808) = true := by simp; omega
    rw [c1, c2, c3]
    by_cases g : a * b < 0
    · have : (decide (a < 0) == decide (b < 0)) = false := by
        by_cases ha : a < 0 <;> by_cases hb : b < 0 <;> simp [ha, hb]
        · have := Int.mul_pos_of_neg_of_neg ha hb; omega
        · have := Int.mul_nonneg (show 0 ≤ a by omega) (show 0 ≤ b by omega); omega
      rw [this, if_pos g]
      have hne : ((!false) == false) = false := rfl
      rw [hne]
      dsimp only
      congr 1
      rw [wu64_mod]
      by_cases hz : absI (a * b) / c = 0
      · rw [hz]; rfl
      · have : (0 - absI (a * b) / c) % 18446744073709551616 = 18446744073709551616 - absI (a * b) / c := by omega
        rw [this]
        exact w64_top (by omega) (by omega)
    · rw [if_neg g]
      by_cases s : (decide (a < 0) == decide (b < 0)) = true
      · rw [s]
        have hne : ((!true) == false) = true := rfl
        rw [hne]
        dsimp only
        rw [w64 (by omega) (by omega)]
      · have s' : (decide (a < 0) == decide (b < 0)) = false := by simpa using s
        have hz : a * b = 0 := by
          by_cases ha : a < 0 <;> by_cases hb : b < 0 <;> simp [ha, hb] at s'
          · rcases Int.lt_or_eq_of_le (show 0 ≤ b by omega) with h | h
            · have := Int.mul_neg_of_neg_of_pos ha h; omega
            · subst h; simp
          · rcases Int.lt_or_eq_of_le (show 0 ≤ a by omega) with h | h
            · have := Int.mul_neg_of_pos_of_neg h hb; omega
            · subst h; simp
        rw [s', hz]
        have : absI 0 / c = 0 := by unfold absI; simp
        rw [this]
        rfl
  rw [key] at this
  exact this

def g58 : List AV → Option (AV × List Prop)
  | [.int .i64 a, .int .i64 b, .int .i64 c] => some (.tup [.int .i64 (Int.tdiv (a * b) c), .bool true], [-9223372036854775808 ≤ a ∧ a ≤ 9223372036854775807, -9223372036854775808 ≤ b ∧ b ≤ 9223372036854775807, 0 < c ∧ c ≤ 9223372036854775807, -9223372036854775808 < a * b ∧ a * b < 9223372036854775808])
  | _ => none
def TM4 : Table := (58, g58) :: TM3
theorem TM4_holds : THolds Try.ir TM4 := THolds.cons TM3_holds (by
  intro args r ps h hp
  unfold g58 at h
  split at h
  · cases h; exact muldiv_row hp.1 hp.2.1 hp.2.2.1 hp.2.2.2.1
  · cases h)

def TMulX : Table := TM4
theorem TMulX_holds : THolds Try.ir TMulX := TM4_holds
end Go.Proofs.Ythakfjlnhldehaa
