/- Words: shifts, or, parts. -/
import Derived.Test.YthnnfemologhfaaBitw
namespace Go.Proofs.Ythnnfemologhfaa
open Go.Ai
theorem w32 {n : Int} (h : 0 ≤ n ∧ n < 4294967296) : IntKind.u32.wrap n = n := by rw [wu32]; omega
theorem wu64 {n : Int} (h : 0 ≤ n ∧ n < 18446744073709551616) : IntKind.u64.wrap n = n := by rw [wu64m]; omega
theorem p32 : (2 : Int) ^ (min (Int.toNat 32) (IntKind.bits .u64)) = 4294967296 := by decide
theorem p63 : (2 : Int) ^ (min (Int.toNat 63) (IntKind.bits .u64)) = 9223372036854775808 := by decide
theorem fd32 (s : Int) : Int.fdiv s (2 ^ (min (Int.toNat 32) (IntKind.bits .u64))) = s / 4294967296 := by
  rw [p32, Int.fdiv_eq_ediv_of_nonneg _ (by decide)]
theorem fd63 (s : Int) : Int.fdiv s (2 ^ (min (Int.toNat 63) (IntKind.bits .u64))) = s / 9223372036854775808 := by
  rw [p63, Int.fdiv_eq_ediv_of_nonneg _ (by decide)]
theorem word2 {r x : Int} (hr : 0 ≤ r ∧ r < 4294967296) (hx : 0 ≤ x ∧ x < 4294967296) :
    IntKind.u64.wrap ((BitVec.ofInt (IntKind.bits .u64) (IntKind.u64.wrap (r * 2 ^ (min (Int.toNat 32) (IntKind.bits .u64)))) ||| BitVec.ofInt (IntKind.bits .u64) (IntKind.u64.wrap x)).toNat) = r * 4294967296 + x := by
  rw [p32, wu64 (n := r * 4294967296) (by omega), wu64 (n := x) (by omega)]
  have := or64 (q := r) (c := x) (s := 32) hr.1 (by rw [show (2 : Int) ^ 32 = 4294967296 by decide]; omega) (by omega) (by rw [show (2 : Int) ^ 32 = 4294967296 by decide]; exact hx)
  rw [show (2 : Int) ^ 32 = 4294967296 by decide] at this
  exact this
theorem or32 {q c : Int} {s : Nat} (hq : 0 ≤ q) (hs : q * 2 ^ s < 4294967296) (hs' : s ≤ 32) (hc : 0 ≤ c ∧ c < 2 ^ s) :
    IntKind.u32.wrap ((BitVec.ofInt (IntKind.bits .u32) c ||| BitVec.ofInt (IntKind.bits .u32) (q * 2 ^ s)).toNat) = q * 2 ^ s + c := by
  obtain ⟨a, rfl⟩ : ∃ a : Nat, q = a := ⟨q.toNat, by omega⟩
  obtain ⟨b, rfl⟩ : ∃ b : Nat, c = b := ⟨c.toNat, by omega⟩
  have e1 : ((a : Nat) : Int) * 2 ^ s = ((a * 2 ^ s : Nat) : Int) := by rw [Int.natCast_mul, Int.natCast_pow]; rfl
  have hb : b < 2 ^ s := by
    have : ((b : Nat) : Int) < ((2 ^ s : Nat) : Int) := by rw [Int.natCast_pow]; exact hc.2
    omega
  have h64 : 2 ^ s ≤ 2 ^ 32 := Nat.pow_le_pow_right (by decide) hs'
  have e64 : 2 ^ 32 = 4294967296 := by decide
  rw [e1] at hs ⊢
  show IntKind.u32.wrap ((BitVec.ofInt 32 (b : Int) ||| BitVec.ofInt 32 ((a * 2 ^ s : Nat) : Int)).toNat : Int) = _
  rw [BitVec.or_comm, BitVec.toNat_or, BitVec.ofInt_natCast, BitVec.ofInt_natCast, BitVec.toNat_ofNat, BitVec.toNat_ofNat, Nat.mod_eq_of_lt (by omega), Nat.mod_eq_of_lt (by omega), Nat.mul_comm a, ← Nat.two_pow_add_eq_or_of_lt hb, Nat.mul_comm (2 ^ s) a, wu32]
  have hsum : a * 2 ^ s + b < 4294967296 := by
    have hd : a * 2 ^ s + 2 ^ s ≤ 2 ^ 32 := by
      have hk : 2 ^ 32 = 2 ^ (32 - s) * 2 ^ s := by rw [← Nat.pow_add]; congr 1; omega
      have h1 : a < 2 ^ (32 - s) := by
        rcases Nat.lt_or_ge a (2 ^ (32 - s)) with g | g
        · exact g
        · have := Nat.mul_le_mul_right (2 ^ s) g
          omega
      have h2 := Nat.mul_le_mul_right (2 ^ s) (show a + 1 ≤ 2 ^ (32 - s) by omega)
      rw [Nat.add_mul, Nat.one_mul] at h2
      omega
    omega
  omega
theorem p32s {s : Nat} (hs : s ≤ 32) : (4294967296 : Int) = 2 ^ (32 - s) * 2 ^ s := by rw [← Int.pow_add, show 32 - s + s = 32 by omega]; decide
/-- A limb that is shifted: the lower and the upper word. -/
theorem shl_parts {x : Int} {s : Nat} (hx : 0 ≤ x ∧ x < 4294967296) (hs : s < 32) :
    0 ≤ x * 2 ^ s ∧ x * 2 ^ s < 18446744073709551616 ∧ x * 2 ^ s / 4294967296 < 2 ^ s ∧ ∃ q : Int, 0 ≤ q ∧ x * 2 ^ s % 4294967296 = q * 2 ^ s := by
  have hp := pow2_pos s
  have hp2 : (2 : Int) ^ s ≤ 2147483648 := by
    have := pow2_le (show s ≤ 31 by omega); rwa [show (2 : Int) ^ 31 = 2147483648 by decide] at this
  have h0 := Int.mul_nonneg hx.1 (show (0 : Int) ≤ 2 ^ s by omega)
  have h1 := Int.mul_le_mul (show x ≤ 4294967295 by omega) hp2 (by omega) (by omega)
  have h2 := Int.mul_lt_mul_of_pos_right hx.2 hp
  refine ⟨h0, by omega, by omega, ?_⟩
  have e : (4294967296 : Int) = 2 ^ (32 - s) * 2 ^ s := by
    rw [← Int.pow_add, show 32 - s + s = 32 by omega]; decide
  refine ⟨x % 2 ^ (32 - s), Int.emod_nonneg _ (by have := pow2_pos (32 - s); omega), ?_⟩
  rw [e, Int.mul_comm x, Int.mul_comm (2 ^ (32 - s)), Int.mul_emod_mul_of_pos _ _ hp, Int.mul_comm]
end Go.Proofs.Ythnnfemologhfaa
