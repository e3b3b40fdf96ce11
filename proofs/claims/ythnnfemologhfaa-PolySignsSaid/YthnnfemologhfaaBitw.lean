/- Words: or of a shifted word and of less; and with a mask; powers. -/
import Derived.Test.YthnnfemologhfaaWords
namespace Go.Proofs.Ythnnfemologhfaa
open Go.Ai
theorem p64 : (2 : Int) ^ 64 = 18446744073709551616 := by decide
theorem or64 {q c : Int} {s : Nat} (hq : 0 ≤ q) (hs : q * 2 ^ s < 18446744073709551616) (hs' : s ≤ 64) (hc : 0 ≤ c ∧ c < 2 ^ s) :
    IntKind.u64.wrap ((BitVec.ofInt (IntKind.bits .u64) (q * 2 ^ s) ||| BitVec.ofInt (IntKind.bits .u64) c).toNat) = q * 2 ^ s + c := by
  obtain ⟨a, rfl⟩ : ∃ a : Nat, q = a := ⟨q.toNat, by omega⟩
  obtain ⟨b, rfl⟩ : ∃ b : Nat, c = b := ⟨c.toNat, by omega⟩
  have e1 : ((a : Nat) : Int) * 2 ^ s = ((a * 2 ^ s : Nat) : Int) := by rw [Int.natCast_mul, Int.natCast_pow]; rfl
  have hb : b < 2 ^ s := by
    have : ((b : Nat) : Int) < ((2 ^ s : Nat) : Int) := by rw [Int.natCast_pow]; exact hc.2
    omega
  have h64 : 2 ^ s ≤ 2 ^ 64 := Nat.pow_le_pow_right (by decide) hs'
  have e64 : 2 ^ 64 = 18446744073709551616 := by decide
  rw [e1] at hs ⊢
  show IntKind.u64.wrap ((BitVec.ofInt 64 ((a * 2 ^ s : Nat) : Int) ||| BitVec.ofInt 64 (b : Int)).toNat : Int) = _
  rw [BitVec.toNat_or, BitVec.ofInt_natCast, BitVec.ofInt_natCast, BitVec.toNat_ofNat, BitVec.toNat_ofNat, Nat.mod_eq_of_lt (by omega), Nat.mod_eq_of_lt (by omega), Nat.mul_comm a, ← Nat.two_pow_add_eq_or_of_lt hb, Nat.mul_comm (2 ^ s) a, wu64m]
  have hsum : a * 2 ^ s + b < 18446744073709551616 := by
    have hd : a * 2 ^ s + 2 ^ s ≤ 2 ^ 64 := by
      have hk : 2 ^ 64 = 2 ^ (64 - s) * 2 ^ s := by rw [← Nat.pow_add]; congr 1; omega
      have h1 : a < 2 ^ (64 - s) := by
        rcases Nat.lt_or_ge a (2 ^ (64 - s)) with g | g
        · exact g
        · have := Nat.mul_le_mul_right (2 ^ s) g
          omega
      have h2 := Nat.mul_le_mul_right (2 ^ s) (show a + 1 ≤ 2 ^ (64 - s) by omega)
      rw [Nat.add_mul, Nat.one_mul] at h2
      omega
    omega
  omega
theorem pow2_pos (n : Nat) : (0 : Int) < 2 ^ n := Int.pow_pos (by decide)
theorem pow2_le {a b : Nat} (h : a ≤ b) : (2 : Int) ^ a ≤ 2 ^ b := by
  have h1 : 2 ^ a ≤ 2 ^ b := Nat.pow_le_pow_right (by decide) h
  have e : ∀ n : Nat, (2 : Int) ^ n = ((2 ^ n : Nat) : Int) := fun n => by rw [Int.natCast_pow]; rfl
  rw [e, e]
  omega
theorem pow32_two (n : Nat) : (4294967296 : Int) ^ n = 2 ^ (32 * n) := by
  rw [Int.pow_mul]; rfl
/-- A shift by n: whole words and the rest. -/
theorem pow2_split (n : Nat) : (2 : Int) ^ n = 4294967296 ^ (n / 32) * 2 ^ (n % 32) := by
  rw [pow32_two, ← Int.pow_add, Nat.div_add_mod]
end Go.Proofs.Ythnnfemologhfaa
