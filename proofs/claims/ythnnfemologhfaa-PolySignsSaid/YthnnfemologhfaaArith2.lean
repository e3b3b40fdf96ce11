/- Parts of limbs. -/
import Derived.Test.YthnnfemologhfaaArith
namespace Go.Ai

theorem val_split (us : List Int) {j : Nat} (h : j ≤ us.length) : valL us = valL (us.take j) + 4294967296 ^ j * valL (us.drop j) := by
  have := valL_append (us.take j) (us.drop j)
  rw [List.take_append_drop, List.length_take, Nat.min_eq_left h] at this
  exact this
theorem take_ext {us ws : List Int} {j : Nat} (hl : ws.length = us.length) (h : ∀ t, t < j → ws.getD t 0 = us.getD t 0) : ws.take j = us.take j := by
  apply List.ext_getElem?
  intro t
  rcases Nat.lt_or_ge t j with g | g
  · rw [List.getElem?_take_of_lt g, List.getElem?_take_of_lt g]
    have := h t g
    rw [List.getD_eq_getElem?_getD, List.getD_eq_getElem?_getD] at this
    rcases Nat.lt_or_ge t us.length with k | k
    · rw [List.getElem?_eq_getElem k, List.getElem?_eq_getElem (by omega)] at this ⊢
      simpa using this
    · rw [List.getElem?_eq_none k, List.getElem?_eq_none (by omega)]
  · rw [List.getElem?_eq_none (by simp; omega), List.getElem?_eq_none (by simp; omega)]
theorem u32_drop {us : List Int} (h : U32 us) (j : Nat) : U32 (us.drop j) := fun x hx => h x (List.mem_of_mem_drop hx)
theorem u32_take {us : List Int} (h : U32 us) (j : Nat) : U32 (us.take j) := fun x hx => h x (List.mem_of_mem_take hx)
theorem drop_small {us : List Int} (hu : U32 us) {n : Nat} {V : Int} (hV : V ≤ 4294967296 ^ n) (h : valL us < V) : valL (us.drop n) = 0 := by
  have h0 := valL_nonneg (u32_drop hu n)
  rcases Nat.lt_or_ge n us.length with g | g
  · have e := val_split us (Nat.le_of_lt g)
    have h1 := valL_nonneg (u32_take hu n)
    have hp := pow32_pos n
    apply Int.le_antisymm ?_ h0
    apply Int.not_lt.1
    intro hc
    have := Int.mul_le_mul_of_nonneg_left (show 1 ≤ valL (us.drop n) by omega) (show (0 : Int) ≤ 4294967296 ^ n by omega)
    omega
  · exact drop_end g
theorem take_lt {us : List Int} (hu : U32 us) (n : Nat) : valL (us.take n) < 4294967296 ^ n := by
  have h := valL_lt (u32_take hu n)
  exact Int.lt_of_lt_of_le h (pow32_mono (by simp; omega))
end Go.Ai
