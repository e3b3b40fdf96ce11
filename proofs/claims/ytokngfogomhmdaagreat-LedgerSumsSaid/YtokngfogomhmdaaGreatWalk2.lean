/- Loops: what is known behind them, and loops that are left at a place. -/
import Derived.Test.YtokngfogomhmdaaGreatWalk
namespace Go.Ai
section
variable {prog : Nat → Option IFunc}
theorem RunsW.keep {c : ICode} {ex : Ex} {s t t' : State} (ks : List Nat) (h : RunsW prog c s ex t) (e : keepS ks t = t') : RunsW prog c s ex t' := e ▸ RunsW.weak h (SLe.refl _) (keepS_le ks t)
/-- A loop that counts up to a place and leaves there. -/
theorem RunsW.upTo {c : ICode} {ex : Ex} {fin : State} (st : Nat → State) (n : Nat) (hex : ex ≠ .norm) (out : RunsW prog c (st n) ex fin) : ∀ i, i ≤ n → (∀ t, i ≤ t → t < n → RunsW prog c (st t) .norm (st (t + 1))) → RunsW prog (.loop c) (st i) ex fin := by
  intro i hi
  obtain ⟨r, hr⟩ : ∃ r, i + r = n := ⟨n - i, by omega⟩
  induction r generalizing i with
  | zero =>
    intro _
    have : i = n := by omega
    subst this
    exact RunsW.loop_out out hex
  | succ r ih =>
    intro hs
    exact RunsW.loop (hs i (Nat.le_refl _) (by omega)) (ih (i + 1) (by omega) (by omega) (fun t h1 h2 => hs t (by omega) h2))
/-- The first place from i on, or none. -/
theorem first_from (f : Nat → Bool) (m : Nat) : ∀ r i, i + r = m → (∀ j, i ≤ j → j < m → f j = false) ∨ ∃ j, i ≤ j ∧ j < m ∧ f j = true ∧ ∀ t, i ≤ t → t < j → f t = false := by
  intro r
  induction r with
  | zero => intro i hi; left; intro j h1 h2; omega
  | succ r ih =>
    intro i hi
    cases hf : f i with
    | true => right; exact ⟨i, Nat.le_refl _, by omega, hf, fun t h1 h2 => by omega⟩
    | false =>
      rcases ih (i + 1) (by omega) with h | ⟨j, h1, h2, h3, h4⟩
      · left
        intro j h1 h2
        by_cases e : j = i
        · rw [e]; exact hf
        · exact h j (by omega) h2
      · right
        refine ⟨j, by omega, h2, h3, fun t h5 h6 => ?_⟩
        by_cases e : t = i
        · rw [e]; exact hf
        · exact h4 t (by omega) h6
end
end Go.Ai
