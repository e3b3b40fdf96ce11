/- Sums and differences of limbs, step by step. -/
import Derived.Test.YtokngfogomhmdaaGreatLimbs
namespace Go.Ai

theorem drop_val : ∀ (xs : List Int) (i : Nat), valL (xs.drop i) = xs.getD i 0 + 4294967296 * valL (xs.drop (i + 1))
  | [], i => by simp [valL]
  | x :: xs, 0 => by simp [valL]
  | x :: xs, i + 1 => by
    have := drop_val xs i
    simpa using this
theorem getD_other {xs : List Int} {i j : Nat} {v : Int} (h : i ≠ j) : (xs.set i v).getD j 0 = xs.getD j 0 := by
  simp only [List.getD_eq_getElem?_getD, List.getElem?_set_ne h]
theorem getD_end {xs : List Int} {i : Nat} (h : xs.length ≤ i) : xs.getD i 0 = 0 := by
  simp [List.getD_eq_getElem?_getD, List.getElem?_eq_none h]
theorem drop_end {xs : List Int} {i : Nat} (h : xs.length ≤ i) : valL (xs.drop i) = 0 := by
  rw [List.drop_eq_nil_of_le h]; rfl

def addGo (xs ys : List Int) : Nat → Nat → List Int → Int → List Int × Int
  | 0, _, o, c => (o, c)
  | r + 1, i, o, c => addGo xs ys r (i + 1) (o.set i ((xs.getD i 0 + c + ys.getD i 0) % 4294967296)) ((xs.getD i 0 + c + ys.getD i 0) / 4294967296)

theorem addGo_ok {xs ys : List Int} (hx : U32 xs) (hy : U32 ys) (hl : ys.length ≤ xs.length) : ∀ (r i : Nat) (o : List Int) (c : Int), r + i = xs.length → xs.length < o.length → U32 o → 0 ≤ c ∧ c ≤ 1 → (∀ j, i ≤ j → o.getD j 0 = 0) →
    (addGo xs ys r i o c).1.length = o.length ∧ U32 (addGo xs ys r i o c).1 ∧ (0 ≤ (addGo xs ys r i o c).2 ∧ (addGo xs ys r i o c).2 ≤ 1) ∧
    valL (addGo xs ys r i o c).1 + 4294967296 ^ xs.length * (addGo xs ys r i o c).2 = valL o + 4294967296 ^ i * (c + valL (xs.drop i) + valL (ys.drop i)) ∧
    ∀ j, xs.length ≤ j → (addGo xs ys r i o c).1.getD j 0 = 0 := by
  intro r
  induction r with
  | zero =>
    intro i o c hi _ hu hc hz
    have hi' : i = xs.length := by omega
    subst hi'
    refine ⟨rfl, hu, hc, ?_, fun j hj => hz j hj⟩
    rw [drop_end (Nat.le_refl _), drop_end hl]
    simp [addGo]
  | succ r ih =>
    intro i o c hi hlo hu hc hz
    have h1 := getD_u32 hx i
    have h2 := getD_u32 hy i
    simp only [addGo]
    have ex := drop_val xs i
    have ey := drop_val ys i
    have hoz := hz i (Nat.le_refl _)
    generalize hW : xs.getD i 0 + c + ys.getD i 0 = W at *
    have hm : 0 ≤ W % 4294967296 ∧ W % 4294967296 < 4294967296 := by omega
    obtain ⟨g1, g2, g3, g4, g5⟩ := ih (i + 1) (o.set i (W % 4294967296)) (W / 4294967296) (by omega) (by simpa using hlo) (u32_set hu hm) (by omega) (fun j hj => by rw [getD_other (by omega)]; exact hz j (by omega))
    refine ⟨by simpa using g1, g2, g3, ?_, g5⟩
    rw [g4, valL_set o i _ (by omega), ex, ey, hoz, Int.pow_succ]
    generalize (4294967296 : Int) ^ i = p at *
    generalize valL (xs.drop (i + 1)) = V at *
    generalize valL (ys.drop (i + 1)) = U at *
    have e1 : W = 4294967296 * (W / 4294967296) + W % 4294967296 := by omega
    have e2 : c = W - xs.getD i 0 - ys.getD i 0 := by omega
    rw [e2]
    generalize W / 4294967296 = q at *
    generalize W % 4294967296 = m at *
    generalize xs.getD i 0 = a at *
    generalize ys.getD i 0 = b at *
    subst e1
    grind

def subGo (xs ys : List Int) : Nat → Nat → List Int → Int → List Int × Int
  | 0, _, o, c => (o, c)
  | r + 1, i, o, c => subGo xs ys r (i + 1) (o.set i ((xs.getD i 0 - c - ys.getD i 0) % 4294967296)) (-((xs.getD i 0 - c - ys.getD i 0) / 4294967296))

theorem subGo_ok {xs ys : List Int} (hx : U32 xs) (hy : U32 ys) (hl : ys.length ≤ xs.length) : ∀ (r i : Nat) (o : List Int) (c : Int), r + i = xs.length → xs.length ≤ o.length → U32 o → 0 ≤ c ∧ c ≤ 1 → (∀ j, i ≤ j → o.getD j 0 = 0) →
    (subGo xs ys r i o c).1.length = o.length ∧ U32 (subGo xs ys r i o c).1 ∧ (0 ≤ (subGo xs ys r i o c).2 ∧ (subGo xs ys r i o c).2 ≤ 1) ∧
    valL (subGo xs ys r i o c).1 = valL o + 4294967296 ^ i * (valL (xs.drop i) - valL (ys.drop i) - c) + 4294967296 ^ xs.length * (subGo xs ys r i o c).2 := by
  intro r
  induction r with
  | zero =>
    intro i o c hi _ hu hc hz
    have hi' : i = xs.length := by omega
    subst hi'
    refine ⟨rfl, hu, hc, ?_⟩
    rw [drop_end (Nat.le_refl _), drop_end hl]
    simp only [subGo]
    generalize (4294967296 : Int) ^ xs.length = p
    grind
  | succ r ih =>
    intro i o c hi hlo hu hc hz
    have h1 := getD_u32 hx i
    have h2 := getD_u32 hy i
    simp only [subGo]
    have ex := drop_val xs i
    have ey := drop_val ys i
    have hoz := hz i (Nat.le_refl _)
    generalize hW : xs.getD i 0 - c - ys.getD i 0 = W at *
    have hm : 0 ≤ W % 4294967296 ∧ W % 4294967296 < 4294967296 := by omega
    obtain ⟨g1, g2, g3, g4⟩ := ih (i + 1) (o.set i (W % 4294967296)) (-(W / 4294967296)) (by omega) (by simpa using hlo) (u32_set hu hm) (by omega) (fun j hj => by rw [getD_other (by omega)]; exact hz j (by omega))
    refine ⟨by simpa using g1, g2, g3, ?_⟩
    rw [g4, valL_set o i _ (by omega), ex, ey, hoz, Int.pow_succ]
    generalize (4294967296 : Int) ^ i = p at *
    generalize valL (xs.drop (i + 1)) = V at *
    generalize valL (ys.drop (i + 1)) = U at *
    have e1 : W = 4294967296 * (W / 4294967296) + W % 4294967296 := by omega
    have e2 : c = xs.getD i 0 - ys.getD i 0 - W := by omega
    rw [e2]
    generalize W / 4294967296 = q at *
    generalize W % 4294967296 = m at *
    generalize xs.getD i 0 = a at *
    generalize ys.getD i 0 = b at *
    subst e1
    grind

theorem getD_zeros (n j : Nat) : (List.replicate n (0 : Int)).getD j 0 = 0 := by
  simp [List.getD_eq_getElem?_getD, List.getElem?_replicate]; split <;> rfl
theorem u32_zeros (n : Nat) : U32 (List.replicate n 0) := fun x hx => by rw [List.eq_of_mem_replicate hx]; omega

/-- A whole sum: one limb more than the longer one. -/
theorem add_whole {xs ys : List Int} (hx : U32 xs) (hy : U32 ys) (hl : ys.length ≤ xs.length) (o : List Int) (c : Int) (e : addGo xs ys xs.length 0 (List.replicate (xs.length + 1) 0) 0 = (o, c)) :
    o.length = xs.length + 1 ∧ U32 o ∧ (0 ≤ c ∧ c ≤ 1) ∧ U32 (o.set xs.length c) ∧ valL (o.set xs.length c) = valL xs + valL ys := by
  obtain ⟨g1, g2, g3, g4, g5⟩ := addGo_ok hx hy hl xs.length 0 (List.replicate (xs.length + 1) 0) 0 (by omega) (by simp) (u32_zeros _) (by omega) (fun j _ => getD_zeros _ j)
  rw [e] at g1 g2 g3 g4 g5
  dsimp only at g1 g2 g3 g4 g5
  have hlo : o.length = xs.length + 1 := by simpa using g1
  refine ⟨hlo, g2, g3, u32_set g2 (by omega), ?_⟩
  rw [valL_set o _ _ (by omega), g5 _ (Nat.le_refl _), Int.sub_zero, g4, valL_zeros]
  simp
theorem sub_whole {xs ys : List Int} (hx : U32 xs) (hy : U32 ys) (hl : ys.length ≤ xs.length) (hv : valL ys ≤ valL xs) (o : List Int) (c : Int) (e : subGo xs ys xs.length 0 (List.replicate xs.length 0) 0 = (o, c)) :
    o.length = xs.length ∧ U32 o ∧ valL o = valL xs - valL ys := by
  obtain ⟨g1, g2, g3, g4⟩ := subGo_ok hx hy hl xs.length 0 (List.replicate xs.length 0) 0 (by omega) (by simp) (u32_zeros _) (by omega) (fun j _ => getD_zeros _ j)
  rw [e] at g1 g2 g3 g4
  dsimp only at g1 g2 g3 g4
  have hlo : o.length = xs.length := by simpa using g1
  refine ⟨hlo, g2, ?_⟩
  rw [valL_zeros] at g4
  simp at g4
  have h1 := valL_lt g2
  rw [hlo] at h1
  have hp := pow32_pos xs.length
  rcases (show c = 0 ∨ c = 1 by omega) with h | h
  · rw [g4, h]; simp
  · rw [h, Int.mul_one] at g4; omega
end Go.Ai
