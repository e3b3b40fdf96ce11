/- Numbers as their limbs: plain facts. -/
import Derived.Test.YtokngfogomhmdaaGreatAbs15
namespace Go.Ai

def lm (xs : List Int) : List AV := xs.map (AV.int .u32)
def U32 (xs : List Int) : Prop := ∀ x ∈ xs, 0 ≤ x ∧ x < 4294967296
def valL : List Int → Int
  | [] => 0
  | x :: xs => x + 4294967296 * valL xs

theorem lim_length (xs : List Int) : (lm xs).length = xs.length := by simp [lm]
theorem lim_get {xs : List Int} {i : Nat} (h : i < xs.length) : (lm xs)[i]? = some (.int .u32 (xs.getD i 0)) := by
  simp [lm, List.getElem?_map, List.getElem?_eq_getElem h, List.getD_eq_getElem?_getD]
theorem take_lim {xs : List Int} {i : Nat} (h : i < xs.length) : takeA (List.drop (i * 1) (lm xs)) 0 1 true = some (.int .u32 (xs.getD i 0)) := by
  simp only [takeA, if_true, Nat.mul_one, List.getElem?_drop, Nat.add_zero]
  exact lim_get h
theorem own_lim {xs : List Int} {i : Nat} (h : i < xs.length) : takeA (lm xs) (i * 1) 1 true = some (.int .u32 (xs.getD i 0)) := by
  simp only [takeA, if_true, Nat.mul_one]
  exact lim_get h
theorem lay_lim {xs : List Int} {i : Nat} {v : Int} (h : i < xs.length) : layA (lm xs) (i * 1) [.int .u32 v] = some (lm (xs.set i v)) := by
  unfold layA
  rw [if_pos (by simp [lim_length]; omega)]
  congr 1
  simp only [lm, List.map_set, Nat.mul_one, List.length_singleton]
  rw [List.set_eq_take_append_cons_drop, if_pos (by simpa using h)]
  simp
theorem repl_lim (n : Nat) : replA [.int .u32 0] n = lm (List.replicate n 0) := by
  induction n with
  | zero => rfl
  | succ n ih => simp only [replA, ih, lm, List.replicate_succ, List.map_cons]; rfl

theorem getD_u32 {xs : List Int} (h : U32 xs) (i : Nat) : 0 ≤ xs.getD i 0 ∧ xs.getD i 0 < 4294967296 := by
  rw [List.getD_eq_getElem?_getD]
  cases hx : xs[i]? with
  | none => simp
  | some x => exact h x (List.mem_of_getElem? hx)

theorem valL_nonneg {xs : List Int} (h : U32 xs) : 0 ≤ valL xs := by
  induction xs with
  | nil => exact Int.le_refl _
  | cons x xs ih =>
    have h1 := h x List.mem_cons_self
    have h2 := ih fun y hy => h y (List.mem_cons_of_mem _ hy)
    simp only [valL]
    omega
theorem valL_append (xs ys : List Int) : valL (xs ++ ys) = valL xs + 4294967296 ^ xs.length * valL ys := by
  induction xs with
  | nil => simp [valL]
  | cons x xs ih =>
    simp only [List.cons_append, valL, ih, List.length_cons, Int.pow_succ]
    rw [Int.mul_add, ← Int.add_assoc]
    congr 1
    rw [← Int.mul_assoc, Int.mul_comm 4294967296 (4294967296 ^ xs.length)]
theorem valL_zeros (n : Nat) : valL (List.replicate n 0) = 0 := by
  induction n with
  | zero => rfl
  | succ n ih => simp [List.replicate_succ, valL, ih]
theorem valL_lt {xs : List Int} (h : U32 xs) : valL xs < 4294967296 ^ xs.length := by
  induction xs with
  | nil => simp [valL]
  | cons x xs ih =>
    have h1 := h x List.mem_cons_self
    have h2 := ih fun y hy => h y (List.mem_cons_of_mem _ hy)
    simp only [valL, List.length_cons, Int.pow_succ]
    omega
theorem valL_set (xs : List Int) (i : Nat) (v : Int) (h : i < xs.length) : valL (xs.set i v) = valL xs + 4294967296 ^ i * (v - xs.getD i 0) := by
  induction xs generalizing i with
  | nil => simp at h
  | cons x xs ih =>
    cases i with
    | zero => simp only [List.set_cons_zero, valL, Int.pow_zero, List.getD_cons_zero]; omega
    | succ i =>
      simp only [List.set_cons_succ, valL, List.getD_cons_succ]
      rw [ih i (by simpa using h), Int.pow_succ, Int.mul_add, ← Int.mul_assoc, Int.mul_comm 4294967296 (4294967296 ^ i)]
      omega
theorem u32_set {xs : List Int} (h : U32 xs) {i : Nat} {v : Int} (hv : 0 ≤ v ∧ v < 4294967296) : U32 (xs.set i v) := by
  intro x hx
  rcases List.mem_or_eq_of_mem_set hx with h1 | h1
  · exact h x h1
  · rw [h1]; exact hv

/-- The number of limbs up to the last one that is not zero, among the first n. -/
def topN (xs : List Int) : Nat → Nat
  | 0 => 0
  | n + 1 => if xs.getD n 0 = 0 then topN xs n else n + 1
def trimL (xs : List Int) : List Int := xs.take (topN xs xs.length)

theorem topN_le (xs : List Int) (n : Nat) : topN xs n ≤ n := by
  induction n with
  | zero => exact Nat.le_refl _
  | succ n ih => simp only [topN]; split <;> omega
theorem topN_top (xs : List Int) (n : Nat) : topN xs n = 0 ∨ xs.getD (topN xs n - 1) 0 ≠ 0 := by
  induction n with
  | zero => exact .inl rfl
  | succ n ih =>
    simp only [topN]
    split
    · exact ih
    · exact .inr (by simpa)
theorem topN_zero (xs : List Int) (n : Nat) : ∀ i, topN xs n ≤ i → i < n → xs.getD i 0 = 0 := by
  induction n with
  | zero => intro i _ h; omega
  | succ n ih =>
    intro i h1 h2
    simp only [topN] at h1
    split at h1
    · rename_i h0
      by_cases hi : i = n
      · subst hi; exact h0
      · exact ih i h1 (by omega)
    · omega

/-- Limbs without zeros at the end. -/
def Canon (xs : List Int) : Prop := U32 xs ∧ (xs = [] ∨ xs.getD (xs.length - 1) 0 ≠ 0)

theorem trimL_canon {xs : List Int} (h : U32 xs) : Canon (trimL xs) := by
  have hl := topN_le xs xs.length
  have hlen : (trimL xs).length = topN xs xs.length := by simp [trimL]; omega
  refine ⟨fun x hx => h x (List.mem_of_mem_take hx), ?_⟩
  by_cases hz : topN xs xs.length = 0
  · left; simp [trimL, hz]
  · right
    have h0 := (topN_top xs xs.length).resolve_left hz
    rw [hlen, List.getD_eq_getElem?_getD, trimL, List.getElem?_take_of_lt (by omega), ← List.getD_eq_getElem?_getD]
    exact h0

theorem valL_zero_tail {xs : List Int} (h : ∀ i, i < xs.length → xs.getD i 0 = 0) : valL xs = 0 := by
  induction xs with
  | nil => rfl
  | cons x xs ih =>
    have h0 := h 0 (by simp)
    simp only [List.getD_cons_zero] at h0
    subst h0
    simp only [valL]
    rw [ih fun i hi => by simpa using h (i + 1) (by simpa using hi)]
    rfl

theorem trimL_val (xs : List Int) : valL (trimL xs) = valL xs := by
  have e : valL xs = valL (xs.take (topN xs xs.length) ++ xs.drop (topN xs xs.length)) := by rw [List.take_append_drop]
  rw [e, valL_append]
  have : valL (xs.drop (topN xs xs.length)) = 0 := by
    apply valL_zero_tail
    intro i hi
    have hi' : topN xs xs.length + i < xs.length := by simp at hi; omega
    have := topN_zero xs xs.length (topN xs xs.length + i) (by omega) hi'
    rw [List.getD_eq_getElem?_getD, List.getElem?_drop, ← List.getD_eq_getElem?_getD]
    exact this
  rw [this, Int.mul_zero, Int.add_zero]
  rfl

theorem canon_tail {x : Int} {xs : List Int} (h : Canon (x :: xs)) : Canon xs := by
  refine ⟨fun y hy => h.1 y (List.mem_cons_of_mem _ hy), ?_⟩
  cases xs with
  | nil => exact .inl rfl
  | cons y ys =>
    right
    rcases h.2 with h0 | h0
    · cases h0
    · simpa using h0
theorem canon_pos : ∀ {xs : List Int}, Canon xs → xs ≠ [] → 0 < valL xs
  | [], _, h => absurd rfl h
  | [x], h, _ => by
    have h1 := h.1 x List.mem_cons_self
    rcases h.2 with h0 | h0
    · cases h0
    · simp only [List.length_singleton, Nat.sub_self, List.getD_cons_zero] at h0
      simp only [valL]; omega
  | x :: y :: ys, h, _ => by
    have h1 := h.1 x List.mem_cons_self
    have h2 := canon_pos (canon_tail h) (by simp)
    simp only [valL] at h2 ⊢
    omega

theorem canon_eq : ∀ {xs ys : List Int}, Canon xs → Canon ys → valL xs = valL ys → xs = ys
  | [], [], _, _, _ => rfl
  | [], y :: ys, _, h2, h => by
    have := canon_pos h2 (by simp)
    rw [← h] at this
    simp [valL] at this
  | x :: xs, [], h1, _, h => by
    have := canon_pos h1 (by simp)
    rw [h] at this
    simp [valL] at this
  | x :: xs, y :: ys, h1, h2, h => by
    have a1 := h1.1 x List.mem_cons_self
    have a2 := h2.1 y List.mem_cons_self
    simp only [valL] at h
    have e1 : x = y := by omega
    have e2 : valL xs = valL ys := by omega
    rw [e1, canon_eq (canon_tail h1) (canon_tail h2) e2]

def limbsN : Nat → Nat → List Int
  | 0, _ => []
  | f + 1, n => if n = 0 then [] else ((n % 4294967296 : Nat) : Int) :: limbsN f (n / 4294967296)
/-- The limbs of a number. -/
def limbs (n : Nat) : List Int := limbsN (n + 1) n

theorem limbsN_ok : ∀ (f n : Nat), n < f → Canon (limbsN f n) ∧ valL (limbsN f n) = n ∧ (limbsN f n = [] ↔ n = 0) := by
  intro f
  induction f with
  | zero => intro n h; omega
  | succ f ih =>
    intro n h
    simp only [limbsN]
    by_cases h0 : n = 0
    · subst h0
      simp [valL, Canon, U32]
    · rw [if_neg h0]
      obtain ⟨c1, c2, c3⟩ := ih (n / 4294967296) (by omega)
      have hm := Nat.mod_lt n (show 0 < 4294967296 by omega)
      refine ⟨⟨?_, ?_⟩, ?_, by simp [h0]⟩
      · intro x hx
        rcases List.mem_cons.1 hx with rfl | hx
        · omega
        · exact c1.1 x hx
      · right
        cases hl : limbsN f (n / 4294967296) with
        | nil =>
          have := c3.1 hl
          simp
          omega
        | cons y ys =>
          rcases c1.2 with h1 | h1
          · rw [hl] at h1; cases h1
          · rw [hl] at h1
            simpa using h1
      · simp only [valL, c2]
        omega

theorem limbs_canon (n : Nat) : Canon (limbs n) := (limbsN_ok _ n (by omega)).1
theorem limbs_val (n : Nat) : valL (limbs n) = n := (limbsN_ok _ n (by omega)).2.1
theorem limbs_nil (n : Nat) : limbs n = [] ↔ n = 0 := (limbsN_ok _ n (by omega)).2.2

/-- Limbs, trimmed, are those of their number. -/
theorem trimL_eq {xs : List Int} (h : U32 xs) : trimL xs = limbs (valL xs).toNat := by
  apply canon_eq (trimL_canon h) (limbs_canon _)
  rw [trimL_val, limbs_val]
  have := valL_nonneg h
  omega

/-- An integer in canonical form. -/
def bigAV (n : Int) : AV := .agg [.bool (decide (n < 0)), .sl (limbs n.natAbs).length (lm (limbs n.natAbs))]

/-- As what a call gives: its cells belong to the caller. -/
def bigF (n : Int) : AV := .frs (.st (decide (n < 0))) 1 (limbs n.natAbs).length (lm (limbs n.natAbs))

theorem pow32_pos (n : Nat) : (0 : Int) < 4294967296 ^ n := Int.pow_pos (by decide)
theorem canon_ge : ∀ {xs : List Int}, Canon xs → xs ≠ [] → (4294967296 : Int) ^ (xs.length - 1) ≤ valL xs
  | [], _, h => absurd rfl h
  | [x], h, _ => by
    have := canon_pos h (by simp)
    simp only [List.length_singleton, Nat.sub_self, Int.pow_zero]
    omega
  | x :: y :: ys, h, _ => by
    have h1 := h.1 x List.mem_cons_self
    have h2 := canon_ge (canon_tail h) (by simp)
    simp only [List.length_cons, Nat.add_sub_cancel] at h2 ⊢
    rw [Int.pow_succ]
    show _ ≤ x + 4294967296 * valL (y :: ys)
    omega
theorem pow32_mono {a b : Nat} (h : a ≤ b) : (4294967296 : Int) ^ a ≤ 4294967296 ^ b := by
  induction b with
  | zero => have : a = 0 := by omega
            subst this; exact Int.le_refl _
  | succ b ih =>
    by_cases hh : a = b + 1
    · subst hh; exact Int.le_refl _
    · have := ih (by omega)
      have hp := pow32_pos b
      rw [Int.pow_succ]; omega
theorem canon_len {xs : List Int} (h : Canon xs) {k : Nat} (hv : valL xs < 4294967296 ^ k) : xs.length ≤ k := by
  by_cases hn : xs = []
  · subst hn; simp
  · have h1 := canon_ge h hn
    rcases Nat.lt_or_ge k xs.length with h2 | h2
    · have := pow32_mono (show k ≤ xs.length - 1 by omega)
      omega
    · exact h2
theorem limbs_len {n k : Nat} (h : (n : Int) < 4294967296 ^ k) : (limbs n).length ≤ k := canon_len (limbs_canon n) (by rw [limbs_val]; exact h)

/-- n has at most k limbs. -/
def Fits (k : Nat) (n : Int) : Prop := n.natAbs < 4294967296 ^ k
theorem Fits.len {k : Nat} {n : Int} (h : Fits k n) : (limbs n.natAbs).length ≤ k := by
  apply limbs_len
  have h1 : ((n.natAbs : Nat) : Int) < ((4294967296 ^ k : Nat) : Int) := Int.ofNat_lt.mpr h
  rwa [Int.natCast_pow] at h1
theorem Fits.mono {j k : Nat} {n : Int} (h : Fits j n) (hk : j ≤ k) : Fits k n := Nat.lt_of_lt_of_le h (Nat.pow_le_pow_right (by decide) hk)
theorem Fits.mul {j k : Nat} {a b : Int} (ha : Fits j a) (hb : Fits k b) : Fits (j + k) (a * b) := by
  unfold Fits at *
  rw [Int.natAbs_mul, Nat.pow_add]
  exact Nat.mul_lt_mul'' ha hb
theorem Fits.add {j : Nat} {a b : Int} (ha : Fits j a) (hb : Fits j b) : Fits (j + 1) (a + b) := by
  unfold Fits at *
  rw [Nat.pow_succ]
  have := Int.natAbs_add_le a b
  omega
theorem Fits.neg {j : Nat} {a : Int} (ha : Fits j a) : Fits j (-a) := by
  unfold Fits at *
  rwa [Int.natAbs_neg]
theorem fits_i64 {n : Int} (h : -9223372036854775808 ≤ n ∧ n ≤ 9223372036854775807) : Fits 2 n := by
  unfold Fits
  have : (4294967296 : Nat) ^ 2 = 18446744073709551616 := by decide
  omega

/-- The value of a sign and limbs. -/
def rv (neg : Bool) (xs : List Int) : Int := if neg then -valL xs else valL xs
theorem rv_abs {neg : Bool} {xs : List Int} (hu : U32 xs) : (rv neg xs).natAbs = (valL xs).toNat := by
  have := valL_nonneg hu
  unfold rv
  cases neg <;> simp <;> omega
theorem trimL_rv {neg : Bool} {xs : List Int} (hu : U32 xs) : trimL xs = limbs (rv neg xs).natAbs := by
  rw [rv_abs hu, trimL_eq hu]
theorem rv_big (n : Int) : rv (decide (n < 0)) (limbs n.natAbs) = n := by
  unfold rv
  rw [limbs_val]
  by_cases h : n < 0 <;> simp [h] <;> omega
theorem limbs_zero_len (n : Nat) : (limbs n).length = 0 ↔ n = 0 := by rw [List.length_eq_zero_iff, limbs_nil]
theorem neg_rv {neg : Bool} {xs : List Int} (hu : U32 xs) : (neg && decide (0 < (limbs (rv neg xs).natAbs).length)) = decide (rv neg xs < 0) := by
  have h1 := limbs_zero_len (rv neg xs).natAbs
  have h2 := valL_nonneg hu
  have h3 := rv_abs (neg := neg) hu
  unfold rv at *
  cases neg
  · simp; omega
  · simp only [Bool.true_and, if_true] at *
    rw [decide_eq_decide]
    omega
theorem trim_len (xs : List Int) : (trimL xs).length ≤ xs.length := by simp [trimL]; omega
theorem rv_len {neg : Bool} {xs : List Int} (hu : U32 xs) : (limbs (rv neg xs).natAbs).length ≤ xs.length := by rw [← trimL_rv hu]; exact trim_len xs
theorem rv_fits {neg : Bool} {xs : List Int} (hu : U32 xs) : Fits xs.length (rv neg xs) := by
  unfold Fits
  rw [rv_abs hu]
  have h1 := valL_nonneg hu
  have h2 := valL_lt hu
  have h3 : ((4294967296 ^ xs.length : Nat) : Int) = (4294967296 : Int) ^ xs.length := by rw [Int.natCast_pow]; rfl
  omega
theorem big_u32 (n : Nat) : U32 (limbs n) := (limbs_canon n).1
end Go.Ai
