/- Polynomials are what they are at all numbers; products. -/
import Derived.Test.YthnnfemologhfaaWalk
namespace Go.Ai

theorem peval_set (xs : List Int) (i : Nat) (v x : Int) (h : i < xs.length) : peval (xs.set i v) x = peval xs x + x ^ i * (v - xs.getD i 0) := by
  induction xs generalizing i with
  | nil => simp at h
  | cons p ps ih =>
    cases i with
    | zero => simp only [List.set_cons_zero, peval, Int.pow_zero, List.getD_cons_zero]; omega
    | succ i =>
      simp only [List.set_cons_succ, peval, List.getD_cons_succ]
      rw [ih i (by simpa using h), Int.pow_succ]
      generalize x ^ i = q
      generalize peval ps x = y
      generalize ps.getD i 0 = z
      grind
theorem peval_zeros (n : Nat) (x : Int) : peval (List.replicate n 0) x = 0 := by
  induction n with
  | zero => rfl
  | succ n ih => simp [List.replicate_succ, peval, ih]

/-- What is zero at all great numbers has no coefficient but zero. -/
theorem pzero : ∀ (d : List Int) (b : Int), (∀ x, b ≤ x → peval d x = 0) → ∀ i, d.getD i 0 = 0
  | [], _, _, i => by simp
  | c :: d, b, h, i => by
    have hc : c = 0 := by
      have h1 := h (max b (c.natAbs + 1)) (by omega)
      simp only [peval] at h1
      have h2 : (max b ((c.natAbs : Int) + 1)) ∣ c := ⟨-(peval d (max b ((c.natAbs : Int) + 1))), by rw [Int.mul_neg]; omega⟩
      rcases Int.lt_trichotomy c 0 with g | g | g
      · have := Int.le_of_dvd (a := max b ((c.natAbs : Int) + 1)) (b := -c) (by omega) ((Int.dvd_neg).2 h2)
        omega
      · exact g
      · have := Int.le_of_dvd (a := max b ((c.natAbs : Int) + 1)) (b := c) (by omega) h2
        omega
    cases i with
    | zero => simpa using hc
    | succ i =>
      have := pzero d (max b 1) (fun x hx => by
        have h1 := h x (by omega)
        simp only [peval, hc, Int.zero_add] at h1
        rcases Int.mul_eq_zero.1 h1 with g | g
        · omega
        · exact g) i
      simpa using this
theorem peval_inj' {p q : List Int} (h : ∀ x, peval p x = peval q x) (i : Nat) : p.getD i 0 = q.getD i 0 := by
  have := pzero (padd p (pneg q)) 0 (fun x _ => by rw [peval_padd, peval_pneg, h x]; omega) i
  rw [getD_padd, getD_pneg] at this
  omega
theorem peval_inj {p q : List Int} (h : ∀ x, peval p x = peval q x) : trimL p = trimL q := trim_ext (peval_inj' h)

def psub (p q : List Int) : List Int := padd p (pneg q)
theorem peval_psub (p q : List Int) (x : Int) : peval (psub p q) x = peval p x - peval q x := by rw [psub, peval_padd, peval_pneg]; omega
theorem getD_psub (p q : List Int) (i : Nat) : (psub p q).getD i 0 = p.getD i 0 - q.getD i 0 := by rw [psub, getD_padd, getD_pneg]; omega
def psmul (a : Int) (q : List Int) : List Int := q.map fun x => a * x
theorem peval_psmul (a : Int) (q : List Int) (x : Int) : peval (psmul a q) x = a * peval q x := by
  induction q with
  | nil => simp [psmul, peval]
  | cons c q ih =>
    have : psmul a (c :: q) = a * c :: psmul a q := rfl
    rw [this]
    simp only [peval, ih]
    generalize peval q x = y
    grind
theorem getD_psmul (a : Int) (q : List Int) (i : Nat) : (psmul a q).getD i 0 = a * q.getD i 0 := by
  unfold psmul
  simp only [List.getD_eq_getElem?_getD, List.getElem?_map]
  cases q[i]? <;> simp
def pmul : List Int → List Int → List Int
  | [], _ => []
  | a :: p, q => padd (psmul a q) (0 :: pmul p q)
theorem peval_pmul (p q : List Int) (x : Int) : peval (pmul p q) x = peval p x * peval q x := by
  induction p with
  | nil => simp [pmul, peval]
  | cons a p ih =>
    simp only [pmul, peval_padd, peval_psmul, peval, ih]
    generalize peval q x = y
    generalize peval p x = z
    grind
theorem pmul_trim (p q : List Int) : trimL (pmul p q) = pmul p q := by
  cases p with
  | nil => rfl
  | cons a p => exact padd_trim _ _

/-! ### Sizes -/
theorem fits_mem_padd {k : Nat} {p q : List Int} (hp : ∀ x ∈ p, Fits k x) (hq : ∀ x ∈ q, Fits k x) : ∀ x ∈ padd p q, Fits (k + 1) x := by
  intro x hx
  have h1 := mem_trim hx
  obtain ⟨i, _, rfl⟩ := List.mem_map.1 h1
  exact (fits_getD hp i).add (fits_getD hq i)
theorem fits_mem_pneg {k : Nat} {p : List Int} (hp : ∀ x ∈ p, Fits k x) : ∀ x ∈ pneg p, Fits k x := by
  intro x hx
  obtain ⟨y, hy, rfl⟩ := List.mem_map.1 hx
  exact (hp y hy).neg
theorem fits_mem_psub {k : Nat} {p q : List Int} (hp : ∀ x ∈ p, Fits k x) (hq : ∀ x ∈ q, Fits k x) : ∀ x ∈ psub p q, Fits (k + 1) x := fits_mem_padd hp (fits_mem_pneg hq)
theorem fits_mem_trim {k : Nat} {p : List Int} (hp : ∀ x ∈ p, Fits k x) : ∀ x ∈ trimL p, Fits k x := fun x hx => hp x (mem_trim hx)
theorem fits_mem_pmul {j k : Nat} {p q : List Int} (hp : ∀ x ∈ p, Fits j x) (hq : ∀ x ∈ q, Fits k x) : ∀ x ∈ pmul p q, Fits (j + k + p.length) x := by
  induction p with
  | nil => intro x hx; cases hx
  | cons a p ih =>
    intro x hx
    have h1 : ∀ y ∈ psmul a q, Fits (j + k + p.length) y := by
      intro y hy
      obtain ⟨z, hz, rfl⟩ := List.mem_map.1 hy
      exact ((hp a List.mem_cons_self).mul (hq z hz)).mono (by omega)
    have h2 : ∀ y ∈ (0 :: pmul p q), Fits (j + k + p.length) y := by
      intro y hy
      rcases List.mem_cons.1 hy with rfl | hy
      · exact fits_zero _
      · exact ih (fun z hz => hp z (List.mem_cons_of_mem _ hz)) y hy
    exact (fits_mem_padd h1 h2 x hx).mono (by simp; omega)
theorem padd_len (p q : List Int) : (padd p q).length ≤ max p.length q.length := by
  have := trim_len ((List.range (max p.length q.length)).map fun i => p.getD i 0 + q.getD i 0)
  simpa [padd] using this
theorem pmul_len (p q : List Int) : (pmul p q).length ≤ p.length + q.length := by
  induction p with
  | nil => simp [pmul]
  | cons a p ih =>
    have := padd_len (psmul a q) (0 :: pmul p q)
    have h2 : (psmul a q).length = q.length := by simp [psmul]
    simp only [pmul, List.length_cons] at this ⊢
    omega
theorem pneg_len (p : List Int) : (pneg p).length = p.length := by simp [pneg]
theorem psub_len (p q : List Int) : (psub p q).length ≤ max p.length q.length := by
  have := padd_len p (pneg q)
  rwa [pneg_len] at this

/-! ### Products, as the loops make them -/
theorem peval_take_succ (xs : List Int) (j : Nat) (x : Int) : peval (xs.take (j + 1)) x = peval (xs.take j) x + x ^ j * xs.getD j 0 := by
  induction xs generalizing j with
  | nil => simp [peval]
  | cons p ps ih =>
    cases j with
    | zero => simp [peval]
    | succ j =>
      simp only [List.take_succ_cons, peval, List.getD_cons_succ, ih j, Int.pow_succ]
      generalize x ^ j = q
      generalize peval (ps.take j) x = y
      generalize ps.getD j 0 = z
      grind
def tIn (rs ss os : List Rn) (i : Nat) : Nat → List Rn
  | 0 => os
  | j + 1 => (tIn rs ss os i j).set (i + j) (cn (rval ((tIn rs ss os i j).getD (i + j) z0) + rval (rs.getD i z0) * rval (ss.getD j z0)))
def tOut (rs ss os : List Rn) (m : Nat) : Nat → List Rn
  | 0 => os
  | i + 1 => tIn rs ss (tOut rs ss os m i) i m
theorem tIn_length (rs ss os : List Rn) (i j : Nat) : (tIn rs ss os i j).length = os.length := by
  induction j with
  | zero => rfl
  | succ j ih => simp only [tIn, List.length_set, ih]
theorem tOut_length (rs ss os : List Rn) (m i : Nat) : (tOut rs ss os m i).length = os.length := by
  induction i with
  | zero => rfl
  | succ i ih => rw [tOut, tIn_length, ih]
theorem tIn_far (rs ss os : List Rn) (i j t : Nat) (h : i + j ≤ t) : (tIn rs ss os i j).getD t z0 = os.getD t z0 := by
  induction j with
  | zero => rfl
  | succ j ih =>
    rw [tIn, List.getD_eq_getElem?_getD, List.getElem?_set_ne (by omega), ← List.getD_eq_getElem?_getD]
    exact ih (by omega)
theorem tIn_good {K B : Nat} {rs ss os : List Rn} (hr : ∀ r ∈ rs, Good K r) (hs : ∀ r ∈ ss, Good K r) (ho : ∀ r ∈ os, Good B r) (hB : 2 * K ≤ B) (i j : Nat) : ∀ r ∈ tIn rs ss os i j, Good (B + 1) r := by
  induction j with
  | zero => exact fun r h => (ho r h).mono (by omega)
  | succ j ih =>
    rw [tIn]
    refine good_set ih ?_
    rw [tIn_far _ _ _ _ _ _ (Nat.le_refl _)]
    exact good_cn ((good_getD ho _).fits.add (((good_getD hr i).fits.mul (good_getD hs j).fits).mono (by omega)))
theorem tOut_good {K : Nat} {rs ss os : List Rn} (hr : ∀ r ∈ rs, Good K r) (hs : ∀ r ∈ ss, Good K r) (ho : ∀ r ∈ os, Good (2 * K) r) (m i : Nat) : ∀ r ∈ tOut rs ss os m i, Good (2 * K + i) r := by
  induction i with
  | zero => exact ho
  | succ i ih => exact tIn_good hr hs ih (by omega) i m
theorem tIn_eval (rs ss os : List Rn) (i : Nat) (x : Int) : ∀ j, i + j ≤ os.length → peval (vals (tIn rs ss os i j)) x = peval (vals os) x + x ^ i * (rval (rs.getD i z0) * peval ((vals ss).take j) x) := by
  intro j
  induction j with
  | zero => intro _; simp [tIn, peval]
  | succ j ih =>
    intro h
    have h1 := ih (by omega)
    rw [tIn, vals_set, peval_set _ _ _ _ (by rw [vals_length, tIn_length]; omega), h1, rval_cn, vals_getD, peval_take_succ, vals_getD, Int.pow_add]
    generalize x ^ i = p
    generalize x ^ j = q
    generalize peval ((vals ss).take j) x = y
    grind
theorem tOut_eval (rs ss : List Rn) (m n : Nat) (x : Int) : ∀ i, i + m ≤ n + 1 → peval (vals (tOut rs ss (List.replicate n z0) m i)) x = peval ((vals rs).take i) x * peval ((vals ss).take m) x := by
  intro i
  induction i with
  | zero => intro _; simp [tOut, vals_zeros, peval_zeros, peval]
  | succ i ih =>
    intro h
    rw [tOut, tIn_eval _ _ _ _ _ _ (by rw [tOut_length]; simp; omega), ih (by omega), peval_take_succ, vals_getD]
    generalize x ^ i = p
    grind
theorem tOut_mul (rs ss : List Rn) (a b n : Nat) (ha : a = topN (vals rs) rs.length) (hb : b = topN (vals ss) ss.length) (hn : a + b ≤ n + 1) : trimL (vals (tOut rs ss (List.replicate n z0) b a)) = pmul (vals rs) (vals ss) := by
  rw [← pmul_trim]
  apply peval_inj
  intro x
  rw [tOut_eval _ _ _ _ _ _ hn, peval_pmul]
  have h1 : (vals rs).take a = trimL (vals rs) := by rw [trimL, vals_length, ha]
  have h2 : (vals ss).take b = trimL (vals ss) := by rw [trimL, vals_length, hb]
  rw [h1, h2, peval_trim, peval_trim]
theorem pmul_zero_left {p q : List Int} (h : topN p p.length = 0) : pmul p q = [] := by
  have h1 : trimL p = [] := by rw [trimL, h]; rfl
  rw [← pmul_trim]
  have : trimL (pmul p q) = trimL [] := peval_inj fun x => by
    rw [peval_pmul, ← peval_trim p, h1]; simp [peval]
  rw [this]; rfl
theorem pmul_zero_right {p q : List Int} (h : topN q q.length = 0) : pmul p q = [] := by
  have h1 : trimL q = [] := by rw [trimL, h]; rfl
  rw [← pmul_trim]
  have : trimL (pmul p q) = trimL [] := peval_inj fun x => by
    rw [peval_pmul, ← peval_trim q, h1]; simp [peval]
  rw [this]; rfl

/-! ### Values at fractions: the numerator -/
def hv : List Int → Int → Int → Int
  | [], _, _ => 0
  | t :: ts, x, d => t * d ^ ts.length + x * hv ts x d
theorem hv_one (ts : List Int) (x : Int) : hv ts x 1 = peval ts x := by
  induction ts with
  | nil => rfl
  | cons t ts ih =>
    have h1 : ∀ n : Nat, (1 : Int) ^ n = 1 := fun n => by induction n with
      | zero => rfl
      | succ n ih => rw [Int.pow_succ, ih]; rfl
    simp only [hv, peval, ih, h1, Int.mul_one]
end Go.Ai
