/- One digit of a long division with words of 32 bits: the guess out of the leading words, put right at most twice, is the quotient. -/
import Derived.KernelRfl
namespace Go.Knuth

theorem lt_cancel {n x y : Int} (hn : 0 < n) (h : n * x < n * y) : x < y := Int.lt_of_mul_lt_mul_left h (Int.le_of_lt hn)

/-- What holds before each turn of the loop that puts the guess right: 'u' the rest so far, 'u1' the next word, 'y1', 'y0' the divisor's words. -/
structure Inv (u u1 y1 y0 q r : Int) : Prop where
  eq : q * y1 + r = u
  r0 : 0 ≤ r
  r1 : r < 4294967296
  low : (u * 4294967296 + u1) / (y1 * 4294967296 + y0) ≤ q
  high : q ≤ 4294967297

structure Dom (u u1 y1 y0 : Int) : Prop where
  a : 2147483648 ≤ y1
  b : y1 < 4294967296
  c : 0 ≤ y0
  d : y0 < 4294967296
  e : 0 ≤ u
  f : u < y1 * 4294967296 + y0
  g : 0 ≤ u1
  h : u1 < 4294967296

variable {u u1 y1 y0 q r : Int}

theorem Dom.small (h : Dom u u1 y1 y0) : (u * 4294967296 + u1) / (y1 * 4294967296 + y0) < 4294967296 := by
  have := h.a; have := h.c; have := h.f; have := h.h
  apply Int.ediv_lt_of_lt_mul (by omega)
  have := Int.mul_le_mul_of_nonneg_left (show u + 1 ≤ y1 * 4294967296 + y0 by omega) (show (0 : Int) ≤ 4294967296 by omega)
  omega

theorem expand (h : q * y1 + r = u) : q * (y1 * 4294967296 + y0) = (u - r) * 4294967296 + q * y0 := by
  subst h; grind

theorem le_div_iff (h : Dom u u1 y1 y0) : q ≤ (u * 4294967296 + u1) / (y1 * 4294967296 + y0) ↔ q * (y1 * 4294967296 + y0) ≤ u * 4294967296 + u1 := by
  have := h.a; have := h.c
  exact Int.le_ediv_iff_mul_le (by omega)

/-- The loop's condition says whether the guess is too great. -/
theorem cond_iff (h : Dom u u1 y1 y0) (i : Inv u u1 y1 y0 q r) :
    (4294967296 ≤ q ∨ 4294967296 * r + u1 < q * y0) ↔ (u * 4294967296 + u1) / (y1 * 4294967296 + y0) < q := by
  have hs := h.small
  have he := expand (y0 := y0) i.eq
  have hle := le_div_iff (q := q) h
  constructor
  · rintro (g | g)
    · omega
    · apply Int.lt_of_not_ge
      intro k
      have := hle.1 k
      omega
  · intro g
    by_cases k : 4294967296 ≤ q
    · exact Or.inl k
    · right
      apply Int.lt_of_not_ge
      intro k2
      have := hle.2 (by omega)
      omega

theorem Inv.start (h : Dom u u1 y1 y0) : Inv u u1 y1 y0 (u / y1) (u % y1) := by
  have ha := h.a; have hb := h.b; have hc := h.c; have hd := h.d; have he := h.e; have hf := h.f; have hg := h.g; have hh := h.h
  refine ⟨?_, Int.emod_nonneg _ (by omega), ?_, ?_, ?_⟩
  · rw [Int.mul_comm]; exact Int.mul_ediv_add_emod u y1
  · have := Int.emod_lt_of_pos u (show 0 < y1 by omega); omega
  · apply Int.le_ediv_of_mul_le (by omega)
    generalize hQ : (u * 4294967296 + u1) / (y1 * 4294967296 + y0) = Q
    have h1 : Q * (y1 * 4294967296 + y0) ≤ u * 4294967296 + u1 := by
      rw [← hQ]; exact Int.ediv_mul_le _ (by omega)
    have hQ0 : 0 ≤ Q := by rw [← hQ]; exact Int.ediv_nonneg (by omega) (by omega)
    have h2 : 0 ≤ Q * y0 := Int.mul_nonneg hQ0 hc
    have h3 : Q * (y1 * 4294967296 + y0) = (Q * y1) * 4294967296 + Q * y0 := by grind
    omega
  · have : u / y1 < 4294967298 := by
      apply Int.ediv_lt_of_lt_mul (by omega)
      omega
    omega

theorem Inv.next (h : Dom u u1 y1 y0) (i : Inv u u1 y1 y0 q r) (c : (u * 4294967296 + u1) / (y1 * 4294967296 + y0) < q) (hr : r + y1 < 4294967296) : Inv u u1 y1 y0 (q - 1) (r + y1) := by
  have ha := h.a
  refine ⟨?_, ?_, hr, by omega, ?_⟩
  · have := i.eq
    have e : (q - 1) * y1 = q * y1 - y1 := by grind
    omega
  · have := i.r0; omega
  · have := i.high; omega

theorem Inv.last (h : Dom u u1 y1 y0) (i : Inv u u1 y1 y0 q r) (c : (u * 4294967296 + u1) / (y1 * 4294967296 + y0) < q) (hr : 4294967296 ≤ r + y1) :
    q - 1 = (u * 4294967296 + u1) / (y1 * 4294967296 + y0) := by
  have ha := h.a; have hc := h.c; have hd := h.d; have hg := h.g
  have hle := (le_div_iff (q := q - 1) h).2 (by
    have e1 : (q - 1) * y1 + (r + y1) = u := by
      have := i.eq
      have e : (q - 1) * y1 = q * y1 - y1 := by grind
      omega
    rw [expand (y0 := y0) e1]
    have hq := i.high
    have h1 : (q - 1) * y0 ≤ 4294967296 * y0 := Int.mul_le_mul_of_nonneg_right (by omega) hc
    omega)
  omega

theorem Inv.done (h : Dom u u1 y1 y0) (i : Inv u u1 y1 y0 q r) (c : ¬ (u * 4294967296 + u1) / (y1 * 4294967296 + y0) < q) : q = (u * 4294967296 + u1) / (y1 * 4294967296 + y0) := by
  have := i.low; have := h.a; omega

end Go.Knuth
