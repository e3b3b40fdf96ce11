/- Texts of the proof of PolyCommon, packed by pack.py: part 13 of 17. -/
import Derived.Test.YthnnfemologhfaaPcm12
namespace Go.Ai
def Dv (g t : List Int) : Prop := ∃ (c : Int) (k : List Int), c ≠ 0 ∧ ∀ x, c * peval t x = peval g x * peval k x
theorem Dv.refl (g : List Int) : Dv g g := ⟨1, [1], by decide, fun x => by simp [peval]⟩
theorem Dv.zero (g : List Int) : Dv g [] := ⟨1, [], by decide, fun x => by simp [peval]⟩
theorem Dv.trans {a b c : List Int} (h1 : Dv a b) (h2 : Dv b c) : Dv a c := by
  obtain ⟨m, k, hm, h⟩ := h1
  obtain ⟨n, l, hn, g⟩ := h2
  refine ⟨m * n, pmul k l, Int.mul_ne_zero hm hn, fun x => ?_⟩
  have h' := h x; have g' := g x
  rw [peval_pmul, Int.mul_assoc, g']
  rw [← Int.mul_assoc, h']
  grind
theorem Dv.comb {g s t r : List Int} {m : Int} (u v : List Int) (hm : m ≠ 0) (h1 : Dv g s) (h2 : Dv g t) (h : ∀ x, m * peval r x = peval u x * peval s x + peval v x * peval t x) : Dv g r := by
  obtain ⟨c, k, hc, hk⟩ := h1
  obtain ⟨d, l, hd, hl⟩ := h2
  refine ⟨c * d * m, padd (psmul d (pmul u k)) (psmul c (pmul v l)), Int.mul_ne_zero (Int.mul_ne_zero hc hd) hm, fun x => ?_⟩
  rw [peval_padd, peval_psmul, peval_psmul, peval_pmul, peval_pmul]
  have a := hk x; have b := hl x; have e := h x
  rw [Int.mul_assoc, e]
  generalize peval s x = s at *
  generalize peval t x = t at *
  generalize peval g x = g at *
  generalize peval k x = k at *
  generalize peval l x = l at *
  generalize peval u x = u at *
  generalize peval v x = v at *
  have e1 : c * d * (u * s + v * t) = d * u * (c * s) + c * v * (d * t) := by grind
  rw [e1, a, b]; grind
theorem Dv.scaled {g s r : List Int} {m n : Int} (hm : m ≠ 0) (h1 : Dv g s) (h : ∀ x, m * peval r x = n * peval s x) : Dv g r :=
  Dv.comb [n] [] hm h1 h1 fun x => by rw [h x]; simp [peval]
theorem Dv.left {g f t : List Int} {m n : Int} (_ : m ≠ 0) (hn : n ≠ 0) (h1 : Dv g t) (h : ∀ x, m * peval f x = n * peval g x) : Dv f t := by
  obtain ⟨c, k, hc, hk⟩ := h1
  refine ⟨n * c, psmul m k, Int.mul_ne_zero hn hc, fun x => ?_⟩
  have a := hk x; have b := h x
  rw [peval_psmul]
  have e1 : n * c * peval t x = n * (c * peval t x) := by grind
  rw [e1, a]
  have e2 : n * (peval g x * peval k x) = (n * peval g x) * peval k x := by grind
  rw [e2, ← b]; grind
theorem dv_factor (g k : List Int) {t : List Int} (h : ∀ x, peval t x = peval g x * peval k x) : Dv g t := ⟨1, k, by decide, fun x => by rw [h x]; omega⟩
theorem pmul_ne {p q : List Int} (hp : trimL p ≠ []) (hq : trimL q ≠ []) : (trimL (pmul p q)).length = (trimL p).length + (trimL q).length - 1 := by
  have e : trimL (pmul p q) = trimL (pmul (trimL p) (trimL q)) := peval_inj fun x => by rw [peval_pmul, peval_pmul, peval_trim, peval_trim]
  rw [e]
  have lp := lead_trim p
  have lq := lead_trim q
  generalize trimL p = P at *
  generalize trimL q = Q at *
  have h1 := List.length_pos_iff.2 hp
  have h2 := List.length_pos_iff.2 hq
  obtain ⟨t1, t2⟩ := pmul_top P Q hp hq
  have t3 : (pmul P Q).getD (P.length + Q.length - 2) 0 ≠ 0 := by rw [t1]; exact Int.mul_ne_zero (lead_top lp hp) (lead_top lq hq)
  rw [pmul_trim]
  have a1 : ¬ (pmul P Q).length ≤ P.length + Q.length - 2 := fun h => t3 (getD_end h)
  have a2 : ¬ P.length + Q.length - 1 < (pmul P Q).length := fun h => by
    have hne : pmul P Q ≠ [] := by intro h0; rw [h0] at h; simp at h
    exact lead_top (show Lead (pmul P Q) from pmul_trim P Q) hne (t2 _ (by omega))
  omega
theorem Dv.length {g t : List Int} (h : Dv g t) (ht : trimL t ≠ []) : (trimL g).length ≤ (trimL t).length ∧ trimL g ≠ [] := by
  obtain ⟨c, k, hc, hk⟩ := h
  have e : trimL (psmul c t) = trimL (pmul g k) := peval_inj fun x => by rw [peval_psmul, peval_pmul]; exact hk x
  rw [trim_psmul hc] at e
  have e2 := congrArg List.length e
  rw [psmul_length] at e2
  have ht1 := List.length_pos_iff.2 ht
  by_cases hg : trimL g = []
  · have : trimL (pmul g k) = trimL [] := peval_inj fun x => by rw [peval_pmul, peval_zero_of_trim hg]; simp [peval]
    have h0 : (trimL []).length = 0 := rfl
    rw [this, h0] at e2
    omega
  · by_cases hk0 : trimL k = []
    · have : trimL (pmul g k) = trimL [] := peval_inj fun x => by rw [peval_pmul, peval_zero_of_trim hk0]; simp [peval]
      have h0 : (trimL []).length = 0 := rfl
      rw [this, h0] at e2
      omega
    · rw [pmul_ne hg hk0] at e2
      have := List.length_pos_iff.2 hk0
      exact ⟨by omega, hg⟩
def IsG (g s t : List Int) : Prop := Dv g s ∧ Dv g t ∧ ∃ (c : Int) (u v : List Int), c ≠ 0 ∧ ∀ x, c * peval g x = peval u x * peval s x + peval v x * peval t x
theorem IsG.comm {g s t : List Int} (h : IsG g s t) : IsG g t s := by
  obtain ⟨a, b, c, u, v, hc, h⟩ := h
  exact ⟨b, a, c, v, u, hc, fun x => by rw [h x]; omega⟩
theorem IsG.dv {g s t f : List Int} (h : IsG g s t) (h1 : Dv f s) (h2 : Dv f t) : Dv f g := by
  obtain ⟨_, _, c, u, v, hc, h⟩ := h
  exact Dv.comb u v hc h1 h2 h
theorem IsG.start (s : List Int) : IsG s s [] := ⟨Dv.refl s, Dv.zero s, 1, [1], [], by decide, fun x => by simp [peval]⟩
theorem IsG.length {f g s t : List Int} (h1 : IsG f s t) (h2 : IsG g s t) (hf : trimL f ≠ []) : (trimL f).length = (trimL g).length := by
  have a := (h1.dv h2.1 h2.2.1).length hf
  have b := (h2.dv h1.1 h1.2.1).length a.2
  omega
theorem IsG.step {g r d e q : List Int} {a m : Int} (ha : a ≠ 0) (hm : m ≠ 0) (hr : ∀ x, a * peval r x = peval q x * peval d x + m * peval e x) (h : IsG g d e) : IsG g r d := by
  obtain ⟨h1, h2, c, u, v, hc, h⟩ := h
  refine ⟨Dv.comb q [m] ha h1 h2 (fun x => by rw [hr x]; simp [peval]), h1, c * m, psmul a v, psub (psmul m u) (pmul v q), Int.mul_ne_zero hc hm, fun x => ?_⟩
  have e1 := hr x; have e2 := h x
  rw [peval_psmul, peval_psub, peval_psmul, peval_pmul]
  generalize peval g x = g at *
  generalize peval d x = d at *
  generalize peval e x = e at *
  generalize peval r x = r at *
  generalize peval q x = q at *
  generalize peval u x = u at *
  generalize peval v x = v at *
  have e3 : c * m * g = m * (c * g) := by grind
  rw [e3, e2]
  have e4 : a * v * r = v * (a * r) := by grind
  rw [e4, e1]; grind
theorem IsG.scaled {g s t s' t' : List Int} {m n k l : Int} (hm : m ≠ 0) (hn : n ≠ 0) (hk : k ≠ 0) (hl : l ≠ 0) (h1 : ∀ x, m * peval s' x = n * peval s x) (h2 : ∀ x, k * peval t' x = l * peval t x) (h : IsG g s t) : IsG g s' t' := by
  obtain ⟨a, b, c, u, v, hc, h⟩ := h
  refine ⟨a.scaled hm h1, b.scaled hk h2, c * (n * l), psmul (m * l) u, psmul (k * n) v, Int.mul_ne_zero hc (Int.mul_ne_zero hn hl), fun x => ?_⟩
  have e1 := h1 x; have e2 := h2 x; have e3 := h x
  rw [peval_psmul, peval_psmul]
  generalize peval g x = g at *
  generalize peval s x = s at *
  generalize peval t x = t at *
  generalize peval s' x = s' at *
  generalize peval t' x = t' at *
  generalize peval u x = u at *
  generalize peval v x = v at *
  have e4 : c * (n * l) * g = n * l * (c * g) := by grind
  rw [e4, e3]
  have e5 : m * l * u * s' = l * u * (m * s') := by grind
  have e6 : k * n * v * t' = n * v * (k * t') := by grind
  rw [e5, e6, e1, e2]; grind
theorem IsG.gscaled {g g' s t : List Int} {m n : Int} (hm : m ≠ 0) (hn : n ≠ 0) (h1 : ∀ x, m * peval g' x = n * peval g x) (h : IsG g s t) : IsG g' s t := by
  obtain ⟨a, b, c, u, v, hc, h⟩ := h
  refine ⟨a.left hm hn h1, b.left hm hn h1, c * m, psmul n u, psmul n v, Int.mul_ne_zero hc hm, fun x => ?_⟩
  have e1 := h1 x; have e2 := h x
  rw [peval_psmul, peval_psmul, Int.mul_assoc, e1]
  have e3 : c * (n * peval g x) = n * (c * peval g x) := by grind
  rw [e3, e2]; grind
theorem IsG.mul {d p q : List Int} (c : List Int) {d' p' q' : List Int} (hd : ∀ x, peval d' x = peval c x * peval d x) (hp : ∀ x, peval p' x = peval c x * peval p x) (hq : ∀ x, peval q' x = peval c x * peval q x) (h : IsG d p q) : IsG d' p' q' := by
  obtain ⟨⟨m, k, hm, hk⟩, ⟨n, l, hn, hl⟩, e, u, v, he, h⟩ := h
  refine ⟨⟨m, k, hm, fun x => ?_⟩, ⟨n, l, hn, fun x => ?_⟩, e, u, v, he, fun x => ?_⟩
  · have := hk x; rw [hd, hp]; grind
  · have := hl x; rw [hd, hq]; grind
  · have := h x; rw [hd, hp, hq]; grind
theorem prim_eval (p : List Int) : ∃ m : Int, m ≠ 0 ∧ ∀ x, peval p x = m * peval (prim p) x := by
  by_cases h : trimL p = []
  · refine ⟨1, by decide, fun x => ?_⟩
    rw [peval_zero_of_trim h, prim_nil.2 (trim_nil.1 h)]; rfl
  · have := cont_pos h
    refine ⟨(cont p : Int), by omega, fun x => ?_⟩
    rw [← peval_psmul, psmul_prim, peval_trim]
theorem pstep_eval {r d : List Int} (hl : d.length ≤ r.length) (ht : top d ≠ 0) : ∃ (a m : Int) (q : List Int), a ≠ 0 ∧ m ≠ 0 ∧ ∀ x, a * peval r x = peval q x * peval d x + m * peval (pstep r d) x := by
  obtain ⟨m, hm, h⟩ := prim_eval (estN r d ((top d).natAbs : Int) (sg (top d) * top r) r.length)
  refine ⟨((top d).natAbs : Int), m, shiftP (r.length - d.length) [sg (top d) * top r], by omega, hm, fun x => ?_⟩
  have h1 := h x
  rw [estN_eval hl] at h1
  have e : peval (pstep r d) x = peval (prim (estN r d ((top d).natAbs : Int) (sg (top d) * top r) r.length)) x := rfl
  rw [e, ← h1, peval_shiftP]
  simp only [peval]
  grind
theorem restN_eval {d : List Int} (ht : top d ≠ 0) : ∀ (f : Nat) (r : List Int), ∃ (a m : Int) (q : List Int), a ≠ 0 ∧ m ≠ 0 ∧ ∀ x, a * peval r x = peval q x * peval d x + m * peval (restN f r d) x := by
  intro f
  induction f with
  | zero => intro r; exact ⟨1, 1, [], by decide, by decide, fun x => by simp [peval, restN]⟩
  | succ f ih =>
    intro r
    simp only [restN]
    split
    · rename_i hl
      obtain ⟨a, m, q, ha, hm, h⟩ := pstep_eval hl ht
      obtain ⟨b, n, s, hb, hn, g⟩ := ih (pstep r d)
      refine ⟨b * a, m * n, padd (psmul b q) (psmul m s), Int.mul_ne_zero hb ha, Int.mul_ne_zero hm hn, fun x => ?_⟩
      have h' := h x; have g' := g x
      rw [peval_padd, peval_psmul, peval_psmul, Int.mul_assoc, h']
      generalize peval (restN f (pstep r d) d) x = z at *
      generalize peval (pstep r d) x = y at *
      have e : b * (peval q x * peval d x + m * y) = b * (peval q x * peval d x) + m * (b * y) := by grind
      rw [e, g']; grind
    · exact ⟨1, 1, [], by decide, by decide, fun x => by simp [peval]⟩
theorem pcomN_isG : ∀ (f : Nat) (x y : List Int), y.length ≤ f → y.length ≤ x.length → Lead x → Lead y → IsG (pcomN f x y) x y := by
  intro f
  induction f with
  | zero =>
    intro x y h1 _ _ _
    have : y = [] := List.eq_nil_of_length_eq_zero (by omega)
    subst this
    exact IsG.start x
  | succ f ih =>
    intro x y h1 h2 lx ly
    simp only [pcomN]
    split
    · rename_i h; subst h; exact IsG.start x
    · rename_i h
      have ht : top y ≠ 0 := lead_top ly h
      obtain ⟨r1, r2, _⟩ := restN_ok h (K := Nat.max 1 (y.map Int.natAbs).sum) (fun i => by
        have h3 : (y.getD i 0).natAbs ≤ (y.map Int.natAbs).sum := by
          clear ht h h1 h2 ly ih
          induction y generalizing i with
          | nil => simp
          | cons c y ih => 
            cases i with
            | zero => simp
            | succ i => have := ih i; simp at this ⊢; omega
        unfold Fits
        have h4 : (y.map Int.natAbs).sum ≤ Nat.max 1 (y.map Int.natAbs).sum := Nat.le_max_right _ _
        exact Nat.lt_of_le_of_lt (Nat.le_trans h3 h4) (Nat.lt_pow_self (by decide))) x.length x (Nat.max 1 (x.map Int.natAbs).sum) (Nat.le_refl _) lx (fun i => by
        have h3 : (x.getD i 0).natAbs ≤ (x.map Int.natAbs).sum := by
          clear ht h h1 h2 lx ih
          induction x generalizing i with
          | nil => simp
          | cons c y ih => 
            cases i with
            | zero => simp
            | succ i => have := ih i; simp at this ⊢; omega
        unfold Fits
        have h4 : (x.map Int.natAbs).sum ≤ Nat.max 1 (x.map Int.natAbs).sum := Nat.le_max_right _ _
        exact Nat.lt_of_le_of_lt (Nat.le_trans h3 h4) (Nat.lt_pow_self (by decide)))
      obtain ⟨a, m, q, ha, hm, e⟩ := restN_eval ht x.length x
      exact IsG.step ha hm e (ih y (prest x y) (by unfold prest; omega) (by unfold prest; omega) ly r1)
def pgcd (x y : List Int) : List Int := if y.length ≤ x.length then pcomN y.length x y else pcomN x.length y x
theorem pgcd_isG {x y : List Int} (lx : Lead x) (ly : Lead y) : IsG (pgcd x y) x y := by
  unfold pgcd
  split
  · exact pcomN_isG _ _ _ (Nat.le_refl _) (by assumption) lx ly
  · exact (pcomN_isG _ _ _ (Nat.le_refl _) (by omega) ly lx).comm
theorem ppos_eval (p : List Int) : ∃ m : Int, m ≠ 0 ∧ ∀ x, peval (ppos p) x = m * peval p x := by
  unfold ppos
  split
  · exact ⟨-1, by decide, fun x => by rw [peval_pneg]; omega⟩
  · exact ⟨1, by decide, fun x => by omega⟩
def pcom (s t : List Int) : List Int := ppos (pgcd (prim s) (prim t))
theorem pcom_isG (s t : List Int) : IsG (pcom s t) s t := by
  have h := pgcd_isG (lead_prim s) (lead_prim t)
  obtain ⟨m, hm, h1⟩ := prim_eval s
  obtain ⟨n, hn, h2⟩ := prim_eval t
  obtain ⟨k, hk, h3⟩ := ppos_eval (pgcd (prim s) (prim t))
  have h4 := h.scaled (s' := s) (t' := t) (m := 1) (n := m) (k := 1) (l := n) (by decide) hm (by decide) hn (fun x => by rw [h1 x]; omega) (fun x => by rw [h2 x]; omega)
  exact h4.gscaled (m := 1) (n := k) (by decide) hk (fun x => by unfold pcom; rw [h3 x]; omega)
theorem lead_pneg {p : List Int} (h : Lead p) : Lead (pneg p) := by
  have e : pneg p = psmul (-1) p := by
    unfold pneg psmul
    apply List.map_congr_left
    intro x _; omega
  rw [e]; exact lead_psmul (by decide) h
theorem lead_ppos {p : List Int} (h : Lead p) : Lead (ppos p) := by
  unfold ppos; split
  · exact lead_pneg h
  · exact h
theorem prim_pcomN : ∀ (f : Nat) (x y : List Int), prim x = x → prim y = y → prim (pcomN f x y) = pcomN f x y := by
  intro f
  induction f with
  | zero => intro x y h _; exact h
  | succ f ih =>
    intro x y hx hy
    simp only [pcomN]
    split
    · exact hx
    · exact ih y _ hy (prim_restN _ _ _ hx)
theorem prim_pgcd {x y : List Int} (hx : prim x = x) (hy : prim y = y) : prim (pgcd x y) = pgcd x y := by
  unfold pgcd; split
  · exact prim_pcomN _ _ _ hx hy
  · exact prim_pcomN _ _ _ hy hx
theorem cont_pneg (p : List Int) : cont (pneg p) = cont p := by
  have e : pneg p = psmul (-1) p := by
    unfold pneg psmul
    apply List.map_congr_left
    intro x _; omega
  rw [e, cont_psmul]; simp
theorem cont_ppos (p : List Int) : cont (ppos p) = cont p := by
  unfold ppos; split
  · exact cont_pneg p
  · rfl
theorem lead_pcom (s t : List Int) : Lead (pcom s t) := lead_ppos (lead_of_prim (prim_pgcd (prim_prim s) (prim_prim t)))
theorem pcom_ne {s t : List Int} (h : trimL s ≠ []) : pcom s t ≠ [] := by
  have := ((pcom_isG s t).1.length h).2
  intro h0; rw [h0] at this; exact this rfl
theorem cont_pcom {s t : List Int} (h : trimL s ≠ []) : cont (pcom s t) = 1 := by
  have h1 := pcom_ne (t := t) h
  unfold pcom at *
  rw [cont_ppos]
  have h2 : pgcd (prim s) (prim t) ≠ [] := by
    intro h0; rw [h0] at h1; exact h1 rfl
  have h3 := prim_pgcd (prim_prim s) (prim_prim t)
  rw [← h3]
  exact cont_prim (by rw [lead_of_prim h3]; exact h2)
theorem top_ppos {p : List Int} (h : Lead p) (h0 : p ≠ []) : 0 < top (ppos p) := by
  have h1 := lead_top h h0
  unfold ppos; split
  · rename_i hn
    unfold top at *
    rw [pneg_len, getD_pneg]; omega
  · rename_i hn
    unfold top at *; omega
theorem top_pcom {s t : List Int} (h : trimL s ≠ []) : 0 < top (pcom s t) := by
  have h1 := pcom_ne (t := t) h
  unfold pcom at *
  refine top_ppos (lead_of_prim (prim_pgcd (prim_prim s) (prim_prim t))) ?_
  intro h0; rw [h0] at h1; exact h1 rfl
theorem kb_pcom {s t : List Int} {K : Nat} (h : trimL s ≠ []) (hl : s.length ≤ 9) (hK : Kb K s) : Kb (K + 3) (pcom s t) ∧ (pcom s t).length ≤ (trimL s).length := by
  have hg := (pcom_isG s t).1
  have h1 := (hg.length h).1
  have hle := lead_pcom s t
  rw [hle] at h1
  obtain ⟨c, k, hc, hk⟩ := hg
  have := trim_len s
  exact ⟨gauss_small hc (cont_pcom h) h hl (by omega) hK hk, h1⟩
theorem prest_nil {x y : List Int} (h : Dv y x) (hy : Lead y) (hy0 : y ≠ []) (hr : (prest x y).length < y.length) (hlr : Lead (prest x y)) : prest x y = [] := by
  apply Classical.byContradiction
  intro hn
  obtain ⟨a, m, q, ha, hm, e⟩ := restN_eval (lead_top hy hy0) x.length x
  have h1 : Dv y (prest x y) := Dv.comb (m := m) [a] (pneg q) hm h (Dv.refl y) fun z => by
    have := e z
    unfold prest
    rw [peval_pneg]; simp only [peval]; grind
  have h2 := (h1.length (by rw [hlr]; exact hn)).1
  rw [hy, hlr] at h2
  omega
theorem kb_ex (y : List Int) : ∃ K, Kb K y := ⟨(y.map Int.natAbs).sum, fun i => by
  have h3 : (y.getD i 0).natAbs ≤ (y.map Int.natAbs).sum := by
    induction y generalizing i with
    | nil => simp
    | cons c y ih => 
      cases i with
      | zero => simp
      | succ i => have := ih i; simp at this ⊢; omega
  unfold Fits
  exact Nat.lt_of_le_of_lt h3 (Nat.lt_pow_self (by decide))⟩
theorem prest_lead {x y : List Int} (hx : Lead x) (hy0 : y ≠ []) : Lead (prest x y) ∧ (prest x y).length < y.length := by
  obtain ⟨K, hK⟩ := kb_ex y
  obtain ⟨J, hJ⟩ := kb_ex x
  obtain ⟨a, b, _⟩ := restN_ok hy0 hK x.length x J (Nat.le_refl _) hx hJ
  exact ⟨a, b⟩
theorem rem_nil {s g : List Int} (h : Dv g s) (hg : trimL g ≠ []) : prest (prim s) (prim g) = [] := by
  obtain ⟨m, hm, h1⟩ := prim_eval s
  obtain ⟨n, hn, h2⟩ := prim_eval g
  have h3 : Dv (prim g) (prim s) := (h.scaled (r := prim s) (m := m) (n := 1) hm fun x => by rw [h1 x]; omega).left (f := prim g) (m := n) (n := 1) hn (by decide) fun x => by rw [h2 x]; omega
  have hp : prim g ≠ [] := by intro h0; rw [prim_nil, ← trim_nil] at h0; exact hg h0
  obtain ⟨a, b⟩ := prest_lead (lead_prim s) hp
  exact prest_nil h3 (lead_prim g) hp b a
theorem pcom_mul {p q c : List Int} (hp : trimL p ≠ []) (hc : trimL c ≠ []) : (pcom (pmul p c) (pmul q c)).length = (pcom p q).length + (trimL c).length - 1 ∧ Dv c (pcom (pmul p c) (pmul q c)) := by
  have h1 := (pcom_isG p q).mul c (d' := pmul c (pcom p q)) (p' := pmul p c) (q' := pmul q c) (fun x => peval_pmul _ _ x) (fun x => by rw [peval_pmul, Int.mul_comm]) (fun x => by rw [peval_pmul, Int.mul_comm])
  have h2 := pcom_isG (pmul p c) (pmul q c)
  have hd := pcom_ne (t := q) hp
  have ld := lead_pcom p q
  have h3 := pmul_ne hc (q := pcom p q) (by rw [ld]; exact hd)
  have hd1 := List.length_pos_iff.2 hd
  have hc1 := List.length_pos_iff.2 hc
  have h4 := h1.length h2 (by intro h0; rw [h0, ld] at h3; simp at h3; omega)
  have lg := lead_pcom (pmul p c) (pmul q c)
  rw [h3, lg, ld] at h4
  refine ⟨by omega, ?_⟩
  exact (dv_factor c (pcom p q) (fun x => peval_pmul _ _ x)).trans (h2.dv h1.1 h1.2.1)
end Go.Ai

namespace Go.Proofs.Ythnnfemologhfaa
open Go.Ai
set_option maxRecDepth 100000
def mixL (E rs : List Rn) (i : Nat) : List Rn := E.take i ++ rs.drop i
theorem mixL_zero (E rs : List Rn) : mixL E rs 0 = rs := by simp [mixL]
theorem mixL_full {E rs : List Rn} (h : E.length = rs.length) : mixL E rs rs.length = E := by
  unfold mixL; rw [List.drop_length, List.append_nil, List.take_of_length_le (by omega)]
theorem mixL_length {E rs : List Rn} (h : E.length = rs.length) (i : Nat) : (mixL E rs i).length = rs.length := by
  unfold mixL; rw [List.length_append, List.length_take, List.length_drop]; omega
theorem mixL_get {E rs : List Rn} (h : E.length = rs.length) {i : Nat} (hi : i < rs.length) : (mixL E rs i).getD i z0 = rs.getD i z0 := by
  unfold mixL
  rw [List.getD_eq_getElem?_getD, List.getD_eq_getElem?_getD, List.getElem?_append_right (by rw [List.length_take]; omega), List.length_take, List.getElem?_drop]
  congr 2; omega
theorem mixL_set {E rs : List Rn} (h : E.length = rs.length) {i : Nat} (hi : i < rs.length) : (mixL E rs i).set i (E.getD i z0) = mixL E rs (i + 1) := by
  have hpi : E[i]? = some (E.getD i z0) := by rw [List.getD_eq_getElem?_getD, List.getElem?_eq_getElem (by omega)]; rfl
  apply List.ext_getElem?
  intro t
  have hl := mixL_length h i
  unfold mixL at *
  rcases Nat.lt_trichotomy t i with g | g | g
  · rw [List.getElem?_set_ne (by omega), List.getElem?_append_left (by rw [List.length_take]; omega), List.getElem?_append_left (by rw [List.length_take]; omega), List.getElem?_take_of_lt g, List.getElem?_take_of_lt (by omega)]
  · subst g
    rw [List.getElem?_set_self (by omega), List.getElem?_append_left (by rw [List.length_take]; omega), List.getElem?_take_of_lt (by omega), hpi]
  · rw [List.getElem?_set_ne (by omega), List.getElem?_append_right (by rw [List.length_take]; omega), List.getElem?_append_right (by rw [List.length_take]; omega), List.length_take, List.length_take, List.getElem?_drop, List.getElem?_drop]
    congr 1; omega
theorem mcn_get (p : List Int) (i : Nat) : rval ((p.map cn).getD i z0) = p.getD i 0 := by rw [← vals_getD, vals_cn]
theorem mcn_getD {p : List Int} {i : Nat} (h : i < p.length) : (p.map cn).getD i z0 = cn (p.getD i 0) := by
  rw [List.getD_eq_getElem?_getD, List.getElem?_map, List.getD_eq_getElem?_getD, List.getElem?_eq_getElem h]; rfl
theorem mcn_good {K : Nat} {p : List Int} (h : Kb K p) : ∀ r ∈ p.map cn, Good K r := good_cns h.mem
theorem set_getD {rs : List Rn} {i : Nat} {r : Rn} (h : i < rs.length) : (rs.set i r).getD i z0 = r := by
  simp [List.getD_eq_getElem?_getD, h]
theorem wmul_cn {x y : Rn} {J K : Nat} (hx : Good J x) (hy : Good K y) (h : J + K ≤ 1048576) : Runs Try.ir 113 [rawAV x, rawAV y] (bigAV (rval x * rval y)) := wmul_run hx.1 hy.1 (by have := hx.2; have := hy.2; omega)
theorem wsub_cn {x y : Rn} {J K : Nat} (hx : Good J x) (hy : Good K y) (h : J < 1048576) (h2 : K < 1048576) : Runs Try.ir 114 [rawAV x, rawAV y] (bigAV (rval x - rval y)) := wsub_run hx.1 hy.1 (by have := hx.2; omega) (by have := hy.2; omega)
section
variable {p d : List Int} {J Kd : Nat}
theorem rem_inner {a b : Int} {t : Rn} (hp : Kb J p) (hd : Kb Kd d) (ha : Fits Kd a) (hb : Fits J b) (hS : J + Kd + 1 < 1048576) (hl : d.length ≤ p.length) (hN : p.length ≤ 1048576) :
    RunsW Try.ir (.loop Try.c64i) (Try.s64i (d.map cn) p.length (p.map cn) t (cn a) (cn b) ((p.length - d.length : Nat) : Int) (p.length : Nat) 0) (.exit 2)
      (Try.s64i (d.map cn) p.length ((estN p d a b p.length).map cn) t (cn a) (cn b) ((p.length - d.length : Nat) : Int) (p.length : Nat) (p.length : Nat)) := by
  have hE : ((estN p d a b p.length).map cn).length = (p.map cn).length := by rw [List.length_map, List.length_map, estN_length]
  have hpl : (p.map cn).length = p.length := List.length_map ..
  have h := RunsW.up (prog := Try.ir) (c := Try.c64i) (ex := .exit 2) (fin := Try.s64i (d.map cn) p.length ((estN p d a b p.length).map cn) t (cn a) (cn b) ((p.length - d.length : Nat) : Int) (p.length : Nat) (p.length : Nat))
    (fun i => Try.s64i (d.map cn) p.length (mixL ((estN p d a b p.length).map cn) (p.map cn) i) t (cn a) (cn b) ((p.length - d.length : Nat) : Int) (p.length : Nat) (i : Nat)) p.length (by intro e; cases e) ?_ ?_ 0 (Nat.zero_le _)
  · rw [mixL_zero] at h; exact h
  · intro i hi
    have ei : IntKind.i64.wrap (((i : Nat) : Int) + 1) = ((i + 1 : Nat) : Int) := by rw [w64 (by omega) (by omega)]; omega
    have hml := mixL_length hE i
    have hget := mixL_get hE (i := i) (by omega)
    have hEi : ((estN p d a b p.length).map cn).getD i z0 = cn ((estN p d a b p.length).getD i 0) := mcn_getD (by rw [estN_length]; exact hi)
    have hest := getD_estN p d a b p.length i
    rw [if_pos hi] at hest
    have hset := mixL_set hE (i := i) (by omega)
    rw [hEi] at hset
    have gp := good_getD (mcn_good hp) i
    have ga := good_cn ha
    have gb := good_cn hb
    have vi := mcn_get p i
    generalize mixL ((estN p d a b p.length).map cn) (p.map cn) i = M at *
    by_cases hat : p.length - d.length ≤ i
    · rw [if_pos hat] at hest
      have ea : IntKind.i64.wrap (((i : Nat) : Int) - ((p.length - d.length : Nat) : Int)) = ((i - (p.length - d.length) : Nat) : Int) := by rw [w64 (by omega) (by omega)]; omega
      have gq := good_getD (mcn_good hd) (i - (p.length - d.length))
      have vq := mcn_get d (i - (p.length - d.length))
      have m1 := wmul_cn gp ga (by omega)
      have m2 := wmul_cn gb gq (by omega)
      have f1 : Fits (J + Kd) (rval ((p.map cn).getD i z0) * rval (cn a)) := gp.fits.mul (by rw [rval_cn]; exact ha)
      have f2 : Fits (J + Kd) (rval (cn b) * rval ((d.map cn).getD (i - (p.length - d.length)) z0)) := Fits.mul (by rw [rval_cn]; exact hb) gq.fits
      have m3 := wsub_cn (good_cn f1) (good_cn f2) (by omega) (by omega)
      rw [rval_cn (rval (cn b) * rval ((d.map cn).getD (i - (p.length - d.length)) z0))] at m3
      have k := Try.k64i_1 (d.map cn) p.length M t (cn a) (cn b) ((p.length - d.length : Nat) : Int) (p.length : Nat) (i : Nat) (by simp; omega) (by rw [decide_eq_true_eq]; omega) (by omega) (by omega) (by rw [List.length_set]; omega) (by rw [ea, List.length_map]; omega)
        (by rw [Int.toNat_natCast, hget]; exact m1) (by rw [ea, Int.toNat_natCast]; exact m2) (by
          simp only [ea, Int.toNat_natCast, hget]
          rw [set_getD (by omega)]
          exact m3)
      refine k.to rfl ?_
      simp only [ea, ei, Int.toNat_natCast, hget]
      rw [set_getD (by omega), List.set_set, rval_cn (rval ((p.map cn).getD i z0) * rval (cn a)), vi, vq, rval_cn, rval_cn, Int.mul_comm (p.getD i 0) a, ← hest]
      rw [hset]
    · rw [if_neg hat] at hest
      have m1 := wmul_cn gp ga (by omega)
      have k := Try.k64i_2 (d.map cn) p.length M t (cn a) (cn b) ((p.length - d.length : Nat) : Int) (p.length : Nat) (i : Nat) (by simp; omega) (by rw [decide_eq_false_iff_not]; omega) (by omega) (by omega) (by rw [Int.toNat_natCast, hget]; exact m1)
      refine k.to rfl ?_
      simp only [ei, Int.toNat_natCast, hget]
      rw [vi, rval_cn, Int.mul_comm (p.getD i 0) a, ← hest, hset]
  · rw [show mixL ((estN p d a b p.length).map cn) (p.map cn) p.length = (estN p d a b p.length).map cn by have h := mixL_full hE; rw [hpl] at h; exact h]
    exact Try.k64i_3 (d.map cn) p.length _ t _ _ _ _ _ (by simp)
theorem gcd_ne {a b : Int} (h : a ≠ 0) : 0 < Int.gcd a b := by
  rw [Int.gcd]; exact Nat.gcd_pos_of_pos_left _ (by omega)
theorem rem_step (hp : Kb J p) (hd : Kb Kd d) (hS : J + Kd + 1 < 1048576) (hd0 : d ≠ []) (ht : top d ≠ 0) (hl : d.length ≤ p.length) (hN : p.length ≤ 1048576) :
    RunsW Try.ir Try.c64 (Try.s64 (d.map cn) p.length (p.map cn) (cn (top d))) .norm (Try.s64 (d.map cn) (pstep p d).length ((pstep p d).map cn) (cn (top d))) := by
  have hdl := List.length_pos_iff.2 hd0
  have e1 : IntKind.i64.wrap (((p.length : Nat) : Int) - 1) = ((p.length - 1 : Nat) : Int) := by rw [w64 (by omega) (by omega)]; omega
  have e2 : IntKind.i64.wrap (((p.length : Nat) : Int) - (((d.map cn).length : Nat) : Int)) = ((p.length - d.length : Nat) : Int) := by rw [List.length_map, w64 (by omega) (by omega)]; omega
  have gt := good_cn (kb_top hd)
  have gl := good_getD (mcn_good hp) (p.length - 1)
  have vl : rval ((p.map cn).getD (p.length - 1) z0) = top p := mcn_get p (p.length - 1)
  have hgp := gcd_ne (a := top d) (b := top p) ht
  have hgcd := wgcd_run (na := (cn (top d)).1) (nb := ((p.map cn).getD (p.length - 1) z0).1) gt.1 gl.1 (by have := gt.2; omega) (by have := gl.2; omega)
  rw [show rv (cn (top d)).1 (cn (top d)).2 = top d from rval_cn _, show rv ((p.map cn).getD (p.length - 1) z0).1 ((p.map cn).getD (p.length - 1) z0).2 = top p from vl] at hgcd
  have hd1 : ((Int.gcd (top d) (top p) : Nat) : Int) ∣ top d := Int.gcd_dvd_left ..
  have hd2 : ((Int.gcd (top d) (top p) : Nat) : Int) ∣ top p := Int.gcd_dvd_right ..
  have hd3 : ((Int.gcd (top d) (top p) : Nat) : Int) ∣ (((top d).natAbs : Nat) : Int) := Int.dvd_natAbs.2 hd1
  have hgle : Fits Kd ((Int.gcd (top d) (top p) : Nat) : Int) := by
    have := kb_top hd
    unfold Fits at *
    rw [Int.natAbs_natCast]
    have := Nat.le_of_dvd (by omega) (Int.ofNat_dvd_left.1 hd1)
    omega
  have gg := good_cn hgle
  have habs := wabs_run (neg := (cn (top d)).1) gt.1 (by have := gt.2; omega)
  rw [show rv (cn (top d)).1 (cn (top d)).2 = top d from rval_cn _] at habs
  have gab := good_cn (fits_abs (kb_top hd))
  have q1 := wquo_run (na := (cn (((top d).natAbs : Nat) : Int)).1) (nb := (cn ((Int.gcd (top d) (top p) : Nat) : Int)).1) gab.1 gg.1 (by rw [show rv (cn ((Int.gcd (top d) (top p) : Nat) : Int)).1 (cn ((Int.gcd (top d) (top p) : Nat) : Int)).2 = (Int.gcd (top d) (top p) : Nat) from rval_cn _]; omega) (by have := gab.2; omega) (by have := gg.2; omega)
  rw [show rv (cn ((Int.gcd (top d) (top p) : Nat) : Int)).1 (cn ((Int.gcd (top d) (top p) : Nat) : Int)).2 = (Int.gcd (top d) (top p) : Nat) from rval_cn _, show rv (cn (((top d).natAbs : Nat) : Int)).1 (cn (((top d).natAbs : Nat) : Int)).2 = ((top d).natAbs : Nat) from rval_cn _] at q1
  have q2 := wquo_run (na := ((p.map cn).getD (p.length - 1) z0).1) (nb := (cn ((Int.gcd (top d) (top p) : Nat) : Int)).1) gl.1 gg.1 (by rw [show rv (cn ((Int.gcd (top d) (top p) : Nat) : Int)).1 (cn ((Int.gcd (top d) (top p) : Nat) : Int)).2 = (Int.gcd (top d) (top p) : Nat) from rval_cn _]; omega) (by have := gl.2; omega) (by have := gg.2; omega)
  rw [show rv (cn ((Int.gcd (top d) (top p) : Nat) : Int)).1 (cn ((Int.gcd (top d) (top p) : Nat) : Int)).2 = (Int.gcd (top d) (top p) : Nat) from rval_cn _, show rv ((p.map cn).getD (p.length - 1) z0).1 ((p.map cn).getD (p.length - 1) z0).2 = top p from vl] at q2
  have hG : (0 : Int) < ((Int.gcd (top d) (top p) : Nat) : Int) := by omega
  have x1 := Int.mul_ediv_cancel' hd3
  have x2 := Int.mul_ediv_cancel' hd2
  rw [tdiv_exact hG hd3] at q1
  rw [tdiv_exact hG hd2] at q2
  have hsg := wsign_run (neg := (cn (top d)).1) gt.1 (by have := gt.2; omega)
  rw [show rv (cn (top d)).1 (cn (top d)).2 = top d from rval_cn _] at hsg
  -- sizes of the factors
  have fa : Fits Kd ((((top d).natAbs : Nat) : Int) / ((Int.gcd (top d) (top p) : Nat) : Int)) := by
    rcases fits_div (fits_abs (kb_top hd)) (Int.gcd (top d) (top p)) with g | g
    · exact g
    · exact absurd hd3 g
  have fb : Fits J (top p / ((Int.gcd (top d) (top p) : Nat) : Int)) := by
    rcases fits_div (kb_top hp) (Int.gcd (top d) (top p)) with g | g
    · exact g
    · exact absurd hd2 g
  generalize hGd : ((Int.gcd (top d) (top p) : Nat) : Int) = G at *
  generalize hx : (((top d).natAbs : Nat) : Int) / G = x at *
  generalize hy : top p / G = y at *
  have pst : ∀ b : Int, G * b = sg (top d) * top p → pstep p d = prim (estN p d x b p.length) := by
    intro b hb
    have h := pstep_prog (r := p) (d := d) (c := 1) (g := G) (a := x) (b := b) (by decide) hG x1 hb
    rwa [show psmul 1 d = d by unfold psmul; simp] at h
  have fin : ∀ b : Int, G * b = sg (top d) * top p → Fits J b → Runs Try.ir 86 [.sl p.length (pc ((estN p d x b p.length).map cn))] (.fresh 2 ((pstep p d).map cn).length (pc ((pstep p d).map cn))) := by
    intro b hb fb'
    have hK := kb_estN hp hd fa fb' p.length
    have h := aprimitive_run (rs := (estN p d x b p.length).map cn) (mcn_good hK) (by omega) (by rw [List.length_map, estN_length]; exact hN)
    rw [vals_cn, ← pst b hb, List.length_map, estN_length] at h
    rw [List.length_map]
    exact h
  by_cases hneg : top d < 0
  · have hng := wneg_run (neg := (cn y).1) (xs := (cn y).2) (big_u32 _) (by have := fb.len; rw [cn_len]; omega)
    rw [show rv (cn y).1 (cn y).2 = y from rval_cn _] at hng
    have hb : G * -y = sg (top d) * top p := by unfold sg; rw [if_pos hneg, Int.mul_neg, x2]; omega
    have hin := rem_inner (t := cn (top d)) hp hd fa fb.neg hS hl hN
    have k := Try.k64_1 (d.map cn) p.length (p.map cn) (cn (top d)) _ _ _ _ G _ x y (-y) _ _ (sgnI (top d)) _ _ _ (by rw [decide_eq_true_eq, List.length_map]; omega) (by unfold sgnI; rw [if_pos hneg]; rfl) (by rw [e1]; omega) (by rw [List.length_map]) (by rw [e1, Int.toNat_natCast]; exact hgcd) habs q1 (by rw [e1, Int.toNat_natCast]; exact q2) hsg hng (by rw [e2]; exact hin) (fin (-y) hb fb.neg)
    rw [List.length_map] at k
    exact k
  · have hb : G * y = sg (top d) * top p := by unfold sg; rw [if_neg hneg, x2]; omega
    have hin := rem_inner (t := cn (top d)) hp hd fa fb hS hl hN
    have k := Try.k64_2 (d.map cn) p.length (p.map cn) (cn (top d)) _ _ _ _ G _ x y _ _ (sgnI (top d)) _ _ _ (by rw [decide_eq_true_eq, List.length_map]; omega) (by unfold sgnI; rw [if_neg hneg]; split <;> rfl) (by rw [e1]; omega) (by rw [List.length_map]) (by rw [e1, Int.toNat_natCast]; exact hgcd) habs q1 (by rw [e1, Int.toNat_natCast]; exact q2) hsg (by rw [e2]; exact hin) (fin y hb fb)
    rw [List.length_map] at k
    exact k
end
theorem rem_loop {d : List Int} {Kd : Nat} (hd : Kb Kd d) (hd0 : d ≠ []) (ht : top d ≠ 0) : ∀ (f : Nat) (p : List Int) (J : Nat), p.length ≤ f → Kb J p → J + (p.length + 1 - d.length) * (Kd + 1) < 1048576 → p.length ≤ 1048576 →
    RunsW Try.ir (.loop Try.c64) (Try.s64 (d.map cn) p.length (p.map cn) (cn (top d))) (.exit 0) (Try.s64 (d.map cn) (restN f p d).length ((restN f p d).map cn) (cn (top d))) := by
  have hdl := List.length_pos_iff.2 hd0
  intro f
  induction f with
  | zero =>
    intro p J hf _ _ _
    exact RunsW.loop_out (Try.k64_3 (d.map cn) p.length (p.map cn) (cn (top d)) (by rw [decide_eq_false_iff_not, List.length_map]; omega)) (by intro e; cases e)
  | succ f ih =>
    intro p J hf hJ hS hN
    simp only [restN]
    split
    · rename_i hl
      have hplen := pstep_length hd0 hl
      have e : ((pstep p d).length + 1 - d.length) + 1 ≤ p.length + 1 - d.length := by omega
      have := Nat.mul_le_mul_right (Kd + 1) e
      rw [Nat.add_mul, Nat.one_mul] at this
      have h1 := rem_step hJ hd (by
        have h2 : 1 * (Kd + 1) ≤ (p.length + 1 - d.length) * (Kd + 1) := Nat.mul_le_mul_right _ (by omega)
        omega) hd0 ht hl hN
      exact RunsW.loop h1 (ih (pstep p d) (J + Kd + 1) (by omega) (kb_pstep hJ hd) (by omega) (by omega))
    · rename_i hl
      exact RunsW.loop_out (Try.k64_3 (d.map cn) p.length (p.map cn) (cn (top d)) (by rw [decide_eq_false_iff_not, List.length_map]; omega)) (by intro e; cases e)
theorem aremainder_run {rs ss : List Rn} {J K : Nat} (hr : ∀ r ∈ rs, Good J r) (hs : ∀ r ∈ ss, Good K r) (hJ : J < 1048576) (hK : K < 1048576) (hn : rs.length ≤ 1048576) (hm : ss.length ≤ 1048576) (h0 : prim (vals ss) ≠ []) (hS : J + ((prim (vals rs)).length + 1 - (prim (vals ss)).length) * (K + 1) < 1048576) :
    Runs Try.ir 64 [.sl rs.length (pc rs), .sl ss.length (pc ss)] (.fresh 2 (prest (prim (vals rs)) (prim (vals ss))).length (pk (prest (prim (vals rs)) (prim (vals ss))))) := by
  have p1 := aprimitive_run hr hJ hn
  have p2 := aprimitive_run hs hK hm
  have k1 : Kb J (prim (vals rs)) := (kb_of (fits_vals hr)).prim
  have k2 : Kb K (prim (vals ss)) := (kb_of (fits_vals hs)).prim
  have l1 : (prim (vals rs)).length ≤ rs.length := by rw [prim_length]; have := trim_len (vals rs); rwa [vals_length] at this
  have l2 : (prim (vals ss)).length ≤ ss.length := by rw [prim_length]; have := trim_len (vals ss); rwa [vals_length] at this
  have hl := List.length_pos_iff.2 h0
  have ht : top (prim (vals ss)) ≠ 0 := lead_top (lead_prim _) h0
  have hlp := rem_loop k2 h0 ht (prim (vals rs)).length (prim (vals rs)) J (Nat.le_refl _) k1 hS (by omega)
  have e1 : IntKind.i64.wrap (((((prim (vals ss)).map cn).length : Nat) : Int) - 1) = (((prim (vals ss)).length - 1 : Nat) : Int) := by rw [List.length_map, w64 (by omega) (by omega)]; omega
  have p1' : Runs Try.ir 86 [.sl rs.length (pc rs)] (.fresh 2 ((prim (vals rs)).map cn).length (pc ((prim (vals rs)).map cn))) := by rw [List.length_map]; exact p1
  have p2' : Runs Try.ir 86 [.sl ss.length (pc ss)] (.fresh 2 ((prim (vals ss)).map cn).length (pc ((prim (vals ss)).map cn))) := by rw [List.length_map]; exact p2
  have k := Try.run64 rs ss _ _ ((prest (prim (vals rs)) (prim (vals ss))).map cn) (cn (top (prim (vals ss)))) (prest (prim (vals rs)) (prim (vals ss))).length p1' p2' (by rw [e1, List.length_map]; omega) (by
    rw [e1, Int.toNat_natCast, mcn_getD (show (prim (vals ss)).length - 1 < (prim (vals ss)).length by omega), List.length_map]
    exact hlp)
  exact k
theorem com_loop : ∀ (f : Nat) (x y : List Int) (M : Nat), 0 < M → y.length ≤ f → y.length ≤ x.length → x.length ≤ 1048576 → prim x = x → prim y = y → Kb (M - 1) x → Kb (M - 1) y → M * phi x.length y.length ≤ 500000 →
    ∃ bs, RunsW Try.ir (.loop Try.c65) (Try.s65 (x.map cn) (y.map cn)) (.exit 0) (Try.s65 ((pcomN f x y).map cn) bs) := by
  intro f
  induction f with
  | zero =>
    intro x y M _ h1 _ _ _ _ _ _ _
    have : y = [] := List.eq_nil_of_length_eq_zero (by omega)
    subst this
    exact ⟨_, RunsW.loop_out (Try.k65_2 _ _ (by simp)) (by intro e; cases e)⟩
  | succ f ih =>
    intro x y M hM h1 h2 h3 px py kx ky hphi
    simp only [pcomN]
    split
    · rename_i h
      subst h
      exact ⟨_, RunsW.loop_out (Try.k65_2 _ _ (by simp)) (by intro e; cases e)⟩
    · rename_i h
      have hyl := List.length_pos_iff.2 h
      obtain ⟨r1, r2, r3⟩ := prest_ok hM (lead_of_prim px) h kx ky h2
      have hM' : 0 < M * (x.length - y.length + 2) := Nat.mul_pos hM (by omega)
      have hMle : M ≤ M * (x.length - y.length + 2) := Nat.le_mul_of_pos_right M (by omega)
      have hbig : M * (x.length - y.length + 2) ≤ 500000 := by
        refine Nat.le_trans (Nat.mul_le_mul_left _ ?_) hphi
        unfold phi
        exact Nat.le_mul_of_pos_right _ (Nat.pow_pos (by decide))
      have hrem := aremainder_run (rs := x.map cn) (ss := y.map cn) (mcn_good kx) (mcn_good ky) (by omega) (by omega) (by rw [List.length_map]; exact h3) (by rw [List.length_map]; omega) (by rw [vals_cn, py]; exact h) (by
        rw [vals_cn, vals_cn, px, py, Nat.sub_add_cancel hM, show x.length + 1 - y.length = x.length - y.length + 1 by omega, Nat.mul_comm _ M]
        have : M * (x.length - y.length + 2) = M * (x.length - y.length + 1) + M := by rw [← Nat.mul_succ]
        omega)
      rw [vals_cn, vals_cn, px, py] at hrem
      have hrem' : Runs Try.ir 64 [.sl (x.map cn).length (pc (x.map cn)), .sl (y.map cn).length (pc (y.map cn))] (.fresh 2 ((prest x y).map cn).length (pc ((prest x y).map cn))) := by
        have hlm : ((prest x y).map cn).length = (prest x y).length := List.length_map ..
        rw [hlm]; exact hrem
      have k := Try.k65_1 (x.map cn) (y.map cn) _ (by simp; omega) hrem'
      obtain ⟨bs, hb⟩ := ih y (prest x y) (M * (x.length - y.length + 2)) hM' (by omega) (by omega) (by omega) py (prim_restN _ _ _ px) (ky.mono (by omega)) r3 (phi_next r2 hphi)
      exact ⟨bs, RunsW.loop k hb⟩
def RunsP (f : Nat) (args : List AV) (p : List Int) : Prop := Runs Try.ir f args (.fresh 2 (p.map cn).length (pc (p.map cn))) ∨ Runs Try.ir f args (.sl (p.map cn).length (pc (p.map cn)))
theorem apositive_P {p : List Int} {K : Nat} (hk : Kb K p) (hK : K ≤ 1048576) (hN : p.length ≤ 1048576) :
    (top p < 0 → Runs Try.ir 115 [.sl (p.map cn).length (pc (p.map cn))] (.fresh 2 ((ppos p).map cn).length (pc ((ppos p).map cn)))) ∧ (¬ top p < 0 → Runs Try.ir 115 [.sl (p.map cn).length (pc (p.map cn))] (.sl (p.map cn).length (pc (p.map cn)))) := by
  have h := apositive_run (rs := p.map cn) (fun r hr => (mcn_good hk r hr).mono hK) (by rw [List.length_map]; exact hN)
  rw [vals_cn] at h
  refine ⟨fun hn => ?_, h.2⟩
  have h1 := h.1 hn
  have e : ppos p = pneg p := by unfold ppos; rw [if_pos hn]
  have hl : ((pneg p).map cn).length = (p.map cn).length := by rw [List.length_map, List.length_map, pneg_len]
  rw [e, hl]
  exact h1
theorem ppos_not {p : List Int} (h : ¬ top p < 0) : ppos p = p := by unfold ppos; rw [if_neg h]
theorem pcomN_size : ∀ (f : Nat) (x y : List Int) (M : Nat), 0 < M → y.length ≤ f → y.length ≤ x.length → Lead x → Lead y → Kb (M - 1) x → Kb (M - 1) y → Kb (M * phi x.length y.length - 1) (pcomN f x y) ∧ (pcomN f x y).length ≤ x.length := by
  intro f
  induction f with
  | zero =>
    intro x y M hM _ h2 _ _ kx _
    refine ⟨kx.mono ?_, Nat.le_refl _⟩
    have : M * 1 ≤ M * phi x.length y.length := Nat.mul_le_mul_left _ (by unfold phi; exact Nat.mul_pos (by omega) (Nat.pow_pos (by decide)))
    omega
  | succ f ih =>
    intro x y M hM h1 h2 lx ly kx ky
    simp only [pcomN]
    split
    · refine ⟨kx.mono ?_, Nat.le_refl _⟩
      have : M * 1 ≤ M * phi x.length y.length := Nat.mul_le_mul_left _ (by unfold phi; exact Nat.mul_pos (by omega) (Nat.pow_pos (by decide)))
      omega
    · rename_i h
      have hyl := List.length_pos_iff.2 h
      obtain ⟨r1, r2, r3⟩ := prest_ok hM lx h kx ky h2
      have hM' : 0 < M * (x.length - y.length + 2) := Nat.mul_pos hM (by omega)
      have hMle : M ≤ M * (x.length - y.length + 2) := Nat.le_mul_of_pos_right M (by omega)
      obtain ⟨a, b⟩ := ih y (prest x y) (M * (x.length - y.length + 2)) hM' (by omega) (by omega) ly r1 (ky.mono (by omega)) r3
      exact ⟨a.mono (Nat.sub_le_sub_right (phi_next r2 (Nat.le_refl _)) 1), by omega⟩
theorem acommon_core {rs ss : List Rn} {g : List Int} {bs : List Rn} {K : Nat} (hr : ∀ r ∈ rs, Good K r) (hs : ∀ r ∈ ss, Good K r) (hK : K < 1048576) (hn : rs.length ≤ 1048576) (hm : ss.length ≤ 1048576) {Kg : Nat} (hg : Kb Kg g) (hKg : Kg ≤ 1048576) (hgl : g.length ≤ 1048576)
    (hl : RunsW Try.ir (.loop Try.c65) (Try.s65 ((prim (vals rs)).map cn) ((prim (vals ss)).map cn)) (.exit 0) (Try.s65 (g.map cn) bs)) :
    RunsP 65 [.sl rs.length (pc rs), .sl ss.length (pc ss)] (ppos g) := by
  have p1 := aprimitive_run hr hK hn
  have p2 := aprimitive_run hs hK hm
  have p1' : Runs Try.ir 86 [.sl rs.length (pc rs)] (.fresh 2 ((prim (vals rs)).map cn).length (pc ((prim (vals rs)).map cn))) := by rw [List.length_map]; exact p1
  have p2' : Runs Try.ir 86 [.sl ss.length (pc ss)] (.fresh 2 ((prim (vals ss)).map cn).length (pc ((prim (vals ss)).map cn))) := by rw [List.length_map]; exact p2
  obtain ⟨q1, q2⟩ := apositive_P hg hKg hgl
  by_cases h : top g < 0
  · exact .inl (Try.run65_f rs ss _ _ (g.map cn) bs _ p1' p2' hl (q1 h))
  · rw [ppos_not h]
    exact .inr (Try.run65_s rs ss _ _ (g.map cn) bs p1' p2' hl (q2 h))
theorem acommon_run {rs ss : List Rn} {K c : Nat} (hr : ∀ r ∈ rs, Good K r) (hs : ∀ r ∈ ss, Good K r) (hn : rs.length ≤ c) (hm : ss.length ≤ c) (hc : c ≤ 1048576) (hS : (K + 1) * (2 * 3 ^ c) ≤ 500000) :
    RunsP 65 [.sl rs.length (pc rs), .sl ss.length (pc ss)] (ppos (pgcd (prim (vals rs)) (prim (vals ss)))) := by
  have h3 : 0 < 3 ^ c := Nat.pow_pos (by decide)
  have hK : K + 1 ≤ 500000 := by
    have : (K + 1) * 1 ≤ (K + 1) * (2 * 3 ^ c) := Nat.mul_le_mul_left _ (by omega)
    omega
  have k1 : Kb K (prim (vals rs)) := (kb_of (fits_vals hr)).prim
  have k2 : Kb K (prim (vals ss)) := (kb_of (fits_vals hs)).prim
  have l1 : (prim (vals rs)).length ≤ rs.length := by rw [prim_length]; have := trim_len (vals rs); rwa [vals_length] at this
  have l2 : (prim (vals ss)).length ≤ ss.length := by rw [prim_length]; have := trim_len (vals ss); rwa [vals_length] at this
  unfold pgcd
  split
  · rename_i hl
    have hphi : (K + 1) * phi (prim (vals rs)).length (prim (vals ss)).length ≤ 500000 := Nat.le_trans (Nat.mul_le_mul_left _ (phi_max hl (by omega))) hS
    obtain ⟨bs, hb⟩ := com_loop (prim (vals ss)).length (prim (vals rs)) (prim (vals ss)) (K + 1) (by omega) (Nat.le_refl _) hl (by omega) (prim_prim _) (prim_prim _) k1 k2 hphi
    obtain ⟨s1, s2⟩ := pcomN_size (prim (vals ss)).length (prim (vals rs)) (prim (vals ss)) (K + 1) (by omega) (Nat.le_refl _) hl (lead_prim _) (lead_prim _) k1 k2
    exact acommon_core hr hs (by omega) (by omega) (by omega) s1 (by omega) (by omega) hb
  · rename_i hl
    have hphi : (K + 1) * phi (prim (vals ss)).length (prim (vals rs)).length ≤ 500000 := Nat.le_trans (Nat.mul_le_mul_left _ (phi_max (by omega) (by omega))) hS
    obtain ⟨bs, hb⟩ := com_loop (prim (vals rs)).length (prim (vals ss)) (prim (vals rs)) (K + 1) (by omega) (Nat.le_refl _) (by omega) (by omega) (prim_prim _) (prim_prim _) k2 k1 hphi
    obtain ⟨s1, s2⟩ := pcomN_size (prim (vals rs)).length (prim (vals ss)) (prim (vals rs)) (K + 1) (by omega) (Nat.le_refl _) (by omega) (lead_prim _) (lead_prim _) k2 k1
    -- one step that changes their places
    have hy0 : prim (vals ss) ≠ [] := by intro h; rw [h] at hl; simp at hl
    have hsw : prest (prim (vals rs)) (prim (vals ss)) = prim (vals rs) := by
      unfold prest
      cases hx : (prim (vals rs)).length with
      | zero => rfl
      | succ n => simp only [restN]; rw [if_neg hl]
    have hrem := aremainder_run (rs := (prim (vals rs)).map cn) (ss := (prim (vals ss)).map cn) (mcn_good k1) (mcn_good k2) (by omega) (by omega) (by rw [List.length_map]; omega) (by rw [List.length_map]; omega) (by rw [vals_cn, prim_prim]; exact hy0) (by
      rw [vals_cn, vals_cn, prim_prim, prim_prim, show (prim (vals rs)).length + 1 - (prim (vals ss)).length = 0 by omega, Nat.zero_mul]; omega)
    rw [vals_cn, vals_cn, prim_prim, prim_prim, hsw] at hrem
    have hrem' : Runs Try.ir 64 [.sl ((prim (vals rs)).map cn).length (pc ((prim (vals rs)).map cn)), .sl ((prim (vals ss)).map cn).length (pc ((prim (vals ss)).map cn))] (.fresh 2 ((prim (vals rs)).map cn).length (pc ((prim (vals rs)).map cn))) := by
      have hlm : ((prim (vals rs)).map cn).length = (prim (vals rs)).length := List.length_map ..
      rw [hlm] at hrem ⊢; exact hrem
    have k := Try.k65_1 ((prim (vals rs)).map cn) ((prim (vals ss)).map cn) _ (by rw [decide_eq_true_eq, List.length_map]; omega) hrem'
    exact acommon_core hr hs (by omega) (by omega) (by omega) s1 (by omega) (by omega) (RunsW.loop k hb)
def TMB : Table := TMA
theorem TMB_holds : THolds Try.ir TMB := TMA_holds
end Go.Proofs.Ythnnfemologhfaa

namespace Go.Proofs.Ythnnfemologhfaa
open Go.Ai
set_option maxRecDepth 100000
section
variable {p q : List Int} {J Kq : Nat}
end
def TMC : Table := TMB
theorem TMC_holds : THolds Try.ir TMC := TMB_holds
end Go.Proofs.Ythnnfemologhfaa

namespace Go.Proofs.Ythnnfemologhfaa
open Go.Ai
set_option maxRecDepth 100000
def Try.c61i : ICode := .seq (.seq (.region false [oM 17 6,
   oM 18 5,
   oB 19 .leq 17 18])
  (.cond (.t 19) (.skip)
  (.exit 2)))
  (.seq (.block 3 (.seq (.region false [oM 22 4,
   oM 23 6,
   o1 24 (.ixa 22 (.t 23) 2),
   o1 25 (.ld 24 24 2 false),
   oC 26 76 [25],
   o1 27 (.bin .gtr (.t 26) (.c (.int .i64 256)))])
  (.cond (.t 27) (.seq (.region false [o1 2 (.mov (.c (.bool true)))])
  (.ret))
  (.skip))))
  (.region false [oM 20 6,
   o1 21 (.bin .add (.t 20) (.c (.int .i64 1))),
   oM 6 21]))
def Try.s61i (o : Bool) (ps : List (List Rn)) (n : Int) (k : Int) (rs : List Rn) (d : Int) (i : Int) : State := (dds 2 (.val (.bool o) :: (dds 1 (.val (.sl rs.length (pc rs)) :: (.val (.int .i64 d) :: (.val (.int .i64 i) :: (.val (.sl ps.length (pp ps)) :: (.val (.int .i64 n) :: (.val (.int .i64 k) :: (dds 19 []))))))))))
theorem Try.k61i_1 (o : Bool) (ps : List (List Rn)) (n : Int) (k : Int) (rs : List Rn) (d : Int) (i : Int) (z : Int) (c1 : (decide (i ≤ d)) = true)
    (c2 : (decide (z > 256)) = true)
    (n1 : 0 ≤ i ∧ i < ((rs.length : Nat) : Int))
    (n2 : Runs Try.ir 76 [rawAV (rs.getD (Int.toNat i) z0)] (.int .i64 z)) : RunsW Try.ir Try.c61i (Try.s61i o ps n k rs d i) .ret (Try.s61i true ps n k rs d i) :=
  (RunsW.go TAA_holds 400 [.b true, .v (rawAV (rs.getD (Int.toNat i) z0)), .r (.int .i64 z), .b true] [2, 4, 5, 6, 7, 8, 9] (ac c1 (ac n1 (ac (show takeA (List.drop (Int.toNat i * 2) (pc rs)) 0 2 false = some (rawAV (rs.getD (Int.toNat i) z0)) from (take_pcI n1)) (ac n2 (ac c2 a0))))) (by kernel_rfl))
theorem Try.k61i_2 (o : Bool) (ps : List (List Rn)) (n : Int) (k : Int) (rs : List Rn) (d : Int) (i : Int) (z : Int) (c1 : (decide (i ≤ d)) = true)
    (c2 : (decide (z > 256)) = false)
    (n1 : 0 ≤ i ∧ i < ((rs.length : Nat) : Int))
    (n2 : Runs Try.ir 76 [rawAV (rs.getD (Int.toNat i) z0)] (.int .i64 z)) : RunsW Try.ir Try.c61i (Try.s61i o ps n k rs d i) .norm (Try.s61i o ps n k rs d (IntKind.i64.wrap (i + 1))) :=
  (RunsW.go TAA_holds 400 [.b true, .v (rawAV (rs.getD (Int.toNat i) z0)), .r (.int .i64 z), .b false] [2, 4, 5, 6, 7, 8, 9] (ac c1 (ac n1 (ac (show takeA (List.drop (Int.toNat i * 2) (pc rs)) 0 2 false = some (rawAV (rs.getD (Int.toNat i) z0)) from (take_pcI n1)) (ac n2 (ac c2 a0))))) (by kernel_rfl))
theorem Try.k61i_3 (o : Bool) (ps : List (List Rn)) (n : Int) (k : Int) (rs : List Rn) (d : Int) (i : Int)  (c1 : (decide (i ≤ d)) = false) : RunsW Try.ir Try.c61i (Try.s61i o ps n k rs d i) (.exit 2) (Try.s61i o ps n k rs d i) :=
  (RunsW.go TAA_holds 400 [.b false] [2, 4, 5, 6, 7, 8, 9] (ac c1 a0) (by kernel_rfl))
def Try.c61 : ICode := .seq (.region false [oB 10 .lss 9 8])
  (.seq (.cond (.t 10) (.skip)
  (.exit 0))
  (.seq (.block 1 (.seq (.region false [o1 11 (.ixa 7 (.t 9) 1),
   o1 12 (.ld 11 11 1 true),
   oM 4 12])
  (.seq (.region false [oM 13 4,
   oC 14 62 [13],
   oM 5 14])
  (.seq (.seq (.region false [oM 15 5,
   o1 16 (.bin .gtr (.t 15) (.c (.int .i64 16)))])
  (.cond (.t 16) (.seq (.region false [o1 2 (.mov (.c (.bool true)))])
  (.ret))
  (.skip)))
  (.seq (.region false [o1 6 (.mov (.c (.int .i64 0)))])
  (.block 2 (.loop (.seq (.seq (.region false [oM 17 6,
   oM 18 5,
   oB 19 .leq 17 18])
  (.cond (.t 19) (.skip)
  (.exit 2)))
  (.seq (.block 3 (.seq (.region false [oM 22 4,
   oM 23 6,
   o1 24 (.ixa 22 (.t 23) 2),
   o1 25 (.ld 24 24 2 false),
   oC 26 76 [25],
   o1 27 (.bin .gtr (.t 26) (.c (.int .i64 256)))])
  (.cond (.t 27) (.seq (.region false [o1 2 (.mov (.c (.bool true)))])
  (.ret))
  (.skip))))
  (.region false [oM 20 6,
   o1 21 (.bin .add (.t 20) (.c (.int .i64 1))),
   oM 6 21]))))))))))
  (.region false [o1 28 (.bin .add (.t 9) (.c (.int .i64 1))),
   oM 9 28])))
def Try.s61 (o : Bool) (ps : List (List Rn)) (n : Int) (k : Int) : State := (dds 2 (.val (.bool o) :: (dds 4 (.val (.sl ps.length (pp ps)) :: (.val (.int .i64 n) :: (.val (.int .i64 k) :: (dds 19 [])))))))
theorem Try.k61_1 (o : Bool) (ps : List (List Rn)) (n : Int) (k : Int) (d : Int) (c1 : (decide (k < n)) = true)
    (c2 : (decide (d > 16)) = true)
    (n1 : 0 ≤ k ∧ k < ((ps.length : Nat) : Int))
    (n2 : Runs Try.ir 62 [.sl ((ps.getD (Int.toNat k) []).length) (pc (ps.getD (Int.toNat k) []))] (.int .i64 d)) : RunsW Try.ir Try.c61 (Try.s61 o ps n k) .ret (Try.s61 true ps n k) :=
  (RunsW.seq (RunsW.go (t := (dds 2 (.val (.bool o) :: (dds 4 (.val (.sl ps.length (pp ps)) :: (.val (.int .i64 n) :: (.val (.int .i64 k) :: (.val (.bool (decide (k < n))) :: (dds 18 []))))))))) (ex := .norm) TAA_holds 400 [] [2, 7, 8, 9, 10] a0 (by kernel_rfl))
    (RunsW.seq (RunsW.go (t := (dds 2 (.val (.bool o) :: (dds 4 (.val (.sl ps.length (pp ps)) :: (.val (.int .i64 n) :: (.val (.int .i64 k) :: (dds 19 [])))))))) (ex := .norm) TAA_holds 400 [.b true] [2, 7, 8, 9] (ac c1 a0) (by kernel_rfl))
    (RunsW.seq_out (RunsW.block_ret (RunsW.seq (RunsW.go (t := (dds 2 (.val (.bool o) :: (dds 1 (.val (.sl ((ps.getD (Int.toNat k) []).length) (pc (ps.getD (Int.toNat k) []))) :: (dds 2 (.val (.sl ps.length (pp ps)) :: (.val (.int .i64 n) :: (.val (.int .i64 k) :: (dds 19 [])))))))))) (ex := .norm) TAA_holds 400 [.v (.sl ((ps.getD (Int.toNat k) []).length) (pc (ps.getD (Int.toNat k) [])))] [2, 4, 7, 8, 9] (ac n1 (ac (show takeA (List.drop (Int.toNat k * 1) (pp ps)) 0 1 true = some (.sl ((ps.getD (Int.toNat k) []).length) (pc (ps.getD (Int.toNat k) []))) from (take_ppI n1)) a0)) (by kernel_rfl))
    (RunsW.seq (RunsW.go (t := (dds 2 (.val (.bool o) :: (dds 1 (.val (.sl ((ps.getD (Int.toNat k) []).length) (pc (ps.getD (Int.toNat k) []))) :: (.val (.int .i64 d) :: (dds 1 (.val (.sl ps.length (pp ps)) :: (.val (.int .i64 n) :: (.val (.int .i64 k) :: (dds 19 []))))))))))) (ex := .norm) TAA_holds 400 [.r (.int .i64 d)] [2, 4, 5, 7, 8, 9] (ac n2 a0) (by kernel_rfl))
    (RunsW.seq_out (RunsW.go TAA_holds 400 [.b true] [2, 7, 8, 9] (ac c2 a0) (by kernel_rfl)) (by intro e; cases e))))) (by intro e; cases e))))
theorem Try.k61_2 (o : Bool) (ps : List (List Rn)) (n : Int) (k : Int) (d i : Int) (c1 : (decide (k < n)) = true)
    (c2 : (decide (d > 16)) = false)
    (n1 : 0 ≤ k ∧ k < ((ps.length : Nat) : Int))
    (n2 : Runs Try.ir 62 [.sl ((ps.getD (Int.toNat k) []).length) (pc (ps.getD (Int.toNat k) []))] (.int .i64 d))
    (hl3 : RunsW Try.ir (.loop Try.c61i) (Try.s61i o ps n k (ps.getD (Int.toNat k) []) d 0) (.exit 2) (Try.s61i o ps n k (ps.getD (Int.toNat k) []) d i)) : RunsW Try.ir Try.c61 (Try.s61 o ps n k) .norm (Try.s61 o ps n (IntKind.i64.wrap (k + 1))) :=
  (RunsW.seq (RunsW.go (t := (dds 2 (.val (.bool o) :: (dds 4 (.val (.sl ps.length (pp ps)) :: (.val (.int .i64 n) :: (.val (.int .i64 k) :: (.val (.bool (decide (k < n))) :: (dds 18 []))))))))) (ex := .norm) TAA_holds 400 [] [2, 7, 8, 9, 10] a0 (by kernel_rfl))
    (RunsW.seq (RunsW.go (t := (dds 2 (.val (.bool o) :: (dds 4 (.val (.sl ps.length (pp ps)) :: (.val (.int .i64 n) :: (.val (.int .i64 k) :: (dds 19 [])))))))) (ex := .norm) TAA_holds 400 [.b true] [2, 7, 8, 9] (ac c1 a0) (by kernel_rfl))
    (RunsW.seq (RunsW.block_norm (RunsW.seq (RunsW.go (t := (dds 2 (.val (.bool o) :: (dds 1 (.val (.sl ((ps.getD (Int.toNat k) []).length) (pc (ps.getD (Int.toNat k) []))) :: (dds 2 (.val (.sl ps.length (pp ps)) :: (.val (.int .i64 n) :: (.val (.int .i64 k) :: (dds 19 [])))))))))) (ex := .norm) TAA_holds 400 [.v (.sl ((ps.getD (Int.toNat k) []).length) (pc (ps.getD (Int.toNat k) [])))] [2, 4, 7, 8, 9] (ac n1 (ac (show takeA (List.drop (Int.toNat k * 1) (pp ps)) 0 1 true = some (.sl ((ps.getD (Int.toNat k) []).length) (pc (ps.getD (Int.toNat k) []))) from (take_ppI n1)) a0)) (by kernel_rfl))
    (RunsW.seq (RunsW.go (t := (dds 2 (.val (.bool o) :: (dds 1 (.val (.sl ((ps.getD (Int.toNat k) []).length) (pc (ps.getD (Int.toNat k) []))) :: (.val (.int .i64 d) :: (dds 1 (.val (.sl ps.length (pp ps)) :: (.val (.int .i64 n) :: (.val (.int .i64 k) :: (dds 19 []))))))))))) (ex := .norm) TAA_holds 400 [.r (.int .i64 d)] [2, 4, 5, 7, 8, 9] (ac n2 a0) (by kernel_rfl))
    (RunsW.seq (RunsW.go (t := (dds 2 (.val (.bool o) :: (dds 1 (.val (.sl ((ps.getD (Int.toNat k) []).length) (pc (ps.getD (Int.toNat k) []))) :: (.val (.int .i64 d) :: (dds 1 (.val (.sl ps.length (pp ps)) :: (.val (.int .i64 n) :: (.val (.int .i64 k) :: (dds 19 []))))))))))) (ex := .norm) TAA_holds 400 [.b false] [2, 4, 5, 7, 8, 9] (ac c2 a0) (by kernel_rfl))
    (RunsW.seq (RunsW.go TAA_holds 400 [] [2, 4, 5, 6, 7, 8, 9] a0 (by kernel_rfl))
    (RunsW.block hl3))))))
    (RunsW.go TAA_holds 400 [] [2, 7, 8, 9] a0 (by kernel_rfl)))))
theorem Try.k61_3 (o : Bool) (ps : List (List Rn)) (n : Int) (k : Int)  (c1 : (decide (k < n)) = false) : RunsW Try.ir Try.c61 (Try.s61 o ps n k) (.exit 0) (Try.s61 o ps n k) :=
  (RunsW.seq (RunsW.go (t := (dds 2 (.val (.bool o) :: (dds 4 (.val (.sl ps.length (pp ps)) :: (.val (.int .i64 n) :: (.val (.int .i64 k) :: (.val (.bool (decide (k < n))) :: (dds 18 []))))))))) (ex := .norm) TAA_holds 400 [] [2, 7, 8, 9, 10] a0 (by kernel_rfl))
    (RunsW.seq_out (RunsW.go TAA_holds 400 [.b false] [2, 7, 8, 9] (ac c1 a0) (by kernel_rfl)) (by intro e; cases e)))
def Try.c61y : ICode := .seq (.region false [oB 10 .lss 9 8])
  (.seq (.cond (.t 10) (.skip)
  (.exit 0))
  (.seq (.block 1 (.seq (.region false [o1 11 (.ixa 7 (.t 9) 1),
   o1 12 (.ld 11 11 1 true),
   oM 4 12])
  (.seq (.region false [oM 13 4,
   oC 14 62 [13],
   oM 5 14])
  (.seq (.seq (.region false [oM 15 5,
   o1 16 (.bin .gtr (.t 15) (.c (.int .i64 16)))])
  (.cond (.t 16) (.seq (.region false [o1 2 (.mov (.c (.bool true)))])
  (.ret))
  (.skip)))
  (.seq (.region false [o1 6 (.mov (.c (.int .i64 0)))])
  (.block 2 (.loop (.seq (.seq (.region false [oM 17 6,
   oM 18 5,
   oB 19 .leq 17 18])
  (.cond (.t 19) (.skip)
  (.exit 2)))
  (.seq (.block 3 (.seq (.region false [oM 22 4,
   oM 23 6,
   o1 24 (.ixa 22 (.t 23) 2),
   o1 25 (.ld 24 24 2 false),
   oC 26 76 [25],
   o1 27 (.bin .gtr (.t 26) (.c (.int .i64 256)))])
  (.cond (.t 27) (.seq (.region false [o1 2 (.mov (.c (.bool true)))])
  (.ret))
  (.skip))))
  (.region false [oM 20 6,
   o1 21 (.bin .add (.t 20) (.c (.int .i64 1))),
   oM 6 21]))))))))))
  (.region false [o1 28 (.bin .add (.t 9) (.c (.int .i64 1))),
   oM 9 28])))
def Try.s61y (o : Bool) (ps : List (List Rn)) (n : Int) (k : Int) : State := (dds 2 (.val (.bool o) :: (dds 4 (.val (.sl ps.length (pp ps)) :: (.val (.int .i64 n) :: (.val (.int .i64 k) :: (dds 19 [])))))))
theorem Try.k61y_2 (o : Bool) (ps : List (List Rn)) (n : Int) (k : Int) (d i : Int) (c1 : (decide (k < n)) = true)
    (c2 : (decide (d > 16)) = false)
    (n1 : 0 ≤ k ∧ k < ((ps.length : Nat) : Int))
    (n2 : Runs Try.ir 62 [.sl ((ps.getD (Int.toNat k) []).length) (pc (ps.getD (Int.toNat k) []))] (.int .i64 d))
    (hl3 : RunsW Try.ir (.loop Try.c61i) (Try.s61i o ps n k (ps.getD (Int.toNat k) []) d 0) .ret (Try.s61i true ps n k (ps.getD (Int.toNat k) []) d i)) : RunsW Try.ir Try.c61y (Try.s61y o ps n k) .ret (Try.s61y true ps n k) :=
  (RunsW.seq (RunsW.go (t := (dds 2 (.val (.bool o) :: (dds 4 (.val (.sl ps.length (pp ps)) :: (.val (.int .i64 n) :: (.val (.int .i64 k) :: (.val (.bool (decide (k < n))) :: (dds 18 []))))))))) (ex := .norm) TAA_holds 400 [] [2, 7, 8, 9, 10] a0 (by kernel_rfl))
    (RunsW.seq (RunsW.go (t := (dds 2 (.val (.bool o) :: (dds 4 (.val (.sl ps.length (pp ps)) :: (.val (.int .i64 n) :: (.val (.int .i64 k) :: (dds 19 [])))))))) (ex := .norm) TAA_holds 400 [.b true] [2, 7, 8, 9] (ac c1 a0) (by kernel_rfl))
    (RunsW.seq_out (RunsW.block_ret (RunsW.seq (RunsW.go (t := (dds 2 (.val (.bool o) :: (dds 1 (.val (.sl ((ps.getD (Int.toNat k) []).length) (pc (ps.getD (Int.toNat k) []))) :: (dds 2 (.val (.sl ps.length (pp ps)) :: (.val (.int .i64 n) :: (.val (.int .i64 k) :: (dds 19 [])))))))))) (ex := .norm) TAA_holds 400 [.v (.sl ((ps.getD (Int.toNat k) []).length) (pc (ps.getD (Int.toNat k) [])))] [2, 4, 7, 8, 9] (ac n1 (ac (show takeA (List.drop (Int.toNat k * 1) (pp ps)) 0 1 true = some (.sl ((ps.getD (Int.toNat k) []).length) (pc (ps.getD (Int.toNat k) []))) from (take_ppI n1)) a0)) (by kernel_rfl))
    (RunsW.seq (RunsW.go (t := (dds 2 (.val (.bool o) :: (dds 1 (.val (.sl ((ps.getD (Int.toNat k) []).length) (pc (ps.getD (Int.toNat k) []))) :: (.val (.int .i64 d) :: (dds 1 (.val (.sl ps.length (pp ps)) :: (.val (.int .i64 n) :: (.val (.int .i64 k) :: (dds 19 []))))))))))) (ex := .norm) TAA_holds 400 [.r (.int .i64 d)] [2, 4, 5, 7, 8, 9] (ac n2 a0) (by kernel_rfl))
    (RunsW.seq (RunsW.go (t := (dds 2 (.val (.bool o) :: (dds 1 (.val (.sl ((ps.getD (Int.toNat k) []).length) (pc (ps.getD (Int.toNat k) []))) :: (.val (.int .i64 d) :: (dds 1 (.val (.sl ps.length (pp ps)) :: (.val (.int .i64 n) :: (.val (.int .i64 k) :: (dds 19 []))))))))))) (ex := .norm) TAA_holds 400 [.b false] [2, 4, 5, 7, 8, 9] (ac c2 a0) (by kernel_rfl))
    (RunsW.seq (RunsW.go TAA_holds 400 [] [2, 4, 5, 6, 7, 8, 9] a0 (by kernel_rfl))
    (RunsW.block_ret (RunsW.keep (t' := (dds 2 (.val (.bool true) :: (dds 4 (.val (.sl ps.length (pp ps)) :: (.val (.int .i64 n) :: (.val (.int .i64 k) :: (dds 19 [])))))))) [2, 7, 8, 9] hl3 (by kernel_rfl)))))))) (by intro e; cases e))))
theorem Try.run61_n (ps : List (List Rn)) (n k : Int) (hl1 : RunsW Try.ir (.loop Try.c61) (Try.s61 false ps ((ps.length : Nat) : Int) 0) (.exit 0) (Try.s61 false ps n k)) : Runs Try.ir 61 [.sl ps.length (pp ps)] (.bool false) :=
  Runs.of_bodyW (fn := Try.i61) (s := (dds 2 (.val (.bool false) :: (dds 26 [])))) (ex := .ret) rfl rfl
    (RunsW.seq (RunsW.go (t := (.val (.sl ps.length (pp ps)) :: (dds 1 (.val (.bool false) :: (dds 26 []))))) (ex := .norm) TAA_holds 400 [] [0, 2] a0 (by kernel_rfl))
    (RunsW.seq (RunsW.seq (RunsW.go TAA_holds 400 [] [2, 7, 8, 9] a0 (by kernel_rfl))
    (RunsW.block hl1))
    (RunsW.go TAA_holds 400 [] [2] a0 (by kernel_rfl)))) (by intro i e; cases e) rfl
theorem Try.run61_y (ps : List (List Rn)) (n k : Int) (hl1 : RunsW Try.ir (.loop Try.c61) (Try.s61 false ps ((ps.length : Nat) : Int) 0) .ret (Try.s61 true ps n k)) : Runs Try.ir 61 [.sl ps.length (pp ps)] (.bool true) :=
  Runs.of_bodyW (fn := Try.i61) (s := (dds 2 (.val (.bool true) :: (dds 4 (.val (.sl ps.length (pp ps)) :: (.val (.int .i64 n) :: (.val (.int .i64 k) :: (dds 19 [])))))))) (ex := .ret) rfl rfl
    (RunsW.seq (RunsW.go (t := (.val (.sl ps.length (pp ps)) :: (dds 1 (.val (.bool false) :: (dds 26 []))))) (ex := .norm) TAA_holds 400 [] [0, 2] a0 (by kernel_rfl))
    (RunsW.seq_out (RunsW.seq (RunsW.go TAA_holds 400 [] [2, 7, 8, 9] a0 (by kernel_rfl))
    (RunsW.block_ret hl1)) (by intro e; cases e))) (by intro i e; cases e) rfl
end Go.Proofs.Ythnnfemologhfaa

namespace Go.Proofs.Ythnnfemologhfaa
open Go.Ai
set_option maxRecDepth 100000
def bigC (x : Int) : Bool := decide (256 < (limbs x.natAbs).length)
def largeV (p : List Int) : Bool := decide (17 < (trimL p).length) || (trimL p).any bigC
theorem any_false {p : List Int} {f : Int → Bool} (h : p.any f = false) (i : Nat) (hi : i < p.length) : f (p.getD i 0) = false := by
  rw [List.any_eq_false] at h
  rw [List.getD_eq_getElem?_getD, List.getElem?_eq_getElem hi]
  simpa using h _ (List.getElem_mem hi)
theorem any_true {p : List Int} {f : Int → Bool} (h : p.any f = true) : ∃ i, i < p.length ∧ f (p.getD i 0) = true := by
  obtain ⟨x, hx, hf⟩ := List.any_eq_true.1 h
  obtain ⟨i, hi, rfl⟩ := List.mem_iff_getElem.1 hx
  refine ⟨i, hi, ?_⟩
  rw [List.getD_eq_getElem?_getD, List.getElem?_eq_getElem hi]
  simpa using hf
section
variable {rs : List Rn} {ps : List (List Rn)} {n k : Int}
theorem Try.loop61i (hg : ∀ r ∈ rs, Good 1048576 r) (hN : rs.length ≤ 1048576) :
    (largeV (vals rs) = false → (trimL (vals rs)).length ≤ 17 → RunsW Try.ir (.loop Try.c61i) (Try.s61i false ps n k rs (((topN (vals rs) rs.length : Nat) : Int) - 1) 0) (.exit 2) (Try.s61i false ps n k rs (((topN (vals rs) rs.length : Nat) : Int) - 1) (topN (vals rs) rs.length : Nat))) ∧
    (largeV (vals rs) = true → (trimL (vals rs)).length ≤ 17 → ∃ j : Nat, RunsW Try.ir (.loop Try.c61i) (Try.s61i false ps n k rs (((topN (vals rs) rs.length : Nat) : Int) - 1) 0) .ret (Try.s61i true ps n k rs (((topN (vals rs) rs.length : Nat) : Int) - 1) (j : Nat))) := by
  have hle := topN_le (vals rs) rs.length
  have hlen : (trimL (vals rs)).length = topN (vals rs) rs.length := by rw [trim_length, vals_length]
  have step : ∀ t : Nat, t < topN (vals rs) rs.length → bigC (rval (rs.getD t z0)) = false → RunsW Try.ir Try.c61i (Try.s61i false ps n k rs (((topN (vals rs) rs.length : Nat) : Int) - 1) (t : Nat)) .norm (Try.s61i false ps n k rs (((topN (vals rs) rs.length : Nat) : Int) - 1) ((t + 1 : Nat) : Int)) := by
    intro t ht hb
    have ei : IntKind.i64.wrap (((t : Nat) : Int) + 1) = ((t + 1 : Nat) : Int) := by rw [w64 (by omega) (by omega)]; omega
    obtain ⟨g1, g2⟩ := good_getD hg t
    have k2 := Try.k61i_2 false ps n k rs (((topN (vals rs) rs.length : Nat) : Int) - 1) (t : Nat) (((limbs (rval (rs.getD t z0)).natAbs).length : Nat) : Int) (by simp; omega) (by unfold bigC at hb; simp only [decide_eq_false_iff_not] at hb ⊢; omega) (by omega) (by rw [Int.toNat_natCast]; exact wsize_run g1 g2)
    rwa [ei] at k2
  refine ⟨fun hl _ => ?_, fun hl h17 => ?_⟩
  · unfold largeV at hl
    rw [Bool.or_eq_false_iff] at hl
    have h := RunsW.upTo (prog := Try.ir) (c := Try.c61i) (ex := .exit 2) (fun t => Try.s61i false ps n k rs (((topN (vals rs) rs.length : Nat) : Int) - 1) (t : Nat)) (topN (vals rs) rs.length) (by intro e; cases e) (Try.k61i_3 false ps n k rs _ _ (by simp; omega)) 0 (Nat.zero_le _) (fun t _ h2 => step t h2 (by
      have := any_false hl.2 t (by omega)
      rwa [getD_trim, vals_getD] at this))
    exact h
  · unfold largeV at hl
    rw [decide_eq_false (by omega), Bool.false_or] at hl
    obtain ⟨i, hi, hf⟩ := any_true hl
    rcases first_from (fun j => bigC (rval (rs.getD j z0))) (topN (vals rs) rs.length) _ 0 (by rw [Nat.zero_add]) with h | ⟨j, _, h2, h3, h4⟩
    · have := h i (by omega) (by omega)
      rw [getD_trim, vals_getD] at hf
      rw [hf] at this
      cases this
    · obtain ⟨g1, g2⟩ := good_getD hg j
      have k1 := Try.k61i_1 false ps n k rs (((topN (vals rs) rs.length : Nat) : Int) - 1) (j : Nat) (((limbs (rval (rs.getD j z0)).natAbs).length : Nat) : Int) (by simp; omega) (by unfold bigC at h3; simp only [decide_eq_true_eq] at h3 ⊢; omega) (by omega) (by rw [Int.toNat_natCast]; exact wsize_run g1 g2)
      exact ⟨j, RunsW.upTo (prog := Try.ir) (c := Try.c61i) (ex := .ret) (fun t => Try.s61i false ps n k rs (((topN (vals rs) rs.length : Nat) : Int) - 1) (t : Nat)) j (by intro e; cases e) k1 0 (Nat.zero_le _) (fun t _ h6 => step t (by omega) (h4 t (by omega) h6))⟩
end
theorem getD_mem {α : Type} {l : List (List α)} {i : Nat} (h : i < l.length) : l.getD i [] ∈ l := by
  rw [List.getD_eq_getElem?_getD, List.getElem?_eq_getElem h]; exact List.getElem_mem h
theorem plarge_run {ps : List (List Rn)} (hg : ∀ p ∈ ps, (∀ r ∈ p, Good 1048576 r) ∧ p.length ≤ 1048576) (hN : ps.length ≤ 1048576) : Runs Try.ir 61 [.sl ps.length (pp ps)] (.bool (ps.any fun p => largeV (vals p))) := by
  have hdeg : ∀ t, t < ps.length → Runs Try.ir 62 [.sl (ps.getD t []).length (pc (ps.getD t []))] (.int .i64 (((topN (vals (ps.getD t [])) (ps.getD t []).length : Nat) : Int) - 1)) := fun t ht => degree_run (hg _ (getD_mem ht)).1 (hg _ (getD_mem ht)).2
  have step : ∀ t : Nat, t < ps.length → largeV (vals (ps.getD t [])) = false → RunsW Try.ir Try.c61 (Try.s61 false ps (ps.length : Nat) (t : Nat)) .norm (Try.s61 false ps (ps.length : Nat) ((t + 1 : Nat) : Int)) := by
    intro t ht hl
    have ei : IntKind.i64.wrap (((t : Nat) : Int) + 1) = ((t + 1 : Nat) : Int) := by rw [w64 (by omega) (by omega)]; omega
    obtain ⟨g1, g2⟩ := hg _ (getD_mem ht)
    have hlen : (trimL (vals (ps.getD t []))).length = topN (vals (ps.getD t [])) (ps.getD t []).length := by rw [trim_length, vals_length]
    have h17 : (trimL (vals (ps.getD t []))).length ≤ 17 := by
      unfold largeV at hl
      rw [Bool.or_eq_false_iff, decide_eq_false_iff_not] at hl
      omega
    have k2 := Try.k61_2 false ps (ps.length : Nat) (t : Nat) (((topN (vals (ps.getD t [])) (ps.getD t []).length : Nat) : Int) - 1) _ (by simp; omega) (by rw [decide_eq_false_iff_not]; omega) (by omega) (by rw [Int.toNat_natCast]; exact hdeg t ht) (by rw [Int.toNat_natCast]; exact (Try.loop61i g1 g2).1 hl h17)
    rwa [ei] at k2
  rcases first_from (fun j => largeV (vals (ps.getD j []))) ps.length _ 0 (by rw [Nat.zero_add]) with h | ⟨j, _, h2, h3, h4⟩
  · have hany : (ps.any fun p => largeV (vals p)) = false := by
      rw [List.any_eq_false]
      intro p hp
      obtain ⟨i, hi, rfl⟩ := List.mem_iff_getElem.1 hp
      have := h i (by omega) hi
      rw [List.getD_eq_getElem?_getD, List.getElem?_eq_getElem hi] at this
      simpa using this
    rw [hany]
    exact Try.run61_n ps _ _ (RunsW.upTo (prog := Try.ir) (c := Try.c61) (ex := .exit 0) (fun t => Try.s61 false ps (ps.length : Nat) (t : Nat)) ps.length (by intro e; cases e) (Try.k61_3 false ps _ _ (by simp)) 0 (Nat.zero_le _) (fun t _ h6 => step t h6 (h t (by omega) h6)))
  · have hany : (ps.any fun p => largeV (vals p)) = true := by
      rw [List.any_eq_true]
      exact ⟨_, getD_mem h2, h3⟩
    rw [hany]
    obtain ⟨g1, g2⟩ := hg _ (getD_mem h2)
    have hlen : (trimL (vals (ps.getD j []))).length = topN (vals (ps.getD j [])) (ps.getD j []).length := by rw [trim_length, vals_length]
    have out : RunsW Try.ir Try.c61 (Try.s61 false ps (ps.length : Nat) (j : Nat)) .ret (Try.s61 true ps (ps.length : Nat) (j : Nat)) := by
      by_cases h17 : (trimL (vals (ps.getD j []))).length ≤ 17
      · obtain ⟨i, hi⟩ := (Try.loop61i (ps := ps) (n := (ps.length : Nat)) (k := (j : Nat)) g1 g2).2 h3 h17
        exact Try.k61y_2 false ps (ps.length : Nat) (j : Nat) (((topN (vals (ps.getD j [])) (ps.getD j []).length : Nat) : Int) - 1) _ (by simp; omega) (by rw [decide_eq_false_iff_not]; omega) (by omega) (by rw [Int.toNat_natCast]; exact hdeg j h2) (by rw [Int.toNat_natCast]; exact hi)
      · exact Try.k61_1 false ps (ps.length : Nat) (j : Nat) (((topN (vals (ps.getD j [])) (ps.getD j []).length : Nat) : Int) - 1) (by simp; omega) (by rw [decide_eq_true_eq]; omega) (by omega) (by rw [Int.toNat_natCast]; exact hdeg j h2)
    exact Try.run61_y ps _ _ (RunsW.upTo (prog := Try.ir) (c := Try.c61) (ex := .ret) (fun t => Try.s61 false ps (ps.length : Nat) (t : Nat)) j (by intro e; cases e) out 0 (Nat.zero_le _) (fun t _ h6 => step t (by omega) (h4 t (by omega) h6)))
theorem plarge1_run {rs : List Rn} (hg : ∀ r ∈ rs, Good 1048576 r) (hN : rs.length ≤ 1048576) : Runs Try.ir 61 [.sl 1 [.sl rs.length (pc rs)]] (.bool (largeV (vals rs))) := by
  have h := plarge_run (ps := [rs]) (fun p hp => by rw [List.mem_singleton.1 hp]; exact ⟨hg, hN⟩) (by simp)
  simpa [pp] using h
end Go.Proofs.Ythnnfemologhfaa

namespace Go.Proofs.Ythnnfemologhfaa
open Go.Ai
set_option maxRecDepth 100000
def Try.c72i : ICode := .seq (.seq (.region false [oM 32 9,
   oM 33 6,
   oB 34 .lss 32 33])
  (.cond (.t 34) (.skip)
  (.exit 2)))
  (.seq (.block 3 (.region true [o1 37 (.cpy 7),
   oM 38 8,
   oM 39 9,
   oB 40 .add 38 39,
   o1 41 (.cpy 7),
   oM 42 8,
   oM 43 9,
   oB 44 .add 42 43,
   o1 45 (.ixo 41 7 (.t 44) 2),
   o1 46 (.ld 45 7 2 false),
   oM 47 0,
   oM 48 8,
   o1 49 (.ixa 47 (.t 48) 2),
   o1 50 (.ld 49 49 2 false),
   oM 51 1,
   oM 52 9,
   o1 53 (.ixa 51 (.t 52) 2),
   o1 54 (.ld 53 53 2 false),
   oC 55 113 [50, 54],
   oC 56 121 [46, 55],
   o1 57 (.ixo 37 7 (.t 40) 2),
   oN (.st 57 7 2 (.t 56))]))
  (.region false [oM 35 9,
   o1 36 (.bin .add (.t 35) (.c (.int .i64 1))),
   oM 9 36]))
def Try.s72i (rs : List Rn) (ss : List Rn) (n : Int) (m : Int) (k : Nat) (os : List Rn) (i : Int) (j : Int) : State := (.val (.sl rs.length (pc rs)) :: (.val (.sl ss.length (pc ss)) :: (dds 3 (.val (.int .i64 n) :: (.val (.int .i64 m) :: (.own 2 k (pc os) :: (.val (.int .i64 i) :: (.val (.int .i64 j) :: (dds 50 [])))))))))
theorem Try.k72i_1 (rs : List Rn) (ss : List Rn) (n : Int) (m : Int) (k : Nat) (os : List Rn) (i : Int) (j : Int)  (c1 : (decide (j < m)) = true)
    (n1 : 0 ≤ (IntKind.i64.wrap (i + j)) ∧ (IntKind.i64.wrap (i + j)) < ((k : Nat) : Int))
    (n2 : os.length = k)
    (n3 : 0 ≤ i ∧ i < ((rs.length : Nat) : Int))
    (n4 : 0 ≤ j ∧ j < ((ss.length : Nat) : Int))
    (n5 : Runs Try.ir 113 [rawAV (rs.getD (Int.toNat i) z0), rawAV (ss.getD (Int.toNat j) z0)] (bigAV ((rval (rs.getD (Int.toNat i) z0)) * (rval (ss.getD (Int.toNat j) z0)))))
    (n6 : Runs Try.ir 121 [rawAV (os.getD (Int.toNat (IntKind.i64.wrap (i + j))) z0), bigAV ((rval (rs.getD (Int.toNat i) z0)) * (rval (ss.getD (Int.toNat j) z0)))] (bigAV ((rval (os.getD (Int.toNat (IntKind.i64.wrap (i + j))) z0)) + ((rval (rs.getD (Int.toNat i) z0)) * (rval (ss.getD (Int.toNat j) z0)))))) : RunsW Try.ir Try.c72i (Try.s72i rs ss n m k os i j) .norm (Try.s72i rs ss n m k (os.set (Int.toNat (IntKind.i64.wrap (i + j))) (cn ((rval (os.getD (Int.toNat (IntKind.i64.wrap (i + j))) z0)) + ((rval (rs.getD (Int.toNat i) z0)) * (rval (ss.getD (Int.toNat j) z0)))))) i (IntKind.i64.wrap (j + 1))) :=
  (RunsW.go TAA_holds 400 [.b true, .v (rawAV (os.getD (Int.toNat (IntKind.i64.wrap (i + j))) z0)), .v (rawAV (rs.getD (Int.toNat i) z0)), .v (rawAV (ss.getD (Int.toNat j) z0)), .r (bigAV ((rval (rs.getD (Int.toNat i) z0)) * (rval (ss.getD (Int.toNat j) z0)))), .r (bigAV ((rval (os.getD (Int.toNat (IntKind.i64.wrap (i + j))) z0)) + ((rval (rs.getD (Int.toNat i) z0)) * (rval (ss.getD (Int.toNat j) z0))))), .l (pc (os.set (Int.toNat (IntKind.i64.wrap (i + j))) (cn ((rval (os.getD (Int.toNat (IntKind.i64.wrap (i + j))) z0)) + ((rval (rs.getD (Int.toNat i) z0)) * (rval (ss.getD (Int.toNat j) z0)))))))] [0, 1, 5, 6, 7, 8, 9] (ac c1 (ac n1 (ac (own_pcI n2 n1) (ac n3 (ac (show takeA (List.drop (Int.toNat i * 2) (pc rs)) 0 2 false = some (rawAV (rs.getD (Int.toNat i) z0)) from (take_pcI n3)) (ac n4 (ac (show takeA (List.drop (Int.toNat j * 2) (pc ss)) 0 2 false = some (rawAV (ss.getD (Int.toNat j) z0)) from (take_pcI n4)) (ac n5 (ac n6 (ac n1 (ac (lay_pcI (r := cn ((rval (os.getD (Int.toNat (IntKind.i64.wrap (i + j))) z0)) + ((rval (rs.getD (Int.toNat i) z0)) * (rval (ss.getD (Int.toNat j) z0))))) n2 n1) a0))))))))))) (by kernel_rfl))
theorem Try.k72i_2 (rs : List Rn) (ss : List Rn) (n : Int) (m : Int) (k : Nat) (os : List Rn) (i : Int) (j : Int)  (c1 : (decide (j < m)) = false) : RunsW Try.ir Try.c72i (Try.s72i rs ss n m k os i j) (.exit 2) (Try.s72i rs ss n m k os i j) :=
  (RunsW.go TAA_holds 400 [.b false] [0, 1, 5, 6, 7, 8, 9] (ac c1 a0) (by kernel_rfl))
def Try.c72 : ICode := .seq (.seq (.region false [oM 27 8,
   oM 28 5,
   oB 29 .lss 27 28])
  (.cond (.t 29) (.skip)
  (.exit 0)))
  (.seq (.block 1 (.seq (.region false [o1 9 (.mov (.c (.int .i64 0)))])
  (.block 2 (.loop (.seq (.seq (.region false [oM 32 9,
   oM 33 6,
   oB 34 .lss 32 33])
  (.cond (.t 34) (.skip)
  (.exit 2)))
  (.seq (.block 3 (.region true [o1 37 (.cpy 7),
   oM 38 8,
   oM 39 9,
   oB 40 .add 38 39,
   o1 41 (.cpy 7),
   oM 42 8,
   oM 43 9,
   oB 44 .add 42 43,
   o1 45 (.ixo 41 7 (.t 44) 2),
   o1 46 (.ld 45 7 2 false),
   oM 47 0,
   oM 48 8,
   o1 49 (.ixa 47 (.t 48) 2),
   o1 50 (.ld 49 49 2 false),
   oM 51 1,
   oM 52 9,
   o1 53 (.ixa 51 (.t 52) 2),
   o1 54 (.ld 53 53 2 false),
   oC 55 113 [50, 54],
   oC 56 121 [46, 55],
   o1 57 (.ixo 37 7 (.t 40) 2),
   oN (.st 57 7 2 (.t 56))]))
  (.region false [oM 35 9,
   o1 36 (.bin .add (.t 35) (.c (.int .i64 1))),
   oM 9 36])))))))
  (.region false [oM 30 8,
   o1 31 (.bin .add (.t 30) (.c (.int .i64 1))),
   oM 8 31]))
def Try.s72 (rs : List Rn) (ss : List Rn) (n : Int) (m : Int) (k : Nat) (os : List Rn) (i : Int) : State := (.val (.sl rs.length (pc rs)) :: (.val (.sl ss.length (pc ss)) :: (dds 3 (.val (.int .i64 n) :: (.val (.int .i64 m) :: (.own 2 k (pc os) :: (.val (.int .i64 i) :: (dds 51 []))))))))
theorem Try.k72_1 (rs : List Rn) (ss : List Rn) (n : Int) (m : Int) (k : Nat) (os : List Rn) (i : Int) (ps : List Rn) (c1 : (decide (i < n)) = true)
    (hl1 : RunsW Try.ir (.loop Try.c72i) (Try.s72i rs ss n m k os i 0) (.exit 2) (Try.s72i rs ss n m k ps i m)) : RunsW Try.ir Try.c72 (Try.s72 rs ss n m k os i) .norm (Try.s72 rs ss n m k ps (IntKind.i64.wrap (i + 1))) :=
  (RunsW.seq (RunsW.go (t := (.val (.sl rs.length (pc rs)) :: (.val (.sl ss.length (pc ss)) :: (dds 3 (.val (.int .i64 n) :: (.val (.int .i64 m) :: (.own 2 k (pc os) :: (.val (.int .i64 i) :: (dds 51 []))))))))) (ex := .norm) TAA_holds 400 [.b true] [0, 1, 5, 6, 7, 8] (ac c1 a0) (by kernel_rfl))
    (RunsW.seq (RunsW.block_norm (RunsW.seq (RunsW.go TAA_holds 400 [] [0, 1, 5, 6, 7, 8, 9] a0 (by kernel_rfl))
    (RunsW.block hl1)))
    (RunsW.go TAA_holds 400 [] [0, 1, 5, 6, 7, 8] a0 (by kernel_rfl))))
theorem Try.k72_2 (rs : List Rn) (ss : List Rn) (n : Int) (m : Int) (k : Nat) (os : List Rn) (i : Int)  (c1 : (decide (i < n)) = false) : RunsW Try.ir Try.c72 (Try.s72 rs ss n m k os i) (.exit 0) (Try.s72 rs ss n m k os i) :=
  (RunsW.seq_out (RunsW.go TAA_holds 400 [.b false] [0, 1, 5, 6, 7, 8] (ac c1 a0) (by kernel_rfl)) (by intro e; cases e))
theorem Try.run72_1 (rs ss : List Rn) (drs dss : Int) (c1 : ((IntKind.i64.wrap (drs + 1)) == 0) = true)
    (n1 : Runs Try.ir 62 [.sl rs.length (pc rs)] (.int .i64 drs))
    (n2 : Runs Try.ir 62 [.sl ss.length (pc ss)] (.int .i64 dss)) : Runs Try.ir 72 [.sl rs.length (pc rs), .sl ss.length (pc ss)] (.fresh 2 0 []) :=
  Runs.of_bodyW (fn := Try.i72) (s := (dds 4 (.own 2 0 [] :: (dds 55 [])))) (ex := .ret) rfl rfl
    (RunsW.seq (RunsW.go (t := (.val (.sl rs.length (pc rs)) :: (.val (.sl ss.length (pc ss)) :: (dds 2 (.own 2 0 [] :: (dds 55 [])))))) (ex := .norm) TAA_holds 400 [] [0, 1, 4] a0 (by kernel_rfl))
    (RunsW.seq (RunsW.go (t := (.val (.sl rs.length (pc rs)) :: (.val (.sl ss.length (pc ss)) :: (dds 2 (.own 2 0 [] :: (.val (.int .i64 (IntKind.i64.wrap (drs + 1))) :: (.val (.int .i64 (IntKind.i64.wrap (dss + 1))) :: (dds 53 [])))))))) (ex := .norm) TAA_holds 400 [.r (.int .i64 drs), .r (.int .i64 dss)] [0, 1, 4, 5, 6] (ac n1 (ac n2 a0)) (by kernel_rfl))
    (RunsW.seq_out (RunsW.go TAA_holds 400 [.b true, .b true] [4] (ac c1 (ac (show true = true from rfl) a0)) (by kernel_rfl)) (by intro e; cases e)))) (by intro i e; cases e) rfl
theorem Try.run72_2 (rs ss : List Rn) (drs dss : Int) (c1 : ((IntKind.i64.wrap (drs + 1)) == 0) = false)
    (c2 : ((IntKind.i64.wrap (dss + 1)) == 0) = true)
    (n1 : Runs Try.ir 62 [.sl rs.length (pc rs)] (.int .i64 drs))
    (n2 : Runs Try.ir 62 [.sl ss.length (pc ss)] (.int .i64 dss)) : Runs Try.ir 72 [.sl rs.length (pc rs), .sl ss.length (pc ss)] (.fresh 2 0 []) :=
  Runs.of_bodyW (fn := Try.i72) (s := (dds 4 (.own 2 0 [] :: (dds 55 [])))) (ex := .ret) rfl rfl
    (RunsW.seq (RunsW.go (t := (.val (.sl rs.length (pc rs)) :: (.val (.sl ss.length (pc ss)) :: (dds 2 (.own 2 0 [] :: (dds 55 [])))))) (ex := .norm) TAA_holds 400 [] [0, 1, 4] a0 (by kernel_rfl))
    (RunsW.seq (RunsW.go (t := (.val (.sl rs.length (pc rs)) :: (.val (.sl ss.length (pc ss)) :: (dds 2 (.own 2 0 [] :: (.val (.int .i64 (IntKind.i64.wrap (drs + 1))) :: (.val (.int .i64 (IntKind.i64.wrap (dss + 1))) :: (dds 53 [])))))))) (ex := .norm) TAA_holds 400 [.r (.int .i64 drs), .r (.int .i64 dss)] [0, 1, 4, 5, 6] (ac n1 (ac n2 a0)) (by kernel_rfl))
    (RunsW.seq_out (RunsW.go TAA_holds 400 [.b false, .b true] [4] (ac c1 (ac c2 a0)) (by kernel_rfl)) (by intro e; cases e)))) (by intro i e; cases e) rfl
theorem Try.run72_3 (rs ss os ts : List Rn) (drs dss : Int) (k1 M : Nat) (c1 : ((IntKind.i64.wrap (drs + 1)) == 0) = false)
    (c2 : ((IntKind.i64.wrap (dss + 1)) == 0) = false)
    (n1 : Runs Try.ir 62 [.sl rs.length (pc rs)] (.int .i64 drs))
    (n2 : Runs Try.ir 62 [.sl ss.length (pc ss)] (.int .i64 dss))
    (n3 : 0 ≤ (IntKind.i64.wrap ((IntKind.i64.wrap ((IntKind.i64.wrap (drs + 1)) + (IntKind.i64.wrap (dss + 1)))) - 1)) ∧ (IntKind.i64.wrap ((IntKind.i64.wrap ((IntKind.i64.wrap (drs + 1)) + (IntKind.i64.wrap (dss + 1)))) - 1)) ≤ 1048576)
    (hl4 : RunsW Try.ir (.loop Try.c72) ((.val (.sl rs.length (pc rs)) :: (.val (.sl ss.length (pc ss)) :: (dds 3 (.val (.int .i64 (IntKind.i64.wrap (drs + 1))) :: (.val (.int .i64 (IntKind.i64.wrap (dss + 1))) :: (.own 2 (Int.toNat (IntKind.i64.wrap ((IntKind.i64.wrap ((IntKind.i64.wrap (drs + 1)) + (IntKind.i64.wrap (dss + 1)))) - 1))) (replA [.bool false, .sl 0 []] (Int.toNat (IntKind.i64.wrap ((IntKind.i64.wrap ((IntKind.i64.wrap (drs + 1)) + (IntKind.i64.wrap (dss + 1)))) - 1)))) :: (.val (.int .i64 0) :: (dds 51 []))))))))) (.exit 0) (Try.s72 rs ss (IntKind.i64.wrap (drs + 1)) (IntKind.i64.wrap (dss + 1)) M os (IntKind.i64.wrap (drs + 1))))
    (n5 : Runs Try.ir 92 [.sl M (pc os)] (.fresh 2 k1 (pc ts))) : Runs Try.ir 72 [.sl rs.length (pc rs), .sl ss.length (pc ss)] (.fresh 2 k1 (pc ts)) :=
  Runs.of_bodyW (fn := Try.i72) (s := (dds 4 (.own 2 k1 (pc ts) :: (dds 55 [])))) (ex := .ret) rfl rfl
    (RunsW.seq (RunsW.go (t := (.val (.sl rs.length (pc rs)) :: (.val (.sl ss.length (pc ss)) :: (dds 2 (.own 2 0 [] :: (dds 55 [])))))) (ex := .norm) TAA_holds 400 [] [0, 1, 4] a0 (by kernel_rfl))
    (RunsW.seq (RunsW.go (t := (.val (.sl rs.length (pc rs)) :: (.val (.sl ss.length (pc ss)) :: (dds 2 (.own 2 0 [] :: (.val (.int .i64 (IntKind.i64.wrap (drs + 1))) :: (.val (.int .i64 (IntKind.i64.wrap (dss + 1))) :: (dds 53 [])))))))) (ex := .norm) TAA_holds 400 [.r (.int .i64 drs), .r (.int .i64 dss)] [0, 1, 4, 5, 6] (ac n1 (ac n2 a0)) (by kernel_rfl))
    (RunsW.seq (RunsW.go (t := (.val (.sl rs.length (pc rs)) :: (.val (.sl ss.length (pc ss)) :: (dds 2 (.own 2 0 [] :: (.val (.int .i64 (IntKind.i64.wrap (drs + 1))) :: (.val (.int .i64 (IntKind.i64.wrap (dss + 1))) :: (dds 53 [])))))))) (ex := .norm) TAA_holds 400 [.b false, .b false] [0, 1, 4, 5, 6] (ac c1 (ac c2 a0)) (by kernel_rfl))
    (RunsW.seq (RunsW.go (t := (.val (.sl rs.length (pc rs)) :: (.val (.sl ss.length (pc ss)) :: (dds 2 (.own 2 0 [] :: (.val (.int .i64 (IntKind.i64.wrap (drs + 1))) :: (.val (.int .i64 (IntKind.i64.wrap (dss + 1))) :: (.own 2 (Int.toNat (IntKind.i64.wrap ((IntKind.i64.wrap ((IntKind.i64.wrap (drs + 1)) + (IntKind.i64.wrap (dss + 1)))) - 1))) (replA [.bool false, .sl 0 []] (Int.toNat (IntKind.i64.wrap ((IntKind.i64.wrap ((IntKind.i64.wrap (drs + 1)) + (IntKind.i64.wrap (dss + 1)))) - 1)))) :: (dds 52 []))))))))) (ex := .norm) TAA_holds 400 [] [0, 1, 4, 5, 6, 7] (ac n3 a0) (by kernel_rfl))
    (RunsW.seq (RunsW.seq (RunsW.go TAA_holds 400 [] [0, 1, 5, 6, 7, 8] a0 (by kernel_rfl))
    (RunsW.block hl4))
    (RunsW.go TAA_holds 400 [.r (.fresh 2 k1 (pc ts))] [4] (ac n5 a0) (by kernel_rfl))))))) (by intro i e; cases e) rfl
theorem atimes_run {K : Nat} {rs ss : List Rn} (hr : ∀ r ∈ rs, Good K r) (hs : ∀ r ∈ ss, Good K r) (hK : 2 * K + rs.length < 1048576) (hM : rs.length + ss.length ≤ 1048576) :
    Runs Try.ir 72 [.sl rs.length (pc rs), .sl ss.length (pc ss)] (.fresh 2 (pmul (vals rs) (vals ss)).length (pk (pmul (vals rs) (vals ss)))) := by
  have d1 := degree_run (fun r h => (hr r h).mono (show K ≤ 1048576 by omega)) (by omega)
  have d2 := degree_run (fun r h => (hs r h).mono (show K ≤ 1048576 by omega)) (by omega)
  have l1 := topN_le (vals rs) rs.length
  have l2 := topN_le (vals ss) ss.length
  have e1 : IntKind.i64.wrap ((((topN (vals rs) rs.length : Nat) : Int) - 1) + 1) = ((topN (vals rs) rs.length : Nat) : Int) := by rw [w64 (by omega) (by omega)]; omega
  have e2 : IntKind.i64.wrap ((((topN (vals ss) ss.length : Nat) : Int) - 1) + 1) = ((topN (vals ss) ss.length : Nat) : Int) := by rw [w64 (by omega) (by omega)]; omega
  by_cases z1 : topN (vals rs) rs.length = 0
  · have h := Try.run72_1 rs ss _ _ (by rw [e1, z1]; rfl) d1 d2
    rw [pmul_zero_left (by rw [vals_length]; exact z1)]
    exact h
  by_cases z2 : topN (vals ss) ss.length = 0
  · have h := Try.run72_2 rs ss _ _ (by rw [e1, beq_eq_false_iff_ne]; omega) (by rw [e2, z2]; rfl) d1 d2
    rw [pmul_zero_right (by rw [vals_length]; exact z2)]
    exact h
  have hmul := tOut_mul rs ss _ _ (topN (vals rs) rs.length + topN (vals ss) ss.length - 1) rfl rfl (by omega)
  have hgood := tOut_good (os := List.replicate (topN (vals rs) rs.length + topN (vals ss) ss.length - 1) z0) hr hs (good_zeros _ _) (topN (vals ss) ss.length) (topN (vals rs) rs.length)
  have hlen := tOut_length rs ss (List.replicate (topN (vals rs) rs.length + topN (vals ss) ss.length - 1) z0) (topN (vals ss) ss.length) (topN (vals rs) rs.length)
  rw [List.length_replicate] at hlen
  have key : ∀ a b : Nat, a = topN (vals rs) rs.length → b = topN (vals ss) ss.length → RunsW Try.ir (.loop Try.c72) (Try.s72 rs ss a b (a + b - 1) (List.replicate (a + b - 1) z0) 0) (.exit 0) (Try.s72 rs ss a b (a + b - 1) (tOut rs ss (List.replicate (a + b - 1) z0) b a) a) := by
    intro a b ha hb
    have hl := RunsW.up (prog := Try.ir) (c := Try.c72) (ex := .exit 0) (fin := Try.s72 rs ss a b (a + b - 1) (tOut rs ss (List.replicate (a + b - 1) z0) b a) a)
      (fun i => Try.s72 rs ss a b (a + b - 1) (tOut rs ss (List.replicate (a + b - 1) z0) b i) (i : Nat)) a (by intro e; cases e) ?_ ?_ 0 (Nat.zero_le _)
    · exact hl
    · intro i hi
      have ei : IntKind.i64.wrap (((i : Nat) : Int) + 1) = ((i + 1 : Nat) : Int) := by rw [w64 (by omega) (by omega)]; omega
      have hgo := tOut_good (os := List.replicate (a + b - 1) z0) hr hs (good_zeros _ _) b i
      have hlo := tOut_length rs ss (List.replicate (a + b - 1) z0) b i
      rw [List.length_replicate] at hlo
      have k := Try.k72_1 rs ss a b (a + b - 1) (tOut rs ss (List.replicate (a + b - 1) z0) b i) (i : Nat) (tOut rs ss (List.replicate (a + b - 1) z0) b (i + 1)) (by simp; omega) ?_
      · exact k.to rfl (by rw [ei])
      · rw [tOut]
        generalize tOut rs ss (List.replicate (a + b - 1) z0) b i = os at *
        have hin := RunsW.up (prog := Try.ir) (c := Try.c72i) (ex := .exit 2) (fin := Try.s72i rs ss a b (a + b - 1) (tIn rs ss os i b) i b)
          (fun j => Try.s72i rs ss a b (a + b - 1) (tIn rs ss os i j) (i : Nat) (j : Nat)) b (by intro e; cases e) ?_ ?_ 0 (Nat.zero_le _)
        · exact hin
        · intro j hj
          have ej : IntKind.i64.wrap (((j : Nat) : Int) + 1) = ((j + 1 : Nat) : Int) := by rw [w64 (by omega) (by omega)]; omega
          have eij : IntKind.i64.wrap (((i : Nat) : Int) + ((j : Nat) : Int)) = ((i + j : Nat) : Int) := by rw [w64 (by omega) (by omega)]; omega
          have hli := tIn_length rs ss os i j
          have hfar := tIn_far rs ss os i j (i + j) (Nat.le_refl _)
          obtain ⟨gr1, gr2⟩ := good_getD hr i
          obtain ⟨gs1, gs2⟩ := good_getD hs j
          obtain ⟨go1, go2⟩ := good_getD hgo (i + j)
          have hp := (Fits.mul (good_getD hr i).fits (good_getD hs j).fits).len
          have k := Try.k72i_1 rs ss a b (a + b - 1) (tIn rs ss os i j) (i : Nat) (j : Nat) (by simp; omega) (by rw [eij]; omega) (by omega) (by omega) (by omega)
            (by simp only [Int.toNat_natCast]; exact wmul_run gr1 gs1 (by omega))
            (by
              simp only [Int.toNat_natCast, eij, hfar]
              have := wadd_run (na := (os.getD (i + j) z0).1) (nb := decide (rval (rs.getD i z0) * rval (ss.getD j z0) < 0)) go1 (big_u32 (rval (rs.getD i z0) * rval (ss.getD j z0)).natAbs) (by omega) (by omega)
              rw [rv_big] at this
              exact this)
          refine k.to rfl ?_
          simp only [Int.toNat_natCast, eij, ej, tIn]
        · exact Try.k72i_2 rs ss a b (a + b - 1) (tIn rs ss os i b) (i : Nat) (b : Nat) (by simp)
    · exact Try.k72_2 rs ss a b (a + b - 1) (tOut rs ss (List.replicate (a + b - 1) z0) b a) (a : Nat) (by simp)
  have hl := key _ _ rfl rfl
  have e3 : IntKind.i64.wrap ((IntKind.i64.wrap ((((topN (vals rs) rs.length : Nat) : Int)) + (((topN (vals ss) ss.length : Nat) : Int)))) - 1) = ((topN (vals rs) rs.length + topN (vals ss) ss.length - 1 : Nat) : Int) := by
    rw [w64 (n := ((topN (vals rs) rs.length : Nat) : Int) + ((topN (vals ss) ss.length : Nat) : Int)) (by omega) (by omega), w64 (by omega) (by omega)]; omega
  have ht := atrim_run (fun r h => (hgood r h).mono (show 2 * K + topN (vals rs) rs.length ≤ 1048576 by omega)) (by omega)
  rw [hmul, hlen] at ht
  exact Try.run72_3 rs ss _ _ _ _ _ _ (by rw [e1, beq_eq_false_iff_ne]; omega) (by rw [e2, beq_eq_false_iff_ne]; omega) d1 d2 (by rw [e1, e2, e3]; omega) (by rw [e1, e2, e3, Int.toNat_natCast, repl_pc]; exact hl) ht
end Go.Proofs.Ythnnfemologhfaa

namespace Go.Proofs.Ythnnfemologhfaa
open Go.Ai
set_option maxRecDepth 100000
theorem Try.run63 (rs : List Rn) (n1 : Runs Try.ir 61 [.sl 1 [.sl rs.length (pc rs)]] (.bool false)) : Runs Try.ir 63 [.sl rs.length (pc rs)] (.tup [.sl rs.length (pc rs), .int .i64 0]) :=
  Runs.go (fn := Try.i63) TMC_holds rfl 400 rfl [.r (.bool false), .b false] (ac n1 (ac (show false = false from rfl) a0)) (by kernel_rfl)
theorem Try.run23 (rs : List Rn) (d : Int) (n1 : Runs Try.ir 62 [.sl rs.length (pc rs)] (.int .i64 d)) : Runs Try.ir 23 [.sl rs.length (pc rs)] (.int .i64 d) :=
  Runs.go (fn := Try.i23) TMC_holds rfl 400 rfl [.r (.int .i64 d)] (ac n1 a0) (by kernel_rfl)
theorem Try.run24 (rs ss us : List Rn) (n1 : Runs Try.ir 61 [.sl 2 [.sl rs.length (pc rs), .sl ss.length (pc ss)]] (.bool false))
    (n2 : Runs Try.ir 72 [.sl rs.length (pc rs), .sl ss.length (pc ss)] (.fresh 2 us.length (pc us)))
    (n3 : Runs Try.ir 63 [.sl us.length (pc us)] (.tup [.sl us.length (pc us), .int .i64 0])) : Runs Try.ir 24 [.sl rs.length (pc rs), .sl ss.length (pc ss)] (.tup [.sl us.length (pc us), .int .i64 0]) :=
  Runs.go (fn := Try.i24) TMC_holds rfl 400 rfl [.r (.bool false), .b false, .r (.fresh 2 us.length (pc us)), .r (.tup [.sl us.length (pc us), .int .i64 0])] (ac n1 (ac (show false = false from rfl) (ac n2 (ac n3 a0)))) (by kernel_rfl)
theorem Try.run15_2 (rs ss us : List Rn) (d : Int) (c1 : (decide (d < 0)) = false)
    (n1 : Runs Try.ir 61 [.sl 2 [.sl rs.length (pc rs), .sl ss.length (pc ss)]] (.bool false))
    (n2 : Runs Try.ir 62 [.sl ss.length (pc ss)] (.int .i64 d))
    (n3 : Runs Try.ir 64 [.sl rs.length (pc rs), .sl ss.length (pc ss)] (.fresh 2 us.length (pc us)))
    (n4 : Runs Try.ir 63 [.sl us.length (pc us)] (.tup [.sl us.length (pc us), .int .i64 0])) : Runs Try.ir 15 [.sl rs.length (pc rs), .sl ss.length (pc ss)] (.tup [.sl us.length (pc us), .int .i64 0]) :=
  Runs.go (fn := Try.i15) TMC_holds rfl 400 rfl [.r (.bool false), .b false, .r (.int .i64 d), .b false, .r (.fresh 2 us.length (pc us)), .r (.tup [.sl us.length (pc us), .int .i64 0])] (ac n1 (ac (show false = false from rfl) (ac n2 (ac c1 (ac n3 (ac n4 a0)))))) (by kernel_rfl)
theorem Try.run16_f (rs ss us : List Rn) (n1 : Runs Try.ir 61 [.sl 2 [.sl rs.length (pc rs), .sl ss.length (pc ss)]] (.bool false))
    (n2 : Runs Try.ir 65 [.sl rs.length (pc rs), .sl ss.length (pc ss)] (.fresh 2 us.length (pc us)))
    (n3 : Runs Try.ir 63 [.sl us.length (pc us)] (.tup [.sl us.length (pc us), .int .i64 0])) : Runs Try.ir 16 [.sl rs.length (pc rs), .sl ss.length (pc ss)] (.tup [.sl us.length (pc us), .int .i64 0]) :=
  Runs.go (fn := Try.i16) TMC_holds rfl 400 rfl [.r (.bool false), .b false, .r (.fresh 2 us.length (pc us)), .r (.tup [.sl us.length (pc us), .int .i64 0])] (ac n1 (ac (show false = false from rfl) (ac n2 (ac n3 a0)))) (by kernel_rfl)
theorem Try.run16_s (rs ss us : List Rn) (n1 : Runs Try.ir 61 [.sl 2 [.sl rs.length (pc rs), .sl ss.length (pc ss)]] (.bool false))
    (n2 : Runs Try.ir 65 [.sl rs.length (pc rs), .sl ss.length (pc ss)] (.sl us.length (pc us)))
    (n3 : Runs Try.ir 63 [.sl us.length (pc us)] (.tup [.sl us.length (pc us), .int .i64 0])) : Runs Try.ir 16 [.sl rs.length (pc rs), .sl ss.length (pc ss)] (.tup [.sl us.length (pc us), .int .i64 0]) :=
  Runs.go (fn := Try.i16) TMC_holds rfl 400 rfl [.r (.bool false), .b false, .r (.sl us.length (pc us)), .r (.tup [.sl us.length (pc us), .int .i64 0])] (ac n1 (ac (show false = false from rfl) (ac n2 (ac n3 a0)))) (by kernel_rfl)
def Try.c22 : ICode := .seq (.seq (.region false [oM 4 3,
   oM 5 0,
   o1 6 (.len (.t 5)),
   oB 7 .lss 4 6])
  (.cond (.t 7) (.skip)
  (.exit 0)))
  (.seq (.block 1 (.seq (.region false [oM 10 0,
   oM 11 3,
   o1 12 (.ixa 10 (.t 11) 2),
   o1 13 (.adr 12 17 1),
   o1 14 (.ld 13 13 1 true),
   o1 15 (.len (.t 14)),
   o1 16 (.bin .gtr (.t 15) (.c (.int .i64 3)))])
  (.cond (.t 16) (.seq (.region false [o1 2 (.mov (.c (.bool false)))])
  (.ret))
  (.skip))))
  (.region false [oM 8 3,
   o1 9 (.bin .add (.t 8) (.c (.int .i64 1))),
   oM 3 9]))
def Try.s22 (o : Bool) (rs : List Rn) (i : Int) : State := (.val (.sl rs.length (pc rs)) :: (dds 1 (.val (.bool o) :: (.val (.int .i64 i) :: (dds 13 [])))))
theorem Try.k22_1 (o : Bool) (rs : List Rn) (i : Int)  (c1 : (decide (i < ((rs.length : Nat) : Int))) = true)
    (c2 : (decide ((((rs.getD (Int.toNat i) z0).2.length : Nat) : Int) > 3)) = true)
    (n1 : 0 ≤ i ∧ i < ((rs.length : Nat) : Int)) : RunsW Try.ir Try.c22 (Try.s22 o rs i) .ret (Try.s22 false rs i) :=
  (RunsW.go TMC_holds 400 [.b true, .v (.sl ((rs.getD (Int.toNat i) z0).2.length) (lm (rs.getD (Int.toNat i) z0).2)), .b true] [0, 2, 3] (ac c1 (ac n1 (ac (show takeA (List.drop 1 (List.drop (Int.toNat i * 2) (pc rs))) 0 1 true = some (.sl ((rs.getD (Int.toNat i) z0).2.length) (lm (rs.getD (Int.toNat i) z0).2)) from (take_pcL n1)) (ac c2 a0)))) (by kernel_rfl))
theorem Try.k22_2 (o : Bool) (rs : List Rn) (i : Int)  (c1 : (decide (i < ((rs.length : Nat) : Int))) = true)
    (c2 : (decide ((((rs.getD (Int.toNat i) z0).2.length : Nat) : Int) > 3)) = false)
    (n1 : 0 ≤ i ∧ i < ((rs.length : Nat) : Int)) : RunsW Try.ir Try.c22 (Try.s22 o rs i) .norm (Try.s22 o rs (IntKind.i64.wrap (i + 1))) :=
  (RunsW.go TMC_holds 400 [.b true, .v (.sl ((rs.getD (Int.toNat i) z0).2.length) (lm (rs.getD (Int.toNat i) z0).2)), .b false] [0, 2, 3] (ac c1 (ac n1 (ac (show takeA (List.drop 1 (List.drop (Int.toNat i * 2) (pc rs))) 0 1 true = some (.sl ((rs.getD (Int.toNat i) z0).2.length) (lm (rs.getD (Int.toNat i) z0).2)) from (take_pcL n1)) (ac c2 a0)))) (by kernel_rfl))
theorem Try.k22_3 (o : Bool) (rs : List Rn) (i : Int)  (c1 : (decide (i < ((rs.length : Nat) : Int))) = false) : RunsW Try.ir Try.c22 (Try.s22 o rs i) (.exit 0) (Try.s22 o rs i) :=
  (RunsW.go TMC_holds 400 [.b false] [0, 2, 3] (ac c1 a0) (by kernel_rfl))
theorem Try.run22_n (rs : List Rn) (i : Int) (hl1 : RunsW Try.ir (.loop Try.c22) (Try.s22 false rs 0) .ret (Try.s22 false rs i)) : Runs Try.ir 22 [.sl rs.length (pc rs)] (.bool false) :=
  Runs.of_bodyW (fn := Try.i22) (s := (.val (.sl rs.length (pc rs)) :: (dds 1 (.val (.bool false) :: (.val (.int .i64 i) :: (dds 13 [])))))) (ex := .ret) rfl rfl
    (RunsW.seq (RunsW.go (t := (.val (.sl rs.length (pc rs)) :: (dds 1 (.val (.bool false) :: (dds 14 []))))) (ex := .norm) TMC_holds 400 [] [0, 2] a0 (by kernel_rfl))
    (RunsW.seq_out (RunsW.seq (RunsW.go TMC_holds 400 [] [0, 2, 3] a0 (by kernel_rfl))
    (RunsW.block_ret hl1)) (by intro e; cases e))) (by intro i e; cases e) rfl
theorem Try.run22_y (rs : List Rn) (i : Int) (hl1 : RunsW Try.ir (.loop Try.c22) (Try.s22 false rs 0) (.exit 0) (Try.s22 false rs i)) : Runs Try.ir 22 [.sl rs.length (pc rs)] (.bool true) :=
  Runs.of_bodyW (fn := Try.i22) (s := (dds 2 (.val (.bool true) :: (dds 14 [])))) (ex := .ret) rfl rfl
    (RunsW.seq (RunsW.go (t := (.val (.sl rs.length (pc rs)) :: (dds 1 (.val (.bool false) :: (dds 14 []))))) (ex := .norm) TMC_holds 400 [] [0, 2] a0 (by kernel_rfl))
    (RunsW.seq (RunsW.seq (RunsW.go TMC_holds 400 [] [0, 2, 3] a0 (by kernel_rfl))
    (RunsW.block hl1))
    (RunsW.go TMC_holds 400 [] [2] a0 (by kernel_rfl)))) (by intro i e; cases e) rfl
theorem Try.run25 (r : Rn) (s : Int) (n1 : Runs Try.ir 73 [rawAV r] (.int .i64 s)) : Runs Try.ir 25 [rawAV r] (.int .i64 s) :=
  Runs.go (fn := Try.i25) TMC_holds rfl 400 rfl [.r (.int .i64 s)] (ac n1 a0) (by kernel_rfl)
def RunsT (f : Nat) (args : List AV) (p : List Int) : Prop := Runs Try.ir f args (.tup [.sl (p.map cn).length (pc (p.map cn)), .int .i64 0])
def RunsF (f : Nat) (args : List AV) (p : List Int) : Prop := Runs Try.ir f args (.fresh 2 (p.map cn).length (pc (p.map cn)))
theorem runsF {f : Nat} {args : List AV} {p : List Int} (h : Runs Try.ir f args (.fresh 2 p.length (pk p))) : RunsF f args p := by
  unfold RunsF
  have hl : (p.map cn).length = p.length := List.length_map ..
  rw [hl]; exact h
theorem small_large {p : List Int} (hl : (trimL p).length ≤ 17) (hK : Kb 256 p) : largeV p = false := by
  unfold largeV
  rw [Bool.or_eq_false_iff, decide_eq_false_iff_not]
  refine ⟨by omega, ?_⟩
  rw [List.any_eq_false]
  intro x hx
  obtain ⟨i, hi, rfl⟩ := List.mem_iff_getElem.1 (mem_trim hx)
  have h := (hK i).len
  rw [List.getD_eq_getElem?_getD, List.getElem?_eq_getElem hi] at h
  unfold bigC
  simp only [Option.getD_some] at h
  simpa using h
theorem small_vals {rs : List Rn} {K : Nat} (hg : ∀ r ∈ rs, Good K r) (hK : K ≤ 256) (hl : rs.length ≤ 17) : largeV (vals rs) = false :=
  small_large (by have := trim_len (vals rs); rw [vals_length] at this; omega) ((kb_of (fits_vals hg)).mono hK)
theorem large1 {rs : List Rn} {K : Nat} (hg : ∀ r ∈ rs, Good K r) (hK : K ≤ 256) (hl : rs.length ≤ 17) : Runs Try.ir 61 [.sl 1 [.sl rs.length (pc rs)]] (.bool false) := by
  have h := plarge1_run (rs := rs) (fun r hr => (hg r hr).mono (by omega)) (by omega)
  rwa [small_vals hg hK hl] at h
theorem large2 {rs ss : List Rn} {K L : Nat} (hg : ∀ r ∈ rs, Good K r) (hK : K ≤ 256) (hl : rs.length ≤ 17) (hg' : ∀ r ∈ ss, Good L r) (hL : L ≤ 256) (hl' : ss.length ≤ 17) : Runs Try.ir 61 [.sl 2 [.sl rs.length (pc rs), .sl ss.length (pc ss)]] (.bool false) := by
  have h := plarge_run (ps := [rs, ss]) (fun p hp => by
    rcases List.mem_cons.1 hp with rfl | hp
    · exact ⟨fun r hr => (hg r hr).mono (by omega), by omega⟩
    · rw [List.mem_singleton.1 hp]; exact ⟨fun r hr => (hg' r hr).mono (by omega), by omega⟩) (by simp)
  have e : ([rs, ss].any fun p => largeV (vals p)) = false := by
    simp [small_vals hg hK hl, small_vals hg' hL hl']
  rw [e] at h
  simpa [pp] using h
theorem sized_run {p : List Int} (hK : Kb 256 p) (hl : p.length ≤ 17) : RunsT 63 [.sl (p.map cn).length (pc (p.map cn))] p :=
  Try.run63 (p.map cn) (large1 (mcn_good hK) (Nat.le_refl _) (by rw [List.length_map]; exact hl))
theorem pmulT_run {rs ss : List Rn} {K : Nat} (hr : ∀ r ∈ rs, Good K r) (hs : ∀ r ∈ ss, Good K r) (hK : 2 * K + rs.length ≤ 256) (hl : rs.length + ss.length ≤ 17) : RunsT 24 [.sl rs.length (pc rs), .sl ss.length (pc ss)] (pmul (vals rs) (vals ss)) ∧ Kb (2 * K + rs.length) (pmul (vals rs) (vals ss)) ∧ (pmul (vals rs) (vals ss)).length ≤ rs.length + ss.length := by
  have h := runsF (atimes_run hr hs (by omega) (by omega))
  have hk : Kb (2 * K + rs.length) (pmul (vals rs) (vals ss)) := by
    have := fits_mem_pmul (fits_vals hr) (fits_vals hs)
    rw [vals_length, ← Nat.two_mul] at this
    exact kb_of this
  have hlen := pmul_len (vals rs) (vals ss)
  rw [vals_length, vals_length] at hlen
  exact ⟨Try.run24 rs ss _ (large2 hr (by omega) (by omega) hs (by omega) (by omega)) h (sized_run (hk.mono hK) (by omega)), hk, hlen⟩
theorem trim_vals_len (rs : List Rn) : (trimL (vals rs)).length ≤ rs.length := by have := trim_len (vals rs); rwa [vals_length] at this
theorem pdeg_run {rs : List Rn} (hg : ∀ r ∈ rs, Good 1048576 r) (hN : rs.length ≤ 1048576) : Runs Try.ir 23 [.sl rs.length (pc rs)] (.int .i64 (((trimL (vals rs)).length : Nat) - 1 : Int)) := by
  have h := degree_run hg hN
  have e : (trimL (vals rs)).length = topN (vals rs) rs.length := by rw [trim_length, vals_length]
  rw [e]
  exact Try.run23 rs _ h
theorem pgcdT_run {rs ss : List Rn} {K c : Nat} (hr : ∀ r ∈ rs, Good K r) (hs : ∀ r ∈ ss, Good K r) (hn : rs.length ≤ c) (hm : ss.length ≤ c) (hc : c ≤ 9) (hS : (K + 1) * (2 * 3 ^ c) ≤ 500000) (hK : K ≤ 250) (h0 : trimL (vals rs) ≠ []) :
    RunsT 16 [.sl rs.length (pc rs), .sl ss.length (pc ss)] (pcom (vals rs) (vals ss)) ∧ Kb (K + 3) (pcom (vals rs) (vals ss)) ∧ (pcom (vals rs) (vals ss)).length ≤ (trimL (vals rs)).length := by
  obtain ⟨k1, k2⟩ := kb_pcom (t := vals ss) h0 (by rw [vals_length]; omega) (kb_of (fits_vals hr))
  have hlg := large2 hr (by omega) (by omega) hs (by omega) (by omega)
  have ht := trim_vals_len rs
  have hsz := sized_run (k1.mono (by omega)) (by omega)
  have h := acommon_run hr hs hn hm (by omega) hS
  change RunsP 65 _ (pcom (vals rs) (vals ss)) at h
  refine ⟨?_, k1, k2⟩
  rcases h with h | h
  · exact Try.run16_f rs ss _ hlg h hsz
  · exact Try.run16_s rs ss _ hlg h hsz
theorem premT_run {rs ss : List Rn} {J K : Nat} (hr : ∀ r ∈ rs, Good J r) (hs : ∀ r ∈ ss, Good K r) (hJ : J ≤ 256) (hK : K ≤ 256) (hn : rs.length ≤ 17) (hm : ss.length ≤ 17) (h0 : trimL (vals ss) ≠ []) (hd : Dv (vals ss) (vals rs)) :
    RunsT 15 [.sl rs.length (pc rs), .sl ss.length (pc ss)] [] := by
  have hp : prim (vals ss) ≠ [] := by intro h; rw [prim_nil, ← trim_nil] at h; exact h0 h
  have hl1 : (prim (vals rs)).length ≤ 17 := by rw [prim_length]; have := trim_vals_len rs; omega
  have h := aremainder_run hr hs (by omega) (by omega) (by omega) (by omega) hp (by
    have : ((prim (vals rs)).length + 1 - (prim (vals ss)).length) * (K + 1) ≤ 18 * 257 := Nat.mul_le_mul (by omega) (by omega)
    omega)
  rw [rem_nil hd h0] at h
  have hdeg := degree_run (rs := ss) (fun r hr => (hs r hr).mono (by omega)) (by omega)
  have e : (trimL (vals ss)).length = topN (vals ss) ss.length := by rw [trim_length, vals_length]
  have := List.length_pos_iff.2 h0
  exact Try.run15_2 rs ss [] _ (by rw [decide_eq_false_iff_not]; omega) (large2 hr hJ hn hs hK hm) hdeg h (sized_run (p := []) (fun i => by simp; exact fits_zero _) (by simp))
def shortB (rs : List Rn) : Bool := rs.all (fun r => decide (r.2.length ≤ 3))
theorem shortB_yes {rs : List Rn} (h : shortB rs = true) (hu : ∀ r ∈ rs, U32 r.2) : ∀ r ∈ rs, Good 3 r := by
  unfold shortB at h
  rw [List.all_eq_true] at h
  exact fun r hr => ⟨hu r hr, by simpa using h r hr⟩
theorem short_run {rs : List Rn} (hN : rs.length ≤ 1048576) : Runs Try.ir 22 [.sl rs.length (pc rs)] (.bool (shortB rs)) := by
  unfold shortB
  have step : ∀ t : Nat, t < rs.length → (rs.getD t z0).2.length ≤ 3 → RunsW Try.ir Try.c22 (Try.s22 false rs (t : Nat)) .norm (Try.s22 false rs ((t + 1 : Nat) : Int)) := by
    intro t ht hb
    have ei : IntKind.i64.wrap (((t : Nat) : Int) + 1) = ((t + 1 : Nat) : Int) := by rw [w64 (by omega) (by omega)]; omega
    have k2 := Try.k22_2 false rs (t : Nat) (by simp; omega) (by rw [Int.toNat_natCast, decide_eq_false_iff_not]; omega) (by omega)
    rwa [ei] at k2
  rcases first_from (fun j => !decide ((rs.getD j z0).2.length ≤ 3)) rs.length _ 0 (by rw [Nat.zero_add]) with h | ⟨j, _, h2, h3, h4⟩
  · have hall : (rs.all fun r => decide (r.2.length ≤ 3)) = true := by
      rw [List.all_eq_true]
      intro r hr
      obtain ⟨i, hi, rfl⟩ := List.mem_iff_getElem.1 hr
      have := h i (by omega) hi
      rw [List.getD_eq_getElem?_getD, List.getElem?_eq_getElem hi] at this
      simpa using this
    rw [hall]
    exact Try.run22_y rs _ (RunsW.upTo (prog := Try.ir) (c := Try.c22) (ex := .exit 0) (fun t => Try.s22 false rs (t : Nat)) rs.length (by intro e; cases e) (Try.k22_3 false rs _ (by simp)) 0 (Nat.zero_le _) (fun t _ h6 => step t h6 (by simpa using h t (by omega) h6)))
  · have hall : (rs.all fun r => decide (r.2.length ≤ 3)) = false := by
      rw [List.all_eq_false]
      refine ⟨rs.getD j z0, ?_, by simpa using h3⟩
      rw [List.getD_eq_getElem?_getD, List.getElem?_eq_getElem h2]
      exact List.getElem_mem h2
    rw [hall]
    have h3' : ¬ (rs.getD j z0).2.length ≤ 3 := by simpa using h3
    have out := Try.k22_1 false rs (j : Nat) (by simp; omega) (by rw [Int.toNat_natCast, decide_eq_true_eq]; omega) (by omega)
    exact Try.run22_n rs _ (RunsW.upTo (prog := Try.ir) (c := Try.c22) (ex := .ret) (fun t => Try.s22 false rs (t : Nat)) j (by intro e; cases e) out 0 (Nat.zero_le _) (fun t _ h6 => step t (by omega) (by simpa using h4 t (by omega) h6)))
def TPW : Table := TMC
theorem TPW_holds : THolds Try.ir TPW := TMC_holds
end Go.Proofs.Ythnnfemologhfaa
