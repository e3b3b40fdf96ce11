/- Polynomials as lists of numbers, and as the cells that hold them. -/
import Derived.Test.YtokngfogomhmdaaGreatArith
namespace Go.Ai

abbrev Rn := Bool × List Int
def rval (r : Rn) : Int := rv r.1 r.2
def cn (n : Int) : Rn := (decide (n < 0), limbs n.natAbs)
def pc (rs : List Rn) : List AV := rs.flatMap fun r => [.bool r.1, .sl r.2.length (lm r.2)]
def vals (rs : List Rn) : List Int := rs.map rval
def pk (ps : List Int) : List AV := pc (ps.map cn)
def z0 : Rn := (false, [])
/-- Limbs are limbs, and at most K of them. -/
def Good (K : Nat) (r : Rn) : Prop := U32 r.2 ∧ r.2.length ≤ K
def rawAV (r : Rn) : AV := .agg [.bool r.1, .sl r.2.length (lm r.2)]

theorem rval_cn (n : Int) : rval (cn n) = n := rv_big n
theorem rval_z0 : rval z0 = 0 := rfl
theorem vals_cn (ps : List Int) : vals (ps.map cn) = ps := by
  unfold vals
  rw [List.map_map]
  have : (rval ∘ cn) = id := funext rval_cn
  rw [this, List.map_id]
theorem bigAV_raw (n : Int) : bigAV n = rawAV (cn n) := rfl
theorem good_cn {k : Nat} {n : Int} (h : Fits k n) : Good k (cn n) := ⟨big_u32 _, h.len⟩
theorem good_z0 (k : Nat) : Good k z0 := ⟨fun x hx => (by cases hx), Nat.zero_le _⟩
theorem Good.mono {j k : Nat} {r : Rn} (h : Good j r) (hk : j ≤ k) : Good k r := ⟨h.1, Nat.le_trans h.2 hk⟩
theorem Good.fits {k : Nat} {r : Rn} (h : Good k r) : Fits k (rval r) := (rv_fits h.1).mono h.2

theorem pc_length (rs : List Rn) : (pc rs).length = rs.length * 2 := by
  induction rs with
  | nil => rfl
  | cons r rs ih => simp only [pc, List.flatMap_cons, List.length_append, List.length_cons, List.length_nil] at ih ⊢; omega
theorem pc_cons (r : Rn) (rs : List Rn) : pc (r :: rs) = .bool r.1 :: .sl r.2.length (lm r.2) :: pc rs := rfl
theorem pc_append (rs ss : List Rn) : pc (rs ++ ss) = pc rs ++ pc ss := by simp [pc]
theorem pc_drop : ∀ (i : Nat) (rs : List Rn), (pc rs).drop (i * 2) = pc (rs.drop i)
  | 0, rs => by simp
  | i + 1, [] => by simp [pc]
  | i + 1, r :: rs => by
    rw [pc_cons, Nat.add_mul, Nat.one_mul]
    show (pc rs).drop (i * 2) = _
    rw [pc_drop i rs]; rfl
theorem pc_take : ∀ (i : Nat) (rs : List Rn), (pc rs).take (i * 2) = pc (rs.take i)
  | 0, rs => by simp [pc]
  | i + 1, [] => by simp [pc]
  | i + 1, r :: rs => by
    rw [pc_cons, Nat.add_mul, Nat.one_mul]
    show _ :: _ :: (pc rs).take (i * 2) = _
    rw [pc_take i rs]; rfl
theorem take_pc {rs : List Rn} {i : Nat} (h : i < rs.length) : takeA (List.drop (i * 2) (pc rs)) 0 2 false = some (rawAV (rs.getD i z0)) := by
  rw [pc_drop, List.drop_eq_getElem_cons h, pc_cons]
  simp [takeA, rawAV, List.getD_eq_getElem?_getD, List.getElem?_eq_getElem h]
theorem own_pc {rs : List Rn} {i : Nat} (h : i < rs.length) : takeA (pc rs) (i * 2) 2 false = some (rawAV (rs.getD i z0)) := by
  have h1 := take_pc h
  have hl := pc_length rs
  simp only [takeA, Bool.false_eq_true, if_false, Nat.zero_add, List.drop_zero, List.length_drop] at h1 ⊢
  rw [if_pos (by omega)] at h1
  rw [if_pos (by omega)]
  exact h1
theorem lay_pc {rs : List Rn} {i : Nat} {r : Rn} (h : i < rs.length) : layA (pc rs) (i * 2) [.bool r.1, .sl r.2.length (lm r.2)] = some (pc (rs.set i r)) := by
  have hl := pc_length rs
  simp only [layA, List.length_cons, List.length_nil]
  rw [if_pos (by omega)]
  congr 1
  have hs : rs.set i r = rs.take i ++ r :: rs.drop (i + 1) := by rw [List.set_eq_take_append_cons_drop, if_pos h]
  rw [hs, pc_append, pc_cons, pc_take]
  have : (pc rs).drop (i * 2 + (0 + 1 + 1)) = pc (rs.drop (i + 1)) := by rw [← pc_drop]; congr 1; omega
  simp only [Nat.zero_add] at this
  rw [this]
  simp
theorem repl_pc (n : Nat) : replA [.bool false, .sl 0 []] n = pc (List.replicate n z0) := by
  induction n with
  | zero => rfl
  | succ n ih => rw [List.replicate_succ, pc_cons, ← ih]; rfl
theorem pc_noI (rs : List Rn) : List.all (pc rs) (fun c => !isI c) = true := by
  rw [List.all_eq_true]
  intro c hc
  simp only [pc, List.mem_flatMap, List.mem_cons, List.not_mem_nil, or_false] at hc
  obtain ⟨r, _, rfl | rfl⟩ := hc <;> rfl
theorem lm_ints (xs : List Int) : List.all (lm xs) isI = true := by
  rw [List.all_eq_true]
  intro c hc
  simp only [lm, List.mem_map] at hc
  obtain ⟨x, _, rfl⟩ := hc
  rfl
theorem big_intsOnly (n : Int) : intsOnly (bigAV n) = true := by
  simp only [bigAV, intsOnly, List.all_cons, flatInts, lm_ints, List.all_nil, Bool.and_self]

theorem vals_length (rs : List Rn) : (vals rs).length = rs.length := by simp [vals]
theorem vals_getD (rs : List Rn) (i : Nat) : (vals rs).getD i 0 = rval (rs.getD i z0) := by
  simp only [vals, List.getD_eq_getElem?_getD, List.getElem?_map]
  cases rs[i]? <;> rfl
theorem vals_set (rs : List Rn) (i : Nat) (r : Rn) : vals (rs.set i r) = (vals rs).set i (rval r) := by simp [vals, List.map_set]
theorem vals_zeros (n : Nat) : vals (List.replicate n z0) = List.replicate n 0 := by simp [vals, rval_z0]
theorem good_getD {K : Nat} {rs : List Rn} (h : ∀ r ∈ rs, Good K r) (i : Nat) : Good K (rs.getD i z0) := by
  rw [List.getD_eq_getElem?_getD]
  cases e : rs[i]? with
  | none => exact good_z0 K
  | some r => exact h r (List.mem_of_getElem? e)
theorem good_set {K : Nat} {rs : List Rn} (h : ∀ r ∈ rs, Good K r) {i : Nat} {r : Rn} (hr : Good K r) : ∀ x ∈ rs.set i r, Good K x := by
  intro x hx
  rcases List.mem_or_eq_of_mem_set hx with g | g
  · exact h x g
  · rw [g]; exact hr
theorem good_zeros (K n : Nat) : ∀ r ∈ List.replicate n z0, Good K r := fun r hr => by rw [List.eq_of_mem_replicate hr]; exact good_z0 K
theorem good_cns {k : Nat} {ps : List Int} (h : ∀ x ∈ ps, Fits k x) : ∀ r ∈ ps.map cn, Good k r := fun r hr => by
  obtain ⟨x, hx, rfl⟩ := List.mem_map.1 hr
  exact good_cn (h x hx)
theorem fits_vals {k : Nat} {rs : List Rn} (h : ∀ r ∈ rs, Good k r) : ∀ x ∈ vals rs, Fits k x := fun x hx => by
  obtain ⟨r, hr, rfl⟩ := List.mem_map.1 hx
  exact (h r hr).fits

/-! ### Lists that are the same up to zeros at the end -/
theorem topN_ext {xs ys : List Int} (h : ∀ i, xs.getD i 0 = ys.getD i 0) : ∀ n, topN xs n = topN ys n := by
  intro n
  induction n with
  | zero => rfl
  | succ n ih => simp only [topN, h n, ih]
theorem topN_more (xs : List Int) : ∀ d, topN xs (xs.length + d) = topN xs xs.length := by
  intro d
  induction d with
  | zero => rfl
  | succ d ih =>
    rw [← Nat.add_assoc]
    simp only [topN]
    rw [getD_end (by omega), if_pos rfl, ih]
theorem getD_trim (xs : List Int) (i : Nat) : (trimL xs).getD i 0 = xs.getD i 0 := by
  unfold trimL
  rcases Nat.lt_or_ge i (topN xs xs.length) with h | h
  · simp only [List.getD_eq_getElem?_getD, List.getElem?_take, if_pos h]
  · have e : (xs.take (topN xs xs.length)).getD i 0 = 0 := getD_end (by simp; omega)
    rw [e]
    rcases Nat.lt_or_ge i xs.length with h2 | h2
    · exact (topN_zero xs xs.length i h h2).symm
    · exact (getD_end h2).symm
theorem list_ext {xs ys : List Int} (hl : xs.length = ys.length) (h : ∀ i, xs.getD i 0 = ys.getD i 0) : xs = ys := by
  apply List.ext_getElem hl
  intro i h1 h2
  have := h i
  simpa [List.getD_eq_getElem?_getD, List.getElem?_eq_getElem h1, List.getElem?_eq_getElem h2] using this
theorem trim_ext {xs ys : List Int} (h : ∀ i, xs.getD i 0 = ys.getD i 0) : trimL xs = trimL ys := by
  have hlen : (trimL xs).length = (trimL ys).length := by
    have h1 : ∀ zs : List Int, (trimL zs).length = topN zs zs.length := fun zs => by have := topN_le zs zs.length; simp [trimL]; omega
    rw [h1, h1]
    rcases Nat.le_total xs.length ys.length with g | g
    · have := topN_more xs (ys.length - xs.length)
      rw [show xs.length + (ys.length - xs.length) = ys.length by omega] at this
      rw [← this, topN_ext h]
    · have := topN_more ys (xs.length - ys.length)
      rw [show ys.length + (xs.length - ys.length) = xs.length by omega] at this
      rw [← this, topN_ext h]
  refine list_ext hlen fun i => ?_
  rw [getD_trim, getD_trim, h i]
theorem trim_length (xs : List Int) : (trimL xs).length = topN xs xs.length := by have := topN_le xs xs.length; simp [trimL]; omega
theorem mem_trim {xs : List Int} {x : Int} (h : x ∈ trimL xs) : x ∈ xs := List.mem_of_mem_take h
theorem trim_trim (xs : List Int) : trimL (trimL xs) = trimL xs := trim_ext (getD_trim xs)

/-! ### Values -/
def peval : List Int → Int → Int
  | [], _ => 0
  | p :: ps, x => p + x * peval ps x
theorem peval_zero {xs : List Int} (h : ∀ i, xs.getD i 0 = 0) (x : Int) : peval xs x = 0 := by
  induction xs with
  | nil => rfl
  | cons p ps ih =>
    have h0 := h 0
    simp at h0
    have := ih (fun i => by simpa using h (i + 1))
    simp [peval, h0, this]
theorem peval_ext : ∀ {xs ys : List Int}, (∀ i, xs.getD i 0 = ys.getD i 0) → ∀ x, peval xs x = peval ys x
  | [], ys, h, x => (peval_zero (fun i => (h i).symm) x).symm
  | p :: ps, [], h, x => peval_zero (fun i => h i) x
  | p :: ps, q :: qs, h, x => by
    have h0 := h 0
    simp at h0
    simp only [peval, h0]
    rw [peval_ext (fun i => by simpa using h (i + 1)) x]
theorem peval_trim (xs : List Int) (x : Int) : peval (trimL xs) x = peval xs x := peval_ext (getD_trim xs) x

/-! ### Lists that are filled from the left -/
def fillTo (g : Nat → Rn) (i r : Nat) : List Rn := (List.range i).map g ++ List.replicate r z0
theorem fillTo_length (g : Nat → Rn) (i r : Nat) : (fillTo g i r).length = i + r := by simp [fillTo]
theorem fillTo_zero (g : Nat → Rn) (r : Nat) : fillTo g 0 r = List.replicate r z0 := by simp [fillTo]
theorem fillTo_full (g : Nat → Rn) (i : Nat) : fillTo g i 0 = (List.range i).map g := by simp [fillTo]
theorem fillTo_set (g : Nat → Rn) (i r : Nat) : (fillTo g i (r + 1)).set i (g i) = fillTo g (i + 1) r := by
  unfold fillTo
  rw [List.set_append_right _ _ (by simp), List.range_succ, List.map_append, List.replicate_succ]
  simp
theorem fillTo_at (g : Nat → Rn) (i r : Nat) : (fillTo g i (r + 1)).getD i z0 = z0 := by
  unfold fillTo
  rw [List.getD_eq_getElem?_getD, List.getElem?_append_right (by simp)]
  simp
theorem vals_range (g : Nat → Rn) (n i : Nat) : (vals ((List.range n).map g)).getD i 0 = if i < n then rval (g i) else 0 := by
  rw [vals_getD, List.getD_eq_getElem?_getD]
  by_cases h : i < n
  · simp [h]
  · simp [h, rval_z0]
theorem range_cn (xs : List Int) : (List.range xs.length).map (fun i => cn (xs.getD i 0)) = xs.map cn := by
  apply List.ext_getElem (by simp)
  intro i h1 h2
  have h3 : i < xs.length := by simpa using h2
  simp [List.getD_eq_getElem?_getD, List.getElem?_eq_getElem h3]
theorem good_fill {K : Nat} {g : Nat → Rn} {n : Nat} (h : ∀ i, i < n → Good K (g i)) : ∀ r ∈ (List.range n).map g, Good K r := fun r hr => by
  obtain ⟨i, hi, rfl⟩ := List.mem_map.1 hr
  exact h i (List.mem_range.1 hi)
theorem fits_zero (k : Nat) : Fits k 0 := by unfold Fits; simp; exact Nat.pow_pos (by decide)
theorem fits_getD {k : Nat} {xs : List Int} (h : ∀ x ∈ xs, Fits k x) (i : Nat) : Fits k (xs.getD i 0) := by
  rw [List.getD_eq_getElem?_getD]
  cases e : xs[i]? with
  | none => exact fits_zero k
  | some x => exact h x (List.mem_of_getElem? e)

/-! ### Sums, differences, products -/
def padd (ps qs : List Int) : List Int := trimL ((List.range (max ps.length qs.length)).map fun i => ps.getD i 0 + qs.getD i 0)
def pneg (ps : List Int) : List Int := ps.map fun x => -x
theorem getD_padd (ps qs : List Int) (i : Nat) : (padd ps qs).getD i 0 = ps.getD i 0 + qs.getD i 0 := by
  unfold padd
  rw [getD_trim, List.getD_eq_getElem?_getD]
  by_cases h : i < max ps.length qs.length
  · simp [h]
  · have h1 : ps.length ≤ i := by omega
    have h2 : qs.length ≤ i := by omega
    rw [getD_end h1, getD_end h2]
    simp [h]
theorem getD_pneg (ps : List Int) (i : Nat) : (pneg ps).getD i 0 = -(ps.getD i 0) := by
  unfold pneg
  simp only [List.getD_eq_getElem?_getD, List.getElem?_map]
  cases ps[i]? <;> simp
theorem padd_trim (ps qs : List Int) : trimL (padd ps qs) = padd ps qs := trim_trim _
theorem padd_ext {ps qs ps' qs' : List Int} (h1 : ∀ i, ps.getD i 0 = ps'.getD i 0) (h2 : ∀ i, qs.getD i 0 = qs'.getD i 0) : padd ps qs = padd ps' qs' := by
  have : trimL (padd ps qs) = trimL (padd ps' qs') := trim_ext fun i => by rw [getD_padd, getD_padd, h1, h2]
  rwa [padd_trim, padd_trim] at this
theorem peval_succ (xs : List Int) (x : Int) : peval xs x = xs.getD 0 0 + x * peval (xs.drop 1) x := by
  cases xs <;> simp [peval]
theorem peval_padd_aux : ∀ (n : Nat) (us bs cs : List Int), us.length ≤ n → bs.length ≤ n → cs.length ≤ n → (∀ i, cs.getD i 0 = us.getD i 0 + bs.getD i 0) → ∀ x, peval cs x = peval us x + peval bs x := by
  intro n
  induction n with
  | zero =>
    intro us bs cs h1 h2 h3 _ x
    rw [List.eq_nil_of_length_eq_zero (by omega : us.length = 0), List.eq_nil_of_length_eq_zero (by omega : bs.length = 0), List.eq_nil_of_length_eq_zero (by omega : cs.length = 0)]
    rfl
  | succ n ih =>
    intro us bs cs h1 h2 h3 h x
    rw [peval_succ us, peval_succ bs, peval_succ cs, h 0, ih (us.drop 1) (bs.drop 1) (cs.drop 1) (by simp; omega) (by simp; omega) (by simp; omega) (fun i => by
      have := h (i + 1)
      simpa [List.getD_eq_getElem?_getD, Nat.add_comm] using this) x]
    rw [Int.mul_add]
    omega
theorem peval_padd (ps qs : List Int) (x : Int) : peval (padd ps qs) x = peval ps x + peval qs x :=
  peval_padd_aux (max (max ps.length qs.length) (padd ps qs).length) ps qs _ (by omega) (by omega) (by omega) (getD_padd ps qs) x
theorem peval_pneg (ps : List Int) (x : Int) : peval (pneg ps) x = -peval ps x := by
  induction ps with
  | nil => rfl
  | cons p ps ih =>
    have : pneg (p :: ps) = -p :: pneg ps := rfl
    rw [this]
    simp only [peval, ih]
    rw [Int.mul_neg]
    omega
end Go.Ai
