/- Texts of the proof of PolyFree, packed by pack.py: part 9 of 19. -/
import Derived.Test.YthnnfemologhfaaPfr8
namespace Go.Ai
abbrev Rn := Bool × List Int
def rval (r : Rn) : Int := rv r.1 r.2
def cn (n : Int) : Rn := (decide (n < 0), limbs n.natAbs)
def pc (rs : List Rn) : List AV := rs.flatMap fun r => [.bool r.1, .sl r.2.length (lm r.2)]
def vals (rs : List Rn) : List Int := rs.map rval
def pk (ps : List Int) : List AV := pc (ps.map cn)
def z0 : Rn := (false, [])
def Good (K : Nat) (r : Rn) : Prop := U32 r.2 ∧ r.2.length ≤ K
def rawAV (r : Rn) : AV := .agg [.bool r.1, .sl r.2.length (lm r.2)]
theorem rval_cn (n : Int) : rval (cn n) = n := rv_big n
theorem rval_z0 : rval z0 = 0 := rfl
theorem vals_cn (ps : List Int) : vals (ps.map cn) = ps := by
  unfold vals
  rw [List.map_map]
  have : (rval ∘ cn) = id := funext rval_cn
  rw [this, List.map_id]
theorem good_cn {k : Nat} {n : Int} (h : Fits k n) : Good k (cn n) := ⟨big_u32 _, h.len⟩
theorem good_z0 (k : Nat) : Good k z0 := ⟨fun x hx => (by cases hx), Nat.zero_le _⟩
theorem Good.mono {j k : Nat} {r : Rn} (h : Good j r) (hk : j ≤ k) : Good k r := ⟨h.1, Nat.le_trans h.2 hk⟩
theorem Good.fits {k : Nat} {r : Rn} (h : Good k r) : Fits k (rval r) := (rv_fits h.1).mono h.2
theorem pc_length (rs : List Rn) : (pc rs).length = rs.length * 2 := by
  induction rs with
  | nil => rfl
  | cons r rs ih => simp only [pc, List.flatMap_cons, List.length_append, List.length_cons, List.length_nil] at ih ⊢; omega
theorem pc_cons (r : Rn) (rs : List Rn) : pc (r :: rs) = .bool r.1 :: .sl r.2.length (lm r.2) :: pc rs := rfl
theorem pc_append (rs ss : List Rn) : pc (rs ++ ss) = pc rs ++ pc ss := by simp [pc]
theorem pc_drop : ∀ (i : Nat) (rs : List Rn), (pc rs).drop (i * 2) = pc (rs.drop i)
  | 0, rs => by simp
  | i + 1, [] => by simp [pc]
  | i + 1, r :: rs => by
    rw [pc_cons, Nat.add_mul, Nat.one_mul]
    show (pc rs).drop (i * 2) = _
    rw [pc_drop i rs]; rfl
theorem pc_take : ∀ (i : Nat) (rs : List Rn), (pc rs).take (i * 2) = pc (rs.take i)
  | 0, rs => by simp [pc]
  | i + 1, [] => by simp [pc]
  | i + 1, r :: rs => by
    rw [pc_cons, Nat.add_mul, Nat.one_mul]
    show _ :: _ :: (pc rs).take (i * 2) = _
    rw [pc_take i rs]; rfl
theorem take_pc {rs : List Rn} {i : Nat} (h : i < rs.length) : takeA (List.drop (i * 2) (pc rs)) 0 2 false = some (rawAV (rs.getD i z0)) := by
  rw [pc_drop, List.drop_eq_getElem_cons h, pc_cons]
  simp [takeA, rawAV, List.getD_eq_getElem?_getD, List.getElem?_eq_getElem h]
theorem own_pc {rs : List Rn} {i : Nat} (h : i < rs.length) : takeA (pc rs) (i * 2) 2 false = some (rawAV (rs.getD i z0)) := by
  have h1 := take_pc h
  have hl := pc_length rs
  simp only [takeA, Bool.false_eq_true, if_false, Nat.zero_add, List.drop_zero, List.length_drop] at h1 ⊢
  rw [if_pos (by omega)] at h1
  rw [if_pos (by omega)]
  exact h1
theorem lay_pc {rs : List Rn} {i : Nat} {r : Rn} (h : i < rs.length) : layA (pc rs) (i * 2) [.bool r.1, .sl r.2.length (lm r.2)] = some (pc (rs.set i r)) := by
  have hl := pc_length rs
  simp only [layA, List.length_cons, List.length_nil]
  rw [if_pos (by omega)]
  congr 1
  have hs : rs.set i r = rs.take i ++ r :: rs.drop (i + 1) := by rw [List.set_eq_take_append_cons_drop, if_pos h]
  rw [hs, pc_append, pc_cons, pc_take]
  have : (pc rs).drop (i * 2 + (0 + 1 + 1)) = pc (rs.drop (i + 1)) := by rw [← pc_drop]; congr 1; omega
  simp only [Nat.zero_add] at this
  rw [this]
  simp
theorem repl_pc (n : Nat) : replA [.bool false, .sl 0 []] n = pc (List.replicate n z0) := by
  induction n with
  | zero => rfl
  | succ n ih => rw [List.replicate_succ, pc_cons, ← ih]; rfl
theorem pc_noI (rs : List Rn) : List.all (pc rs) (fun c => !isI c) = true := by
  rw [List.all_eq_true]
  intro c hc
  simp only [pc, List.mem_flatMap, List.mem_cons, List.not_mem_nil, or_false] at hc
  obtain ⟨r, _, rfl | rfl⟩ := hc <;> rfl
theorem lm_ints (xs : List Int) : List.all (lm xs) isI = true := by
  rw [List.all_eq_true]
  intro c hc
  simp only [lm, List.mem_map] at hc
  obtain ⟨x, _, rfl⟩ := hc
  rfl
theorem big_intsOnly (n : Int) : intsOnly (bigAV n) = true := by
  simp only [bigAV, intsOnly, List.all_cons, flatInts, lm_ints, List.all_nil, Bool.and_self]
theorem vals_length (rs : List Rn) : (vals rs).length = rs.length := by simp [vals]
theorem vals_getD (rs : List Rn) (i : Nat) : (vals rs).getD i 0 = rval (rs.getD i z0) := by
  simp only [vals, List.getD_eq_getElem?_getD, List.getElem?_map]
  cases rs[i]? <;> rfl
theorem vals_set (rs : List Rn) (i : Nat) (r : Rn) : vals (rs.set i r) = (vals rs).set i (rval r) := by simp [vals, List.map_set]
theorem vals_zeros (n : Nat) : vals (List.replicate n z0) = List.replicate n 0 := by simp [vals, rval_z0]
theorem good_getD {K : Nat} {rs : List Rn} (h : ∀ r ∈ rs, Good K r) (i : Nat) : Good K (rs.getD i z0) := by
  rw [List.getD_eq_getElem?_getD]
  cases e : rs[i]? with
  | none => exact good_z0 K
  | some r => exact h r (List.mem_of_getElem? e)
theorem good_set {K : Nat} {rs : List Rn} (h : ∀ r ∈ rs, Good K r) {i : Nat} {r : Rn} (hr : Good K r) : ∀ x ∈ rs.set i r, Good K x := by
  intro x hx
  rcases List.mem_or_eq_of_mem_set hx with g | g
  · exact h x g
  · rw [g]; exact hr
theorem good_zeros (K n : Nat) : ∀ r ∈ List.replicate n z0, Good K r := fun r hr => by rw [List.eq_of_mem_replicate hr]; exact good_z0 K
theorem good_cns {k : Nat} {ps : List Int} (h : ∀ x ∈ ps, Fits k x) : ∀ r ∈ ps.map cn, Good k r := fun r hr => by
  obtain ⟨x, hx, rfl⟩ := List.mem_map.1 hr
  exact good_cn (h x hx)
theorem fits_vals {k : Nat} {rs : List Rn} (h : ∀ r ∈ rs, Good k r) : ∀ x ∈ vals rs, Fits k x := fun x hx => by
  obtain ⟨r, hr, rfl⟩ := List.mem_map.1 hx
  exact (h r hr).fits
theorem topN_ext {xs ys : List Int} (h : ∀ i, xs.getD i 0 = ys.getD i 0) : ∀ n, topN xs n = topN ys n := by
  intro n
  induction n with
  | zero => rfl
  | succ n ih => simp only [topN, h n, ih]
theorem topN_more (xs : List Int) : ∀ d, topN xs (xs.length + d) = topN xs xs.length := by
  intro d
  induction d with
  | zero => rfl
  | succ d ih =>
    rw [← Nat.add_assoc]
    simp only [topN]
    rw [getD_end (by omega), if_pos rfl, ih]
theorem getD_trim (xs : List Int) (i : Nat) : (trimL xs).getD i 0 = xs.getD i 0 := by
  unfold trimL
  rcases Nat.lt_or_ge i (topN xs xs.length) with h | h
  · simp only [List.getD_eq_getElem?_getD, List.getElem?_take, if_pos h]
  · have e : (xs.take (topN xs xs.length)).getD i 0 = 0 := getD_end (by simp; omega)
    rw [e]
    rcases Nat.lt_or_ge i xs.length with h2 | h2
    · exact (topN_zero xs xs.length i h h2).symm
    · exact (getD_end h2).symm
theorem list_ext {xs ys : List Int} (hl : xs.length = ys.length) (h : ∀ i, xs.getD i 0 = ys.getD i 0) : xs = ys := by
  apply List.ext_getElem hl
  intro i h1 h2
  have := h i
  simpa [List.getD_eq_getElem?_getD, List.getElem?_eq_getElem h1, List.getElem?_eq_getElem h2] using this
theorem trim_ext {xs ys : List Int} (h : ∀ i, xs.getD i 0 = ys.getD i 0) : trimL xs = trimL ys := by
  have hlen : (trimL xs).length = (trimL ys).length := by
    have h1 : ∀ zs : List Int, (trimL zs).length = topN zs zs.length := fun zs => by have := topN_le zs zs.length; simp [trimL]; omega
    rw [h1, h1]
    rcases Nat.le_total xs.length ys.length with g | g
    · have := topN_more xs (ys.length - xs.length)
      rw [show xs.length + (ys.length - xs.length) = ys.length by omega] at this
      rw [← this, topN_ext h]
    · have := topN_more ys (xs.length - ys.length)
      rw [show ys.length + (xs.length - ys.length) = xs.length by omega] at this
      rw [← this, topN_ext h]
  refine list_ext hlen fun i => ?_
  rw [getD_trim, getD_trim, h i]
theorem trim_length (xs : List Int) : (trimL xs).length = topN xs xs.length := by have := topN_le xs xs.length; simp [trimL]; omega
theorem mem_trim {xs : List Int} {x : Int} (h : x ∈ trimL xs) : x ∈ xs := List.mem_of_mem_take h
theorem trim_trim (xs : List Int) : trimL (trimL xs) = trimL xs := trim_ext (getD_trim xs)
def peval : List Int → Int → Int
  | [], _ => 0
  | p :: ps, x => p + x * peval ps x
theorem peval_zero {xs : List Int} (h : ∀ i, xs.getD i 0 = 0) (x : Int) : peval xs x = 0 := by
  induction xs with
  | nil => rfl
  | cons p ps ih =>
    have h0 := h 0
    simp at h0
    have := ih (fun i => by simpa using h (i + 1))
    simp [peval, h0, this]
theorem peval_ext : ∀ {xs ys : List Int}, (∀ i, xs.getD i 0 = ys.getD i 0) → ∀ x, peval xs x = peval ys x
  | [], ys, h, x => (peval_zero (fun i => (h i).symm) x).symm
  | p :: ps, [], h, x => peval_zero (fun i => h i) x
  | p :: ps, q :: qs, h, x => by
    have h0 := h 0
    simp at h0
    simp only [peval, h0]
    rw [peval_ext (fun i => by simpa using h (i + 1)) x]
theorem peval_trim (xs : List Int) (x : Int) : peval (trimL xs) x = peval xs x := peval_ext (getD_trim xs) x
def fillTo (g : Nat → Rn) (i r : Nat) : List Rn := (List.range i).map g ++ List.replicate r z0
theorem fillTo_length (g : Nat → Rn) (i r : Nat) : (fillTo g i r).length = i + r := by simp [fillTo]
theorem fillTo_zero (g : Nat → Rn) (r : Nat) : fillTo g 0 r = List.replicate r z0 := by simp [fillTo]
theorem fillTo_full (g : Nat → Rn) (i : Nat) : fillTo g i 0 = (List.range i).map g := by simp [fillTo]
theorem fillTo_set (g : Nat → Rn) (i r : Nat) : (fillTo g i (r + 1)).set i (g i) = fillTo g (i + 1) r := by
  unfold fillTo
  rw [List.set_append_right _ _ (by simp), List.range_succ, List.map_append, List.replicate_succ]
  simp
theorem vals_range (g : Nat → Rn) (n i : Nat) : (vals ((List.range n).map g)).getD i 0 = if i < n then rval (g i) else 0 := by
  rw [vals_getD, List.getD_eq_getElem?_getD]
  by_cases h : i < n
  · simp [h]
  · simp [h, rval_z0]
theorem range_cn (xs : List Int) : (List.range xs.length).map (fun i => cn (xs.getD i 0)) = xs.map cn := by
  apply List.ext_getElem (by simp)
  intro i h1 h2
  have h3 : i < xs.length := by simpa using h2
  simp [List.getD_eq_getElem?_getD, List.getElem?_eq_getElem h3]
theorem fits_zero (k : Nat) : Fits k 0 := by unfold Fits; simp; exact Nat.pow_pos (by decide)
theorem fits_getD {k : Nat} {xs : List Int} (h : ∀ x ∈ xs, Fits k x) (i : Nat) : Fits k (xs.getD i 0) := by
  rw [List.getD_eq_getElem?_getD]
  cases e : xs[i]? with
  | none => exact fits_zero k
  | some x => exact h x (List.mem_of_getElem? e)
def padd (ps qs : List Int) : List Int := trimL ((List.range (max ps.length qs.length)).map fun i => ps.getD i 0 + qs.getD i 0)
def pneg (ps : List Int) : List Int := ps.map fun x => -x
theorem getD_padd (ps qs : List Int) (i : Nat) : (padd ps qs).getD i 0 = ps.getD i 0 + qs.getD i 0 := by
  unfold padd
  rw [getD_trim, List.getD_eq_getElem?_getD]
  by_cases h : i < max ps.length qs.length
  · simp [h]
  · have h1 : ps.length ≤ i := by omega
    have h2 : qs.length ≤ i := by omega
    rw [getD_end h1, getD_end h2]
    simp [h]
theorem getD_pneg (ps : List Int) (i : Nat) : (pneg ps).getD i 0 = -(ps.getD i 0) := by
  unfold pneg
  simp only [List.getD_eq_getElem?_getD, List.getElem?_map]
  cases ps[i]? <;> simp
theorem padd_trim (ps qs : List Int) : trimL (padd ps qs) = padd ps qs := trim_trim _
theorem peval_succ (xs : List Int) (x : Int) : peval xs x = xs.getD 0 0 + x * peval (xs.drop 1) x := by
  cases xs <;> simp [peval]
theorem peval_padd_aux : ∀ (n : Nat) (us bs cs : List Int), us.length ≤ n → bs.length ≤ n → cs.length ≤ n → (∀ i, cs.getD i 0 = us.getD i 0 + bs.getD i 0) → ∀ x, peval cs x = peval us x + peval bs x := by
  intro n
  induction n with
  | zero =>
    intro us bs cs h1 h2 h3 _ x
    rw [List.eq_nil_of_length_eq_zero (by omega : us.length = 0), List.eq_nil_of_length_eq_zero (by omega : bs.length = 0), List.eq_nil_of_length_eq_zero (by omega : cs.length = 0)]
    rfl
  | succ n ih =>
    intro us bs cs h1 h2 h3 h x
    rw [peval_succ us, peval_succ bs, peval_succ cs, h 0, ih (us.drop 1) (bs.drop 1) (cs.drop 1) (by simp; omega) (by simp; omega) (by simp; omega) (fun i => by
      have := h (i + 1)
      simpa [List.getD_eq_getElem?_getD, Nat.add_comm] using this) x]
    rw [Int.mul_add]
    omega
theorem peval_padd (ps qs : List Int) (x : Int) : peval (padd ps qs) x = peval ps x + peval qs x :=
  peval_padd_aux (max (max ps.length qs.length) (padd ps qs).length) ps qs _ (by omega) (by omega) (by omega) (getD_padd ps qs) x
theorem peval_pneg (ps : List Int) (x : Int) : peval (pneg ps) x = -peval ps x := by
  induction ps with
  | nil => rfl
  | cons p ps ih =>
    have : pneg (p :: ps) = -p :: pneg ps := rfl
    rw [this]
    simp only [peval, ih]
    rw [Int.mul_neg]
    omega
end Go.Ai

namespace Go.Ai
section
variable {prog : Nat → Option IFunc}
theorem RunsC.cond_t {c : Opd} {a b : ICode} {s t : State} {ex : Ex} (h : c.av s = some (.bool true)) (h1 : RunsC prog a s ex t) : RunsC prog (.cond c a b) s ex t := by
  obtain ⟨n, h1⟩ := h1
  refine ⟨n + 1, ?_⟩
  have e1 := evC_le (evF_le prog (show n ≤ n + 1 by omega)) (Nat.le_refl n) h1
  simp only [evC, condA, h, e1]
theorem RunsC.cond_f {c : Opd} {a b : ICode} {s t : State} {ex : Ex} (h : c.av s = some (.bool false)) (h1 : RunsC prog b s ex t) : RunsC prog (.cond c a b) s ex t := by
  obtain ⟨n, h1⟩ := h1
  refine ⟨n + 1, ?_⟩
  have e1 := evC_le (evF_le prog (show n ≤ n + 1 by omega)) (Nat.le_refl n) h1
  simp only [evC, condA, h, e1]
theorem RunsW.cond_t {c : Opd} {a b : ICode} {s t : State} {ex : Ex} {x : Bool} (h : c.av s = some (.bool x)) (hx : x = true) (h1 : RunsW prog a s ex t) : RunsW prog (.cond c a b) s ex t := by
  subst hx
  obtain ⟨u, k1, k2⟩ := h1
  exact ⟨u, RunsC.cond_t h k1, k2⟩
theorem RunsW.cond_f {c : Opd} {a b : ICode} {s t : State} {ex : Ex} {x : Bool} (h : c.av s = some (.bool x)) (hx : x = false) (h1 : RunsW prog b s ex t) : RunsW prog (.cond c a b) s ex t := by
  subst hx
  obtain ⟨u, k1, k2⟩ := h1
  exact ⟨u, RunsC.cond_f h k1, k2⟩
theorem RunsW.block_out {id : Nat} {c : ICode} {s t : State} {i : Nat} (h : RunsW prog c s (.exit i) t) (hi : i ≠ id) : RunsW prog (.block id c) s (.exit i) t := by
  obtain ⟨u, k1, k2⟩ := h
  exact ⟨u, RunsC.block_out k1 hi, k2⟩
theorem RunsW.up {c : ICode} {ex : Ex} {fin : State} (st : Nat → State) (n : Nat) (hex : ex ≠ .norm) (step : ∀ i, i < n → RunsW prog c (st i) .norm (st (i + 1))) (out : RunsW prog c (st n) ex fin) : ∀ i, i ≤ n → RunsW prog (.loop c) (st i) ex fin := by
  have key : ∀ r i, i + r = n → RunsW prog (.loop c) (st i) ex fin := by
    intro r
    induction r with
    | zero =>
      intro i hi
      have : i = n := by omega
      subst this
      exact RunsW.loop_out out hex
    | succ r ih =>
      intro i hi
      exact RunsW.loop (step i (by omega)) (ih (i + 1) (by omega))
  intro i hi
  exact key (n - i) i (by omega)
theorem RunsW.to {c : ICode} {ex : Ex} {s t s' t' : State} (h : RunsW prog c s ex t) (hs : s = s') (ht : t = t') : RunsW prog c s' ex t' := hs ▸ ht ▸ h
end
theorem toNat_lt {X : Int} {n : Nat} (h : 0 ≤ X ∧ X < ((n : Nat) : Int)) : Int.toNat X < n := by omega
theorem take_limI {xs : List Int} {X : Int} (h : 0 ≤ X ∧ X < ((xs.length : Nat) : Int)) : takeA (List.drop (Int.toNat X * 1) (lm xs)) 0 1 true = some (.int .u32 (xs.getD (Int.toNat X) 0)) := take_lim (toNat_lt h)
theorem lm_slice (ws : List Int) (l h : Nat) : List.take ((h - l) * 1) (List.drop (l * 1) (lm ws)) = lm ((ws.drop l).take (h - l)) := by
  simp [lm, List.map_take, List.map_drop]
theorem takeS_limI {ws : List Int} {l h m : Nat} {X : Int} {a b : Bool} (hx : 0 ≤ X ∧ X < ((h - l : Nat) : Int)) (hl : l ≤ h ∧ h ≤ m ∧ m ≤ ws.length ∧ (a = true → b = true)) : takeA (List.drop (Int.toNat X * 1) (List.take ((h - l) * 1) (List.drop (l * 1) (lm ws)))) 0 1 true = some (.int .u32 (((ws.drop l).take (h - l)).getD (Int.toNat X) 0)) := by
  rw [lm_slice]; exact take_lim (by have := toNat_lt hx; simp; omega)
theorem own_limI {xs : List Int} {n : Nat} (hl : xs.length = n) {X : Int} (h : 0 ≤ X ∧ X < ((n : Nat) : Int)) : takeA (lm xs) (Int.toNat X * 1) 1 true = some (.int .u32 (xs.getD (Int.toNat X) 0)) := own_lim (hl ▸ toNat_lt h)
theorem lay_limI {xs : List Int} {n : Nat} (hl : xs.length = n) {X : Int} (h : 0 ≤ X ∧ X < ((n : Nat) : Int)) {v : Int} : layA (lm xs) (Int.toNat X * 1) [.int .u32 v] = some (lm (xs.set (Int.toNat X) v)) := lay_lim (hl ▸ toNat_lt h)
theorem take_pcI {rs : List Rn} {X : Int} (h : 0 ≤ X ∧ X < ((rs.length : Nat) : Int)) : takeA (List.drop (Int.toNat X * 2) (pc rs)) 0 2 false = some (rawAV (rs.getD (Int.toNat X) z0)) := take_pc (toNat_lt h)
theorem own_pcI {rs : List Rn} {n : Nat} (hl : rs.length = n) {X : Int} (h : 0 ≤ X ∧ X < ((n : Nat) : Int)) : takeA (pc rs) (Int.toNat X * 2) 2 false = some (rawAV (rs.getD (Int.toNat X) z0)) := own_pc (hl ▸ toNat_lt h)
theorem lay_pcI {rs : List Rn} {n : Nat} (hl : rs.length = n) {X : Int} (h : 0 ≤ X ∧ X < ((n : Nat) : Int)) {r : Rn} : layA (pc rs) (Int.toNat X * 2) [.bool r.1, .sl r.2.length (lm r.2)] = some (pc (rs.set (Int.toNat X) r)) := lay_pc (hl ▸ toNat_lt h)
theorem drop_pc_cons {rs : List Rn} {i : Nat} (h : i < rs.length) : List.drop (i * 2) (pc rs) = .bool (rs.getD i z0).1 :: .sl (rs.getD i z0).2.length (lm (rs.getD i z0).2) :: pc (rs.drop (i + 1)) := by
  rw [pc_drop, List.drop_eq_getElem_cons h, pc_cons]
  simp [List.getD_eq_getElem?_getD, List.getElem?_eq_getElem h]
theorem take_pcL {rs : List Rn} {X : Int} (h : 0 ≤ X ∧ X < ((rs.length : Nat) : Int)) : takeA (List.drop 1 (List.drop (Int.toNat X * 2) (pc rs))) 0 1 true = some (.sl (rs.getD (Int.toNat X) z0).2.length (lm (rs.getD (Int.toNat X) z0).2)) := by
  rw [drop_pc_cons (toNat_lt h)]; rfl
def li (xs : List Int) : List AV := xs.map (AV.int .i64)
theorem li_get {xs : List Int} {i : Nat} (h : i < xs.length) : (li xs)[i]? = some (.int .i64 (xs.getD i 0)) := by
  simp [li, List.getElem?_map, List.getElem?_eq_getElem h, List.getD_eq_getElem?_getD]
theorem take_liI {xs : List Int} {X : Int} (h : 0 ≤ X ∧ X < ((xs.length : Nat) : Int)) : takeA (List.drop (Int.toNat X * 1) (li xs)) 0 1 true = some (.int .i64 (xs.getD (Int.toNat X) 0)) := by
  simp only [takeA, if_true, Nat.mul_one, List.getElem?_drop, Nat.add_zero]
  exact li_get (toNat_lt h)
def pp (ps : List (List Rn)) : List AV := ps.map fun rs => .sl rs.length (pc rs)
theorem pp_get {ps : List (List Rn)} {i : Nat} (h : i < ps.length) : (pp ps)[i]? = some (.sl (ps.getD i []).length (pc (ps.getD i []))) := by
  simp [pp, List.getElem?_map, List.getElem?_eq_getElem h, List.getD_eq_getElem?_getD]
theorem take_ppI {ps : List (List Rn)} {X : Int} (h : 0 ≤ X ∧ X < ((ps.length : Nat) : Int)) : takeA (List.drop (Int.toNat X * 1) (pp ps)) 0 1 true = some (.sl (ps.getD (Int.toNat X) []).length (pc (ps.getD (Int.toNat X) []))) := by
  simp only [takeA, if_true, Nat.mul_one, List.getElem?_drop, Nat.add_zero]
  exact pp_get (toNat_lt h)
end Go.Ai

namespace Go.Ai
section
variable {prog : Nat → Option IFunc}
theorem RunsW.keep {c : ICode} {ex : Ex} {s t t' : State} (ks : List Nat) (h : RunsW prog c s ex t) (e : keepS ks t = t') : RunsW prog c s ex t' := e ▸ RunsW.weak h (SLe.refl _) (keepS_le ks t)
theorem RunsW.upTo {c : ICode} {ex : Ex} {fin : State} (st : Nat → State) (n : Nat) (hex : ex ≠ .norm) (out : RunsW prog c (st n) ex fin) : ∀ i, i ≤ n → (∀ t, i ≤ t → t < n → RunsW prog c (st t) .norm (st (t + 1))) → RunsW prog (.loop c) (st i) ex fin := by
  intro i hi
  obtain ⟨r, hr⟩ : ∃ r, i + r = n := ⟨n - i, by omega⟩
  induction r generalizing i with
  | zero =>
    intro _
    have : i = n := by omega
    subst this
    exact RunsW.loop_out out hex
  | succ r ih =>
    intro hs
    exact RunsW.loop (hs i (Nat.le_refl _) (by omega)) (ih (i + 1) (by omega) (by omega) (fun t h1 h2 => hs t (by omega) h2))
theorem first_from (f : Nat → Bool) (m : Nat) : ∀ r i, i + r = m → (∀ j, i ≤ j → j < m → f j = false) ∨ ∃ j, i ≤ j ∧ j < m ∧ f j = true ∧ ∀ t, i ≤ t → t < j → f t = false := by
  intro r
  induction r with
  | zero => intro i hi; left; intro j h1 h2; omega
  | succ r ih =>
    intro i hi
    cases hf : f i with
    | true => right; exact ⟨i, Nat.le_refl _, by omega, hf, fun t h1 h2 => by omega⟩
    | false =>
      rcases ih (i + 1) (by omega) with h | ⟨j, h1, h2, h3, h4⟩
      · left
        intro j h1 h2
        by_cases e : j = i
        · rw [e]; exact hf
        · exact h j (by omega) h2
      · right
        refine ⟨j, by omega, h2, h3, fun t h5 h6 => ?_⟩
        by_cases e : t = i
        · rw [e]; exact hf
        · exact h4 t (by omega) h6
end
end Go.Ai

namespace Go.Ai
theorem val_split (us : List Int) {j : Nat} (h : j ≤ us.length) : valL us = valL (us.take j) + 4294967296 ^ j * valL (us.drop j) := by
  have := valL_append (us.take j) (us.drop j)
  rw [List.take_append_drop, List.length_take, Nat.min_eq_left h] at this
  exact this
theorem take_ext {us ws : List Int} {j : Nat} (hl : ws.length = us.length) (h : ∀ t, t < j → ws.getD t 0 = us.getD t 0) : ws.take j = us.take j := by
  apply List.ext_getElem?
  intro t
  rcases Nat.lt_or_ge t j with g | g
  · rw [List.getElem?_take_of_lt g, List.getElem?_take_of_lt g]
    have := h t g
    rw [List.getD_eq_getElem?_getD, List.getD_eq_getElem?_getD] at this
    rcases Nat.lt_or_ge t us.length with k | k
    · rw [List.getElem?_eq_getElem k, List.getElem?_eq_getElem (by omega)] at this ⊢
      simpa using this
    · rw [List.getElem?_eq_none k, List.getElem?_eq_none (by omega)]
  · rw [List.getElem?_eq_none (by simp; omega), List.getElem?_eq_none (by simp; omega)]
theorem u32_drop {us : List Int} (h : U32 us) (j : Nat) : U32 (us.drop j) := fun x hx => h x (List.mem_of_mem_drop hx)
theorem u32_take {us : List Int} (h : U32 us) (j : Nat) : U32 (us.take j) := fun x hx => h x (List.mem_of_mem_take hx)
theorem drop_small {us : List Int} (hu : U32 us) {n : Nat} {V : Int} (hV : V ≤ 4294967296 ^ n) (h : valL us < V) : valL (us.drop n) = 0 := by
  have h0 := valL_nonneg (u32_drop hu n)
  rcases Nat.lt_or_ge n us.length with g | g
  · have e := val_split us (Nat.le_of_lt g)
    have h1 := valL_nonneg (u32_take hu n)
    have hp := pow32_pos n
    apply Int.le_antisymm ?_ h0
    apply Int.not_lt.1
    intro hc
    have := Int.mul_le_mul_of_nonneg_left (show 1 ≤ valL (us.drop n) by omega) (show (0 : Int) ≤ 4294967296 ^ n by omega)
    omega
  · exact drop_end g
theorem take_lt {us : List Int} (hu : U32 us) (n : Nat) : valL (us.take n) < 4294967296 ^ n := by
  have h := valL_lt (u32_take hu n)
  exact Int.lt_of_lt_of_le h (pow32_mono (by simp; omega))
end Go.Ai

namespace Go.Ai
def msGo (g : Int) (vs : List Int) (j : Nat) : Nat → Nat → List Int → Int → Int → List Int × Int × Int
  | 0, _, us, b, c => (us, b, c)
  | r + 1, i, us, b, c => msGo g vs j r (i + 1) (us.set (i + j) ((us.getD (i + j) 0 - (g * vs.getD i 0 + c) % 4294967296 - b) % 4294967296))
      (if us.getD (i + j) 0 - (g * vs.getD i 0 + c) % 4294967296 - b < 0 then 1 else 0) ((g * vs.getD i 0 + c) / 4294967296)
theorem ms_word {g v c : Int} (hg : 0 ≤ g ∧ g < 4294967296) (hv : 0 ≤ v ∧ v < 4294967296) (hc : 0 ≤ c ∧ c < 4294967296) : 0 ≤ g * v + c ∧ g * v + c < 18446744073709551616 := by
  have h1 := Int.mul_nonneg hg.1 hv.1
  have h2 := Int.mul_le_mul (show g ≤ 4294967295 by omega) (show v ≤ 4294967295 by omega) hv.1 (by omega)
  omega
theorem msGo_ok {g : Int} {vs : List Int} {j : Nat} (hg : 0 ≤ g ∧ g < 4294967296) (hv : U32 vs) : ∀ (r i : Nat) (us : List Int) (b c : Int), r + i = vs.length → j + vs.length ≤ us.length → U32 us → 0 ≤ b ∧ b ≤ 1 → 0 ≤ c ∧ c < 4294967296 →
    (msGo g vs j r i us b c).1.length = us.length ∧ U32 (msGo g vs j r i us b c).1 ∧ (0 ≤ (msGo g vs j r i us b c).2.1 ∧ (msGo g vs j r i us b c).2.1 ≤ 1) ∧ (0 ≤ (msGo g vs j r i us b c).2.2 ∧ (msGo g vs j r i us b c).2.2 < 4294967296) ∧
    valL (msGo g vs j r i us b c).1 = valL us - 4294967296 ^ (i + j) * (g * valL (vs.drop i) + b + c) + 4294967296 ^ (j + vs.length) * ((msGo g vs j r i us b c).2.1 + (msGo g vs j r i us b c).2.2) ∧
    ∀ t, t < i + j ∨ j + vs.length ≤ t → (msGo g vs j r i us b c).1.getD t 0 = us.getD t 0 := by
  intro r
  induction r with
  | zero =>
    intro i us b c hi _ hu hb hc
    refine ⟨rfl, hu, hb, hc, ?_, fun t _ => rfl⟩
    have : i = vs.length := by omega
    subst this
    rw [drop_end (Nat.le_refl _), Nat.add_comm]
    simp only [msGo, Int.mul_zero, Int.zero_add]
    omega
  | succ r ih =>
    intro i us b c hi hl hu hb hc
    have hvi := getD_u32 hv i
    have hui := getD_u32 hu (i + j)
    have hw := ms_word hg hvi hc
    simp only [msGo]
    generalize hp : g * vs.getD i 0 + c = p at *
    generalize hd : us.getD (i + j) 0 - p % 4294967296 - b = d at *
    obtain ⟨g1, g2, g3, g4, g5, g6⟩ := ih (i + 1) (us.set (i + j) (d % 4294967296)) (if d < 0 then 1 else 0) (p / 4294967296) (by omega) (by simpa using hl) (u32_set hu (by omega)) (by split <;> omega) (by omega)
    refine ⟨by simpa using g1, g2, g3, g4, ?_, fun t ht => ?_⟩
    · rw [g5, valL_set _ _ _ (by omega), drop_val vs i, show i + 1 + j = (i + j) + 1 by omega, Int.pow_succ]
      generalize (4294967296 : Int) ^ (i + j) = P at *
      generalize valL (vs.drop (i + 1)) = V at *
      have e1 : d % 4294967296 = d + 4294967296 * (if d < 0 then 1 else 0) := by split <;> omega
      rw [e1]
      generalize (if d < 0 then (1 : Int) else 0) = k at *
      have e2 : p = 4294967296 * (p / 4294967296) + p % 4294967296 := by omega
      generalize p / 4294967296 = ph at *
      generalize p % 4294967296 = pl at *
      generalize us.getD (i + j) 0 = u at *
      generalize vs.getD i 0 = v at *
      have e3 : d = u - pl - b := by omega
      have e4 : c = 4294967296 * ph + pl - g * v := by omega
      subst e3
      rw [e4]
      grind
    · rw [g6 t (by omega), getD_other (by omega)]
def abGo (vs : List Int) (j : Nat) : Nat → Nat → List Int → Int → List Int × Int
  | 0, _, us, c => (us, c)
  | r + 1, i, us, c => abGo vs j r (i + 1) (us.set (i + j) ((us.getD (i + j) 0 + vs.getD i 0 + c) % 4294967296)) ((us.getD (i + j) 0 + vs.getD i 0 + c) / 4294967296)
theorem abGo_ok {vs : List Int} {j : Nat} (hv : U32 vs) : ∀ (r i : Nat) (us : List Int) (c : Int), r + i = vs.length → j + vs.length ≤ us.length → U32 us → 0 ≤ c ∧ c ≤ 1 →
    (abGo vs j r i us c).1.length = us.length ∧ U32 (abGo vs j r i us c).1 ∧ (0 ≤ (abGo vs j r i us c).2 ∧ (abGo vs j r i us c).2 ≤ 1) ∧
    valL (abGo vs j r i us c).1 = valL us + 4294967296 ^ (i + j) * (valL (vs.drop i) + c) - 4294967296 ^ (j + vs.length) * (abGo vs j r i us c).2 ∧
    ∀ t, t < i + j ∨ j + vs.length ≤ t → (abGo vs j r i us c).1.getD t 0 = us.getD t 0 := by
  intro r
  induction r with
  | zero =>
    intro i us c hi _ hu hc
    refine ⟨rfl, hu, hc, ?_, fun t _ => rfl⟩
    have : i = vs.length := by omega
    subst this
    rw [drop_end (Nat.le_refl _), Nat.add_comm]
    simp only [abGo, Int.zero_add]
    omega
  | succ r ih =>
    intro i us c hi hl hu hc
    have hvi := getD_u32 hv i
    have hui := getD_u32 hu (i + j)
    simp only [abGo]
    generalize hd : us.getD (i + j) 0 + vs.getD i 0 + c = d at *
    obtain ⟨g1, g2, g3, g4, g5⟩ := ih (i + 1) (us.set (i + j) (d % 4294967296)) (d / 4294967296) (by omega) (by simpa using hl) (u32_set hu (by omega)) (by omega)
    refine ⟨by simpa using g1, g2, g3, ?_, fun t ht => ?_⟩
    · rw [g4, valL_set _ _ _ (by omega), drop_val vs i, show i + 1 + j = (i + j) + 1 by omega, Int.pow_succ]
      generalize (4294967296 : Int) ^ (i + j) = P at *
      generalize valL (vs.drop (i + 1)) = V at *
      have e2 : d = 4294967296 * (d / 4294967296) + d % 4294967296 := by omega
      generalize d / 4294967296 = ph at *
      generalize d % 4294967296 = pl at *
      generalize us.getD (i + j) 0 = u at *
      generalize vs.getD i 0 = v at *
      have e3 : c = 4294967296 * ph + pl - u - v := by omega
      rw [e3]
      grind
    · rw [g5 t (by omega), getD_other (by omega)]
structure Dig (n : Nat) (V W top nxt x y z : Int) : Prop where
  vlow : 0 ≤ V - (top * 4294967296 + nxt) * 4294967296 ^ n ∧ V - (top * 4294967296 + nxt) * 4294967296 ^ n < 4294967296 ^ n
  wlow : 0 ≤ W - ((x * 4294967296 + y) * 4294967296 + z) * 4294967296 ^ n ∧ W - ((x * 4294967296 + y) * 4294967296 + z) * 4294967296 ^ n < 4294967296 ^ n
  htop : 2147483648 ≤ top ∧ top < 4294967296
  hnxt : 0 ≤ nxt ∧ nxt < 4294967296
  hx : 0 ≤ x ∧ x < 4294967296
  hy : 0 ≤ y ∧ y < 4294967296
  hz : 0 ≤ z ∧ z < 4294967296
  small : W < 4294967296 * V
structure DigI (V W top num g r : Int) : Prop where
  sum : g * top + r = num
  r0 : 0 ≤ r
  g0 : 0 ≤ g
  up : W < (g + 1) * V
  gle : g ≤ 4294967297
section
variable {n : Nat} {V W top nxt x y z : Int}
theorem Dig.x_le (h : Dig n V W top nxt x y z) : x ≤ top := by
  have hp := pow32_pos n
  obtain ⟨h1, h2⟩ := h.vlow
  obtain ⟨h3, h4⟩ := h.wlow
  have := h.hnxt; have := h.hy; have := h.hz; have hs := h.small
  apply Int.not_lt.1
  intro hx
  generalize (4294967296 : Int) ^ n = P at *
  have e1 : (x * 4294967296 + y) * 4294967296 + z ≥ (top + 1) * 4294967296 * 4294967296 := by omega
  have e2 := Int.mul_le_mul_of_nonneg_right e1 (show 0 ≤ P by omega)
  have e3 : top * 4294967296 + nxt + 1 ≤ (top + 1) * 4294967296 := by omega
  have e4 := Int.mul_le_mul_of_nonneg_right e3 (show 0 ≤ P by omega)
  have e5 : (top + 1) * 4294967296 * 4294967296 * P = 4294967296 * ((top + 1) * 4294967296 * P) := by grind
  have e6 : (top * 4294967296 + nxt + 1) * P = (top * 4294967296 + nxt) * P + P := by grind
  omega
theorem Dig.Vpos (h : Dig n V W top nxt x y z) : 4294967296 * 4294967296 ^ n ≤ V := by
  have hp := pow32_pos n
  obtain ⟨h1, h2⟩ := h.vlow
  have := h.hnxt; have := h.htop
  generalize (4294967296 : Int) ^ n = P at *
  have := Int.mul_le_mul_of_nonneg_right (show (4294967296 : Int) ≤ top * 4294967296 + nxt by omega) (show 0 ≤ P by omega)
  omega
theorem Dig.init (h : Dig n V W top nxt x y z) : DigI V W top (x * 4294967296 + y) ((x * 4294967296 + y) / top) ((x * 4294967296 + y) % top) := by
  have hxl := h.x_le
  have ht := h.htop; have hx := h.hx; have hy := h.hy
  have e := Int.mul_ediv_add_emod (x * 4294967296 + y) top
  have r0 := Int.emod_nonneg (x * 4294967296 + y) (show top ≠ 0 by omega)
  have r1 := Int.emod_lt_of_pos (x * 4294967296 + y) (show 0 < top by omega)
  have g0 : 0 ≤ (x * 4294967296 + y) / top := Int.ediv_nonneg (by omega) (by omega)
  have g1 : (x * 4294967296 + y) / top ≤ 4294967297 := by
    apply Int.lt_add_one_iff.1
    apply Int.ediv_lt_of_lt_mul (by omega)
    omega
  generalize hg : (x * 4294967296 + y) / top = g at *
  generalize hr : (x * 4294967296 + y) % top = r at *
  refine ⟨by rw [Int.mul_comm]; exact e, r0, g0, ?_, g1⟩
  have hp := pow32_pos n
  obtain ⟨h1, h2⟩ := h.vlow
  obtain ⟨h3, h4⟩ := h.wlow
  have hnx := h.hnxt; have hz := h.hz
  generalize (4294967296 : Int) ^ n = P at *
  have e1 : x * 4294967296 + y + 1 ≤ (g + 1) * top := by
    have : (g + 1) * top = top * g + top := by grind
    omega
  have e2 : (x * 4294967296 + y) * 4294967296 + z + 1 ≤ (x * 4294967296 + y + 1) * 4294967296 := by omega
  have e3 := Int.mul_le_mul_of_nonneg_right e2 (show 0 ≤ P by omega)
  have e4 := Int.mul_le_mul_of_nonneg_right e1 (show 0 ≤ 4294967296 * P by omega)
  have e5 : top * (4294967296 * P) ≤ V := by
    have : (top * 4294967296 + nxt) * P = top * (4294967296 * P) + nxt * P := by grind
    have := Int.mul_nonneg hnx.1 (show 0 ≤ P by omega)
    omega
  have e6 := Int.mul_le_mul_of_nonneg_left e5 (show 0 ≤ g + 1 by omega)
  have e7 : (g + 1) * (top * (4294967296 * P)) = (g + 1) * top * (4294967296 * P) := by grind
  have e8 : ((x * 4294967296 + y) * 4294967296 + z + 1) * P = ((x * 4294967296 + y) * 4294967296 + z) * P + P := by grind
  have e9 : (x * 4294967296 + y + 1) * 4294967296 * P = (x * 4294967296 + y + 1) * (4294967296 * P) := by grind
  omega
theorem Dig.step (h : Dig n V W top nxt x y z) {g r : Int} (i : DigI V W top (x * 4294967296 + y) g r) (hc : 4294967296 ≤ g ∨ r * 4294967296 + z < g * nxt) : DigI V W top (x * 4294967296 + y) (g - 1) (r + top) := by
  have ht := h.htop
  have hVp := h.Vpos
  have hp := pow32_pos n
  have e0 : (g - 1) * top + (r + top) = g * top + r := by grind
  have hg1 : 1 ≤ g := by
    rcases hc with h1 | h1
    · omega
    · apply Int.not_lt.1
      intro hg
      have : g = 0 := by have := i.g0; omega
      subst this
      have := i.r0; have := h.hz
      omega
  refine ⟨by rw [e0]; exact i.sum, by have := i.r0; omega, by omega, ?_, by have := i.gle; omega⟩
  rw [Int.sub_add_cancel]
  obtain ⟨h1, h2⟩ := h.vlow
  obtain ⟨h3, h4⟩ := h.wlow
  have hs := h.small
  rcases hc with hc | hc
  · have := Int.mul_le_mul_of_nonneg_right hc (show 0 ≤ V by omega)
    omega
  · have hsum := i.sum
    rw [← hsum] at h3 h4
    generalize (4294967296 : Int) ^ n = P at *
    have e1 : (g * top + r) * 4294967296 + z + 1 ≤ g * (top * 4294967296 + nxt) := by
      have : g * (top * 4294967296 + nxt) = g * top * 4294967296 + g * nxt := by grind
      omega
    have e2 := Int.mul_le_mul_of_nonneg_right e1 (show 0 ≤ P by omega)
    have e3 : (top * 4294967296 + nxt) * P ≤ V := by omega
    have e4 := Int.mul_le_mul_of_nonneg_left e3 (show 0 ≤ g by omega)
    have e5 : g * (top * 4294967296 + nxt) * P = g * ((top * 4294967296 + nxt) * P) := by grind
    have e6 : ((g * top + r) * 4294967296 + z + 1) * P = ((g * top + r) * 4294967296 + z) * P + P := by grind
    omega
theorem Dig.small_g (h : Dig n V W top nxt x y z) {g r : Int} (i : DigI V W top (x * 4294967296 + y) g r) (hr : 4294967296 ≤ r) : g < 4294967296 := by
  have hxl := h.x_le
  have ht := h.htop; have hy := h.hy
  apply Int.not_le.1
  intro hg
  have := Int.mul_le_mul_of_nonneg_right hg (show 0 ≤ top by omega)
  have := i.sum
  omega
theorem Dig.out (h : Dig n V W top nxt x y z) {g r : Int} (i : DigI V W top (x * 4294967296 + y) g r) (hg : g < 4294967296) (hc : 4294967296 ≤ r ∨ g * nxt ≤ r * 4294967296 + z) : g * V < W + V := by
  have ht := h.htop
  have hVp := h.Vpos
  have hp := pow32_pos n
  have hnx := h.hnxt; have hz := h.hz
  have hc' : g * nxt ≤ r * 4294967296 + z := by
    rcases hc with hc | hc
    · have := Int.mul_le_mul (show g ≤ 4294967295 by omega) (show nxt ≤ 4294967295 by omega) hnx.1 (by omega)
      omega
    · exact hc
  obtain ⟨h1, h2⟩ := h.vlow
  obtain ⟨h3, h4⟩ := h.wlow
  have hsum := i.sum
  have hg0 := i.g0
  rw [← hsum] at h3 h4
  generalize (4294967296 : Int) ^ n = P at *
  have e1 : g * (top * 4294967296 + nxt) ≤ (g * top + r) * 4294967296 + z := by
    have : g * (top * 4294967296 + nxt) = g * top * 4294967296 + g * nxt := by grind
    omega
  have e2 := Int.mul_le_mul_of_nonneg_right e1 (show 0 ≤ P by omega)
  have e5 : g * (top * 4294967296 + nxt) * P = g * ((top * 4294967296 + nxt) * P) := by grind
  have e6 := Int.mul_le_mul (Int.le_of_lt hg) (show V - (top * 4294967296 + nxt) * P ≤ P by omega) (by omega) (show (0 : Int) ≤ 4294967296 by omega)
  have e7 : g * (V - (top * 4294967296 + nxt) * P) = g * V - g * ((top * 4294967296 + nxt) * P) := by grind
  have e8 : g * (V - (top * 4294967296 + nxt) * P) < 4294967296 * P := by
    rcases Int.lt_or_eq_of_le hg0 with q | q
    · have := Int.mul_lt_mul_of_pos_left h2 q
      have := Int.mul_le_mul_of_nonneg_right (Int.le_of_lt hg) (show 0 ≤ P by omega)
      omega
    · rw [← q, Int.zero_mul]; omega
  omega
end
theorem dig_of {us vs : List Int} {j m : Nat} (hu : U32 us) (hv : U32 vs) (hm : vs.length = m + 2) (hj : j + m + 2 < us.length) (ht : 2147483648 ≤ vs.getD (m + 1) 0) (hW : valL (us.drop (j + 1)) < valL vs) :
    Dig m (valL vs) (valL (us.drop j)) (vs.getD (m + 1) 0) (vs.getD m 0) (us.getD (j + m + 2) 0) (us.getD (j + m + 1) 0) (us.getD (j + m) 0) := by
  have hV := valL_lt hv
  have z := drop_small (u32_drop hu (j + 1)) (n := m + 2) (V := valL vs) (by rw [hm] at hV; omega) hW
  rw [List.drop_drop] at z
  have e1 := val_split (us.drop j) (j := m) (by simp; omega)
  rw [List.drop_drop] at e1
  have d1 := drop_val us (j + m)
  have d2 := drop_val us (j + m + 1)
  have d3 := drop_val us (j + m + 2)
  rw [show j + m + 2 + 1 = j + 1 + (m + 2) by omega, z] at d3
  have l1 := take_lt (u32_drop hu j) m
  have l0 := valL_nonneg (u32_take (u32_drop hu j) m)
  have f1 := val_split vs (j := m) (by omega)
  have c1 := drop_val vs m
  have c2 := drop_val vs (m + 1)
  have c3 := drop_end (xs := vs) (i := m + 1 + 1) (by omega)
  rw [c3] at c2
  have k1 := take_lt hv m
  have k0 := valL_nonneg (u32_take hv m)
  have g1 := drop_val us j
  have gj := getD_u32 hu j
  refine ⟨?_, ?_, ⟨ht, (getD_u32 hv _).2⟩, getD_u32 hv _, getD_u32 hu _, getD_u32 hu _, getD_u32 hu _, by omega⟩
  · rw [f1, c1, c2, Int.mul_comm (_ + _) (4294967296 ^ m)]
    simp only [Int.mul_zero, Int.add_zero]
    rw [show vs.getD (m + 1) 0 * 4294967296 + vs.getD m 0 = vs.getD m 0 + 4294967296 * vs.getD (m + 1) 0 by omega]
    omega
  · rw [e1, d1, d2, d3, Int.mul_comm (_ + _) (4294967296 ^ m)]
    simp only [Int.mul_zero, Int.add_zero]
    rw [show (us.getD (j + m + 2) 0 * 4294967296 + us.getD (j + m + 1) 0) * 4294967296 + us.getD (j + m) 0 = us.getD (j + m) 0 + 4294967296 * (us.getD (j + m + 1) 0 + 4294967296 * us.getD (j + m + 2) 0) by omega]
    omega
structure StepOk (us vs ws : List Int) (j : Nat) (q : Int) : Prop where
  len : ws.length = us.length
  u32 : U32 ws
  val : valL ws = valL us - 4294967296 ^ j * (q * valL vs)
  low : valL (ws.drop j) < valL vs
theorem pow_cancel {j : Nat} {a b : Int} (h : 4294967296 ^ j * a = 4294967296 ^ j * b) : a = b := Int.eq_of_mul_eq_mul_left (by have := pow32_pos j; omega) h
theorem win_val {us ws : List Int} {j : Nat} {k : Int} (hl : ws.length = us.length) (hj : j ≤ us.length) (h : ∀ t, t < j → ws.getD t 0 = us.getD t 0) (hv : valL ws = valL us + 4294967296 ^ j * k) : valL (ws.drop j) = valL (us.drop j) + k := by
  have e1 := val_split us hj
  have e2 := val_split ws (j := j) (by omega)
  rw [take_ext hl h] at e2
  apply pow_cancel (j := j)
  rw [Int.mul_add]
  omega
theorem win_top {us : List Int} {j n : Nat} (hj : j + n < us.length) (hz : valL (us.drop (j + n + 1)) = 0) : valL (us.drop j) = valL ((us.drop j).take n) + 4294967296 ^ n * us.getD (j + n) 0 := by
  have e1 := val_split (us.drop j) (j := n) (by simp; omega)
  rw [List.drop_drop] at e1
  have d1 := drop_val us (j + n)
  rw [hz, Int.mul_zero, Int.add_zero] at d1
  rw [e1, d1]
theorem digit_step {us vs : List Int} {j : Nat} (hu : U32 us) (hv : U32 vs) (hj : j + vs.length < us.length) (hW : valL (us.drop (j + 1)) < valL vs) {g : Int} (hg : 0 ≤ g ∧ g < 4294967296)
    (h1 : valL (us.drop j) < (g + 1) * valL vs) (h2 : g * valL vs < valL (us.drop j) + valL vs) :
    let m := msGo g vs j vs.length 0 us 0 0
    let d := m.1.getD (j + vs.length) 0 - m.2.2 - m.2.1
    (d ≥ 0 → StepOk us vs (m.1.set (j + vs.length) (d % 4294967296)) j g) ∧
    (d < 0 → StepOk us vs ((abGo vs j vs.length 0 (m.1.set (j + vs.length) (d % 4294967296)) 0).1.set (j + vs.length) (((abGo vs j vs.length 0 (m.1.set (j + vs.length) (d % 4294967296)) 0).1.getD (j + vs.length) 0 + (abGo vs j vs.length 0 (m.1.set (j + vs.length) (d % 4294967296)) 0).2) % 4294967296)) j (g - 1) ∧ 1 ≤ g) := by
  intro m d
  have hVlt := valL_lt hv
  have z := drop_small (u32_drop hu (j + 1)) (n := vs.length) (V := valL vs) (by omega) hW
  rw [List.drop_drop, show j + 1 + vs.length = j + vs.length + 1 by omega] at z
  obtain ⟨m1, m2, m3, m4, m5, m6⟩ := msGo_ok hg hv vs.length 0 us 0 0 (by omega) (show j + vs.length ≤ us.length by omega) hu (by omega) (by omega)
  change m.1.length = us.length at m1
  change U32 m.1 at m2
  change 0 ≤ m.2.1 ∧ m.2.1 ≤ 1 at m3
  change 0 ≤ m.2.2 ∧ m.2.2 < 4294967296 at m4
  change valL m.1 = valL us - 4294967296 ^ (0 + j) * (g * valL (vs.drop 0) + 0 + 0) + 4294967296 ^ (j + vs.length) * (m.2.1 + m.2.2) at m5
  change ∀ t, t < 0 + j ∨ j + vs.length ≤ t → m.1.getD t 0 = us.getD t 0 at m6
  have hd : d = m.1.getD (j + vs.length) 0 - m.2.2 - m.2.1 := rfl
  clear_value d
  generalize hms : m.1 = ms at *
  generalize m.2.1 = b at *
  generalize m.2.2 = c at *
  rw [Nat.zero_add, List.drop_zero, Int.add_zero, Int.add_zero] at m5
  have m6' := m6 (j + vs.length) (by omega)
  -- the window behind
  have w1 : valL (ms.drop j) = valL (us.drop j) + (4294967296 ^ vs.length * (b + c) - g * valL vs) := by
    apply win_val m1 (by omega) (fun t ht => m6 t (by omega))
    rw [m5, Int.pow_add, Int.mul_sub, Int.mul_assoc]
    omega
  have zz : valL (ms.drop (j + vs.length + 1)) = 0 := by
    have : ms.drop (j + vs.length + 1) = us.drop (j + vs.length + 1) := by
      apply List.ext_getElem?
      intro t
      rw [List.getElem?_drop, List.getElem?_drop]
      have := m6 (j + vs.length + 1 + t) (by omega)
      rw [List.getD_eq_getElem?_getD, List.getD_eq_getElem?_getD] at this
      rcases Nat.lt_or_ge (j + vs.length + 1 + t) us.length with k | k
      · rw [List.getElem?_eq_getElem k, List.getElem?_eq_getElem (by omega)] at this ⊢
        simpa using this
      · rw [List.getElem?_eq_none k, List.getElem?_eq_none (by omega)]
    rw [this]; exact z
  have w2 := win_top (us := ms) (j := j) (n := vs.length) (by omega) zz
  have lo := take_lt (u32_drop m2 j) vs.length
  have lo0 := valL_nonneg (u32_take (u32_drop m2 j) vs.length)
  have hx := getD_u32 m2 (j + vs.length)
  have hX : ms.getD (j + vs.length) 0 = d + b + c := by omega
  rw [hX] at w2
  have hp := pow32_pos vs.length
  generalize hP : (4294967296 : Int) ^ vs.length = P at *
  generalize hL : valL ((ms.drop j).take vs.length) = L at *
  have w3 : valL (us.drop j) - g * valL vs = L + P * d := by
    rw [w1] at w2
    have e : P * (d + b + c) = P * d + P * (b + c) := by grind
    omega
  have e2 : (g + 1) * valL vs = g * valL vs + valL vs := by grind
  have lset : ∀ v : Int, valL (ms.set (j + vs.length) v) = valL us - 4294967296 ^ j * (g * valL vs) + 4294967296 ^ j * (P * (v - d)) := by
    intro v
    rw [valL_set _ _ _ (by omega), m5, hX, Int.pow_add, hP]
    grind
  refine ⟨fun hge => ?_, fun hlt => ?_⟩
  · have hd0 : d = 0 ∨ 1 ≤ d := by omega
    have hd1 : d < 4294967296 := by omega
    refine ⟨by simpa using m1, u32_set m2 (by omega), ?_, ?_⟩
    · rw [lset, Int.emod_eq_of_lt hge hd1, Int.sub_self, Int.mul_zero, Int.mul_zero, Int.add_zero]
    · rw [win_val (us := us) (k := -(g * valL vs)) (by simpa using m1) (by omega) (fun t ht => by rw [getD_other (by omega)]; exact m6 t (by omega)) (by rw [lset, Int.emod_eq_of_lt hge hd1, Int.sub_self, Int.mul_zero, Int.mul_zero, Int.add_zero, Int.mul_neg]; omega)]
      omega
  · have hg1 : 1 ≤ g := by
      apply Int.not_lt.1
      intro hh
      have hg' : g = 0 := by omega
      have := valL_nonneg (u32_drop hu j)
      rw [hg', Int.zero_mul] at w3
      have := Int.mul_le_mul_of_nonneg_left (show d ≤ -1 by omega) (show 0 ≤ P by omega)
      omega
    refine ⟨?_, hg1⟩
    have hu2 : U32 (ms.set (j + vs.length) (d % 4294967296)) := u32_set m2 (by omega)
    obtain ⟨a1, a2, a3, a4, a5⟩ := abGo_ok hv vs.length 0 (ms.set (j + vs.length) (d % 4294967296)) 0 (by omega) (show j + vs.length ≤ _ by rw [List.length_set]; omega) hu2 (by omega)
    generalize abGo vs j vs.length 0 (ms.set (j + vs.length) (d % 4294967296)) 0 = A at *
    have a6 := a5 (j + vs.length) (by omega)
    have hlen : A.1.length = us.length := by rw [a1, List.length_set, m1]
    have hget : (ms.set (j + vs.length) (d % 4294967296)).getD (j + vs.length) 0 = d % 4294967296 := by
      simp [List.getD_eq_getElem?_getD, show j + vs.length < ms.length by omega]
    rw [hget] at a6
    rw [a6]
    rw [Nat.zero_add, List.drop_zero, Int.add_zero, lset, Int.pow_add, hP] at a4
    -- value with the last limb v
    have aset : ∀ v : Int, valL (A.1.set (j + vs.length) v) = valL us - 4294967296 ^ j * ((g - 1) * valL vs) + 4294967296 ^ j * (P * (v - d - A.2)) := by
      intro v
      rw [valL_set _ _ _ (by omega), a4, a6, Int.pow_add, hP]
      grind
    -- d + carry = 0
    have hwA : ∀ v : Int, valL ((A.1.set (j + vs.length) v).drop j) = valL (us.drop j) - (g - 1) * valL vs + P * (v - d - A.2) := by
      intro v
      have := win_val (us := us) (ws := A.1.set (j + vs.length) v) (j := j) (k := P * (v - d - A.2) - (g - 1) * valL vs) (by simpa using hlen) (by omega) (fun t ht => by rw [getD_other (by omega), a5 t (by omega), getD_other (by omega)]; exact m6 t (by omega)) (by rw [aset]; grind)
      omega
    have hge0 : 0 ≤ valL (us.drop j) - (g - 1) * valL vs := by
      have : (g - 1) * valL vs = g * valL vs - valL vs := by grind
      omega
    have hltV : valL (us.drop j) - (g - 1) * valL vs < valL vs := by
      have h3 : (g - 1) * valL vs = g * valL vs - valL vs := by grind
      have h4 := Int.mul_le_mul_of_nonneg_left (show d ≤ -1 by omega) (show 0 ≤ P by omega)
      omega
    have hz3 : A.2 = -d := by
      have q0 := hwA 0
      have q1 := valL_nonneg (u32_drop (u32_set a2 (i := j + vs.length) (v := 0) (by omega)) j)
      have zz2 : valL ((A.1.set (j + vs.length) 0).drop (j + vs.length + 1)) = 0 := by
        have : (A.1.set (j + vs.length) 0).drop (j + vs.length + 1) = ms.drop (j + vs.length + 1) := by
          apply List.ext_getElem?
          intro t
          rw [List.getElem?_drop, List.getElem?_drop]
          have h5 := a5 (j + vs.length + 1 + t) (by omega)
          rw [getD_other (by omega)] at h5
          have h6 : (A.1.set (j + vs.length) 0).getD (j + vs.length + 1 + t) 0 = ms.getD (j + vs.length + 1 + t) 0 := by rw [getD_other (by omega)]; exact h5
          rw [List.getD_eq_getElem?_getD, List.getD_eq_getElem?_getD] at h6
          rcases Nat.lt_or_ge (j + vs.length + 1 + t) us.length with k | k
          · rw [List.getElem?_eq_getElem (by simp; omega), List.getElem?_eq_getElem (by omega)] at h6 ⊢
            simpa using h6
          · rw [List.getElem?_eq_none (by simp; omega), List.getElem?_eq_none (by omega)]
        rw [this]; exact zz
      have q2 := win_top (us := A.1.set (j + vs.length) 0) (j := j) (n := vs.length) (by simp; omega) zz2
      have q3 : (A.1.set (j + vs.length) 0).getD (j + vs.length) 0 = 0 := by simp [List.getD_eq_getElem?_getD, show j + vs.length < A.1.length by omega]
      have q4 := take_lt (u32_drop (u32_set a2 (i := j + vs.length) (v := 0) (by omega)) j) vs.length
      rw [hP] at q2 q4
      rw [q3, Int.mul_zero, Int.add_zero] at q2
      rw [q0] at q1 q2
      rw [← q2] at q4
      generalize valL (us.drop j) - (g - 1) * valL vs = X at *
      have e5 : P * (0 - d - A.2) = P * (-d - A.2) := by rw [Int.zero_sub]
      rw [e5] at q1 q4
      have c1 : -d - A.2 < 1 := by
        apply Int.not_le.1
        intro hc
        have := Int.mul_le_mul_of_nonneg_left hc (show 0 ≤ P by omega)
        omega
      have c2 : -1 < -d - A.2 := by
        apply Int.not_le.1
        intro hc
        have := Int.mul_le_mul_of_nonneg_left hc (show 0 ≤ P by omega)
        omega
      omega
    have hv0 : (d % 4294967296 + A.2) % 4294967296 = 0 := by omega
    rw [hv0]
    refine ⟨by simpa using hlen, u32_set a2 (by omega), ?_, ?_⟩
    · rw [aset, show (0 : Int) - d - A.2 = 0 by omega, Int.mul_zero, Int.mul_zero, Int.add_zero]
    · rw [hwA, show (0 : Int) - d - A.2 = 0 by omega, Int.mul_zero, Int.add_zero]
      exact hltV
end Go.Ai

namespace Go.Proofs.Ythnnfemologhfaa
open Go.Ai
theorem or64 {q c : Int} {s : Nat} (hq : 0 ≤ q) (hs : q * 2 ^ s < 18446744073709551616) (hs' : s ≤ 64) (hc : 0 ≤ c ∧ c < 2 ^ s) :
    IntKind.u64.wrap ((BitVec.ofInt (IntKind.bits .u64) (q * 2 ^ s) ||| BitVec.ofInt (IntKind.bits .u64) c).toNat) = q * 2 ^ s + c := by
  obtain ⟨a, rfl⟩ : ∃ a : Nat, q = a := ⟨q.toNat, by omega⟩
  obtain ⟨b, rfl⟩ : ∃ b : Nat, c = b := ⟨c.toNat, by omega⟩
  have e1 : ((a : Nat) : Int) * 2 ^ s = ((a * 2 ^ s : Nat) : Int) := by rw [Int.natCast_mul, Int.natCast_pow]; rfl
  have hb : b < 2 ^ s := by
    have : ((b : Nat) : Int) < ((2 ^ s : Nat) : Int) := by rw [Int.natCast_pow]; exact hc.2
    omega
  have h64 : 2 ^ s ≤ 2 ^ 64 := Nat.pow_le_pow_right (by decide) hs'
  have e64 : 2 ^ 64 = 18446744073709551616 := by decide
  rw [e1] at hs ⊢
  show IntKind.u64.wrap ((BitVec.ofInt 64 ((a * 2 ^ s : Nat) : Int) ||| BitVec.ofInt 64 (b : Int)).toNat : Int) = _
  rw [BitVec.toNat_or, BitVec.ofInt_natCast, BitVec.ofInt_natCast, BitVec.toNat_ofNat, BitVec.toNat_ofNat, Nat.mod_eq_of_lt (by omega), Nat.mod_eq_of_lt (by omega), Nat.mul_comm a, ← Nat.two_pow_add_eq_or_of_lt hb, Nat.mul_comm (2 ^ s) a, wu64m]
  have hsum : a * 2 ^ s + b < 18446744073709551616 := by
    have hd : a * 2 ^ s + 2 ^ s ≤ 2 ^ 64 := by
      have hk : 2 ^ 64 = 2 ^ (64 - s) * 2 ^ s := by rw [← Nat.pow_add]; congr 1; omega
      have h1 : a < 2 ^ (64 - s) := by
        rcases Nat.lt_or_ge a (2 ^ (64 - s)) with g | g
        · exact g
        · have := Nat.mul_le_mul_right (2 ^ s) g
          omega
      have h2 := Nat.mul_le_mul_right (2 ^ s) (show a + 1 ≤ 2 ^ (64 - s) by omega)
      rw [Nat.add_mul, Nat.one_mul] at h2
      omega
    omega
  omega
theorem pow2_pos (n : Nat) : (0 : Int) < 2 ^ n := Int.pow_pos (by decide)
theorem pow2_le {a b : Nat} (h : a ≤ b) : (2 : Int) ^ a ≤ 2 ^ b := by
  have h1 : 2 ^ a ≤ 2 ^ b := Nat.pow_le_pow_right (by decide) h
  have e : ∀ n : Nat, (2 : Int) ^ n = ((2 ^ n : Nat) : Int) := fun n => by rw [Int.natCast_pow]; rfl
  rw [e, e]
  omega
theorem pow32_two (n : Nat) : (4294967296 : Int) ^ n = 2 ^ (32 * n) := by
  rw [Int.pow_mul]; rfl
end Go.Proofs.Ythnnfemologhfaa

namespace Go.Proofs.Ythnnfemologhfaa
open Go.Ai
theorem w32 {n : Int} (h : 0 ≤ n ∧ n < 4294967296) : IntKind.u32.wrap n = n := by rw [wu32]; omega
theorem wu64 {n : Int} (h : 0 ≤ n ∧ n < 18446744073709551616) : IntKind.u64.wrap n = n := by rw [wu64m]; omega
theorem p32 : (2 : Int) ^ (min (Int.toNat 32) (IntKind.bits .u64)) = 4294967296 := by decide
theorem p63 : (2 : Int) ^ (min (Int.toNat 63) (IntKind.bits .u64)) = 9223372036854775808 := by decide
theorem fd32 (s : Int) : Int.fdiv s (2 ^ (min (Int.toNat 32) (IntKind.bits .u64))) = s / 4294967296 := by
  rw [p32, Int.fdiv_eq_ediv_of_nonneg _ (by decide)]
theorem fd63 (s : Int) : Int.fdiv s (2 ^ (min (Int.toNat 63) (IntKind.bits .u64))) = s / 9223372036854775808 := by
  rw [p63, Int.fdiv_eq_ediv_of_nonneg _ (by decide)]
theorem word2 {r x : Int} (hr : 0 ≤ r ∧ r < 4294967296) (hx : 0 ≤ x ∧ x < 4294967296) :
    IntKind.u64.wrap ((BitVec.ofInt (IntKind.bits .u64) (IntKind.u64.wrap (r * 2 ^ (min (Int.toNat 32) (IntKind.bits .u64)))) ||| BitVec.ofInt (IntKind.bits .u64) (IntKind.u64.wrap x)).toNat) = r * 4294967296 + x := by
  rw [p32, wu64 (n := r * 4294967296) (by omega), wu64 (n := x) (by omega)]
  have := or64 (q := r) (c := x) (s := 32) hr.1 (by rw [show (2 : Int) ^ 32 = 4294967296 by decide]; omega) (by omega) (by rw [show (2 : Int) ^ 32 = 4294967296 by decide]; exact hx)
  rw [show (2 : Int) ^ 32 = 4294967296 by decide] at this
  exact this
theorem or32 {q c : Int} {s : Nat} (hq : 0 ≤ q) (hs : q * 2 ^ s < 4294967296) (hs' : s ≤ 32) (hc : 0 ≤ c ∧ c < 2 ^ s) :
    IntKind.u32.wrap ((BitVec.ofInt (IntKind.bits .u32) c ||| BitVec.ofInt (IntKind.bits .u32) (q * 2 ^ s)).toNat) = q * 2 ^ s + c := by
  obtain ⟨a, rfl⟩ : ∃ a : Nat, q = a := ⟨q.toNat, by omega⟩
  obtain ⟨b, rfl⟩ : ∃ b : Nat, c = b := ⟨c.toNat, by omega⟩
  have e1 : ((a : Nat) : Int) * 2 ^ s = ((a * 2 ^ s : Nat) : Int) := by rw [Int.natCast_mul, Int.natCast_pow]; rfl
  have hb : b < 2 ^ s := by
    have : ((b : Nat) : Int) < ((2 ^ s : Nat) : Int) := by rw [Int.natCast_pow]; exact hc.2
    omega
  have h64 : 2 ^ s ≤ 2 ^ 32 := Nat.pow_le_pow_right (by decide) hs'
  have e64 : 2 ^ 32 = 4294967296 := by decide
  rw [e1] at hs ⊢
  show IntKind.u32.wrap ((BitVec.ofInt 32 (b : Int) ||| BitVec.ofInt 32 ((a * 2 ^ s : Nat) : Int)).toNat : Int) = _
  rw [BitVec.or_comm, BitVec.toNat_or, BitVec.ofInt_natCast, BitVec.ofInt_natCast, BitVec.toNat_ofNat, BitVec.toNat_ofNat, Nat.mod_eq_of_lt (by omega), Nat.mod_eq_of_lt (by omega), Nat.mul_comm a, ← Nat.two_pow_add_eq_or_of_lt hb, Nat.mul_comm (2 ^ s) a, wu32]
  have hsum : a * 2 ^ s + b < 4294967296 := by
    have hd : a * 2 ^ s + 2 ^ s ≤ 2 ^ 32 := by
      have hk : 2 ^ 32 = 2 ^ (32 - s) * 2 ^ s := by rw [← Nat.pow_add]; congr 1; omega
      have h1 : a < 2 ^ (32 - s) := by
        rcases Nat.lt_or_ge a (2 ^ (32 - s)) with g | g
        · exact g
        · have := Nat.mul_le_mul_right (2 ^ s) g
          omega
      have h2 := Nat.mul_le_mul_right (2 ^ s) (show a + 1 ≤ 2 ^ (32 - s) by omega)
      rw [Nat.add_mul, Nat.one_mul] at h2
      omega
    omega
  omega
theorem p32s {s : Nat} (hs : s ≤ 32) : (4294967296 : Int) = 2 ^ (32 - s) * 2 ^ s := by rw [← Int.pow_add, show 32 - s + s = 32 by omega]; decide
theorem shl_parts {x : Int} {s : Nat} (hx : 0 ≤ x ∧ x < 4294967296) (hs : s < 32) :
    0 ≤ x * 2 ^ s ∧ x * 2 ^ s < 18446744073709551616 ∧ x * 2 ^ s / 4294967296 < 2 ^ s ∧ ∃ q : Int, 0 ≤ q ∧ x * 2 ^ s % 4294967296 = q * 2 ^ s := by
  have hp := pow2_pos s
  have hp2 : (2 : Int) ^ s ≤ 2147483648 := by
    have := pow2_le (show s ≤ 31 by omega); rwa [show (2 : Int) ^ 31 = 2147483648 by decide] at this
  have h0 := Int.mul_nonneg hx.1 (show (0 : Int) ≤ 2 ^ s by omega)
  have h1 := Int.mul_le_mul (show x ≤ 4294967295 by omega) hp2 (by omega) (by omega)
  have h2 := Int.mul_lt_mul_of_pos_right hx.2 hp
  refine ⟨h0, by omega, by omega, ?_⟩
  have e : (4294967296 : Int) = 2 ^ (32 - s) * 2 ^ s := by
    rw [← Int.pow_add, show 32 - s + s = 32 by omega]; decide
  refine ⟨x % 2 ^ (32 - s), Int.emod_nonneg _ (by have := pow2_pos (32 - s); omega), ?_⟩
  rw [e, Int.mul_comm x, Int.mul_comm (2 ^ (32 - s)), Int.mul_emod_mul_of_pos _ _ hp, Int.mul_comm]
end Go.Proofs.Ythnnfemologhfaa

namespace Go.Proofs.Ythnnfemologhfaa
open Go.Ai
set_option maxRecDepth 100000
def len8N (n : Nat) : Nat := if n = 0 then 0 else Nat.log2 n + 1
def len8 (i : Int) : Int := (len8N i.toNat : Nat)
theorem len8_all : ∀ n : Nat, n < 256 → (text_14a5d850[n]?).map (fun c => ((c.toNat : Nat) : Int)) = some ((len8N n : Nat) : Int) := by
  have h : (List.range 256).all (fun n => decide ((text_14a5d850[n]?).map (fun c => ((c.toNat : Nat) : Int)) = some ((len8N n : Nat) : Int))) = true := by decide +kernel
  intro n hn
  have := List.all_eq_true.1 h n (by simpa using hn)
  simpa using this
theorem len8_ok (x : Int) : ((if 0 ≤ (IntKind.u8.wrap x) then (text_14a5d850)[(Int.toNat (IntKind.u8.wrap x))]? else none).map fun c => ((c.toNat : Nat) : Int)) = some (len8 (IntKind.u8.wrap x)) := by
  have hw : 0 ≤ IntKind.u8.wrap x ∧ IntKind.u8.wrap x < 256 := by
    simp only [IntKind.wrap, IntKind.bits, IntKind.signed, Bool.false_and, Bool.false_eq_true, if_false]
    omega
  rw [if_pos hw.1]
  exact len8_all _ (by omega)
def len32W (x : Int) : Int :=
  match decide (x ≥ 65536) with
  | true => (match decide ((Int.fdiv x (2 ^ (min (Int.toNat 16) (IntKind.bits .u32)))) ≥ 256) with
  | true => (IntKind.i64.wrap (24 + (IntKind.i64.wrap (len8 (IntKind.u8.wrap (Int.fdiv (Int.fdiv x (2 ^ (min (Int.toNat 16) (IntKind.bits .u32)))) (2 ^ (min (Int.toNat 8) (IntKind.bits .u32)))))))))
  | false => (IntKind.i64.wrap (16 + (IntKind.i64.wrap (len8 (IntKind.u8.wrap (Int.fdiv x (2 ^ (min (Int.toNat 16) (IntKind.bits .u32))))))))))
  | false => (match decide (x ≥ 256) with
  | true => (IntKind.i64.wrap (8 + (IntKind.i64.wrap (len8 (IntKind.u8.wrap (Int.fdiv x (2 ^ (min (Int.toNat 8) (IntKind.bits .u32)))))))))
  | false => (IntKind.i64.wrap (0 + (IntKind.i64.wrap (len8 (IntKind.u8.wrap x))))))
theorem Try.run123 (x : Int)  : Runs Try.ir 123 [.int .u32 x] (.int .i64 (len32W x)) := by
  unfold len32W
  cases c1 : (decide (x ≥ 65536))
  · cases c2 : (decide (x ≥ 256))
    · exact Runs.script (r := .int .i64 (IntKind.i64.wrap (0 + (IntKind.i64.wrap (len8 (IntKind.u8.wrap x)))))) (ps := [(decide (x ≥ 65536)) = false, (decide (x ≥ 256)) = false, ((if 0 ≤ (IntKind.u8.wrap x) then (text_14a5d850)[(Int.toNat (IntKind.u8.wrap x))]? else none).map fun c => ((c.toNat : Nat) : Int)) = some (len8 (IntKind.u8.wrap x))]) TWA_holds rfl 300 rfl [.b false, .b false, .v (.int .u8 (len8 (IntKind.u8.wrap x)))] (by kernel_rfl) ⟨c1, c2, (len8_ok _), trivial⟩
    · exact Runs.script (r := .int .i64 (IntKind.i64.wrap (8 + (IntKind.i64.wrap (len8 (IntKind.u8.wrap (Int.fdiv x (2 ^ (min (Int.toNat 8) (IntKind.bits .u32)))))))))) (ps := [(decide (x ≥ 65536)) = false, (decide (x ≥ 256)) = true, ¬ (8 : Int) < 0, ((if 0 ≤ (IntKind.u8.wrap (Int.fdiv x (2 ^ (min (Int.toNat 8) (IntKind.bits .u32))))) then (text_14a5d850)[(Int.toNat (IntKind.u8.wrap (Int.fdiv x (2 ^ (min (Int.toNat 8) (IntKind.bits .u32))))))]? else none).map fun c => ((c.toNat : Nat) : Int)) = some (len8 (IntKind.u8.wrap (Int.fdiv x (2 ^ (min (Int.toNat 8) (IntKind.bits .u32))))))]) TWA_holds rfl 300 rfl [.b false, .b true, .v (.int .u8 (len8 (IntKind.u8.wrap (Int.fdiv x (2 ^ (min (Int.toNat 8) (IntKind.bits .u32)))))))] (by kernel_rfl) ⟨c1, c2, (by decide), (len8_ok _), trivial⟩
  · cases c2 : (decide ((Int.fdiv x (2 ^ (min (Int.toNat 16) (IntKind.bits .u32)))) ≥ 256))
    · exact Runs.script (r := .int .i64 (IntKind.i64.wrap (16 + (IntKind.i64.wrap (len8 (IntKind.u8.wrap (Int.fdiv x (2 ^ (min (Int.toNat 16) (IntKind.bits .u32)))))))))) (ps := [(decide (x ≥ 65536)) = true, ¬ (16 : Int) < 0, (decide ((Int.fdiv x (2 ^ (min (Int.toNat 16) (IntKind.bits .u32)))) ≥ 256)) = false, ((if 0 ≤ (IntKind.u8.wrap (Int.fdiv x (2 ^ (min (Int.toNat 16) (IntKind.bits .u32))))) then (text_14a5d850)[(Int.toNat (IntKind.u8.wrap (Int.fdiv x (2 ^ (min (Int.toNat 16) (IntKind.bits .u32))))))]? else none).map fun c => ((c.toNat : Nat) : Int)) = some (len8 (IntKind.u8.wrap (Int.fdiv x (2 ^ (min (Int.toNat 16) (IntKind.bits .u32))))))]) TWA_holds rfl 300 rfl [.b true, .b false, .v (.int .u8 (len8 (IntKind.u8.wrap (Int.fdiv x (2 ^ (min (Int.toNat 16) (IntKind.bits .u32)))))))] (by kernel_rfl) ⟨c1, (by decide), c2, (len8_ok _), trivial⟩
    · exact Runs.script (r := .int .i64 (IntKind.i64.wrap (24 + (IntKind.i64.wrap (len8 (IntKind.u8.wrap (Int.fdiv (Int.fdiv x (2 ^ (min (Int.toNat 16) (IntKind.bits .u32)))) (2 ^ (min (Int.toNat 8) (IntKind.bits .u32)))))))))) (ps := [(decide (x ≥ 65536)) = true, ¬ (16 : Int) < 0, (decide ((Int.fdiv x (2 ^ (min (Int.toNat 16) (IntKind.bits .u32)))) ≥ 256)) = true, ¬ (8 : Int) < 0, ((if 0 ≤ (IntKind.u8.wrap (Int.fdiv (Int.fdiv x (2 ^ (min (Int.toNat 16) (IntKind.bits .u32)))) (2 ^ (min (Int.toNat 8) (IntKind.bits .u32))))) then (text_14a5d850)[(Int.toNat (IntKind.u8.wrap (Int.fdiv (Int.fdiv x (2 ^ (min (Int.toNat 16) (IntKind.bits .u32)))) (2 ^ (min (Int.toNat 8) (IntKind.bits .u32))))))]? else none).map fun c => ((c.toNat : Nat) : Int)) = some (len8 (IntKind.u8.wrap (Int.fdiv (Int.fdiv x (2 ^ (min (Int.toNat 16) (IntKind.bits .u32)))) (2 ^ (min (Int.toNat 8) (IntKind.bits .u32))))))]) TWA_holds rfl 300 rfl [.b true, .b true, .v (.int .u8 (len8 (IntKind.u8.wrap (Int.fdiv (Int.fdiv x (2 ^ (min (Int.toNat 16) (IntKind.bits .u32)))) (2 ^ (min (Int.toNat 8) (IntKind.bits .u32)))))))] (by kernel_rfl) ⟨c1, (by decide), c2, (by decide), (len8_ok _), trivial⟩
theorem Try.run154 (x l : Int) (n1 : Runs Try.ir 123 [.int .u32 x] (.int .i64 l)) : Runs Try.ir 154 [.int .u32 x] (.int .i64 (IntKind.i64.wrap (32 - l))) :=
  Runs.go (fn := Try.i154) TWA_holds rfl 400 rfl [.r (.int .i64 l)] (ac n1 a0) (by kernel_rfl)
theorem Try.q111 (n na : Bool) (xs as1 : List Int) (v : Int) (n1 : List.length (lm as1) = as1.length * 1)
    (n2 : as1.length ≤ 1048576)
    (n3 : Runs Try.ir 122 [.agg [.bool n, .sl xs.length (lm xs)]] (.tup [.bool na, .sl as1.length (lm as1)]))
    (n4 : Runs Try.ir 133 [.bool false, .sl as1.length (lm as1)] (bigAV v)) : Runs Try.ir 111 [.agg [.bool n, .sl xs.length (lm xs)]] (bigAV v) :=
  Runs.go (fn := Try.i111) TWA_holds rfl 400 rfl [.r (.tup [.bool na, .sl as1.length (lm as1)]), .r (bigAV v)] (ac n3 (ac n1 (ac n2 (ac n4 a0)))) (by kernel_rfl)
theorem Try.q76 (n na : Bool) (xs as1 : List Int) (n1 : Runs Try.ir 122 [.agg [.bool n, .sl xs.length (lm xs)]] (.tup [.bool na, .sl as1.length (lm as1)])) : Runs Try.ir 76 [.agg [.bool n, .sl xs.length (lm xs)]] (.int .i64 ((as1.length : Nat) : Int)) :=
  Runs.go (fn := Try.i76) TWA_holds rfl 400 rfl [.r (.tup [.bool na, .sl as1.length (lm as1)])] (ac n1 a0) (by kernel_rfl)
theorem Try.run77_1 (n na : Bool) (xs as1 : List Int) (c1 : (((as1.length : Nat) : Int) == 0) = true)
    (n1 : Runs Try.ir 122 [.agg [.bool n, .sl xs.length (lm xs)]] (.tup [.bool na, .sl as1.length (lm as1)])) : Runs Try.ir 77 [.agg [.bool n, .sl xs.length (lm xs)]] (.int .i64 0) :=
  Runs.go (fn := Try.i77) TWA_holds rfl 400 rfl [.r (.tup [.bool na, .sl as1.length (lm as1)]), .b true] (ac n1 (ac c1 a0)) (by kernel_rfl)
theorem Try.run77_2 (n na : Bool) (xs as1 : List Int) (l : Int) (c1 : (((as1.length : Nat) : Int) == 0) = false)
    (n1 : 0 ≤ (IntKind.i64.wrap (((as1.length : Nat) : Int) - 1)) ∧ (IntKind.i64.wrap (((as1.length : Nat) : Int) - 1)) < ((as1.length : Nat) : Int))
    (n2 : Runs Try.ir 122 [.agg [.bool n, .sl xs.length (lm xs)]] (.tup [.bool na, .sl as1.length (lm as1)]))
    (n3 : Runs Try.ir 123 [.int .u32 (as1.getD (Int.toNat (IntKind.i64.wrap (((as1.length : Nat) : Int) - 1))) 0)] (.int .i64 l)) : Runs Try.ir 77 [.agg [.bool n, .sl xs.length (lm xs)]] (.int .i64 (IntKind.i64.wrap ((IntKind.i64.wrap (32 * (IntKind.i64.wrap (((as1.length : Nat) : Int) - 1)))) + l))) :=
  Runs.go (fn := Try.i77) TWA_holds rfl 400 rfl [.r (.tup [.bool na, .sl as1.length (lm as1)]), .b false, .v (.int .u32 (as1.getD (Int.toNat (IntKind.i64.wrap (((as1.length : Nat) : Int) - 1))) 0)), .r (.int .i64 l)] (ac n2 (ac c1 (ac n1 (ac (show takeA (List.drop (Int.toNat (IntKind.i64.wrap (((as1.length : Nat) : Int) - 1)) * 1) (lm as1)) 0 1 true = some (.int .u32 (as1.getD (Int.toNat (IntKind.i64.wrap (((as1.length : Nat) : Int) - 1))) 0)) from (take_limI n1)) (ac n3 a0))))) (by kernel_rfl)
theorem log2_shift (n k : Nat) (h : n / 2 ^ k ≠ 0) : Nat.log2 n = Nat.log2 (n / 2 ^ k) + k := by
  have hn : n ≠ 0 := by intro e; subst e; simp at h
  have := (Nat.log2_eq_iff h).1 rfl
  rw [Nat.log2_eq_iff hn]
  generalize Nat.log2 (n / 2 ^ k) = j at *
  have hp : 0 < 2 ^ k := Nat.two_pow_pos k
  constructor
  · rw [Nat.pow_add]
    exact (Nat.le_div_iff_mul_le hp).1 this.1
  · have : n < 2 ^ (j + 1) * 2 ^ k := (Nat.div_lt_iff_lt_mul hp).1 this.2
    rw [← Nat.pow_add] at this
    have e : j + k + 1 = j + 1 + k := by omega
    rw [e]; exact this
theorem len8_nat (v : Nat) (h : v < 256) (h0 : v ≠ 0) : len8 (IntKind.u8.wrap (v : Int)) = ((Nat.log2 v + 1 : Nat) : Int) := by
  have hw : IntKind.u8.wrap (v : Int) = v := by
    simp only [IntKind.wrap, IntKind.bits, IntKind.signed, Bool.false_and, Bool.false_eq_true, if_false]
    omega
  rw [hw]
  unfold len8 len8N
  rw [Int.toNat_natCast, if_neg h0]
theorem shr32 (n : Nat) (k : Nat) (hk : k ≤ 32) : Int.fdiv (n : Int) (2 ^ (min (Int.toNat (k : Int)) (IntKind.bits .u32))) = ((n / 2 ^ k : Nat) : Int) := by
  have e : min (Int.toNat (k : Int)) (IntKind.bits .u32) = k := by
    show min (Int.toNat (k : Int)) 32 = k
    rw [Int.toNat_natCast]; omega
  rw [e, Int.fdiv_eq_ediv_of_nonneg _ (Int.pow_nonneg (by omega))]
  have : (2 : Int) ^ k = ((2 ^ k : Nat) : Int) := by simp
  rw [this, ← Int.natCast_ediv]
theorem len32_eq (n : Nat) (h : n < 4294967296) (h0 : n ≠ 0) : len32W (n : Int) = ((Nat.log2 n + 1 : Nat) : Int) := by
  have s16 (n : Nat) : Int.fdiv (n : Int) (2 ^ (min (Int.toNat 16) (IntKind.bits .u32))) = ((n / 2 ^ 16 : Nat) : Int) := shr32 n 16 (by omega)
  have s8 (n : Nat) : Int.fdiv (n : Int) (2 ^ (min (Int.toNat 8) (IntKind.bits .u32))) = ((n / 2 ^ 8 : Nat) : Int) := shr32 n 8 (by omega)
  have fin (v c : Nat) (hv : v < 256) (hv0 : v ≠ 0) (hc : c ≤ 56) : IntKind.i64.wrap ((c : Int) + IntKind.i64.wrap (len8 (IntKind.u8.wrap (v : Int)))) = ((Nat.log2 v + 1 + c : Nat) : Int) := by
    have : Nat.log2 v < 8 := (Nat.log2_lt hv0).2 hv
    rw [len8_nat v hv hv0, w64 (n := ((Nat.log2 v + 1 : Nat) : Int)) (by omega) (by omega), w64 (by omega) (by omega)]
    omega
  unfold len32W
  simp only [s16, s8]
  by_cases b : n < 65536
  · have b' : decide ((n : Int) ≥ 65536) = false := by simp; omega
    rw [b']
    by_cases c : n < 256
    · have c' : decide ((n : Int) ≥ 256) = false := by simp; omega
      rw [c']
      exact fin n 0 c h0 (by omega)
    · have c' : decide ((n : Int) ≥ 256) = true := by simp; omega
      rw [c', log2_shift n 8 (by omega)]
      have := fin (n / 2 ^ 8) 8 (by omega) (by omega) (by omega)
      exact this.trans (by omega)
  · have b' : decide ((n : Int) ≥ 65536) = true := by simp; omega
    rw [b']
    dsimp only
    by_cases c : n / 2 ^ 16 < 256
    · have c' : decide (((n / 2 ^ 16 : Nat) : Int) ≥ 256) = false := by simp; omega
      rw [c', log2_shift n 16 (by omega)]
      have := fin (n / 2 ^ 16) 16 (by omega) (by omega) (by omega)
      exact this.trans (by omega)
    · have c' : decide (((n / 2 ^ 16 : Nat) : Int) ≥ 256) = true := by simp; omega
      rw [c', log2_shift n 16 (by omega), log2_shift (n / 2 ^ 16) 8 (by omega)]
      have := fin (n / 2 ^ 16 / 2 ^ 8) 24 (by omega) (by omega) (by omega)
      exact this.trans (by omega)
theorem len32_run {n : Nat} (h : n < 4294967296) (h0 : n ≠ 0) : Runs Try.ir 123 [.int .u32 (n : Nat)] (.int .i64 ((Nat.log2 n + 1 : Nat) : Int)) := by
  have := Try.run123 (n : Nat)
  rwa [len32_eq n h h0] at this
theorem lz_run {x : Int} (hx : 0 < x ∧ x < 4294967296) : ∃ s : Nat, s < 32 ∧ 2147483648 ≤ x * 2 ^ s ∧ x * 2 ^ s < 4294967296 ∧ Runs Try.ir 154 [.int .u32 x] (.int .i64 (s : Nat)) := by
  obtain ⟨n, rfl⟩ : ∃ n : Nat, x = n := ⟨x.toNat, by omega⟩
  have hn0 : n ≠ 0 := by omega
  have hl := (Nat.log2_eq_iff hn0).1 rfl
  have hlt : Nat.log2 n < 32 := (Nat.log2_lt hn0).2 (by omega)
  refine ⟨31 - Nat.log2 n, by omega, ?_, ?_, ?_⟩
  · have : 2 ^ 31 ≤ n * 2 ^ (31 - Nat.log2 n) := by
      have h := Nat.mul_le_mul_right (2 ^ (31 - Nat.log2 n)) hl.1
      rwa [← Nat.pow_add, show Nat.log2 n + (31 - Nat.log2 n) = 31 by omega] at h
    have e : ((n : Nat) : Int) * 2 ^ (31 - Nat.log2 n) = ((n * 2 ^ (31 - Nat.log2 n) : Nat) : Int) := by rw [Int.natCast_mul, Int.natCast_pow]; rfl
    rw [e]; omega
  · have : n * 2 ^ (31 - Nat.log2 n) < 2 ^ 32 := by
      have h := Nat.mul_lt_mul_of_pos_right hl.2 (Nat.two_pow_pos (31 - Nat.log2 n))
      rwa [← Nat.pow_add, show Nat.log2 n + 1 + (31 - Nat.log2 n) = 32 by omega] at h
    have e : ((n : Nat) : Int) * 2 ^ (31 - Nat.log2 n) = ((n * 2 ^ (31 - Nat.log2 n) : Nat) : Int) := by rw [Int.natCast_mul, Int.natCast_pow]; rfl
    rw [e]; omega
  · have h := Try.run154 (n : Nat) _ (len32_run (by omega) hn0)
    rw [w64 (by omega) (by omega)] at h
    rwa [show (32 : Int) - ((Nat.log2 n + 1 : Nat) : Int) = ((31 - Nat.log2 n : Nat) : Int) by omega] at h
theorem wsize_run {neg : Bool} {xs : List Int} (hu : U32 xs) (hN : xs.length ≤ 1048576) : Runs Try.ir 76 [.agg [.bool neg, .sl xs.length (lm xs)]] (.int .i64 (((limbs (rv neg xs).natAbs).length : Nat) : Int)) :=
  Try.q76 neg _ xs _ (limbs_run hu hN)
theorem wabs_run {neg : Bool} {xs : List Int} (hu : U32 xs) (hN : xs.length ≤ 1048576) : Runs Try.ir 111 [.agg [.bool neg, .sl xs.length (lm xs)]] (bigAV ((rv neg xs).natAbs : Nat)) := by
  have l1 := rv_len (neg := neg) hu
  have h := made_run (neg := false) (big_u32 (rv neg xs).natAbs) (by omega)
  rw [rv_pos] at h
  exact Try.q111 neg _ xs _ _ (lim_al _) (by omega) (limbs_run hu hN) h
def blen (n : Nat) : Nat := if n = 0 then 0 else Nat.log2 n + 1
theorem top_limb {n : Nat} (h : n ≠ 0) : 1 ≤ (limbs n).length ∧ ∃ x : Nat, (limbs n).getD ((limbs n).length - 1) 0 = x ∧ x ≠ 0 ∧ x < 4294967296 ∧ n / 2 ^ (32 * ((limbs n).length - 1)) = x := by
  have hc := limbs_canon n
  have hn0 : limbs n ≠ [] := by rw [Ne, limbs_nil]; exact h
  have hl := List.length_pos_iff.2 hn0
  have ht := getD_u32 hc.1 ((limbs n).length - 1)
  have hz : (limbs n).getD ((limbs n).length - 1) 0 ≠ 0 := by
    rcases hc.2 with g | g
    · exact absurd g hn0
    · exact g
  have hs := val_split (limbs n) (j := (limbs n).length - 1) (by omega)
  have hd := drop_val (limbs n) ((limbs n).length - 1)
  rw [drop_end (xs := limbs n) (i := (limbs n).length - 1 + 1) (by omega), Int.mul_zero, Int.add_zero] at hd
  have h1 := take_lt hc.1 ((limbs n).length - 1)
  have h0 := valL_nonneg (u32_take hc.1 ((limbs n).length - 1))
  rw [hd, limbs_val] at hs
  generalize (limbs n).length - 1 = j at *
  generalize (limbs n).getD j 0 = x at *
  obtain ⟨x, rfl⟩ : ∃ y : Nat, x = y := ⟨x.toNat, by omega⟩
  refine ⟨hl, x, rfl, by omega, by omega, ?_⟩
  generalize valL (List.take j (limbs n)) = L at *
  have e : ((n / 2 ^ (32 * j) : Nat) : Int) = (x : Int) := by
    rw [Int.natCast_ediv, Int.natCast_pow, show ((2 : Nat) : Int) ^ (32 * j) = 4294967296 ^ j by rw [pow32_two]; rfl, hs]
    have hp := pow32_pos j
    rw [Int.mul_comm (4294967296 ^ j), Int.add_mul_ediv_right _ _ (by omega), Int.ediv_eq_zero_of_lt h0 h1, Int.zero_add]
  omega
theorem wbits_run {neg : Bool} {xs : List Int} (hu : U32 xs) (hN : xs.length ≤ 1048576) : Runs Try.ir 77 [.agg [.bool neg, .sl xs.length (lm xs)]] (.int .i64 ((blen (rv neg xs).natAbs : Nat) : Int)) := by
  have l1 := rv_len (neg := neg) hu
  have r1 := limbs_run (neg := neg) hu hN
  generalize rv neg xs = a at *
  by_cases h0 : a.natAbs = 0
  · have h := Try.run77_1 neg _ xs _ (by rw [h0]; rfl) r1
    rw [show blen a.natAbs = 0 by unfold blen; rw [if_pos h0]]
    exact h
  · obtain ⟨t1, x, t2, t3, t4, t5⟩ := top_limb h0
    have e1 : IntKind.i64.wrap ((((limbs a.natAbs).length : Nat) : Int) - 1) = (((limbs a.natAbs).length - 1 : Nat) : Int) := by rw [w64 (by omega) (by omega)]; omega
    have hl := len32_run t4 t3
    have h := Try.run77_2 neg _ xs (limbs a.natAbs) _ (by rw [beq_eq_false_iff_ne]; omega) (by rw [e1]; omega) r1 (by rw [e1, Int.toNat_natCast, t2]; exact hl)
    have hlog : Nat.log2 x < 32 := (Nat.log2_lt t3).2 t4
    rw [e1, w64 (n := 32 * (((limbs a.natAbs).length - 1 : Nat) : Int)) (by omega) (by omega), w64 (by omega) (by omega)] at h
    have e2 : blen a.natAbs = Nat.log2 x + 1 + 32 * ((limbs a.natAbs).length - 1) := by
      unfold blen
      rw [if_neg h0, log2_shift a.natAbs (32 * ((limbs a.natAbs).length - 1)) (by rw [t5]; exact t3), t5]
      omega
    rw [e2]
    rwa [show 32 * (((limbs a.natAbs).length - 1 : Nat) : Int) + ((Nat.log2 x + 1 : Nat) : Int) = ((Nat.log2 x + 1 + 32 * ((limbs a.natAbs).length - 1) : Nat) : Int) by omega] at h
end Go.Proofs.Ythnnfemologhfaa
