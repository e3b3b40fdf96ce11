/- Reads and writes of typed lists by an index that is a number; loops under a condition. -/
import Derived.Test.YtokngfogomhmdaaGreatPolys
namespace Go.Ai

section
variable {prog : Nat → Option IFunc}
theorem RunsC.cond_t {c : Opd} {a b : ICode} {s t : State} {ex : Ex} (h : c.av s = some (.bool true)) (h1 : RunsC prog a s ex t) : RunsC prog (.cond c a b) s ex t := by
  obtain ⟨n, h1⟩ := h1
  refine ⟨n + 1, ?_⟩
  have e1 := evC_le (evF_le prog (show n ≤ n + 1 by omega)) (Nat.le_refl n) h1
  simp only [evC, condA, h, e1]
theorem RunsC.cond_f {c : Opd} {a b : ICode} {s t : State} {ex : Ex} (h : c.av s = some (.bool false)) (h1 : RunsC prog b s ex t) : RunsC prog (.cond c a b) s ex t := by
  obtain ⟨n, h1⟩ := h1
  refine ⟨n + 1, ?_⟩
  have e1 := evC_le (evF_le prog (show n ≤ n + 1 by omega)) (Nat.le_refl n) h1
  simp only [evC, condA, h, e1]
theorem RunsW.cond_t {c : Opd} {a b : ICode} {s t : State} {ex : Ex} {x : Bool} (h : c.av s = some (.bool x)) (hx : x = true) (h1 : RunsW prog a s ex t) : RunsW prog (.cond c a b) s ex t := by
  subst hx
  obtain ⟨u, k1, k2⟩ := h1
  exact ⟨u, RunsC.cond_t h k1, k2⟩
theorem RunsW.cond_f {c : Opd} {a b : ICode} {s t : State} {ex : Ex} {x : Bool} (h : c.av s = some (.bool x)) (hx : x = false) (h1 : RunsW prog b s ex t) : RunsW prog (.cond c a b) s ex t := by
  subst hx
  obtain ⟨u, k1, k2⟩ := h1
  exact ⟨u, RunsC.cond_f h k1, k2⟩
theorem RunsW.block_out {id : Nat} {c : ICode} {s t : State} {i : Nat} (h : RunsW prog c s (.exit i) t) (hi : i ≠ id) : RunsW prog (.block id c) s (.exit i) t := by
  obtain ⟨u, k1, k2⟩ := h
  exact ⟨u, RunsC.block_out k1 hi, k2⟩
/-- A loop that counts up. -/
theorem RunsW.up {c : ICode} {ex : Ex} {fin : State} (st : Nat → State) (n : Nat) (hex : ex ≠ .norm) (step : ∀ i, i < n → RunsW prog c (st i) .norm (st (i + 1))) (out : RunsW prog c (st n) ex fin) : ∀ i, i ≤ n → RunsW prog (.loop c) (st i) ex fin := by
  have key : ∀ r i, i + r = n → RunsW prog (.loop c) (st i) ex fin := by
    intro r
    induction r with
    | zero =>
      intro i hi
      have : i = n := by omega
      subst this
      exact RunsW.loop_out out hex
    | succ r ih =>
      intro i hi
      exact RunsW.loop (step i (by omega)) (ih (i + 1) (by omega))
  intro i hi
  exact key (n - i) i (by omega)
/-- A loop that counts down. -/
theorem RunsW.down {c : ICode} {ex : Ex} {fin : State} (st : Nat → State) (hex : ex ≠ .norm) (n : Nat) (step : ∀ i, i < n → RunsW prog c (st (i + 1)) .norm (st i)) (out : RunsW prog c (st 0) ex fin) : RunsW prog (.loop c) (st n) ex fin := by
  have h := RunsW.up (fun i => st (n - i)) n hex (fun i hi => by
    have := step (n - (i + 1)) (by omega)
    rw [show n - (i + 1) + 1 = n - i by omega] at this
    exact this) (by rw [Nat.sub_self]; exact out) 0 (Nat.zero_le _)
  exact h
theorem RunsW.to {c : ICode} {ex : Ex} {s t s' t' : State} (h : RunsW prog c s ex t) (hs : s = s') (ht : t = t') : RunsW prog c s' ex t' := hs ▸ ht ▸ h
end

theorem toNat_lt {X : Int} {n : Nat} (h : 0 ≤ X ∧ X < ((n : Nat) : Int)) : Int.toNat X < n := by omega
theorem take_limI {xs : List Int} {X : Int} (h : 0 ≤ X ∧ X < ((xs.length : Nat) : Int)) : takeA (List.drop (Int.toNat X * 1) (lm xs)) 0 1 true = some (.int .u32 (xs.getD (Int.toNat X) 0)) := take_lim (toNat_lt h)
theorem lm_slice (ws : List Int) (l h : Nat) : List.take ((h - l) * 1) (List.drop (l * 1) (lm ws)) = lm ((ws.drop l).take (h - l)) := by
  simp [lm, List.map_take, List.map_drop]
theorem takeS_limI {ws : List Int} {l h m : Nat} {X : Int} {a b : Bool} (hx : 0 ≤ X ∧ X < ((h - l : Nat) : Int)) (hl : l ≤ h ∧ h ≤ m ∧ m ≤ ws.length ∧ (a = true → b = true)) : takeA (List.drop (Int.toNat X * 1) (List.take ((h - l) * 1) (List.drop (l * 1) (lm ws)))) 0 1 true = some (.int .u32 (((ws.drop l).take (h - l)).getD (Int.toNat X) 0)) := by
  rw [lm_slice]; exact take_lim (by have := toNat_lt hx; simp; omega)
theorem own_limI {xs : List Int} {n : Nat} (hl : xs.length = n) {X : Int} (h : 0 ≤ X ∧ X < ((n : Nat) : Int)) : takeA (lm xs) (Int.toNat X * 1) 1 true = some (.int .u32 (xs.getD (Int.toNat X) 0)) := own_lim (hl ▸ toNat_lt h)
theorem lay_limI {xs : List Int} {n : Nat} (hl : xs.length = n) {X : Int} (h : 0 ≤ X ∧ X < ((n : Nat) : Int)) {v : Int} : layA (lm xs) (Int.toNat X * 1) [.int .u32 v] = some (lm (xs.set (Int.toNat X) v)) := lay_lim (hl ▸ toNat_lt h)
theorem take_pcI {rs : List Rn} {X : Int} (h : 0 ≤ X ∧ X < ((rs.length : Nat) : Int)) : takeA (List.drop (Int.toNat X * 2) (pc rs)) 0 2 false = some (rawAV (rs.getD (Int.toNat X) z0)) := take_pc (toNat_lt h)
theorem own_pcI {rs : List Rn} {n : Nat} (hl : rs.length = n) {X : Int} (h : 0 ≤ X ∧ X < ((n : Nat) : Int)) : takeA (pc rs) (Int.toNat X * 2) 2 false = some (rawAV (rs.getD (Int.toNat X) z0)) := own_pc (hl ▸ toNat_lt h)
theorem lay_pcI {rs : List Rn} {n : Nat} (hl : rs.length = n) {X : Int} (h : 0 ≤ X ∧ X < ((n : Nat) : Int)) {r : Rn} : layA (pc rs) (Int.toNat X * 2) [.bool r.1, .sl r.2.length (lm r.2)] = some (pc (rs.set (Int.toNat X) r)) := lay_pc (hl ▸ toNat_lt h)
theorem drop_pc_cons {rs : List Rn} {i : Nat} (h : i < rs.length) : List.drop (i * 2) (pc rs) = .bool (rs.getD i z0).1 :: .sl (rs.getD i z0).2.length (lm (rs.getD i z0).2) :: pc (rs.drop (i + 1)) := by
  rw [pc_drop, List.drop_eq_getElem_cons h, pc_cons]
  simp [List.getD_eq_getElem?_getD, List.getElem?_eq_getElem h]
theorem take_pcL {rs : List Rn} {X : Int} (h : 0 ≤ X ∧ X < ((rs.length : Nat) : Int)) : takeA (List.drop 1 (List.drop (Int.toNat X * 2) (pc rs))) 0 1 true = some (.sl (rs.getD (Int.toNat X) z0).2.length (lm (rs.getD (Int.toNat X) z0).2)) := by
  rw [drop_pc_cons (toNat_lt h)]; rfl
theorem take_pcN {rs : List Rn} {X : Int} (h : 0 ≤ X ∧ X < ((rs.length : Nat) : Int)) : takeA (List.drop (Int.toNat X * 2) (pc rs)) 0 1 true = some (.bool (rs.getD (Int.toNat X) z0).1) := by
  rw [drop_pc_cons (toNat_lt h)]; rfl

/-! Lists of words -/
def li (xs : List Int) : List AV := xs.map (AV.int .i64)
theorem li_get {xs : List Int} {i : Nat} (h : i < xs.length) : (li xs)[i]? = some (.int .i64 (xs.getD i 0)) := by
  simp [li, List.getElem?_map, List.getElem?_eq_getElem h, List.getD_eq_getElem?_getD]
theorem take_liI {xs : List Int} {X : Int} (h : 0 ≤ X ∧ X < ((xs.length : Nat) : Int)) : takeA (List.drop (Int.toNat X * 1) (li xs)) 0 1 true = some (.int .i64 (xs.getD (Int.toNat X) 0)) := by
  simp only [takeA, if_true, Nat.mul_one, List.getElem?_drop, Nat.add_zero]
  exact li_get (toNat_lt h)

/-! Lists of polynomials -/
def pp (ps : List (List Rn)) : List AV := ps.map fun rs => .sl rs.length (pc rs)
theorem pp_length (ps : List (List Rn)) : (pp ps).length = ps.length := by simp [pp]
theorem pp_get {ps : List (List Rn)} {i : Nat} (h : i < ps.length) : (pp ps)[i]? = some (.sl (ps.getD i []).length (pc (ps.getD i []))) := by
  simp [pp, List.getElem?_map, List.getElem?_eq_getElem h, List.getD_eq_getElem?_getD]
theorem take_ppI {ps : List (List Rn)} {X : Int} (h : 0 ≤ X ∧ X < ((ps.length : Nat) : Int)) : takeA (List.drop (Int.toNat X * 1) (pp ps)) 0 1 true = some (.sl (ps.getD (Int.toNat X) []).length (pc (ps.getD (Int.toNat X) []))) := by
  simp only [takeA, if_true, Nat.mul_one, List.getElem?_drop, Nat.add_zero]
  exact pp_get (toNat_lt h)

abbrev PPP := List (List (List Rn))
def ppp (l : List (List (List Rn))) : List AV := l.map fun ps => .sl ps.length (pp ps)
theorem ppp_get {l : List (List (List Rn))} {i : Nat} (h : i < l.length) : (ppp l)[i]? = some (.sl (l.getD i []).length (pp (l.getD i []))) := by
  simp [ppp, List.getElem?_map, List.getElem?_eq_getElem h, List.getD_eq_getElem?_getD]
theorem take_pppI {l : List (List (List Rn))} {X : Int} (h : 0 ≤ X ∧ X < ((l.length : Nat) : Int)) : takeA (List.drop (Int.toNat X * 1) (ppp l)) 0 1 true = some (.sl (l.getD (Int.toNat X) []).length (pp (l.getD (Int.toNat X) []))) := by
  simp only [takeA, if_true, Nat.mul_one, List.getElem?_drop, Nat.add_zero]
  exact ppp_get (toNat_lt h)
end Go.Ai
