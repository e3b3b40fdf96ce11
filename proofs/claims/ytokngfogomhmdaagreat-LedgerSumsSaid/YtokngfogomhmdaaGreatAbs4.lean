/- Loads, stores, built structs, compared structs: what the model does and what the abstract machine says of it. -/
import Derived.Test.YtokngfogomhmdaaGreatAbs3
import Derived.Laws.Cells
import Derived.Laws.CopyRow
import Derived.Laws.Entries
import Derived.Laws.StructEq
import Derived.Laws.NewFold
namespace Go.Ai
open Go.RowKit

theorem isData_oneCell {Y X : Nat → Prop} {w : World} {v : Value} {x : AV} (h : Rd Y X w v x) (hd : isData x = true) : v.oneCell' = true ∧ v.cells = #[v] := by
  cases h <;> first | exact ⟨rfl, rfl⟩ | cases hd

theorem addr_add (b o j : Nat) : (⟨b, o, none⟩ : Addr).add j = ⟨b, o + j, none⟩ := by
  unfold Addr.add
  split
  · rename_i h; subst h; rfl
  · rfl

def isAggD : TypeDesc → Bool
  | .struct _ | .array _ _ => true
  | _ => false

/-- The type has n cells; 'one': it is neither a struct nor an array. -/
def oneOk (P : Program) (t : TypeId) (n : Nat) (one : Bool) : Bool :=
  match P.underlying t, P.info? t with
  | some d, some i => i.size == n && one == !(isAggD d)
  | _, _ => false

theorem oneOk_spec {P : Program} {t : TypeId} {n : Nat} {one : Bool} (h : oneOk P t n one = true) :
    (∀ w, (isAgg t).run P w = .ok (!one) w) ∧ (∀ w, (sizeOf t).run P w = .ok n w) := by
  unfold oneOk at h
  split at h
  · rename_i d i hd hi
    simp only [Bool.and_eq_true, beq_iff_eq] at h
    obtain ⟨h1, h2⟩ := h
    constructor
    · intro w
      subst h2
      simp only [isAgg, Sem.run_bind, run_underlying hd, Result.andThen_ok, Bool.not_not]
      cases d <;> rfl
    · intro w
      simp [sizeOf, typeInfo, program, Sem.run, hi, h1]
  · cases h

theorem load_ok {P : Program} {Y X : Nat → Prop} {w : World} {t : TypeId} {n b base off : Nat} {one : Bool} {cs : List AV} {x : AV} (ho : oneOk P t n one = true) (hm : MemRd Y X w b base cs)
    (ht : takeA cs off n one = some x) : ∃ v, (loadVar t ⟨b, base + off, none⟩).run P w = .ok v w ∧ Rd Y X w v x := by
  obtain ⟨h1, h2⟩ := oneOk_spec ho
  obtain ⟨hd, hm⟩ := hm
  unfold takeA at ht
  cases one with
  | true =>
    simp only [if_true] at ht
    obtain ⟨hlt, hx⟩ := List.getElem?_eq_some_iff.1 ht
    obtain ⟨v, hc, hr⟩ := hm off hlt
    refine ⟨v, ?_, hx ▸ hr⟩
    simp [loadVar, h1, hc]
  | false =>
    simp only [Bool.false_eq_true, if_false] at ht
    split at ht
    · rename_i hle
      cases ht
      let f : Nat → Value := fun j => (w.cell? ⟨b, base + off + j, none⟩).getD Go.undef
      have hf : ∀ j, j < n → w.cell? ⟨b, base + off + j, none⟩ = some (f j) ∧ ∀ h : off + j < cs.length, Rd Y X w (f j) cs[off + j] := by
        intro j hj
        obtain ⟨v, hc, hr⟩ := hm (off + j) (by omega)
        have hc' : w.cell? ⟨b, base + off + j, none⟩ = some v := by rw [Nat.add_assoc]; exact hc
        refine ⟨by simp [f, hc'], fun _ => ?_⟩
        have : f j = v := by simp [f, hc']
        rw [this]; exact hr
      refine ⟨.agg ((List.range n).map f).toArray, ?_, ?_⟩
      · have hl := run_loadCells (P := P) w ⟨b, base + off, none⟩ n f (fun j hj => by rw [addr_add]; exact (hf j hj).1)
        simp [loadVar, h1, h2, hl]
      · refine .agg _ _ ?_ (by simp; omega) (fun i h1 h2 => ?_)
        · intro y hy
          exact hd y (List.mem_of_mem_drop (List.mem_of_mem_take hy))
        · have hi : i < n := by simpa using h1
          simpa using (hf i hi).2 (by omega)
    · cases ht

/-- The cells of a value, one by one. -/
def CellsRd (Y X : Nat → Prop) (w : World) (vs : Array Value) (cs : List AV) : Prop :=
  Dat cs ∧ vs.size = cs.length ∧ ∀ (i : Nat) (h1 : i < vs.size) (h2 : i < cs.length), Rd Y X w vs[i] cs[i]

theorem CellsRd.oneCell {Y X : Nat → Prop} {w : World} {vs : Array Value} {cs : List AV} (h : CellsRd Y X w vs cs) : ∀ v ∈ vs.toList, v.oneCell' = true := by
  obtain ⟨hd, hs, hr⟩ := h
  intro v hv
  obtain ⟨i, hi, rfl⟩ := List.getElem_of_mem hv
  have hi' : i < vs.size := by simpa using hi
  have := hr i hi' (by omega)
  exact (isData_oneCell this (hd _ (List.getElem_mem _))).1

theorem cellsA_ok {Y X : Nat → Prop} {w : World} {v : Value} {x : AV} {n : Nat} {ys : List AV} (h : Rd Y X w v x) (hc : cellsA x n = some ys) : ys.length = n ∧ CellsRd Y X w v.cells ys := by
  have one : isData x = true → n = 1 → ys = [x] → ys.length = n ∧ CellsRd Y X w v.cells ys := by
    intro hd hn hy
    subst hy hn
    refine ⟨rfl, ?_⟩
    rw [(isData_oneCell h hd).2]
    refine ⟨fun y hy => ?_, rfl, fun i h1 h2 => ?_⟩
    · simp only [List.mem_singleton] at hy; subst hy; exact hd
    · have : i = 0 := by simp at h2; exact h2
      subst this
      exact h
  cases x with
  | agg cs =>
    simp only [cellsA] at hc
    split at hc
    · cases hc
      cases h with
      | agg vs _ hd hs hr => exact ⟨by assumption, hd, hs, hr⟩
    · cases hc
  | tup _ => cases hc
  | undef => cases hc
  | fresh _ _ _ => cases hc
  | frs _ _ _ _ => cases hc
  | pt _ => cases hc
  | fnc _ _ => cases hc
  | int k m => simp only [cellsA] at hc; split at hc <;> cases hc; exact one rfl (by assumption) rfl
  | bool b => simp only [cellsA] at hc; split at hc <;> cases hc; exact one rfl (by assumption) rfl
  | str b => simp only [cellsA] at hc; split at hc <;> cases hc; exact one rfl (by assumption) rfl
  | nil => simp only [cellsA] at hc; split at hc <;> cases hc; exact one rfl (by assumption) rfl
  | sl m cs => simp only [cellsA] at hc; split at hc <;> cases hc; exact one rfl (by assumption) rfl

theorem CellsRd.world {Y X : Nat → Prop} {w w' : World} {vs : Array Value} {cs : List AV} (h : CellsRd Y X w vs cs) (hw : ∀ b, ¬ X b → b < w.heap.size → w'.heap[b]? = w.heap[b]?) : CellsRd Y X w' vs cs :=
  ⟨h.1, h.2.1, fun i h1 h2 => (h.2.2 i h1 h2).world hw⟩
theorem CellsRd.mono {Y X X' : Nat → Prop} {w : World} {vs : Array Value} {cs : List AV} (h : CellsRd Y X w vs cs) (hX : ∀ b, X' b → X b ∨ w.heap.size ≤ b) : CellsRd Y X' w vs cs :=
  ⟨h.1, h.2.1, fun i h1 h2 => (h.2.2 i h1 h2).mono hX⟩

/-- The two lists go together, cell by cell. -/
theorem CellsRd.get {Y X : Nat → Prop} {w : World} {vs : Array Value} {cs : List AV} (h : CellsRd Y X w vs cs) {i : Nat} {c : AV} (hc : cs[i]? = some c) : ∃ v, vs[i]? = some v ∧ Rd Y X w v c := by
  obtain ⟨hlt, he⟩ := List.getElem?_eq_some_iff.1 hc
  have hs := h.2.1
  refine ⟨vs[i]'(by omega), by rw [Array.getElem?_eq_getElem], ?_⟩
  subst he
  exact h.2.2 i (by omega) hlt

theorem getElem?_lay (cs new : List AV) (off i : Nat) (h : off + new.length ≤ cs.length) :
    (cs.take off ++ new ++ cs.drop (off + new.length))[i]? = if i < off then cs[i]? else if i < off + new.length then new[i - off]? else cs[i]? := by
  have ht : (cs.take off).length = off := by simp; omega
  by_cases h1 : i < off
  · rw [if_pos h1, List.append_assoc, List.getElem?_append_left (by omega), List.getElem?_take_of_lt h1]
  · rw [if_neg h1]
    by_cases h2 : i < off + new.length
    · rw [if_pos h2, List.getElem?_append_left (by simp; omega), List.getElem?_append_right (by omega), ht]
    · rw [if_neg h2, List.getElem?_append_right (by simp; omega), List.getElem?_drop]
      congr 1
      simp
      omega

theorem layA_ok {cs new cs' : List AV} {off : Nat} (h : layA cs off new = some cs') : off + new.length ≤ cs.length ∧ cs'.length = cs.length ∧ cs' = cs.take off ++ new ++ cs.drop (off + new.length) := by
  unfold layA at h
  split at h
  · cases h
    exact ⟨by assumption, by simp; omega, rfl⟩
  · cases h

theorem layA_dat {cs new cs' : List AV} {off : Nat} (h : layA cs off new = some cs') (hc : Dat cs) (hn : Dat new) : Dat cs' := by
  obtain ⟨_, _, rfl⟩ := layA_ok h
  intro x hx
  simp only [List.mem_append] at hx
  rcases hx with (hx | hx) | hx
  · exact hc x (List.mem_of_mem_take hx)
  · exact hn x hx
  · exact hc x (List.mem_of_mem_drop hx)

end Go.Ai
