/- Closed runs over a heap of numbered objects: a drawn region, in every order. -/
import Derived.Test.YtokngfogomhmdaaGreatHa11
namespace Go.Hp
open Go.Ai Go.RowKit
noncomputable section

section
variable {P : Program} {call : HCaller} {n : Nat} {rd : Option Nat} {ops : Array Oper} {Q : Exit → Act → World → Prop}
variable {h0 : Tr HO} {ρ0 : En} {rs : List Rec} {ρs : Nat → En} {nxs : Nat → Nat} {lgs : Nat → List Nat}

/-- Those for whom an operation waits. -/
abbrev ancOf (ops : Array Oper) (i : Nat) : List Nat := (ancGo ops.toList []).getD i []

/-- All that is known of a drawn region's run. -/
structure Dw (P : Program) (call : HCaller) (n : Nat) (ops : Array Oper) (h0 : Tr HO) (rs : List Rec) (ρs : Nat → En) (nxs : Nat → Nat) (lgs : Nat → List Nat) : Prop where
  len : rs.length = ops.size
  op : ∀ i o, ops[i]? = some o → ∃ r, rs[i]? = some r ∧ RecF P call ops (ρs i) h0 (nxs i) (nxs (i + 1)) (lgs i) (rs.take i) (ancOf ops i) o r ∧ dstOk n o.dst = true ∧ ρs (i + 1) = putE (ρs i) o.dst r.v
  apart : ∀ i j r r', j < i → rs[j]? = some r → rs[i]? = some r' → memL j (ancOf ops i) = false → Apart r r' (lgs i)

theorem dw_of {k : Nat} (hc : QC call) (hk : k = ops.size) (h : DR P call n ops h0 (ancGo ops.toList []) rs ρs nxs lgs k) : Dw P call n ops h0 rs ρs nxs lgs := by
  subst hk
  refine ⟨h.len, fun i o ho => ?_, fun i j r r' hji hr hr' hm => ?_⟩
  · have hi := (Array.getElem?_eq_some_iff.1 ho).1
    obtain ⟨o', r, h1, h2, h3, h4, _, h6⟩ := h.op i hi
    rw [ho] at h1
    cases h1
    exact ⟨r, h2, recOf_spec hc h3, h4, h6⟩
  · have hi : i < ops.size := by
      have := (List.getElem?_eq_some_iff.1 hr').1
      have := h.len
      omega
    obtain ⟨o', r1, h1, h2, h3, h4, h5, h6⟩ := h.op i hi
    rw [hr'] at h2
    cases h2
    refine apartR_spec (apartAll_spec h5 j r ?_ (by simpa using hm))
    rw [List.getElem?_take_of_lt hji]; exact hr

namespace Dw
variable (h : Dw P call n ops h0 rs ρs nxs lgs)
include h

theorem recd {i : Nat} {r : Rec} (hr : rs[i]? = some r) : ∃ o, ops[i]? = some o ∧ RecF P call ops (ρs i) h0 (nxs i) (nxs (i + 1)) (lgs i) (rs.take i) (ancOf ops i) o r ∧ dstOk n o.dst = true ∧ ρs (i + 1) = putE (ρs i) o.dst r.v := by
  have hi : i < ops.size := by
    have := (List.getElem?_eq_some_iff.1 hr).1
    have := h.len
    omega
  obtain ⟨r', h1, h2⟩ := h.op i ops[i] (by simp [hi])
  rw [hr] at h1
  cases h1
  exact ⟨ops[i], by simp [hi], h2⟩

/-- What an operation has touched, it has seen or made. -/
theorem lgd (hc : QC call) {i a : Nat} {r : Rec} (hr : rs[i]? = some r) (ha : a ∈ lgs i) : (∃ o, (viewH (ancOf ops i) h0 (rs.take i)).get a = some o ∧ ∀ l, r.vis = some l → a ∈ l) ∨ (nxs i ≤ a ∧ a < nxs (i + 1)) := by
  obtain ⟨o, ho, hf, _⟩ := h.recd hr
  rcases hf.run with ⟨_, hv, hrun⟩ | ⟨_, _, _, _, hl⟩
  · rcases (evK_qt hc hrun).lgd a ha with e | ⟨x, e⟩ | e
    · cases e
    · obtain ⟨e1, e2⟩ := seen_some e
      exact .inl ⟨x, e1, fun l hl => e2 l (by rw [← hv]; exact hl)⟩
    · exact .inr e
  · rw [hl] at ha; cases ha
theorem rdom (hc : QC call) {i a : Nat} {r : Rec} {x : HO} (hr : rs[i]? = some r) (hm : memL a r.ks = true) (ha : r.h.get a = some x) : (∃ o, (viewH (ancOf ops i) h0 (rs.take i)).get a = some o) ∨ (nxs i ≤ a ∧ a < nxs (i + 1)) := by
  obtain ⟨o, ho, hf, _⟩ := h.recd hr
  rcases hf.run with ⟨_, hv, hrun⟩ | ⟨_, _, _, hn, hl⟩
  · rcases (evK_qt hc hrun).dom a x ha with ⟨y, e⟩ | e
    · exact .inl ⟨y, (seen_some e).1⟩
    · exact .inr e
  · rcases (hf.ks a).1 hm with e | e
    · rw [hl] at e; cases e
    · exact .inr e
theorem nx_step (hc : QC call) {i : Nat} (hi : i < ops.size) : nxs i ≤ nxs (i + 1) := by
  obtain ⟨r, hr, hf, _⟩ := h.op i ops[i] (by simp [hi])
  rcases hf.run with ⟨_, hv, hrun⟩ | ⟨_, _, _, hn, hl⟩
  · exact (evK_qt hc hrun).nx
  · omega
theorem nx_mono (hc : QC call) {i j : Nat} (h1 : i ≤ j) (h2 : j ≤ ops.size) : nxs i ≤ nxs j := by
  induction j with
  | zero => have : i = 0 := by omega
            rw [this]; exact Nat.le_refl _
  | succ j ih =>
    rcases Nat.lt_or_ge i (j + 1) with h3 | h3
    · exact Nat.le_trans (ih (by omega) (by omega)) (h.nx_step hc (by omega))
    · have : i = j + 1 := by omega
      rw [this]; exact Nat.le_refl _

/-- Where what an operation sees comes from. -/
theorem view_dom (hc : QC call) : ∀ (i : Nat) {a : Nat} {x : HO}, i ≤ ops.size → (viewH (ancOf ops i) h0 (rs.take i)).get a = some x → (∃ o, h0.get a = some o) ∨ (nxs 0 ≤ a ∧ a < nxs i) := by
  intro i
  induction i using Nat.strongRecOn with
  | _ i ih =>
    intro a x hi hx
    rw [viewH_get] at hx
    split at hx
    · cases hx
    · rcases heapD_cases (D := fun j => memL j (ancOf ops i)) (a := a) (rs := rs.take i) (i := 0) (b := h0.get a) with e | ⟨k, r, e1, e2, e3, e4⟩
      · rw [e] at hx; exact .inl ⟨x, hx⟩
      · have hk : k < i := by
          have := (List.getElem?_eq_some_iff.1 e1).1
          simp at this
          omega
        rw [List.getElem?_take_of_lt hk] at e1
        rw [e4] at hx
        have hm0 := h.nx_mono hc (i := 0) (j := k) (Nat.zero_le _) (by omega)
        have hm1 := h.nx_mono hc (i := k + 1) (j := i) (by omega) hi
        have hm2 := h.nx_step hc (i := k) (by omega)
        rcases h.rdom hc e1 e3 hx with ⟨y, e⟩ | e
        · rcases ih k hk (by omega) e with e | e
          · exact .inl e
          · exact .inr ⟨e.1, by omega⟩
        · exact .inr ⟨by omega, by omega⟩
omit h in
theorem view_anc {i j a : Nat} {r : Rec} {x : HO} (hji : j < i) (hr : rs[j]? = some r) (hm : memL a r.ks = true) (hx : (viewH (ancOf ops i) h0 (rs.take i)).get a = some x) : memL j (ancOf ops i) = true := by
  rw [viewH_get] at hx
  split at hx
  · cases hx
  · rename_i hh
    have := hidD_spec (by simpa using hh) j r (by rw [List.getElem?_take_of_lt hji]; exact hr) hm
    simpa using this

/-- Two of which neither waits for the other touch nothing that is the same. -/
theorem disjoint (hc : QC call) (hdom : ∀ a o, h0.get a = some o → ¬ (nxs 0 ≤ a ∧ a < nxs ops.size)) {i j a : Nat} {r r' : Rec} (hji : j < i) (hr : rs[j]? = some r) (hr' : rs[i]? = some r') (hm : memL j (ancOf ops i) = false) (h1 : memL a r.ks = true) (h2 : memL a r'.ks = true) : False := by
  have hi : i < ops.size := by
    have := (List.getElem?_eq_some_iff.1 hr').1
    have := h.len
    omega
  obtain ⟨o, _, hf, _⟩ := h.recd hr
  obtain ⟨o', _, hf', _⟩ := h.recd hr'
  have hnew : nxs i ≤ a ∧ a < nxs (i + 1) := by
    rcases (hf'.ks a).1 h2 with e | e
    · rcases h.lgd hc hr' e with ⟨x, hx, _⟩ | e
      · have := view_anc hji hr h1 hx
        rw [hm] at this; cases this
      · exact e
    · exact e
  have m1 := h.nx_mono hc (i := j + 1) (j := i) (by omega) (by omega)
  have m2 := h.nx_step hc (i := j) (by omega)
  rcases (hf.ks a).1 h1 with e | e
  · rcases h.lgd hc hr e with ⟨x, hx, _⟩ | e
    · rcases h.view_dom hc j (by omega) hx with ⟨y, hy⟩ | e
      · have m3 := h.nx_mono hc (i := 0) (j := i) (Nat.zero_le _) (by omega)
        have m4 := h.nx_mono hc (i := i + 1) (j := ops.size) (by omega) (Nat.le_refl _)
        exact hdom a y hy ⟨by omega, by omega⟩
      · omega
    · omega
  · omega

theorem tmps {i : Nat} (hi : i ≤ ops.size) (h0' : ρs 0 = ρ0) (t : Nat) : (ρs i).get t = tmpD (fun _ => true) t (rs.take i) 0 (ρ0.get t) := by
  induction i with
  | zero => rw [h0']; rfl
  | succ i ih =>
    obtain ⟨r, hr, hf, hd, he⟩ := h.op i ops[i] (by simp)
    have hlt : i < rs.length := by have := h.len; omega
    have hr2 : rs[i] = r := by rw [List.getElem?_eq_getElem hlt] at hr; exact Option.some.inj hr
    rw [he, putE_get, List.take_add_one, hr]
    simp only [Option.toList]
    rw [tmpD_append, ih (by omega), hf.d]
    by_cases e : ops[i].dst = some t
    · rw [if_pos e, e]; simp
    · rw [if_neg e]
      have : (ops[i].dst == some t) = false := by simpa using e
      rw [this]; simp
end Dw

/-! ### Some have been done, closed under waiting -/

def DL (listed : Array Bool) (i : Nat) : Bool := listed.getD i false

theorem anc_done {listed : Array Bool} (hcl : Closed ops listed) {i j : Nat} (hi : DL listed i = true) (hm : memL j (ancOf ops i) = true) : DL listed j = true := by
  cases ho : ops[i]? with
  | none =>
    exfalso
    have hm := memL_iff.1 hm
    have hlen : ∀ (l : List Oper) (acc : List (List Nat)), (ancGo l acc).length = acc.length + l.length := by
      intro l
      induction l with
      | nil => intro acc; simp [ancGo]
      | cons o l ih => intro acc; simp only [ancGo]; rw [ih]; simp; omega
    have : (ancGo ops.toList [])[i]? = none := by
      rw [List.getElem?_eq_none]
      rw [hlen]
      have := Array.getElem?_eq_none_iff.1 ho
      simpa using this
    unfold ancOf at hm
    rw [List.getD_eq_getElem?_getD, this] at hm
    simp at hm
  | some o => exact anc_listed hcl i o ho (hcl i o ho hi) j (memL_iff.1 hm)

/-- What has turned since the region's beginning. -/
structure Sd (μ0 : Mu) (h0 : Tr HO) (w0 : World) (μ : Mu) (w : World) (free : Nat → Prop) : Prop where
  le : ∀ a r, μ0 a = some r → μ a = some r
  os : w.os = w0.os
  tape : w.tape = w0.tape
  out : w.output = w0.output
  size : w0.heap.size ≤ w.heap.size
  new : ∀ b r, μ b = some r → μ0 b = some r ∨ (∃ a o, h0.get a = some o ∧ μ0 a = some r) ∨ w0.heap.size ≤ r.1
  frame : ∀ r, r < w0.heap.size → (∀ a o q, h0.get a = some o → μ0 a = some q → q.1 ≠ r) → w.heap[r]? = w0.heap[r]?
  stay : ∀ b, free b → μ b = μ0 b

structure Inv (P : Program) (n : Nat) (h0 : Tr HO) (ρ0 : En) (rs : List Rec) (nxs : Nat → Nat) (k : Nat) (μ0 : Mu) (w0 : World) (a0 : Act) (D : Nat → Bool) (μ : Mu) (a : Act) (w : World) : Prop where
  size : a.tmps.size = n
  defers : a.defers = a0.defers
  tmp : ∀ t x, tmpD D t rs 0 (ρ0.get t) = some x → VR μ x (a.tmps.getD t Go.undef)
  obj : ∀ b o, heapD D b rs 0 (h0.get b) = some o → ∃ r, μ b = some r ∧ OR μ w r o
  inj : ∀ b b' o o' r r', heapD D b rs 0 (h0.get b) = some o → heapD D b' rs 0 (h0.get b') = some o' → μ b = some r → μ b' = some r' → r.1 = r'.1 → b = b'
  lt : ∀ b r, μ b = some r → r.1 < w.heap.size
  st : Sd μ0 h0 w0 μ w fun b => ∀ i, i < k → D i = true → ¬ (nxs i ≤ b ∧ b < nxs (i + 1))
end
end
end Go.Hp
