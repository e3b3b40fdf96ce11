/- Closed runs over a heap of numbered objects: regions. -/
import Derived.Test.YtokngfogomhmdaaGreatHa13
namespace Go.Hp
open Go.Ai Go.RowKit
noncomputable section

section
variable {P : Program} {call : HCaller} {n : Nat} {rd : Option Nat} {ops : Array Oper} {Q : Exit → Act → World → Prop}
variable {h0 : Tr HO} {ρ0 : En} {rs : List Rec} {ρs : Nat → En} {nxs : Nat → Nat} {lgs : Nat → List Nat}
variable {μ0 μ : Mu} {a0 a : Act} {w0 w : World}

theorem backOk_spec (h : backOk ops.toList = true) : ∀ (i : Nat) (o : Oper), ops[i]? = some o → ∀ p ∈ preds o, p < i := by
  intro i o ho p hp
  simp only [backOk, List.all_eq_true, Prod.forall] at h
  have := h o i (by rw [List.mem_zipIdx_iff_getElem?]; simpa using ho) p hp
  simpa using this

/-- Nobody may come up: all have. -/
theorem all_done (hback : ∀ (i : Nat) (o : Oper), ops[i]? = some o → ∀ p ∈ preds o, p < i) {listed : Array Bool} (hsz : listed.size = ops.size) (hr : Region.ready .any ops listed = []) : openIx ops.size listed = [] := by
  cases hop : openIx ops.size listed with
  | nil => rfl
  | cons i rest =>
    exfalso
    have hi := mem_openIx.1 (hop ▸ List.mem_cons_self : i ∈ openIx ops.size listed)
    have hs := openIx_sorted ops.size listed
    rw [hop, List.pairwise_cons] at hs
    have hready : i ∈ Region.ready .any ops listed := by
      rw [mem_ready]
      refine ⟨hi.2, ops[i], by simp [hi.1], fun e he hb => ?_⟩
      have hp : e.on ∈ preds ops[i] := by
        simp only [preds, List.mem_map, List.mem_filter]
        exact ⟨e, ⟨by simpa using he, hb⟩, rfl⟩
      have hlt := hback i ops[i] (by simp [hi.1]) e.on hp
      cases hh : listed.getD e.on true with
      | false =>
        have : e.on ∈ openIx ops.size listed := mem_openIx.2 ⟨by omega, hh⟩
        rw [hop] at this
        cases this with
        | head => omega
        | tail _ h => have := hs.1 _ h; omega
      | true =>
        have hsz' : e.on < listed.size := by omega
        simp only [Array.getD_eq_getD_getElem?, Array.getElem?_eq_getElem hsz', Option.getD_some] at hh ⊢
        exact hh
    rw [hr] at hready
    cases hready

theorem drawn_any (hc : HOk P call) (h : Dw P call n ops h0 rs ρs nxs lgs) (hback : ∀ (i : Nat) (o : Oper), ops[i]? = some o → ∀ p ∈ preds o, p < i) (hdom : ∀ a o, h0.get a = some o → ¬ (nxs 0 ≤ a ∧ a < nxs ops.size)) (h0' : ρs 0 = ρ0) (hfree : Free μ0 (nxs 0) (nxs ops.size))
    (hQ : ∀ (D : Nat → Bool) μ a w, (∀ j, j < ops.size → D j = true) → Inv P n h0 ρ0 rs nxs ops.size μ0 w0 a0 D μ a w → Q .normal a w) :
    ∀ (fuel : Nat) (listed : Array Bool) (μ : Mu) (a : Act) (w : World), listed.size = ops.size → Closed ops listed → (openIx ops.size listed).length ≤ fuel → Inv P n h0 ρ0 rs nxs ops.size μ0 w0 a0 (DL listed) μ a w → wpAnyIn (W0 rd) 0 P .any ops Q fuel listed a w := by
  have done : ∀ (listed : Array Bool) (μ : Mu) (a : Act) (w : World), listed.size = ops.size → openIx ops.size listed = [] → Inv P n h0 ρ0 rs nxs ops.size μ0 w0 a0 (DL listed) μ a w → Q .normal a w := by
    intro listed μ a w hsz hop I
    refine hQ (DL listed) μ a w (fun j hj => ?_) I
    cases hD : DL listed j with
    | true => rfl
    | false =>
      have : j ∈ openIx ops.size listed := by
        rw [mem_openIx]
        refine ⟨hj, ?_⟩
        unfold DL at hD
        rw [Array.getD_eq_getD_getElem?, Array.getElem?_eq_getElem (by omega)] at hD ⊢
        exact hD
      rw [hop] at this; cases this
  intro fuel
  induction fuel with
  | zero =>
    intro listed μ a w hsz hcl hl I
    have e0 : openIx ops.size listed = [] := List.eq_nil_of_length_eq_zero (by omega)
    refine ⟨?_, done listed μ a w hsz e0 I⟩
    cases hr : Region.ready .any ops listed with
    | nil => rfl
    | cons i rest =>
      have hi : i ∈ Region.ready .any ops listed := by rw [hr]; exact List.mem_cons_self
      rw [mem_ready] at hi
      obtain ⟨h1, o, h2, _⟩ := hi
      have : i ∈ openIx ops.size listed := mem_openIx.2 ⟨(Array.getElem?_eq_some_iff.1 h2).1, h1⟩
      rw [e0] at this
      cases this
  | succ fuel ih =>
    intro listed μ a w hsz hcl hl I
    refine ⟨fun hr => done listed μ a w hsz (all_done hback hsz hr) I, fun i hi => ?_⟩
    rw [mem_ready] at hi
    obtain ⟨h1, o, h2, h3⟩ := hi
    have hin : i < ops.size := (Array.getElem?_eq_some_iff.1 h2).1
    have hmem : i ∈ openIx ops.size listed := mem_openIx.2 ⟨hin, h1⟩
    have hpr : ∀ p ∈ preds o, listed.getD p false = true := by
      intro p hp
      simp only [preds, List.mem_map, List.mem_filter] at hp
      obtain ⟨e, ⟨he, hb⟩, rfl⟩ := hp
      exact h3 e (by simpa using he) hb
    refine drawn_step hc h hdom h0' hfree hcl hsz I h2 h1 hpr fun a' μ' w' I' => ?_
    refine ih (listed.setIfInBounds i true) μ' a' w' (by simpa using hsz) ?_ ?_ I'
    · intro k ok hk hkl p hp
      rw [getD_sets] at hkl
      rw [getD_sets]
      split
      · rfl
      · split at hkl
        · rename_i hik
          obtain ⟨rfl, _⟩ := hik
          rw [h2] at hk
          cases hk
          exact hpr p hp
        · exact hcl k ok hk hkl p hp
    · rw [openIx_set (by omega)]
      obtain ⟨pre, post, e1, _, e3⟩ := filter_split (openIx_sorted _ _) hmem
      rw [e3]
      rw [e1] at hl
      simp at hl ⊢
      omega

/-- What is known of a drawn region's run. -/
theorem draw_facts {ρ ρ' : En} {s s' : HS} (hc : QC call) (h : evDraw P call n ops ρ s = some (ρ', s')) : backOk ops.toList = true ∧ ∃ rs ρs nxs lgs, Dw P call n ops s.h rs ρs nxs lgs ∧ ρs 0 = ρ ∧ nxs 0 = s.nx ∧ ρs ops.size = ρ' ∧ s'.h = appAll rs s.h ∧ s'.nx = nxs ops.size ∧ ∀ a, a ∈ s'.lg ↔ (∃ i, i < ops.size ∧ a ∈ lgs i) ∨ a ∈ s.lg := by
  obtain ⟨hb, h⟩ := whenH_some h
  obtain ⟨rs, ρs, nxs, lgs, g1, g2, g3, g4, g5, g6, g7⟩ := evD_facts (ancs := ancGo ops.toList []) ops.toList (ancGo ops.toList []) 0 ρ s.nx [] [] (fun _ => ρ) (fun _ => s.nx) (fun _ => []) (fun j => by simp) (fun j => by simp)
    ⟨rfl, fun i hi => by omega⟩ rfl rfl (fun a => ⟨fun h => (by cases h), fun ⟨i, hi, _⟩ => (by omega)⟩) h
  simp only [Nat.zero_add, Array.length_toList] at g1 g4 g6 g7
  exact ⟨hb, rs, ρs, nxs, lgs, dw_of hc rfl g1, g2, g3, g4, g5, g6, g7⟩

theorem evDraw_qt {ρ ρ' : En} {s s' : HS} (hc : QC call) (h : evDraw P call n ops ρ s = some (ρ', s')) : Qt s s' := by
  obtain ⟨_, rs, ρs, nxs, lgs, hw, g2, g3, g4, g5, g6, g7⟩ := draw_facts hc h
  have m0 := hw.nx_mono hc (i := 0) (j := ops.size) (Nat.zero_le _) (Nat.le_refl _)
  have touch : ∀ {i a : Nat} {r : Rec}, rs[i]? = some r → memL a r.ks = true → a ∈ s'.lg ∨ (s.nx ≤ a ∧ a < s'.nx) := by
    intro i a r hr hm
    obtain ⟨o, ho, hf, _⟩ := hw.recd hr
    have hi := (Array.getElem?_eq_some_iff.1 ho).1
    rcases (hf.ks a).1 hm with e | e
    · exact .inl ((g7 a).2 (.inl ⟨i, hi, e⟩))
    · have m1 := hw.nx_mono hc (i := 0) (j := i) (Nat.zero_le _) (by omega)
      have m2 := hw.nx_mono hc (i := i + 1) (j := ops.size) (by omega) (Nat.le_refl _)
      exact .inr ⟨by omega, by omega⟩
  refine ⟨by omega, fun a ha => (g7 a).2 (.inr ha), fun a x hx => ?_, fun a h1 h2 => ?_, fun a ha => ?_⟩
  · rw [g5, appAll_get a rs 0] at hx
    rcases hw.hd_dom hc hx with e | e
    · exact .inl e
    · exact .inr ⟨by omega, by omega⟩
  · rw [g5, appAll_get a rs 0]
    exact heapD_none fun j r hr hm => by
      rcases touch hr hm with e | e
      · exact absurd e h1
      · exact absurd e h2
  · rcases (g7 a).1 ha with ⟨i, hi, e⟩ | e
    · obtain ⟨r, hr, _⟩ := hw.op i ops[i] (by simp [hi])
      rcases hw.lgd hc hr e with ⟨x, hx, _⟩ | e
      · rcases hw.view_dom hc i (by omega) hx with e | e
        · exact .inr (.inl e)
        · have m2 := hw.nx_mono hc (i := i) (j := ops.size) (by omega) (Nat.le_refl _)
          exact .inr (.inr ⟨by omega, by omega⟩)
      · have m1 := hw.nx_mono hc (i := 0) (j := i) (Nat.zero_le _) (by omega)
        have m2 := hw.nx_mono hc (i := i + 1) (j := ops.size) (by omega) (Nat.le_refl _)
        exact .inr (.inr ⟨by omega, by omega⟩)
    · exact .inl e

/-- **A region that draws its order**: what the machine finds holds in every order. -/
theorem draw_in (hm : P.follows .mixedOrders = true) (hc : HOk P call) {ρ ρ' : En} {s s' : HS} {id : Nat} (H : HR μ s.h w) (F : FR μ n ρ a.tmps) (hf : Free μ s.nx s'.nx) (h : evDraw P call n ops ρ s = some (ρ', s'))
    (hQ : ∀ a' μ' w', HR μ' s'.h w' → FR μ' n ρ' a'.tmps → a'.defers = a.defers → Step μ s w μ' s' w' → Q .normal a' w') : (Code.region id ops true).wpIn (W0 rd) 0 P Q a w := by
  obtain ⟨hb, rs, ρs, nxs, lgs, hw, g2, g3, g4, g5, g6, g7⟩ := draw_facts hc.qt h
  have hfree : Free μ (nxs 0) (nxs ops.size) := by rw [g3, ← g6]; exact hf
  have hdom : ∀ b o, s.h.get b = some o → ¬ (nxs 0 ≤ b ∧ b < nxs ops.size) := by
    intro b o hbo hr
    obtain ⟨q, hq, _⟩ := H.obj b o hbo
    rw [hfree b hr.1 hr.2] at hq
    cases hq
  refine wpIn_region_any hm (drawn_any (μ0 := μ) (w0 := w) (a0 := a) hc hw (backOk_spec hb) hdom g2 hfree (fun D μ' a' w' hD I => ?_) ops.size _ μ a _ (by simp) ?_ ?_ ?_)
  · have hall : ∀ b, heapD D b rs 0 (s.h.get b) = s'.h.get b := by
      intro b
      rw [g5, appAll_get b rs 0]
      refine heapD_congr fun j r hr _ => ?_
      have : j < ops.size := by
        have := (List.getElem?_eq_some_iff.1 hr).1
        have := hw.len
        omega
      rw [Nat.zero_add, hD j this]
    refine hQ a' μ' w' ⟨fun b o hb => I.obj b o (by rw [hall]; exact hb), fun b b' o o' q q' h1 h2 => I.inj b b' o o' q q' (by rw [hall]; exact h1) (by rw [hall]; exact h2), I.lt⟩ ⟨I.size, fun t x hx => I.tmp t x ?_⟩ I.defers ?_
    · rw [← g4, hw.tmps (Nat.le_refl _) g2, List.take_of_length_le (by rw [hw.len]; exact Nat.le_refl _)] at hx
      rw [← hx]
      refine tmpD_congr fun j r hr _ => ?_
      have : j < ops.size := by
        have := (List.getElem?_eq_some_iff.1 hr).1
        have := hw.len
        omega
      rw [Nat.zero_add, hD j this]
    · refine ⟨I.st.le, I.st.os, I.st.tape, I.st.out, I.st.size, I.st.new, I.st.frame, fun b hb => I.st.stay b fun i hi _ hr => hb ?_⟩
      have m1 := hw.nx_mono hc.qt (i := 0) (j := i) (Nat.zero_le _) (by omega)
      have m2 := hw.nx_mono hc.qt (i := i + 1) (j := ops.size) (by omega) (Nat.le_refl _)
      omega
  · intro i o ho hl
    have hi := (Array.getElem?_eq_some_iff.1 ho).1
    simp [Array.getD_eq_getD_getElem?, hi] at hl
  · have : (openIx ops.size (Array.replicate ops.size false)).length ≤ (List.range ops.size).length := List.length_filter_le _ _
    simpa using this
  · have hDL : ∀ j, DL (Array.replicate ops.size false) j = false := by
      intro j
      unfold DL
      by_cases hj : j < ops.size <;> simp [Array.getD_eq_getD_getElem?, hj]
    have e1 : ∀ b, heapD (DL (Array.replicate ops.size false)) b rs 0 (s.h.get b) = s.h.get b := fun b => heapD_none fun j r _ _ => hDL _
    refine ⟨F.1, rfl, fun t x hx => F.2 t x ?_, fun b o hb => ?_, fun b b' o o' q q' h1 h2 => H.inj b b' o o' q q' (by rw [← e1]; exact h1) (by rw [← e1]; exact h2), H.lt, ⟨fun _ _ e => e, rfl, rfl, rfl, Nat.le_refl _, fun _ _ e => .inl e, fun _ _ _ => rfl, fun _ _ => rfl⟩⟩
    · rw [tmpD_none fun j r _ _ => hDL _] at hx
      exact hx
    · rw [e1] at hb
      obtain ⟨q, h1, h2⟩ := H.obj b o hb
      exact ⟨q, h1, h2.same (fun _ _ e => e) rfl⟩

/-- A region. -/
theorem region_qt (hc : QC call) {draw : Bool} {ρ ρ' : En} {s s' : HS} (h : (evR P call n ops draw).run ρ s = some (ρ', s')) : Qt s s' := by
  cases draw
  · exact evOps_qt hc h
  · exact evDraw_qt hc h
theorem region_in (hm : P.follows .mixedOrders = true) (hc : HOk P call) {draw : Bool} {ρ ρ' : En} {s s' : HS} {id : Nat} (H : HR μ s.h w) (F : FR μ n ρ a.tmps) (hf : Free μ s.nx s'.nx) (h : (evR P call n ops draw).run ρ s = some (ρ', s'))
    (hQ : ∀ a' μ' w', HR μ' s'.h w' → FR μ' n ρ' a'.tmps → a'.defers = a.defers → Step μ s w μ' s' w' → Q .normal a' w') : (Code.region id ops draw).wpIn (W0 rd) 0 P Q a w := by
  cases draw
  · refine wpIn_region ?_
    rw [List.range_eq_range']
    have := ops_in (Q := Q) (rd := rd) hc (a0 := a) (k := 0) (l := ops.toList) (fun j => by simp) H F rfl (Step.refl _ _ _) (Qt.refl _) hf h hQ
    simpa using this
  · exact draw_in hm hc H F hf h hQ
end
end
end Go.Hp
