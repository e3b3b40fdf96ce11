/- Closed runs over a heap of numbered objects: what a run can touch. -/
import Derived.Test.YtokngfogomhmdaaGreatHa8
namespace Go.Hp
open Go.Ai Go.RowKit
noncomputable section

section
variable {P : Program} {call : HCaller} {n : Nat} {ops : Array Oper} {ρ ρ' : En} {s s' : HS}

/-- Calls touch what they say. -/
def QC (call : HCaller) : Prop := ∀ f l s x s', call f l s = some (x, s') → Qt s s'

theorem putE_get (ρ : En) (d : Option Nat) (v : HV) (t : Nat) : (putE ρ d v).get t = if d = some t then some v else ρ.get t := by
  cases d with
  | none => rw [if_neg (by simp)]; rfl
  | some d =>
    show (ρ.set d v).get t = _
    rw [En.get_set]
    by_cases h : t = d
    · rw [if_pos h, if_pos (by rw [h])]
    · rw [if_neg h, if_neg fun e => h (Option.some.inj e).symm]

/-- One operation in the order of the text: what is known of it. -/
theorem evOp_some {o : Oper} (h : (evOp P call n ops o).run ρ s = some (ρ', s')) : dstOk n o.dst = true ∧ ∃ b, wantH ρ ops o.guard = some b ∧
    ((b = true ∧ ∃ x, (evK P o.op).run call ρ s = some (x, s') ∧ ρ' = putE ρ o.dst x) ∨ (b = false ∧ s' = s ∧ ρ' = putE ρ o.dst .u)) := by
  unfold evOp at h
  cases hd : dstOk n o.dst
  · rw [hd] at h; cases h
  · rw [hd] at h
    refine ⟨rfl, ?_⟩
    simp only [cnd_true] at h
    have plain : oPlain (evK P o.op) call o.dst ρ s = some (ρ', s') → ∃ x, (evK P o.op).run call ρ s = some (x, s') ∧ ρ' = putE ρ o.dst x := by
      intro h
      obtain ⟨⟨x, s1⟩, h1, h⟩ := bO_some h
      cases h
      exact ⟨x, h1, rfl⟩
    cases hg : o.guard with
    | none =>
      rw [hg] at h
      exact ⟨true, rfl, .inl ⟨rfl, plain h⟩⟩
    | some q =>
      rw [hg] at h
      obtain ⟨b, hb, h⟩ := bO_some h
      refine ⟨b, hb, ?_⟩
      cases b
      · simp only [cnd_false] at h; cases h; exact .inr ⟨rfl, rfl, rfl⟩
      · exact .inl ⟨rfl, plain h⟩

theorem evOp_qt (hc : QC call) {o : Oper} (h : (evOp P call n ops o).run ρ s = some (ρ', s')) : Qt s s' := by
  obtain ⟨_, b, _, ⟨_, x, h1, _⟩ | ⟨_, rfl, _⟩⟩ := evOp_some h
  · exact evK_qt hc h1
  · exact Qt.refl _

theorem evOps_cons {o : Oper} {l : List Oper} (h : (evOps P call n ops (o :: l)).run ρ s = some (ρ', s')) : ∃ ρ1 s1, (evOp P call n ops o).run ρ s = some (ρ1, s1) ∧ (evOps P call n ops l).run ρ1 s1 = some (ρ', s') := by
  have h : oThen (evOp P call n ops o) (evOps P call n ops l) ρ s = some (ρ', s') := h
  obtain ⟨⟨ρ1, s1⟩, h1, h2⟩ := bO_some h
  exact ⟨ρ1, s1, h1, h2⟩

theorem evOps_qt (hc : QC call) : ∀ {l : List Oper} {ρ : En} {s : HS}, (evOps P call n ops l).run ρ s = some (ρ', s') → Qt s s'
  | [], ρ, s, h => by cases h; exact Qt.refl _
  | o :: l, ρ, s, h => by
    obtain ⟨ρ1, s1, h1, h2⟩ := evOps_cons h
    exact (evOp_qt hc h1).trans (evOps_qt hc h2)

/-! ### A drawn region, as facts -/

theorem memL_iff {a : Nat} : ∀ {l : List Nat}, memL a l = true ↔ a ∈ l
  | [] => ⟨fun h => (by cases h), fun h => (by cases h)⟩
  | b :: l => by
    have e : memL a (b :: l) = cnd (Nat.beq b a) true (memL a l) := rfl
    rw [e, List.mem_cons]
    cases h : Nat.beq b a
    · rw [cnd_false, memL_iff]
      constructor
      · exact .inr
      · rintro (rfl | h')
        · rw [Nat.beq_refl] at h; cases h
        · exact h'
    · exact ⟨fun _ => .inl (Nat.eq_of_beq_eq_true h).symm, fun _ => rfl⟩

theorem applyE_get (r : Rec) (a : Nat) : ∀ (h : Tr HO), (applyE h r).get a = if memL a r.ks then r.h.get a else h.get a := by
  have key : ∀ (l : List Nat) (h : Tr HO), (List.rec (motive := fun _ => Tr HO → Tr HO) (fun h => h) (fun a _ ih h => ih (h.set a (r.h.get a))) l h : Tr HO).get a = if memL a l then r.h.get a else h.get a := by
    intro l
    induction l with
    | nil => intro h; rfl
    | cons b l ih =>
      intro h
      have e : memL a (b :: l) = cnd (Nat.beq b a) true (memL a l) := rfl
      rw [e]
      refine (ih (h.set b (r.h.get b))).trans ?_
      rw [Tr.get_set]
      cases hb : Nat.beq b a
      · rw [cnd_false]
        by_cases hm : memL a l = true
        · rw [if_pos hm, if_pos hm]
        · rw [if_neg hm, if_neg hm, if_neg fun e => by rw [e, Nat.beq_refl] at hb; cases hb]
      · have := Nat.eq_of_beq_eq_true hb
        subst this
        rw [cnd_true, if_pos rfl, if_pos rfl, ite_self]
  exact fun h => key r.ks h
theorem hideE_get (r : Rec) (a : Nat) : ∀ (h : Tr HO), (hideE h r).get a = if memL a r.ks then none else h.get a := by
  have key : ∀ (l : List Nat) (h : Tr HO), (List.rec (motive := fun _ => Tr HO → Tr HO) (fun h => h) (fun a _ ih h => ih (h.set a none)) l h : Tr HO).get a = if memL a l then none else h.get a := by
    intro l
    induction l with
    | nil => intro h; rfl
    | cons b l ih =>
      intro h
      have e : memL a (b :: l) = cnd (Nat.beq b a) true (memL a l) := rfl
      rw [e]
      refine (ih (h.set b none)).trans ?_
      rw [Tr.get_set]
      cases hb : Nat.beq b a
      · rw [cnd_false]
        by_cases hm : memL a l = true
        · rw [if_pos hm, if_pos hm]
        · rw [if_neg hm, if_neg hm, if_neg fun e => by rw [e, Nat.beq_refl] at hb; cases hb]
      · have := Nat.eq_of_beq_eq_true hb
        subst this
        rw [cnd_true, if_pos rfl, if_pos rfl, ite_self]
  exact fun h => key r.ks h

/-- What D's operations have made of an object, the first of the records being number i. -/
def heapD (D : Nat → Bool) (a : Nat) : List Rec → Nat → Option HO → Option HO
  | [], _, b => b
  | r :: rs, i, b => heapD D a rs (i + 1) (if D i && memL a r.ks then r.h.get a else b)
/-- .. and of a temporary. -/
def tmpD (D : Nat → Bool) (t : Nat) : List Rec → Nat → Option HV → Option HV
  | [], _, b => b
  | r :: rs, i, b => tmpD D t rs (i + 1) (if D i && r.d == some t then some r.v else b)
/-- Whether one who is not in a list has touched the object. -/
def hidD (anc : List Nat) (a : Nat) : List Rec → Nat → Bool
  | [], _ => false
  | r :: rs, i => (!memL i anc && memL a r.ks) || hidD anc a rs (i + 1)

theorem appAnc_get (anc : List Nat) (a : Nat) : ∀ (rs : List Rec) (i : Nat) (h : Tr HO), (appAnc anc i rs h).get a = heapD (fun j => memL j anc) a rs i (h.get a)
  | [], i, h => rfl
  | r :: rs, i, h => by
    have e : appAnc anc i (r :: rs) h = appAnc anc (i + 1) rs (cnd (memL i anc) (applyE h r) h) := rfl
    rw [e, appAnc_get anc a rs (i + 1)]
    simp only [heapD]
    congr 1
    rcases Bool.eq_false_or_eq_true (memL i anc) with hm | hm
    · simp only [hm, cnd_true, applyE_get, Bool.true_and]
    · simp [hm]
theorem hidAnc_get (anc : List Nat) (a : Nat) : ∀ (rs : List Rec) (i : Nat) (h : Tr HO), (hidAnc anc i rs h).get a = if hidD anc a rs i then none else h.get a
  | [], i, h => rfl
  | r :: rs, i, h => by
    have e : hidAnc anc i (r :: rs) h = hidAnc anc (i + 1) rs (cnd (memL i anc) h (hideE h r)) := rfl
    rw [e, hidAnc_get anc a rs (i + 1)]
    simp only [hidD]
    rcases Bool.eq_false_or_eq_true (memL i anc) with hm | hm
    · simp [hm]
    · simp only [hm, cnd_false, hideE_get, Bool.not_false, Bool.true_and]
      rcases Bool.eq_false_or_eq_true (memL a r.ks) with h1 | h1 <;> simp [h1]
theorem appAll_get (a : Nat) : ∀ (rs : List Rec) (i : Nat) (h : Tr HO), (appAll rs h).get a = heapD (fun _ => true) a rs i (h.get a)
  | [], i, h => rfl
  | r :: rs, i, h => by
    have e : appAll (r :: rs) h = appAll rs (applyE h r) := rfl
    rw [e, appAll_get a rs (i + 1)]
    simp only [heapD]
    congr 1
    rw [applyE_get]; simp
theorem viewH_get (anc : List Nat) (h0 : Tr HO) (rs : List Rec) (a : Nat) : (viewH anc h0 rs).get a = if hidD anc a rs 0 then none else heapD (fun j => memL j anc) a rs 0 (h0.get a) := by
  unfold viewH
  rw [hidAnc_get, appAnc_get]
theorem hidD_spec {anc : List Nat} {a : Nat} : ∀ {rs : List Rec} {i : Nat}, hidD anc a rs i = false → ∀ j r, rs[j]? = some r → memL a r.ks = true → memL (i + j) anc = true
  | [], i, _, j, r, hr, _ => by simp at hr
  | r0 :: rs, i, h, j, r, hr, hm => by
    simp only [hidD, Bool.or_eq_false_iff, Bool.and_eq_false_iff, Bool.not_eq_false'] at h
    cases j with
    | zero =>
      simp only [List.getElem?_cons_zero, Option.some.injEq] at hr
      subst hr
      rcases h.1 with h1 | h1
      · exact h1
      · rw [hm] at h1; cases h1
    | succ j =>
      have := hidD_spec h.2 j r (by simpa using hr) hm
      rwa [show i + 1 + j = i + (j + 1) by omega] at this

theorem heapD_congr {D D' : Nat → Bool} {a : Nat} : ∀ {rs : List Rec} {i : Nat} {b : Option HO}, (∀ j r, rs[j]? = some r → memL a r.ks = true → D (i + j) = D' (i + j)) → heapD D a rs i b = heapD D' a rs i b
  | [], i, b, _ => rfl
  | r :: rs, i, b, h => by
    simp only [heapD]
    have e : (if (D i && memL a r.ks) = true then r.h.get a else b) = if (D' i && memL a r.ks) = true then r.h.get a else b := by
      cases hm : memL a r.ks
      · simp
      · have := h 0 r rfl hm
        simp only [Nat.add_zero] at this
        rw [this]
    rw [e]
    exact heapD_congr fun j r' hr hm => by
      have := h (j + 1) r' (by simpa using hr) hm
      rwa [show i + (j + 1) = i + 1 + j by omega] at this
theorem heapD_none {D : Nat → Bool} {a : Nat} : ∀ {rs : List Rec} {i : Nat} {b : Option HO}, (∀ j r, rs[j]? = some r → memL a r.ks = true → D (i + j) = false) → heapD D a rs i b = b
  | [], i, b, _ => rfl
  | r :: rs, i, b, h => by
    simp only [heapD]
    have e : (if (D i && memL a r.ks) = true then r.h.get a else b) = b := by
      cases hm : memL a r.ks
      · simp
      · have := h 0 r rfl hm
        simp only [Nat.add_zero] at this
        rw [this]; simp
    rw [e]
    exact heapD_none fun j r' hr hm => by
      have := h (j + 1) r' (by simpa using hr) hm
      rwa [show i + (j + 1) = i + 1 + j by omega] at this
theorem heapD_last {D : Nat → Bool} {a : Nat} : ∀ {rs : List Rec} {i k : Nat} {r : Rec} {b : Option HO}, rs[k]? = some r → D (i + k) = true → memL a r.ks = true → (∀ j r', k < j → rs[j]? = some r' → memL a r'.ks = true → D (i + j) = false) → heapD D a rs i b = r.h.get a
  | [], i, k, r, b, hr, _, _, _ => by simp at hr
  | r0 :: rs, i, k, r, b, hr, hD, hm, h => by
    simp only [heapD]
    cases k with
    | zero =>
      simp only [List.getElem?_cons_zero, Option.some.injEq] at hr
      subst hr
      simp only [Nat.add_zero] at hD
      rw [hD, hm]
      exact heapD_none fun j r' hr hm' => by
        have := h (j + 1) r' (by omega) (by simpa using hr) hm'
        rwa [show i + (j + 1) = i + 1 + j by omega] at this
    | succ k =>
      refine heapD_last (k := k) (by simpa using hr) (by rwa [show i + (k + 1) = i + 1 + k by omega] at hD) hm fun j r' hj hr' hm' => ?_
      have := h (j + 1) r' (by omega) (by simpa using hr') hm'
      rwa [show i + (j + 1) = i + 1 + j by omega] at this
theorem heapD_cases {D : Nat → Bool} {a : Nat} : ∀ {rs : List Rec} {i : Nat} {b : Option HO}, heapD D a rs i b = b ∨ ∃ (k : Nat) (r : Rec), rs[k]? = some r ∧ D (i + k) = true ∧ memL a r.ks = true ∧ heapD D a rs i b = r.h.get a
  | [], i, b => .inl rfl
  | r :: rs, i, b => by
    simp only [heapD]
    rcases heapD_cases (D := D) (a := a) (rs := rs) (i := i + 1) (b := if (D i && memL a r.ks) = true then r.h.get a else b) with h | ⟨k, r', h1, h2, h3, h4⟩
    · rw [h]
      split
      · rename_i hc
        rw [Bool.and_eq_true] at hc
        exact .inr ⟨0, r, rfl, by simpa using hc.1, hc.2, rfl⟩
      · exact .inl rfl
    · exact .inr ⟨k + 1, r', by simpa using h1, by rwa [show i + (k + 1) = i + 1 + k by omega], h3, h4⟩
theorem heapD_take {D : Nat → Bool} {a : Nat} : ∀ {rs : List Rec} {i k : Nat} {b : Option HO}, (∀ j r, k ≤ j → rs[j]? = some r → memL a r.ks = true → D (i + j) = false) → heapD D a (rs.take k) i b = heapD D a rs i b
  | [], i, k, b, _ => by simp
  | r :: rs, i, 0, b, h => by
    rw [List.take_zero, heapD_none (rs := r :: rs) fun j r' hr hm => h j r' (Nat.zero_le _) hr hm]
    rfl
  | r :: rs, i, k + 1, b, h => by
    simp only [List.take_succ_cons, heapD]
    exact heapD_take fun j r' hj hr hm => by
      have := h (j + 1) r' (by omega) (by simpa using hr) hm
      rwa [show i + (j + 1) = i + 1 + j by omega] at this

theorem tmpD_congr {D D' : Nat → Bool} {t : Nat} : ∀ {rs : List Rec} {i : Nat} {b : Option HV}, (∀ j r, rs[j]? = some r → r.d = some t → D (i + j) = D' (i + j)) → tmpD D t rs i b = tmpD D' t rs i b
  | [], i, b, _ => rfl
  | r :: rs, i, b, h => by
    simp only [tmpD]
    have e : (if (D i && r.d == some t) = true then some r.v else b) = if (D' i && r.d == some t) = true then some r.v else b := by
      by_cases hm : r.d = some t
      · have := h 0 r rfl hm
        simp only [Nat.add_zero] at this
        rw [this]
      · have : (r.d == some t) = false := by simpa using hm
        rw [this]; simp
    rw [e]
    exact tmpD_congr fun j r' hr hm => by
      have := h (j + 1) r' (by simpa using hr) hm
      rwa [show i + (j + 1) = i + 1 + j by omega] at this
theorem tmpD_none {D : Nat → Bool} {t : Nat} : ∀ {rs : List Rec} {i : Nat} {b : Option HV}, (∀ j r, rs[j]? = some r → r.d = some t → D (i + j) = false) → tmpD D t rs i b = b
  | [], i, b, _ => rfl
  | r :: rs, i, b, h => by
    simp only [tmpD]
    have e : (if (D i && r.d == some t) = true then some r.v else b) = b := by
      by_cases hm : r.d = some t
      · have := h 0 r rfl hm
        simp only [Nat.add_zero] at this
        rw [this]; simp
      · have : (r.d == some t) = false := by simpa using hm
        rw [this]; simp
    rw [e]
    exact tmpD_none fun j r' hr hm => by
      have := h (j + 1) r' (by simpa using hr) hm
      rwa [show i + (j + 1) = i + 1 + j by omega] at this
theorem tmpD_last {D : Nat → Bool} {t : Nat} : ∀ {rs : List Rec} {i k : Nat} {r : Rec} {b : Option HV}, rs[k]? = some r → D (i + k) = true → r.d = some t → (∀ j r', k < j → rs[j]? = some r' → r'.d = some t → D (i + j) = false) → tmpD D t rs i b = some r.v
  | [], i, k, r, b, hr, _, _, _ => by simp at hr
  | r0 :: rs, i, k, r, b, hr, hD, hm, h => by
    simp only [tmpD]
    cases k with
    | zero =>
      simp only [List.getElem?_cons_zero, Option.some.injEq] at hr
      subst hr
      simp only [Nat.add_zero] at hD
      rw [hD, hm]
      simp only [BEq.rfl, Bool.and_self, if_true]
      exact tmpD_none fun j r' hr hm' => by
        have := h (j + 1) r' (by omega) (by simpa using hr) hm'
        rwa [show i + (j + 1) = i + 1 + j by omega] at this
    | succ k =>
      refine tmpD_last (k := k) (by simpa using hr) (by rwa [show i + (k + 1) = i + 1 + k by omega] at hD) hm fun j r' hj hr' hm' => ?_
      have := h (j + 1) r' (by omega) (by simpa using hr') hm'
      rwa [show i + (j + 1) = i + 1 + j by omega] at this
theorem tmpD_take {D : Nat → Bool} {t : Nat} : ∀ {rs : List Rec} {i k : Nat} {b : Option HV}, (∀ j r, k ≤ j → rs[j]? = some r → r.d = some t → D (i + j) = false) → tmpD D t (rs.take k) i b = tmpD D t rs i b
  | [], i, k, b, _ => by simp
  | r :: rs, i, 0, b, h => by
    rw [List.take_zero, tmpD_none (rs := r :: rs) fun j r' hr hm => h j r' (Nat.zero_le _) hr hm]
    rfl
  | r :: rs, i, k + 1, b, h => by
    simp only [List.take_succ_cons, tmpD]
    exact tmpD_take fun j r' hj hr hm => by
      have := h (j + 1) r' (by omega) (by simpa using hr) hm
      rwa [show i + (j + 1) = i + 1 + j by omega] at this
theorem tmpD_append {D : Nat → Bool} {t : Nat} (r : Rec) : ∀ {rs : List Rec} {i : Nat} {b : Option HV}, tmpD D t (rs ++ [r]) i b = if D (i + rs.length) && r.d == some t then some r.v else tmpD D t rs i b
  | [], i, b => by simp only [List.nil_append, tmpD, List.length_nil, Nat.add_zero]
  | r0 :: rs, i, b => by
    simp only [List.cons_append, tmpD, List.length_cons]
    rw [tmpD_append r, show i + 1 + rs.length = i + (rs.length + 1) by omega]
end
end
end Go.Hp
