/- Closed runs over a heap of numbered objects: a drawn region's run, taken apart. -/
import Derived.Test.YtokngfogomhmdaaGreatHa9
namespace Go.Hp
open Go.Ai Go.RowKit
noncomputable section
variable {P : Program} {call : HCaller} {n : Nat} {ops : Array Oper} {h0 : Tr HO} {ancs : List (List Nat)} {ρ0 : En}

/-- The records of the first k operations; what each saw, and which numbers it had at hand. -/
structure DR (P : Program) (call : HCaller) (n : Nat) (ops : Array Oper) (h0 : Tr HO) (ancs : List (List Nat)) (rs : List Rec) (ρs : Nat → En) (nxs : Nat → Nat) (lgs : Nat → List Nat) (k : Nat) : Prop where
  len : rs.length = k
  op : ∀ i, i < k → ∃ o r, ops[i]? = some o ∧ rs[i]? = some r ∧ recOf P call ops (ρs i) h0 (nxs i) (rs.take i) (ancs.getD i []) o = some (r, nxs (i + 1), lgs i) ∧ dstOk n o.dst = true ∧
    apartAll (ancs.getD i []) 0 (rs.take i) r (lgs i) = true ∧ ρs (i + 1) = putE (ρs i) o.dst r.v

theorem evD_facts {lg0 : List Nat} {ρ' : En} {s' : HS} : ∀ (l : List Oper) (al : List (List Nat)) (k : Nat) (ρ : En) (nx : Nat) (lg : List Nat) (rs : List Rec) (ρs : Nat → En) (nxs : Nat → Nat) (lgs : Nat → List Nat),
    (∀ j, l[j]? = ops[k + j]?) → (∀ j, al[j]? = ancs[k + j]?) → DR P call n ops h0 ancs rs ρs nxs lgs k → ρs k = ρ → nxs k = nx → (∀ a, a ∈ lg ↔ ∃ i, i < k ∧ a ∈ lgs i) → evD P call n ops h0 lg0 l al ρ nx lg rs = some (ρ', s') →
    ∃ rs' ρs' nxs' lgs', DR P call n ops h0 ancs rs' ρs' nxs' lgs' (k + l.length) ∧ ρs' 0 = ρs 0 ∧ nxs' 0 = nxs 0 ∧ ρs' (k + l.length) = ρ' ∧ s'.h = appAll rs' h0 ∧ s'.nx = nxs' (k + l.length) ∧ (∀ a, a ∈ s'.lg ↔ (∃ i, i < k + l.length ∧ a ∈ lgs' i) ∨ a ∈ lg0)
  | [], al, k, ρ, nx, lg, rs, ρs, nxs, lgs, _, _, hd, h1, h2, h3, h => by
    simp only [evD, Option.some.injEq, Prod.mk.injEq] at h
    obtain ⟨rfl, rfl⟩ := h
    exact ⟨rs, ρs, nxs, lgs, hd, rfl, rfl, h1, rfl, h2.symm, fun a => by rw [List.mem_append, h3]; rfl⟩
  | o :: l, [], k, ρ, nx, lg, rs, ρs, nxs, lgs, _, _, _, _, _, _, h => by simp [evD] at h
  | o :: l, anc :: al, k, ρ, nx, lg, rs, ρs, nxs, lgs, hl, ha, hd, h1, h2, h3, h => by
    simp only [evD] at h
    obtain ⟨⟨r, nx1, lg1⟩, hr, h⟩ := bO_some h
    obtain ⟨hc, h⟩ := whenH_some h
    rw [Bool.and_eq_true] at hc
    have hanc : ancs.getD k [] = anc := by
      have := ha 0
      simp only [List.getElem?_cons_zero, Nat.add_zero] at this
      rw [List.getD_eq_getElem?_getD, ← this]; rfl
    have hok : ops[k]? = some o := by have := hl 0; simpa using this.symm
    have hlen := hd.len
    -- the next step of the functions
    let ρs' : Nat → En := fun i => if i = k + 1 then putE ρ o.dst r.v else ρs i
    let nxs' : Nat → Nat := fun i => if i = k + 1 then nx1 else nxs i
    let lgs' : Nat → List Nat := fun i => if i = k then lg1 else lgs i
    have e1 : ∀ i, i ≤ k → ρs' i = ρs i := fun i hi => if_neg (by omega)
    have e2 : ∀ i, i ≤ k → nxs' i = nxs i := fun i hi => if_neg (by omega)
    have e3 : ∀ i, i < k → lgs' i = lgs i := fun i hi => if_neg (by omega)
    have f1 : ρs' (k + 1) = putE ρ o.dst r.v := if_pos rfl
    have f2 : nxs' (k + 1) = nx1 := if_pos rfl
    have f3 : lgs' k = lg1 := if_pos rfl
    have hd' : DR P call n ops h0 ancs (rs ++ [r]) ρs' nxs' lgs' (k + 1) := by
      refine ⟨by simp [hlen], fun i hi => ?_⟩
      by_cases hik : i = k
      · subst hik
        refine ⟨o, r, hok, by rw [List.getElem?_append_right (by omega), hlen, Nat.sub_self]; rfl, ?_, hc.1, ?_, ?_⟩
        · rw [e1 i (Nat.le_refl _), e2 i (Nat.le_refl _), f2, f3, h1, h2, hanc, List.take_append_of_le_length (by omega), List.take_of_length_le (by omega)]
          exact hr
        · rw [hanc, f3, List.take_append_of_le_length (by omega), List.take_of_length_le (by omega)]
          exact hc.2
        · rw [f1, e1 i (Nat.le_refl _), h1]
      · obtain ⟨o', r', g1, g2, g3, g4, g5, g6⟩ := hd.op i (by omega)
        refine ⟨o', r', g1, by rw [List.getElem?_append_left (by omega)]; exact g2, ?_, g4, ?_, ?_⟩
        · rw [e1 i (by omega), e2 i (by omega), e2 (i + 1) (by omega), e3 i (by omega), List.take_append_of_le_length (by omega)]
          exact g3
        · rw [e3 i (by omega), List.take_append_of_le_length (by omega)]
          exact g5
        · rw [e1 (i + 1) (by omega), e1 i (by omega)]
          exact g6
    obtain ⟨rs2, ρs2, nxs2, lgs2, g1, g2, g3, g4, g5, g6, g7⟩ := evD_facts l al (k + 1) (putE ρ o.dst r.v) nx1 (lg1 ++ lg) (rs ++ [r]) ρs' nxs' lgs'
      (fun j => by have := hl (j + 1); rw [List.getElem?_cons_succ] at this; rw [this]; congr 1; omega) (fun j => by have := ha (j + 1); rw [List.getElem?_cons_succ] at this; rw [this]; congr 1; omega) hd' f1 f2 (fun a => by
        rw [List.mem_append, h3]
        constructor
        · rintro (h | ⟨i, hi, h⟩)
          · exact ⟨k, Nat.lt_succ_self k, by rw [f3]; exact h⟩
          · exact ⟨i, by omega, by rw [e3 i hi]; exact h⟩
        · rintro ⟨i, hi, h⟩
          by_cases hik : i = k
          · subst hik; rw [f3] at h; exact .inl h
          · exact .inr ⟨i, by omega, by rw [e3 i (by omega)] at h; exact h⟩) h
    have hlast : k + 1 + l.length = k + (o :: l).length := by simp; omega
    rw [hlast] at g1 g4 g6 g7
    exact ⟨rs2, ρs2, nxs2, lgs2, g1, by rw [g2, e1 0 (Nat.zero_le _)], by rw [g3, e2 0 (Nat.zero_le _)], g4, g5, g6, g7⟩

/-! ### What one of its operations has done -/

theorem apartAll_spec {anc : List Nat} {r' : Rec} {lg : List Nat} : ∀ {rs : List Rec} {i : Nat}, apartAll anc i rs r' lg = true → ∀ j r, rs[j]? = some r → memL (i + j) anc = false → apartR r r' lg = true
  | [], i, _, j, r, hr, _ => by simp at hr
  | r0 :: rs, i, h, j, r, hr, hm => by
    have e : apartAll anc i (r0 :: rs) r' lg = cnd (memL i anc || apartR r0 r' lg) (apartAll anc (i + 1) rs r' lg) false := rfl
    rw [e] at h
    cases hc : (memL i anc || apartR r0 r' lg)
    · rw [hc] at h; cases h
    · rw [hc, cnd_true] at h
      cases j with
      | zero =>
        simp only [List.getElem?_cons_zero, Option.some.injEq] at hr
        subst hr
        simp only [Nat.add_zero] at hm
        rw [hm, Bool.false_or] at hc
        exact hc
      | succ j => exact apartAll_spec h j r (by simpa using hr) (by rwa [show i + 1 + j = i + (j + 1) by omega])

theorem disj_spec {l : List Nat} {a : Nat} : ∀ {lg : List Nat}, disj lg l = true → a ∈ lg → ¬ a ∈ l
  | [], _, h => by cases h
  | b :: lg, h, ha => by
    have e : disj (b :: lg) l = cnd (memL b l) false (disj lg l) := rfl
    rw [e] at h
    cases hm : memL b l
    · rw [hm, cnd_false] at h
      rcases List.mem_cons.1 ha with rfl | ha
      · intro hh; rw [memL_iff.2 hh] at hm; cases hm
      · exact disj_spec h ha
    · rw [hm] at h; cases h

structure Apart (r r' : Rec) (lg : List Nat) : Prop where
  a : ∀ t, r.d = some t → ¬ t ∈ r'.tm
  b : ∀ t, r'.d = some t → ¬ t ∈ r.tm
  c : ∀ t, r.d = some t → r'.d = some t → False
  d : ∀ x, x ∈ lg → ∃ l, r.vis = some l ∧ ¬ x ∈ l
theorem apartR_spec {r r' : Rec} {lg : List Nat} (h : apartR r r' lg = true) : Apart r r' lg := by
  simp only [apartR, Bool.and_eq_true, Bool.not_eq_true'] at h
  obtain ⟨⟨⟨h1, h2⟩, h3⟩, h4⟩ := h
  refine ⟨fun t ht hm => ?_, fun t ht hm => ?_, fun t ht ht' => ?_, fun x hx => ?_⟩
  · rw [ht] at h1
    rw [show inOpt (some t) r'.tm = memL t r'.tm from rfl, memL_iff.2 hm] at h1
    cases h1
  · rw [ht] at h2
    rw [show inOpt (some t) r.tm = memL t r.tm from rfl, memL_iff.2 hm] at h2
    cases h2
  · rw [ht, ht', show sameOpt (some t) (some t) = Nat.beq t t from rfl, Nat.beq_refl] at h3
    cases h3
  · cases hv : r.vis with
    | none =>
      rw [hv] at h4
      have : lg = [] := by simpa using h4
      rw [this] at hx; cases hx
    | some l =>
      rw [hv] at h4
      exact ⟨l, rfl, disj_spec h4 hx⟩

/-- What is known of one operation's record. -/
structure RecF (P : Program) (call : HCaller) (ops : Array Oper) (ρ : En) (h0 : Tr HO) (nx nx' : Nat) (lg : List Nat) (rs : List Rec) (anc : List Nat) (o : Oper) (r : Rec) : Prop where
  d : r.d = o.dst
  tm : r.tm = tmpsOf ops o
  ks : ∀ a, memL a r.ks = true ↔ a ∈ lg ∨ (nx ≤ a ∧ a < nx')
  run : (wantH ρ ops o.guard = some true ∧ r.vis = visOf ρ o ∧ (evK P o.op).run call (onlyE ρ (tmpsOf ops o)) ⟨seen (viewH anc h0 rs) (visOf ρ o), nx, []⟩ = some (r.v, ⟨r.h, nx', lg⟩)) ∨
    (wantH ρ ops o.guard = some false ∧ r.vis = some [] ∧ r.v = .u ∧ nx' = nx ∧ lg = [])

theorem recOf_spec {ρ : En} {nx nx' : Nat} {lg : List Nat} {rs : List Rec} {anc : List Nat} {o : Oper} {r : Rec} (hc : QC call) (h : recOf P call ops ρ h0 nx rs anc o = some (r, nx', lg)) : RecF P call ops ρ h0 nx nx' lg rs anc o r := by
  unfold recOf at h
  obtain ⟨b, hb, h⟩ := bO_some h
  cases b
  · rw [cnd_false] at h
    cases h
    exact ⟨rfl, rfl, fun a => ⟨fun h => (by cases h), fun h => (by rcases h with h | h; cases h; omega)⟩, .inr ⟨hb, rfl, rfl, rfl, rfl⟩⟩
  · rw [cnd_true] at h
    obtain ⟨⟨v, s1⟩, hr, h⟩ := bO_some h
    cases h
    have q := (evK_qt hc hr).nx
    simp only at q
    refine ⟨rfl, rfl, fun a => ?_, .inl ⟨hb, rfl, hr⟩⟩
    rw [memL_iff, List.mem_append, List.mem_range'_1]
    constructor
    · rintro (h | h)
      · exact .inl h
      · exact .inr ⟨h.1, by omega⟩
    · rintro (h | h)
      · exact .inl h
      · exact .inr ⟨h.1, by omega⟩

theorem onlyH_get (h : Tr HO) (a : Nat) : ∀ (l : List Nat), (onlyH h l).get a = if memL a l then h.get a else none
  | [] => rfl
  | b :: l => by
    have e : onlyH h (b :: l) = (onlyH h l).set b (h.get b) := rfl
    have e2 : memL a (b :: l) = cnd (Nat.beq b a) true (memL a l) := rfl
    rw [e, e2, Tr.get_set, onlyH_get h a l]
    cases hb : Nat.beq b a
    · rw [if_neg fun e => by rw [e, Nat.beq_refl] at hb; cases hb]; rfl
    · have := Nat.eq_of_beq_eq_true hb
      subst this
      rw [if_pos rfl]; rfl
theorem seen_some {h : Tr HO} {vis : Option (List Nat)} {a : Nat} {o : HO} (hs : (seen h vis).get a = some o) : h.get a = some o ∧ ∀ l, vis = some l → a ∈ l := by
  cases vis with
  | none => exact ⟨hs, fun l e => by cases e⟩
  | some l =>
    have hs : (onlyH h l).get a = some o := hs
    rw [onlyH_get] at hs
    split at hs
    · rename_i hm
      exact ⟨hs, fun l' e => by cases e; exact memL_iff.1 hm⟩
    · cases hs
theorem onlyE_get {ρ : En} {t : Nat} {x : HV} : ∀ {l : List Nat}, (onlyE ρ l).get t = some x → t ∈ l ∧ ρ.get t = some x
  | [], h => by
    have h : cnd (bitF 0 t) ((Tr.e : Tr HV).get t) none = some x := h
    cases hb : bitF 0 t <;> rw [hb] at h <;> cases h
  | u :: l, h => by
    have e : onlyL ρ (u :: l) = Option.rec (motive := fun _ => List (Nat × HV)) (onlyL ρ l) (fun x => (u, x) :: onlyL ρ l) (ρ.get u) := rfl
    unfold onlyE at h
    rw [e] at h
    cases hu : ρ.get u with
    | none =>
      rw [hu] at h
      obtain ⟨h1, h2⟩ := onlyE_get (l := l) h
      exact ⟨List.mem_cons_of_mem _ h1, h2⟩
    | some y =>
      rw [hu] at h
      have h' : cnd (Nat.beq u t) (some y) ((onlyE ρ l).get t) = some x := h
      cases hb : Nat.beq u t
      · rw [hb, cnd_false] at h'
        obtain ⟨h1, h2⟩ := onlyE_get (l := l) h'
        exact ⟨List.mem_cons_of_mem _ h1, h2⟩
      · rw [hb, cnd_true] at h'
        have := Nat.eq_of_beq_eq_true hb
        subst this
        exact ⟨List.mem_cons_self, by rw [hu]; exact h'⟩
end
end Go.Hp
