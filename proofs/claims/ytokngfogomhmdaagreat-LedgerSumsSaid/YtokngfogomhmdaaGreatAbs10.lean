/- Regions: in the order of the text, and in every order that the tape may pick. -/
import Derived.Test.YtokngfogomhmdaaGreatAbs9
namespace Go.Ai
open Go.RowKit

def guardOk (ops : Array Oper) : Option (Nat × Bool) → Option (Nat × Bool) → Bool
  | none, none => true
  | some (j, b), some (t, b') => (ops[j]?).bind (·.dst) == some t && b == b'
  | _, _ => false

/-- A guarded operation may be left out: then its slot must be no variable's. -/
def skipOk (roots : List (Nat × Nat)) (io : IOp) : Bool := io.g.isNone || freeB roots io.ks io.dst

def oOk (P : Program) (roots : List (Nat × Nat)) (ops : Array Oper) (o : Oper) (io : IOp) : Bool :=
  kOk P o.op io.k && o.dst == io.dst && rootOk roots io.ks io.dst io.k && guardOk ops o.guard io.g && skipOk roots io

section
variable {P : Program} {Y X0 : Nat → Prop} {roots : List (Nat × Nat)} {w0 : Base} {w : World} {s : State} {a : Act} {Q : Exit → Act → World → Prop}

theorem wantA_ok (h : Rel Y X0 roots w0 s a w) {ops : Array Oper} {o : Oper} {g : Option (Nat × Bool)} {b : Bool} (hg : guardOk ops o.guard g = true) (hw : wantA s g = some b) : Region.wanted o (yielded ops a.tmps) = b := by
  unfold guardOk at hg
  split at hg
  · rename_i h1
    simp only [wantA, Option.some.injEq] at hw
    subst hw
    simp [Region.wanted, h1]
  · rename_i j b1 t b2 h1
    simp only [Bool.and_eq_true, beq_iff_eq] at hg
    obtain ⟨h2, rfl⟩ := hg
    have h0 := h.reg t
    simp only [wantA] at hw
    simp only [Region.wanted, h1, yielded, h2, Option.bind_some]
    have hlt : ∀ v, a.tmps.getD t Go.undef = v → v ≠ Go.undef → a.tmps[t]? = some v := by
      intro v hv hne
      rw [Array.getD_eq_getD_getElem?] at hv
      cases hh : a.tmps[t]? with
      | none => rw [hh] at hv; exact absurd hv.symm hne
      | some u => rw [hh] at hv; simp at hv; rw [hv]
    cases hr : rget s t with
    | val x =>
      rw [hr] at hw h0
      generalize hv : a.tmps.getD t Go.undef = v at h0
      cases h0 with
      | bool c =>
        dsimp only at hw
        rw [hlt _ hv (by intro e; cases e)]
        simp only [Option.some.injEq] at hw
        rw [← hw]
        cases c <;> cases b1 <;> rfl
      | undef =>
        dsimp only at hw
        simp only [Option.some.injEq] at hw
        rw [← hw]
        rw [Array.getD_eq_getD_getElem?] at hv
        cases hh : a.tmps[t]? with
        | none => simp
        | some u => rw [hh] at hv; simp at hv; rw [hv]; simp [Go.undef]
      | int _ _ => cases hw
      | str _ => cases hw
      | agg _ _ _ _ _ => cases hw
      | tup _ _ _ _ => cases hw
      | nil => cases hw
      | nil0 => cases hw
      | e0 _ _ => cases hw
      | sl _ _ _ _ _ _ _ _ _ _ _ => cases hw
      | pt _ _ _ _ _ _ _ _ => cases hw
      | fnc _ _ _ _ => cases hw
    | box _ => rw [hr] at hw; cases hw
    | ptr _ _ => rw [hr] at hw; cases hw
    | mem _ => rw [hr] at hw; cases hw
    | own _ _ _ => rw [hr] at hw; cases hw
    | agn _ _ _ _ => rw [hr] at hw; cases hw
    | bxl _ => rw [hr] at hw; cases hw
    | dup _ => rw [hr] at hw; cases hw
    | sub _ _ _ _ => rw [hr] at hw; cases hw
    | dead => rw [hr] at hw; cases hw
  · cases hg

theorem simOp {ops : Array Oper} {i : Nat} {o : Oper} {io : IOp} {F : Caller} {s' : State} {K' : Act → World → Prop} (h : Rel Y X0 roots w0 s a w) (hF : CallOk P F) (hi : ops[i]? = some o) (ho : oOk P roots ops o io = true)
    (hev : evOp F io s = some s') (hK : ∀ a' w', Rel Y X0 roots w0 s' a' w' → K' a' w') : wpOp P ops Q i K' a w := by
  simp only [oOk, Bool.and_eq_true, beq_iff_eq] at ho
  obtain ⟨⟨⟨⟨h1, h2⟩, h3⟩, h4⟩, h5⟩ := ho
  simp only [evOp, evOp0] at hev
  have hkd : ∀ t ∈ io.ks, isLink (rget (kill s io.ks) t) = false := fun t ht => by rw [rget_killAll, if_pos ht]; rfl
  have h := h.kill io.ks
  generalize kill s io.ks = s at *
  simp only [wpOp, hi]
  split at hev
  · cases hev
  · rename_i hw
    cases hev
    rw [wantA_ok h h4 hw]
    simp only [Bool.false_eq_true, if_false]
    rw [h2]
    refine hK _ _ (h.put ?_ .undef)
    simp only [skipOk, Bool.or_eq_true] at h5
    rcases h5 with h5 | h5
    · cases hg : io.g with
      | none => rw [hg] at hw; cases hw
      | some p => rw [hg] at h5; cases h5
    · exact freeB_spec hkd h5
  · rename_i hw
    rw [wantA_ok h h4 hw]
    simp only [if_true]
    split at hev
    · cases hev
    · rename_i r l hk
      cases hev
      rw [← h2] at hK h3
      exact .inl (simK h hF h1 hkd h3 hk hK)

def opsOk (P : Program) (roots : List (Nat × Nat)) (ops : Array Oper) : List Oper → List IOp → Bool
  | [], [] => true
  | o :: l, io :: m => oOk P roots ops o io && opsOk P roots ops l m
  | _, _ => false

theorem opsOk_get {ops : Array Oper} : ∀ {l : List Oper} {m : List IOp}, opsOk P roots ops l m = true → l.length = m.length ∧ ∀ (i : Nat) (o : Oper) (io : IOp), l[i]? = some o → m[i]? = some io → oOk P roots ops o io = true
  | [], [], _ => ⟨rfl, fun i o io h => (by simp at h)⟩
  | o :: l, io :: m, h => by
    simp only [opsOk, Bool.and_eq_true] at h
    obtain ⟨e1, e2⟩ := opsOk_get h.2
    refine ⟨by simp [e1], fun i o' io' h1 h2 => ?_⟩
    cases i with
    | zero => simp at h1 h2; subst h1 h2; exact h.1
    | succ i => simp at h1 h2; exact e2 i o' io' h1 h2
  | [], _ :: _, h => by cases h
  | _ :: _, [], h => by cases h

/-- A region in the order of the text. -/
theorem simOps {ops : Array Oper} {F : Caller} (hF : CallOk P F) : ∀ {l : List Oper} {m : List IOp} {k : Nat} {s s' : State} {a : Act} {w : World}, (∀ j, l[j]? = ops[k + j]?) → opsOk P roots ops l m = true → Rel Y X0 roots w0 s a w →
    evOps F m s = some s' → (∀ a' w', Rel Y X0 roots w0 s' a' w' → Q .normal a' w') → wpOps P ops Q (List.range' k l.length) a w
  | [], [], k, s, s', a, w, _, _, h, hev, hQ => by
    simp only [evOps, Option.some.injEq] at hev
    subst hev
    exact hQ _ _ h
  | o :: l, io :: m, k, s, s', a, w, hl, hok, h, hev, hQ => by
    simp only [opsOk, Bool.and_eq_true] at hok
    simp only [evOps] at hev
    cases h1 : evOp F io s with
    | none => rw [h1] at hev; cases hev
    | some s1 =>
      rw [h1] at hev
      have hi : ops[k]? = some o := by simpa using (hl 0).symm
      rw [List.length_cons, List.range'_succ, wpOps_cons]
      exact simOp h hF hi hok.1 h1 fun a' w' h' => simOps hF (fun j => by have := hl (j + 1); simpa [Nat.add_assoc, Nat.add_comm 1 j] using this) hok.2 h' hev hQ
  | [], _ :: _, _, _, _, _, _, _, hok, _, _, _ => by cases hok
  | _ :: _, [], _, _, _, _, _, _, hok, _, _, _ => by cases hok

/-! ### Every order -/

def preds (o : Oper) : List Nat := (o.after.toList.filter (Region.binds .any)).map (·.on)

def ancGo : List Oper → List (List Nat) → List (List Nat)
  | [], acc => acc
  | o :: l, acc => ancGo l (acc ++ [((preds o) ++ (preds o).flatMap fun p => acc.getD p []).eraseDups])

theorem ancGo_spec : ∀ (l done : List Oper) (acc : List (List Nat)), acc.length = done.length →
    (∀ (i j : Nat), j ∈ acc.getD i [] → ∃ o, done[i]? = some o ∧ ∃ p ∈ preds o, j = p ∨ (p < i ∧ j ∈ acc.getD p [])) →
    ∀ (i j : Nat), j ∈ (ancGo l acc).getD i [] → ∃ o, (done ++ l)[i]? = some o ∧ ∃ p ∈ preds o, j = p ∨ (p < i ∧ j ∈ (ancGo l acc).getD p []) := by
  intro l
  induction l with
  | nil => intro done acc _ h i j hj; simpa [ancGo] using h i j hj
  | cons o l ih =>
    intro done acc hlen h i j hj
    simp only [ancGo] at hj ⊢
    have := ih (done ++ [o]) (acc ++ [((preds o) ++ (preds o).flatMap fun p => acc.getD p []).eraseDups]) (by simp [hlen]) (fun i j hj => ?_) i j hj
    · simpa using this
    · have lt_of : ∀ (q x : Nat), x ∈ acc.getD q [] → q < acc.length := by
        intro q x hx
        rcases Nat.lt_or_ge q acc.length with h1 | h1
        · exact h1
        · rw [List.getD_eq_getElem?_getD, List.getElem?_eq_none h1] at hx; cases hx
      have keep : ∀ (q x : Nat), x ∈ acc.getD q [] → x ∈ (acc ++ [((preds o) ++ (preds o).flatMap fun p => acc.getD p []).eraseDups]).getD q [] := by
        intro q x hx
        rw [List.getD_eq_getElem?_getD, List.getElem?_append_left (lt_of q x hx), ← List.getD_eq_getElem?_getD]
        exact hx
      rcases Nat.lt_or_ge i acc.length with h1 | h1
      · rw [List.getD_eq_getElem?_getD, List.getElem?_append_left h1, ← List.getD_eq_getElem?_getD] at hj
        obtain ⟨o', e1, p, hp, e2⟩ := h i j hj
        refine ⟨o', by rw [List.getElem?_append_left (by omega)]; exact e1, p, hp, ?_⟩
        rcases e2 with e2 | ⟨e2, e3⟩
        · exact .inl e2
        · exact .inr ⟨e2, keep p j e3⟩
      · have hi : i = acc.length := by
          rcases Nat.lt_or_ge acc.length i with h2 | h2
          · rw [List.getD_eq_getElem?_getD, List.getElem?_eq_none (by simp; omega)] at hj; cases hj
          · omega
        subst hi
        rw [List.getD_eq_getElem?_getD, List.getElem?_append_right (Nat.le_refl _)] at hj
        simp only [Nat.sub_self, List.getElem?_cons_zero, Option.getD_some, List.mem_eraseDups, List.mem_append, List.mem_flatMap] at hj
        refine ⟨o, by rw [hlen, List.getElem?_append_right (Nat.le_refl _)]; simp, ?_⟩
        rcases hj with hj | ⟨p, hp, hj⟩
        · exact ⟨j, hj, .inl rfl⟩
        · exact ⟨p, hp, .inr ⟨lt_of p j hj, keep p j hj⟩⟩

/-- Of two operations that are not independent the later one waits for the earlier one. -/
def pairsOk (anc : List (List Nat)) (io : List IOp) : Bool :=
  io.zipIdx.all fun (b, i) => (io.take i).zipIdx.all fun (a, j) => indep a b || (anc.getD i []).contains j

def backOk (ops : List Oper) : Bool := ops.zipIdx.all fun (o, i) => (preds o).all fun p => decide (p < i)

def drawOk (ops : Array Oper) (io : List IOp) : Bool := backOk ops.toList && pairsOk (ancGo ops.toList []) io

theorem drawOk_spec {ops : Array Oper} {io : List IOp} (h : drawOk ops io = true) :
    (∀ (i : Nat) (o : Oper), ops[i]? = some o → ∀ p ∈ preds o, p < i) ∧
    ∀ (i j : Nat) (a b : IOp), j < i → io[j]? = some a → io[i]? = some b → indep a b = true ∨ j ∈ (ancGo ops.toList []).getD i [] := by
  simp only [drawOk, Bool.and_eq_true] at h
  constructor
  · intro i o ho p hp
    have h1 := h.1
    simp only [backOk, List.all_eq_true, Prod.forall] at h1
    have := h1 o i (by rw [List.mem_zipIdx_iff_getElem?]; simpa using ho) p hp
    simpa using this
  · intro i j x b hji hj hi
    have h1 := h.2
    simp only [pairsOk, List.all_eq_true, Prod.forall] at h1
    have h2 := h1 b i (by rw [List.mem_zipIdx_iff_getElem?]; simpa using hi)
    have := h2 x j (by rw [List.mem_zipIdx_iff_getElem?, List.getElem?_take_of_lt hji]; simpa using hj)
    simpa using this

end
end Go.Ai
