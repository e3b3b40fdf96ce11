/- Closed runs over a heap of numbered objects: one operation, evaluated. -/
import Derived.Test.YtokngfogomhmdaaGreatHa4
namespace Go.Hp
open Go.Ai Go.RowKit
noncomputable section

/-! ### Parts of slices -/

/-- One bound of a slice expression. -/
def bndH (ρ : En) (d : Nat) : Option Operand → Option Nat
  | none => some d
  | some x => bO (opH ρ x) fun v => asN v some

def sliceH (P : Program) (ρ : En) (t : TypeId) (x : HV) (lo hi mx : Option Operand) : Option HV :=
  match x with
  | .sn => bO (elP P t) fun _ => bO (bndH ρ 0 lo) fun l => bO (bndH ρ 0 hi) fun h => bO (bndH ρ 0 mx) fun m => whenH (Nat.beq l 0 && Nat.beq h 0 && Nat.beq m 0 && (mx.isNone || hi.isSome)) (some .sn)
  | .s a off n (.k c) => bO (elP P t) fun q => bO (bndH ρ c mx) fun m => bO (bndH ρ n hi) fun h => bO (bndH ρ 0 lo) fun l =>
      whenH (Nat.ble l h && Nat.ble h m && Nat.ble m c && (mx.isNone || hi.isSome)) (some (.s a (cnd (Nat.beq m l) off (off + l * q.2.1)) (h - l) (.k (m - l))))
  | .s a off n (.d sz) => bO (elP P t) fun q => bO (bndH ρ n hi) fun h => bO (bndH ρ 0 lo) fun l =>
      whenH (Nat.ble l h && Nat.ble h n && mx.isNone && Nat.beq sz q.2.1 && (Nat.beq l 0 || Nat.blt l n)) (some (.s a (off + l * q.2.1) (h - l) (.d sz)))
  | _ => none

section
variable {P : Program} {o : Oper} {a : Act} {μ : Mu} {w : World} {s : HS} {n : Nat} {ρ : En}

theorem bnd_ok (F : FR μ n ρ a.tmps) {d m y : Nat} {x : Option Operand} {code : BoundsCode} (h : bndH ρ d x = some m) (hle : m ≤ y) : (x = none → m = d) ∧ ∀ x', x = some x' → (Instr.sliceBound (a.eval x') y code).run P w = .ok m w := by
  cases x with
  | none => simp only [bndH, Option.some.injEq] at h; exact ⟨fun _ => h.symm, fun _ e => (by cases e)⟩
  | some x =>
    refine ⟨fun e => (by cases e), fun x' e => ?_⟩
    cases e
    simp only [bndH] at h
    obtain ⟨v, hv, h⟩ := bind_some h
    obtain ⟨q, m', hm', h⟩ := asN_some h
    cases h
    subst hm'
    have h1 := opH_ok F hv
    generalize a.eval x = u at h1
    cases h1
    have : (0 : Int) ≤ (m : Int) ∧ (m : Int) ≤ (y : Int) := by omega
    simp [Instr.sliceBound, asIntOf, this]

theorem bounds_ok (F : FR μ n ρ a.tmps) {len cap l h m dc dl : Nat} {lo hi mx : Option Operand} (hm : bndH ρ dc mx = some m) (hh : bndH ρ dl hi = some h) (hl : bndH ρ 0 lo = some l) (h1 : l ≤ h) (h2 : h ≤ m) (h3 : m ≤ cap)
    (hc : mx = none → m = cap) (hd : hi = none → h = len) (hx : mx = none ∨ hi.isSome = true) : (Instr.sliceBounds true len cap (lo.map a.eval) (hi.map a.eval) (mx.map a.eval)).run P w = .ok (l, h, m) w := by
  unfold Instr.sliceBounds
  cases mx with
  | none =>
    have := hc rfl
    subst this
    cases hi with
    | none =>
      have := hd rfl
      subst this
      cases lo with
      | none => have := (bnd_ok (P := P) (w := w) (code := .sliceB) F hl h1).1 rfl; subst this; simp
      | some lo => simp [(bnd_ok (P := P) (w := w) F hl h1).2 lo rfl]
    | some hi =>
      cases lo with
      | none => have := (bnd_ok (P := P) (w := w) (code := .sliceB) F hl h1).1 rfl; subst this; simp [(bnd_ok (P := P) (w := w) F hh h2).2 hi rfl]
      | some lo => simp [(bnd_ok (P := P) (w := w) F hh h2).2 hi rfl, (bnd_ok (P := P) (w := w) F hl h1).2 lo rfl]
  | some mx =>
    cases hi with
    | none => rcases hx with h | h <;> cases h
    | some hi =>
      cases lo with
      | none => have := (bnd_ok (P := P) (w := w) (code := .sliceB) F hl h1).1 rfl; subst this; simp [(bnd_ok (P := P) (w := w) F hm h3).2 mx rfl, (bnd_ok (P := P) (w := w) F hh h2).2 hi rfl]
      | some lo => simp [(bnd_ok (P := P) (w := w) F hm h3).2 mx rfl, (bnd_ok (P := P) (w := w) F hh h2).2 hi rfl, (bnd_ok (P := P) (w := w) F hl h1).2 lo rfl]

theorem gives_slice (H : HR μ s.h w) (F : FR μ n ρ a.tmps) {t : TypeId} {x : Operand} {lo hi mx : Option Operand} {p z : HV} (hop : o.op = .slice t x lo hi mx) (hx : opH ρ x = some p) (hz : sliceH P ρ t p lo hi mx = some z) : Gives P o a μ w s s z := by
  have h1 := opH_ok F hx
  generalize hv : a.eval x = v at h1
  unfold sliceH at hz
  split at hz
  · obtain ⟨⟨e, k, b⟩, he, hz⟩ := bind_some hz
    obtain ⟨l, hl, hz⟩ := bind_some hz
    obtain ⟨h, hh, hz⟩ := bind_some hz
    obtain ⟨m, hm, hz⟩ := bind_some hz
    obtain ⟨hc, hz⟩ := whenH_some hz
    cases hz
    simp only [Bool.and_eq_true, Bool.or_eq_true] at hc
    obtain ⟨⟨⟨c1, c2⟩, c3⟩, c4⟩ := hc
    have c1 := Nat.eq_of_beq_eq_true c1
    have c2 := Nat.eq_of_beq_eq_true c2
    have c3 := Nat.eq_of_beq_eq_true c3
    subst c1 c2 c3
    obtain ⟨i, hu, hi, rfl, _⟩ := elP_ok he
    cases h1
    have hb := bounds_ok (P := P) (w := w) (len := 0) (cap := 0) F hm hh hl (Nat.le_refl _) (Nat.le_refl _) (Nat.le_refl _) (fun _ => rfl) (fun _ => rfl) (by cases mx <;> simp_all)
    refine gives_value H (v := .slice none 0 0) ?_ .sn
    simp [execOp, hop, hv, Instr.sliceAt, Instr.slice, run_underlying hu, hb, sizeOf_run hi]
  · rename_i a0 off len c
    obtain ⟨⟨e, k, b⟩, he, hz⟩ := bind_some hz
    obtain ⟨m, hm, hz⟩ := bind_some hz
    obtain ⟨h, hh, hz⟩ := bind_some hz
    obtain ⟨l, hl, hz⟩ := bind_some hz
    obtain ⟨hc, hz⟩ := whenH_some hz
    cases hz
    simp only [Bool.and_eq_true, Bool.or_eq_true, Nat.ble_eq, Option.isNone_iff_eq_none] at hc
    obtain ⟨⟨⟨c1, c2⟩, c3⟩, c4⟩ := hc
    obtain ⟨i, hu, hi, rfl, _⟩ := elP_ok he
    cases h1 with
    | s hq hlen hcap =>
      rename_i c' q
      simp only [CapOk] at hcap
      subst hcap
      have hb := bounds_ok (P := P) (w := w) (len := len) (cap := c) F hm hh hl c1 c2 c3 (fun e => by subst e; simpa [bndH] using hm.symm) (fun e => by subst e; simpa [bndH] using hh.symm) c4
      refine gives_value H (v := .slice (some ⟨q.1, cnd (Nat.beq m l) off (off + l * i.size), none⟩) (h - l) (m - l)) ?_ (.s hq (by omega) rfl)
      cases hml : Nat.beq m l
      · have : ¬ m = l := fun e => by rw [e, Nat.beq_refl] at hml; cases hml
        simp [execOp, hop, hv, Instr.sliceAt, Instr.slice, run_underlying hu, hb, sizeOf_run hi, this, addr_add]
      · have := Nat.eq_of_beq_eq_true hml
        simp [execOp, hop, hv, Instr.sliceAt, Instr.slice, run_underlying hu, hb, sizeOf_run hi, this]
  · rename_i a0 off len sz
    obtain ⟨⟨e, k, b⟩, he, hz⟩ := bind_some hz
    obtain ⟨h, hh, hz⟩ := bind_some hz
    obtain ⟨l, hl, hz⟩ := bind_some hz
    obtain ⟨hc, hz⟩ := whenH_some hz
    cases hz
    simp only [Bool.and_eq_true, Bool.or_eq_true, Nat.ble_eq, Option.isNone_iff_eq_none, Nat.blt_eq] at hc
    obtain ⟨⟨⟨⟨c1, c2⟩, c3⟩, c4⟩, c5⟩ := hc
    have c4 := Nat.eq_of_beq_eq_true c4
    obtain ⟨i, hu, hi, rfl, _⟩ := elP_ok he
    subst c4
    subst c3
    cases h1 with
    | s hq hlen hcap =>
      rename_i c q
      simp only [CapOk] at hcap
      have hb := bounds_ok (P := P) (w := w) (len := len) (cap := c) (mx := none) (dc := c) (m := c) F rfl hh hl c1 (by omega) (Nat.le_refl _) (fun _ => rfl) (fun e => by subst e; simpa [bndH] using hh.symm) (.inl rfl)
      have hlc : l ≤ c := by omega
      refine gives_value H (v := .slice (some ⟨q.1, off + l * i.size, none⟩) (h - l) (c - l)) ?_ (.s hq (by omega) ?_)
      · by_cases hcl : c = l
        · have hl0 : l = 0 := by
            rcases c5 with h | h
            · exact Nat.eq_of_beq_eq_true h
            · omega
          subst hl0
          subst hcl
          simp only [Option.map_none] at hb
          simp [execOp, hop, hv, Instr.sliceAt, Instr.slice, run_underlying hu, hb, sizeOf_run hi]
        · simp only [Option.map_none] at hb
          simp [execOp, hop, hv, Instr.sliceAt, Instr.slice, run_underlying hu, hb, sizeOf_run hi, hcl, addr_add]
      · simp only [CapOk, Nat.add_assoc, ← Nat.add_mul]
        rw [show l + (c - l) = c by omega]
        exact hcap
  · cases hz

/-! ### Maps -/

def sameH : HV → HV → Option Bool
  | .i k a, .i k' b => if k = k' then some (a == b) else none
  | .b a, .b b => some (a == b)
  | .c (.string a), .c (.string b) => some (a == b)
  | _, _ => none
def keyD : TypeDesc → HV → Bool
  | .int _, .i _ _ => true
  | .string, .c (.string _) => true
  | .bool, .b _ => true
  | _, _ => false
def findH (k : HV) : List (HV × HV) → Nat → Option (Option (Nat × HV))
  | [], _ => some none
  | e :: es, i => bO (sameH k e.1) fun t => cnd t (some (some (i, e.2))) (findH k es (i + 1))

theorem sameH_ok {d : TypeDesc} {k k' : HV} {v v' : Value} {t : Bool} (hd : keyD d k = true) (h1 : VR μ k v) (h2 : VR μ k' v') (h : sameH k k' = some t) : Instr.sameNow d v v' = some t := by
  unfold sameH at h
  split at h
  · cases h1; cases h2
    cases d <;> first | exact h | cases hd
  · cases h1; cases h2
    cases d <;> first | exact h | cases hd
  · cases h1; cases h2
    cases d <;> first | exact h | cases hd
  · cases h

/-- The entries of a map. -/
def ER (μ : Mu) (es : List (HV × HV)) (ms : List MapEntry) : Prop := ms.length = es.length ∧ ∀ (j : Nat) (h1 : j < es.length) (h2 : j < ms.length), VR μ es[j].1 ms[j].key ∧ VR μ es[j].2 ms[j].val

theorem findH_ok {d : TypeDesc} {k : HV} {v : Value} (hd : keyD d k = true) (hv : VR μ k v) : ∀ {es : List (HV × HV)} {ms : List MapEntry} {i : Nat} {r : Option (Nat × HV)}, ER μ es ms → findH k es i = some r →
    (r = none ∧ Instr.findNow d v ms i = some none) ∨ ∃ j x u, r = some (i + j, x) ∧ j < es.length ∧ Instr.findNow d v ms i = some (some (i + j, u)) ∧ VR μ x u ∧ ∃ y, ms[j]? = some y ∧ ∃ e, es[j]? = some e ∧ sameH k e.1 = some true
  | [], ms, i, r, he, h => by
    simp only [findH, Option.some.injEq] at h
    have : ms = [] := List.eq_nil_of_length_eq_zero he.1
    subst this
    exact .inl ⟨h.symm, rfl⟩
  | e :: es, [], i, r, he, h => by have := he.1; simp at this
  | e :: es, m :: ms, i, r, he, h => by
    simp only [findH] at h
    obtain ⟨t, ht, h⟩ := bind_some h
    have h0 := he.2 0 (by simp) (by simp)
    simp only [List.getElem_cons_zero] at h0
    have hs := sameH_ok hd hv h0.1 ht
    cases t
    · simp only [cnd_false] at h
      have he' : ER μ es ms := ⟨by have := he.1; simpa using this, fun j h1 h2 => he.2 (j + 1) (by simpa using h1) (by simpa using h2)⟩
      rcases findH_ok hd hv he' h with ⟨h1, h2⟩ | ⟨j, x, u, h1, h2, h3, h4, y, h5, e', h6, h7⟩
      · exact .inl ⟨h1, by simp only [Instr.findNow, hs]; exact h2⟩
      · refine .inr ⟨j + 1, x, u, by rw [h1]; simp; omega, by simp; omega, ?_, h4, y, by simpa using h5, e', by simpa using h6, h7⟩
        simp only [Instr.findNow, hs]
        rw [h3]
        simp
        omega
    · simp only [cnd_true, Option.some.injEq] at h
      exact .inr ⟨0, e.2, m.val, by rw [← h]; rfl, by simp, by simp only [Instr.findNow, hs, Nat.add_zero], h0.2, m, rfl, e, rfl, ht⟩

theorem checkKey_ok {ke : TypeId} {d : TypeDesc} {v : Value} {b : Bool} (hk : P.underlying ke = some d) {k : HV} (hd : keyD d k = true) (m : Nat) : (Instr.checkKey b (m + 1) ke v).run P w = .ok () w := by
  rw [Instr.checkKey]
  simp only [Sem.run_bind, run_underlying hk, Result.andThen_ok]
  cases d <;> first | rfl | (cases k <;> cases hd) | (simp only [keyD] at hd; cases hd)
theorem findKey_ok {ke : TypeId} {d : TypeDesc} {v : Value} {ms : List MapEntry} {r : Option (Nat × Value)} (hk : P.underlying ke = some d) (h : Instr.findNow d v ms 0 = some r) : (Instr.findKey ke v ms).run P w = .ok r w := by
  simp only [Instr.findKey, Sem.run_bind, run_underlying hk, Result.andThen_ok, h, Sem.run_pure]

/-- A type's zero value. -/
def zvP (P : Program) (t : TypeId) : Option HV :=
  match P.info? t with
  | some i => match i.zero with
    | some v => constH v
    | none => none
  | none => none
theorem zvP_ok {t : TypeId} {z : HV} (hz : zvP P t = some z) : ∃ v, (∀ w, (zeroValue t).run P w = .ok v w) ∧ ∀ μ, VR μ z v := by
  unfold zvP at hz
  split at hz
  · rename_i i hi
    split at hz
    · rename_i v hv
      exact ⟨v, fun w => by simp [zeroValue, typeInfo, program, Sem.run, hi, hv], fun μ => constH_ok hz⟩
    · cases hz
  · cases hz

/-- Key and element of a map type, the key's kind. -/
def mapP (P : Program) (t : TypeId) : Option (TypeDesc × TypeId × TypeId) :=
  match P.underlying t with
  | some (.map ke e) => match P.underlying ke with
    | some d => some (d, ke, e)
    | none => none
  | _ => none
theorem mapP_ok {t : TypeId} {d : TypeDesc} {ke e : TypeId} (h : mapP P t = some (d, ke, e)) : P.underlying t = some (.map ke e) ∧ P.underlying ke = some d := by
  unfold mapP at h
  split at h
  · rename_i ke' e' h1
    split at h
    · rename_i d' h2
      cases h
      exact ⟨h1, h2⟩
    · cases h
  · cases h

def outH (cm : Bool) (v : HV) (ok : Bool) : HV := cnd cm (.t [v, .b ok]) v
theorem outH_ok {cm ok : Bool} {v : HV} {u : Value} (h : VR μ v u) : VR μ (outH cm v ok) (if cm then .tuple #[u, .bool ok] else u) := by
  cases cm
  · exact h
  · refine .t _ _ rfl fun j h1 h2 => ?_
    match j with
    | 0 => exact h
    | 1 => exact .b ok
    | j + 2 => simp at h1; omega

def lookH (P : Program) (s : HS) (t : TypeId) (x k : HV) (cm : Bool) : Option HV :=
  bO (mapP P t) fun q => whenH (keyD q.1 k) <| match x with
    | .mn => bO (zvP P q.2.2) fun z => some (outH cm z false)
    | .m a => asM (s.h.get a) fun es => bO (findH k es 0) fun r => match r with
      | some p => some (outH cm p.2 true)
      | none => bO (zvP P q.2.2) fun z => some (outH cm z false)
    | _ => none

theorem er_of {q : Nat × Nat} {es : List (HV × HV)} (h : OR μ w q (.m es)) : ∃ ms k, w.heap[q.1]? = some (.map ms k) ∧ ER μ es ms.toList := by
  obtain ⟨ms, k, h1, h2, h3⟩ := h
  exact ⟨ms, k, h1, by simpa using h2, fun j g1 g2 => by simpa using h3 j g1 (by simpa using g2)⟩

theorem gives_lookup (H : HR μ s.h w) (F : FR μ n ρ a.tmps) {t : TypeId} {x y : Operand} {p k z : HV} {cm : Bool} (hop : o.op = .lookup t x y cm) (hx : opH ρ x = some p) (hy : opH ρ y = some k) (hz : lookH P s t p k cm = some z) : Gives P o a μ w s s z := by
  have h1 := opH_ok F hx
  have h2 := opH_ok F hy
  generalize hu : a.eval x = u at h1
  generalize hv : a.eval y = v at h2
  obtain ⟨⟨d, ke, e⟩, hm, hz⟩ := bind_some hz
  obtain ⟨hd, hz⟩ := whenH_some hz
  obtain ⟨ht, hk⟩ := mapP_ok hm
  simp only at hd
  split at hz
  · obtain ⟨zz, hzv, hz⟩ := bind_some hz
    cases hz
    cases h1
    obtain ⟨zv, hzr, hzz⟩ := zvP_ok hzv
    refine gives_value H (v := if cm then .tuple #[zv, .bool false] else zv) ?_ (outH_ok (hzz μ))
    have hck : (Instr.checkKey (#[] : Array MapEntry).isEmpty 10000 ke v).run P w = .ok () w := checkKey_ok hk hd 9999
    have hfk : (Instr.findKey ke v []).run P w = .ok none w := findKey_ok hk rfl
    simp only [execOp, hop, hu, hv, Instr.lookup, Sem.run_bind, run_underlying ht, Result.andThen_ok, Sem.run_pure, hck, hfk, hzr]
  · rename_i a0 _
    obtain ⟨es, ha, hz⟩ := asM_some hz
    cases h1 with
    | m hq =>
      rename_i q
      obtain ⟨ms, kk, g2, hE⟩ := er_of (H.at ha hq)
      obtain ⟨r, hr, hz⟩ := bind_some hz
      have hgo : (getObj q.1).run P w = .ok (.map ms kk) w := by simp only [getObj, Sem.run, g2]
      have hck : (Instr.checkKey ms.isEmpty 10000 ke v).run P w = .ok () w := checkKey_ok hk hd 9999
      rcases findH_ok hd h2 hE hr with ⟨rfl, hf⟩ | ⟨j, x', u', rfl, _, hf, hvr, _⟩
      · obtain ⟨zz, hzv, hz⟩ := bind_some hz
        cases hz
        obtain ⟨zv, hzr, hzz⟩ := zvP_ok hzv
        refine gives_value H (v := if cm then .tuple #[zv, .bool false] else zv) ?_ (outH_ok (hzz μ))
        simp only [execOp, hop, hu, hv, Instr.lookup, Sem.run_bind, run_underlying ht, Result.andThen_ok, hgo, Sem.run_pure, hck, findKey_ok hk hf, hzr]
      · cases hz
        refine gives_value H (v := if cm then .tuple #[u', .bool true] else u') ?_ (outH_ok hvr)
        simp only [execOp, hop, hu, hv, Instr.lookup, Sem.run_bind, run_underlying ht, Result.andThen_ok, hgo, Sem.run_pure, hck, findKey_ok hk hf]
  · cases hz

def updH (P : Program) (s : HS) (t : TypeId) (x k v : HV) : RH :=
  bO (mapP P t) fun q => whenH (keyD q.1 k) <| match x with
    | .m a => asM (s.h.get a) fun es => bO (findH k es 0) fun r => match r with
      | some p => some (.u, setS s a (.m (es.set p.1 (k, v))))
      | none => some (.u, setS s a (.m (es ++ [(k, v)])))
    | _ => none

theorem ba_eq {a b : ByteArray} (h : (a == b) = true) : a = b := by
  cases a; cases b
  congr 1
  exact eq_of_beq (show (_ == _) = true from h)
theorem ba_refl (a : ByteArray) : (a == a) = true := by
  cases a with
  | mk d => exact (beq_self_eq_true d : (d == d) = true)

theorem same_bits {d : TypeDesc} {k k' : HV} {v v' : Value} (hd : keyD d k = true) (h1 : VR μ k v) (h2 : VR μ k' v') (h : sameH k k' = some true) : Instr.sameBits 10000 v' v = true := by
  unfold sameH at h
  split at h
  · cases h1; cases h2
    split at h
    · rename_i e
      simp only [Option.some.injEq, beq_iff_eq] at h
      subst e h
      simp [Instr.sameBits]
    · cases h
  · cases h1; cases h2
    simp only [Option.some.injEq, beq_iff_eq] at h
    subst h
    simp [Instr.sameBits]
  · cases h1; cases h2
    simp only [Option.some.injEq] at h
    have := ba_eq h
    subst this
    simp only [Instr.sameBits]
    exact h
  · cases h

theorem gives_update (H : HR μ s.h w) (F : FR μ n ρ a.tmps) {t : TypeId} {x y y' : Operand} {p k v z : HV} {s' : HS} (hop : o.op = .mapUpdate t x y y') (hx : opH ρ x = some p) (hy : opH ρ y = some k) (hy' : opH ρ y' = some v) (hz : updH P s t p k v = some (z, s')) : Gives P o a μ w s s' z := by
  have h1 := opH_ok F hx
  have h2 := opH_ok F hy
  have h3 := opH_ok F hy'
  generalize hu : a.eval x = u at h1
  generalize hv : a.eval y = kv at h2
  generalize hv' : a.eval y' = vv at h3
  obtain ⟨⟨d, ke, e⟩, hm, hz⟩ := bind_some hz
  obtain ⟨hd, hz⟩ := whenH_some hz
  obtain ⟨ht, hk⟩ := mapP_ok hm
  simp only at hd
  split at hz
  · rename_i a0 _ _
    obtain ⟨es, ha, hz⟩ := asM_some hz
    cases h1 with
    | m hq =>
      rename_i q
      obtain ⟨ms, kk, g2, hE⟩ := er_of (H.at ha hq)
      obtain ⟨r, hr, hz⟩ := bind_some hz
      have hgo : (getObj q.1).run P w = .ok (.map ms kk) w := by simp only [getObj, Sem.run, g2]
      have hck : (Instr.checkKey false 10000 ke kv).run P w = .ok () w := checkKey_ok hk hd 9999
      have hlt := (Array.getElem?_eq_some_iff.1 g2).1
      have hset : ∀ ob : Obj, (setObj q.1 ob).run P w = .ok () { w with heap := w.heap.setIfInBounds q.1 ob } := fun ob => by simp only [setObj, Sem.run, g2]
      have done : ∀ (es' : List (HV × HV)) (ms' : Array MapEntry) (kk' : Nat), ER μ es' ms'.toList → HR μ (setS s a0 (.m es')).h { w with heap := w.heap.setIfInBounds q.1 (.map ms' kk') } ∧ Step μ s w μ (setS s a0 (.m es')) { w with heap := w.heap.setIfInBounds q.1 (.map ms' kk') } := by
        intro es' ms' kk' hE'
        have hoth : ∀ b, b ≠ q.1 → (w.heap.setIfInBounds q.1 (.map ms' kk'))[b]? = w.heap[b]? := fun b hb => by rw [Array.getElem?_setIfInBounds_ne (Ne.symm hb)]
        refine ⟨H.turn ha hq (by simp) hoth ⟨ms', kk', by simp [hlt], by simpa using hE'.1, fun j g1 g2 => hE'.2 j g1 (by simpa using g2)⟩, Step.turn ha hq rfl rfl rfl (by simp) hoth⟩
      rcases findH_ok hd h2 hE hr with ⟨rfl, hf⟩ | ⟨j, x', u', rfl, hj, hf, hvr, me, hme, he', hhe, hsame⟩
      · cases hz
        obtain ⟨d1, d2⟩ := done (es ++ [(k, v)]) (ms.push { key := kv, val := vv, born := kk }) (kk + 1) ⟨by have := hE.1; simp at this ⊢; exact this, fun j g1 g2 => by
          have hl : ms.toList.length = es.length := hE.1
          simp only [Array.toList_push] at g2 ⊢
          by_cases hj : j < es.length
          · rw [List.getElem_append_left hj, List.getElem_append_left (by omega)]
            exact hE.2 j hj (by omega)
          · have : j = es.length := by simp at g1; omega
            subst this
            rw [List.getElem_append_right (by omega), List.getElem_append_right (by omega)]
            simp only [hl, Nat.sub_self, List.getElem_cons_zero]
            exact ⟨h2, h3⟩⟩
        refine ⟨_, μ, _, .inr ⟨?_, rfl⟩, d1, d2, .u⟩
        simp only [execOp, hop, hu, hv, hv', Instr.mapUpdate, Sem.run_bind, run_underlying ht, Result.andThen_ok, hgo, hck, findKey_ok hk hf, hset, Sem.run_pure]
      · simp only [Nat.zero_add] at hz hf
        cases hz
        have hl : ms.toList.length = es.length := hE.1
        have hold := (hE.2 j hj (by omega)).1
        have hej : es[j] = he' := by rw [List.getElem?_eq_getElem hj] at hhe; exact Option.some.inj hhe
        have hsb := same_bits hd h2 hold (by rw [hej]; exact hsame)
        have hst : (Instr.keyThatStays (((ms[j]?).map (·.key)).getD kv) kv).run P w = .ok kv w := by
          have hmj : ms[j]? = some (ms.toList[j]'(by omega)) := by rw [← Array.getElem?_toList, List.getElem?_eq_getElem]
          simp only [Instr.keyThatStays, hmj, Option.map_some, Option.getD_some, hsb, if_true, Sem.run_pure]
        obtain ⟨d1, d2⟩ := done (es.set j (k, v)) (ms.modify j fun e => { e with key := kv, val := vv }) kk ⟨by simpa using hl, fun i g1 g2 => by
          have gi : i < es.length := by simpa using g1
          simp only [Array.toList_modify] at g2 ⊢
          by_cases hij : j = i
          · subst hij
            rw [List.getElem_set_self, List.getElem_modify, if_pos rfl]
            exact ⟨h2, h3⟩
          · rw [List.getElem_set_ne hij, List.getElem_modify, if_neg hij]
            exact hE.2 i gi (by omega)⟩
        refine ⟨_, μ, _, .inr ⟨?_, rfl⟩, d1, d2, .u⟩
        simp only [execOp, hop, hu, hv, hv', Instr.mapUpdate, Sem.run_bind, run_underlying ht, Result.andThen_ok, hgo, hck, findKey_ok hk hf, hst, hset, Sem.run_pure]
  · cases hz
end
end
end Go.Hp
