/- Closed runs over a heap of numbered objects: builtin functions, one operation. -/
import Derived.Test.YtokngfogomhmdaaGreatHa5
namespace Go.Hp
open Go.Ai Go.RowKit
noncomputable section

section
variable {P : Program} {o : Oper} {a : Act} {μ : Mu} {w : World} {s : HS} {n : Nat} {ρ : En}

/-! ### Elements of arrays and strings -/

def indexH (P : Program) (t : TypeId) (x : HV) (j : Nat) : Option HV :=
  match P.underlying t with
  | some (.array m e) => match x with
    | .g cs => whenH (Nat.blt j m) <| bO (szP P e) fun q => takeF cs (j * q.1) q.1 q.2
    | _ => none
  | some .string => match x with
    | .c (.string b) => bO (b[j]?) fun c => some (.i .u8 c.toNat)
    | _ => none
  | _ => none

theorem gives_index (H : HR μ s.h w) (F : FR μ n ρ a.tmps) {t : TypeId} {x y : Operand} {p z : HV} {k : IntKind} {j : Nat} (hop : o.op = .index t x y) (hx : opH ρ x = some p) (hy : opH ρ y = some (.i k j)) (hz : indexH P t p j = some z) : Gives P o a μ w s s z := by
  have h1 := opH_ok F hx
  have h2 := opH_ok F hy
  generalize hu : a.eval x = u at h1
  generalize hv : a.eval y = v at h2
  cases h2
  unfold indexH at hz
  split at hz
  · rename_i m e ht
    split at hz
    · obtain ⟨hj, hz⟩ := whenH_some hz
      obtain ⟨⟨k', one⟩, hs, hz⟩ := bind_some hz
      obtain ⟨vs, rfl, hc⟩ := vr_g h1
      rw [takeF_eq] at hz
      obtain ⟨v, e1, e2⟩ := part_ok (P := P) (w := w) hc hs hz
      have hj : (0 : Int) ≤ (j : Int) ∧ (j : Int) < (m : Int) := by rw [Nat.blt_eq] at hj; omega
      refine gives_value H (v := v) ?_ e2
      simp only [execOp, hop, hu, hv, Instr.index, Sem.run_bind, asIntOf, Sem.run_pure, Result.andThen_ok, run_underlying ht, if_pos hj, (oneOk_spec (szP_ok hs)).2, Int.toNat_natCast, e1]
    · cases hz
  · rename_i ht
    split at hz
    · obtain ⟨c, hc, hz⟩ := bind_some hz
      cases hz
      cases h1
      refine gives_value H (v := .int .u8 c.toNat) ?_ (.i _ _)
      have hj : (0 : Int) ≤ (j : Int) := by omega
      simp only [execOp, hop, hu, hv, Instr.index, Sem.run_bind, asIntOf, Sem.run_pure, Result.andThen_ok, run_underlying ht, if_pos hj, Int.toNat_natCast, hc]
    · cases hz
  · cases hz

/-! ### New slices -/

def makeH (P : Program) (s : HS) (t : TypeId) (l c : Nat) : RH :=
  bO (elP P t) fun q => whenH (Nat.ble l c && Nat.ble 1 q.2.1 && Nat.ble c 1048576 && Nat.ble q.2.2 1048576) <| bO (zrP P q.1) fun z => whenH (Nat.beq z.length q.2.1) (some (.s s.nx 0 l (.k c), newS s (.c (repH z c))))

theorem gives_make (H : HR μ s.h w) (hμ : μ s.nx = none) (F : FR μ n ρ a.tmps) {t : TypeId} {x y : Operand} {k k' : IntKind} {l c : Nat} {z : HV} {s' : HS} (hop : o.op = .makeSlice t x y) (hx : opH ρ x = some (.i k l)) (hy : opH ρ y = some (.i k' c)) (hz : makeH P s t l c = some (z, s')) :
    Gives P o a μ w s s' z := by
  have h1 := opH_ok F hx
  have h2 := opH_ok F hy
  generalize hu : a.eval x = u at h1
  generalize hv : a.eval y = v at h2
  cases h1
  cases h2
  obtain ⟨⟨e, k1, b⟩, he, hz⟩ := bind_some hz
  obtain ⟨h0, hz⟩ := whenH_some hz
  obtain ⟨zz, hzr, hz⟩ := bind_some hz
  obtain ⟨hl, hz⟩ := whenH_some hz
  cases hz
  simp only [Bool.and_eq_true, Nat.ble_eq] at h0
  obtain ⟨⟨⟨c1, c2⟩, c3⟩, c4⟩ := h0
  obtain ⟨i, hu', hi, rfl, rfl⟩ := elP_ok he
  obtain ⟨i', zv, hi', hzv, _, hc⟩ := zrP_ok hzr
  rw [hi] at hi'
  cases hi'
  have hl := Nat.eq_of_beq_eq_true hl
  have hzs : zv.cells.size = i.size := by rw [(hc μ).2.1]; exact hl
  have hb : (i.bytes : Int) * (c : Int) ≤ 281474976710656 := by
    have a1 : (i.bytes : Int) * c ≤ 1048576 * c := Int.mul_le_mul_of_nonneg_right (by omega) (by omega)
    omega
  have hr := run_make (P := P) w t e i zv hu' hi hzv k k' (l : Int) (c : Int) (by omega) (by omega) hb (by omega)
  simp only [Int.toNat_natCast] at hr
  have hcr : CRs μ (repH zz c) (madeCells zv.cells (c * i.size)) := by
    have := repH_crs (m := c) (hc μ) hzs
    simpa [madeCells] using this
  obtain ⟨g1, g2⟩ := new_h H hμ (x := .cells (madeCells zv.cells (c * i.size)) e) (madeCells zv.cells (c * i.size)).size (o := .c (repH zz c)) fun μ' w' hle hw => ⟨_, e, hw, rfl, (hcr.mono hle).cr⟩
  refine ⟨_, _, _, .inl ?_, g1, g2, .s (r := (w.heap.size, (madeCells zv.cells (c * i.size)).size)) (by simp [addMu]) c1 rfl⟩
  simp only [execOp, hop, hu, hv, Sem.run_bind, hr, Result.andThen_ok, Sem.run_pure]

/-! ### Builtin functions -/

def lenH (P : Program) (s : HS) (t : TypeId) (x : HV) : Option HV :=
  match P.underlying t with
  | some (.slice _) => match x with
    | .sn => some (.i .i64 (0 : Nat))
    | .s _ _ l _ => some (.i .i64 l)
    | _ => none
  | some .string => match x with
    | .c (.string b) => some (.i .i64 b.size)
    | _ => none
  | some (.map _ _) => match x with
    | .mn => some (.i .i64 (0 : Nat))
    | .m a => asM (s.h.get a) fun es => some (.i .i64 es.length)
    | _ => none
  | _ => none
def capH (P : Program) (t : TypeId) (x : HV) : Option HV :=
  match P.underlying t with
  | some (.slice _) => match x with
    | .sn => some (.i .i64 (0 : Nat))
    | .s _ _ _ (.k c) => some (.i .i64 c)
    | _ => none
  | _ => none
def maxH (l : List HV) : Option HV := bO (intsH l) fun as => match as with
  | .int k m :: as => bO (maxA k m as) fun r => some (.i k r)
  | _ => none
def minH (l : List HV) : Option HV := bO (intsH l) fun as => match as with
  | .int k m :: as => bO (minA k m as) fun r => some (.i k r)
  | _ => none
def copyH (P : Program) (s : HS) (t t' : TypeId) (x y : HV) : RH :=
  bO (elemP P t t') fun q => match x, y with
    | .s a off m _, .s b off' m' _ => cnd (Nat.beq (Nat.min m' m) 0) (some (.i .i64 (0 : Nat), s)) (asC (s.h.get b) fun cs => bO (partH cs off' (Nat.min m' m * q.1)) fun ys =>
        asC (s.h.get a) fun cs => bO (layF ys off cs) fun cs' => some (.i .i64 (Nat.min m' m : Nat), setS s a (.c cs')))
    | .sn, .s _ _ _ _ => some (.i .i64 (0 : Nat), s)
    | .s _ _ _ _, .sn => some (.i .i64 (0 : Nat), s)
    | .sn, .sn => some (.i .i64 (0 : Nat), s)
    | _, _ => none
def builtinH (P : Program) (s : HS) (b : Builtin) (ts : List TypeId) (l : List HV) : RH :=
  match b with
  | .len => match ts, l with | t :: _, x :: _ => bO (lenH P s t x) fun v => some (v, s) | _, _ => none
  | .cap => match ts, l with | t :: _, x :: _ => bO (capH P t x) fun v => some (v, s) | _, _ => none
  | .max => bO (maxH l) fun v => some (v, s)
  | .min => bO (minH l) fun v => some (v, s)
  | .append => match ts, l with | t :: t' :: _, x :: y :: _ => appendH P s t t' x y | _, _ => none
  | .copy => match ts, l with | t :: t' :: _, x :: y :: _ => copyH P s t t' x y | _, _ => none
  | _ => none

theorem copy_ok (H : HR μ s.h w) {t t' ty : TypeId} {x y z : HV} {u v : Value} {s' : HS} (hu : VR μ x u) (hv : VR μ y v) (h : copyH P s t t' x y = some (z, s')) : Res P (Builtin.copy_ #[t, t'] ty #[u, v]) μ w s s' z := by
  obtain ⟨⟨k, b⟩, he, h⟩ := bind_some h
  obtain ⟨e, e', i, zv, h1, h2, h3, h4, rfl, rfl, h5, _⟩ := elemP_ok he
  have nothing : ∀ {ba : Option Addr} {m c : Nat} {bb : Option Addr} {m' c' : Nat}, u = .slice ba m c → v = .slice bb m' c' → Nat.min m' m = 0 → z = .i .i64 (0 : Nat) → s' = s → Res P (Builtin.copy_ #[t, t'] ty #[u, v]) μ w s s' z := by
    rintro ba m c bb m' c' rfl rfl hm rfl rfl
    have hf : (Builtin.firstCells i.size 0 (.slice bb m' c')).run P w = .ok #[] w := by
      cases bb with
      | none => simp [Builtin.firstCells]
      | some b => simp [Builtin.firstCells, loadCells, loadCellsFrom]
    refine ⟨.int .i64 (0 : Nat), μ, w, ?_, H, Step.refl _ _ _, .i _ _⟩
    cases ba with
    | none => simp [Builtin.copy_, run_underlying h1, sizeOf, typeInfo, h3, Builtin.lenOf, hm, hf, goInt]
    | some a => simp [Builtin.copy_, run_underlying h1, sizeOf, typeInfo, h3, Builtin.lenOf, hm, hf, goInt, storeCells]
  split at h
  · rename_i a off m cap b off' m' cap' _
    cases hu with
    | s hq hlen hc =>
      cases hv with
      | s hq' hlen' hc' =>
        rename_i c2 q'
        cases hm : Nat.beq (Nat.min m' m) 0
        · rw [hm] at h
          obtain ⟨cs, hb, h⟩ := asC_some h
          obtain ⟨ys, hys, h⟩ := bind_some h
          obtain ⟨cs2, ha, h⟩ := asC_some h
          obtain ⟨cs', hl, h⟩ := bind_some h
          rw [layF_eq] at hl
          cases h
          obtain ⟨news, n1, n2, n3, n4⟩ := src_ok H hb hq' hys
          obtain ⟨w', st, g1, g2⟩ := lay_h (P := P) H ha hq n4 hl
          refine ⟨_, μ, w', ?_, g1, g2, .i _ _⟩
          have hf := run_firstCells_some (P := P) w i.size (Nat.min m' m) ⟨q'.1, off', none⟩ m' c2 news n1 n3
          simp only [Builtin.copy_, List.getElem?_toArray, List.getElem?_cons_zero, List.getElem?_cons_succ, Sem.run_bind, run_underlying h1, Result.andThen_ok, Builtin.lenOf, Sem.run_pure, sizeOf_run h3, hf]
          simp [st, goInt]
        · rw [hm] at h
          cases h
          exact nothing rfl rfl (Nat.eq_of_beq_eq_true hm) rfl rfl
  · cases h
    cases hu
    cases hv with
    | s hq' hlen' hc' => exact nothing rfl rfl (Nat.min_eq_right (Nat.zero_le _)) rfl rfl
  · cases h
    cases hv
    cases hu with
    | s hq' hlen' hc' => exact nothing rfl rfl (Nat.min_eq_left (Nat.zero_le _)) rfl rfl
  · cases h
    cases hu
    cases hv
    exact nothing rfl rfl rfl rfl rfl
  · cases h

theorem ints_rd {l : List HV} {as : List AV} {vs : List Value} (h : intsH l = some as) (hl : vs.length = l.length) (hr : ∀ (j : Nat) (h1 : j < l.length) (h2 : j < vs.length), VR μ l[j] vs[j]) :
    vs.length = as.length ∧ ∀ (j : Nat) (h1 : j < vs.length) (h2 : j < as.length), Rd (fun _ => False) (fun _ => False) w vs[j] as[j] := by
  obtain ⟨e1, e2⟩ := intsH_ok h
  refine ⟨by omega, fun j g1 g2 => ?_⟩
  obtain ⟨k, m, h1, h2⟩ := e2 j (by omega) g2
  have := hr j (by omega) g1
  rw [h1] at this
  rw [h2]
  generalize vs[j] = v at this
  cases this
  exact .int _ _

theorem vals2 {l : List HV} {vs : Array Value} {x y : HV} {l' : List HV} (e : l = x :: y :: l') (hl : vs.size = l.length) (hr : ∀ (j : Nat) (h1 : j < l.length) (h2 : j < vs.size), VR μ l[j] vs[j]) : ∃ u v, vs[0]? = some u ∧ vs[1]? = some v ∧ VR μ x u ∧ VR μ y v := by
  subst e
  have h0 : 0 < vs.size := by simp at hl; omega
  have h1 : 1 < vs.size := by simp at hl; omega
  exact ⟨vs[0], vs[1], by simp [h0], by simp [h1], hr 0 (by simp) h0, hr 1 (by simp) h1⟩

theorem append_args {ts : Array TypeId} {vs : Array Value} {t t' : TypeId} {tl : List TypeId} {u v : Value} {ty : TypeId} (ht : ts.toList = t :: t' :: tl) (hu : vs[0]? = some u) (hv : vs[1]? = some v) : Builtin.append_ ts ty vs = Builtin.append_ #[t, t'] ty #[u, v] := by
  have e0 : ts[0]? = some t := by rw [← Array.getElem?_toList, ht]; rfl
  have e1 : ts[1]? = some t' := by rw [← Array.getElem?_toList, ht]; rfl
  unfold Builtin.append_
  simp only [e0, e1, hu, hv, List.getElem?_toArray, List.getElem?_cons_zero, List.getElem?_cons_succ]
theorem copy_args {ts : Array TypeId} {vs : Array Value} {t t' : TypeId} {tl : List TypeId} {u v : Value} {ty : TypeId} (ht : ts.toList = t :: t' :: tl) (hu : vs[0]? = some u) (hv : vs[1]? = some v) : Builtin.copy_ ts ty vs = Builtin.copy_ #[t, t'] ty #[u, v] := by
  have e0 : ts[0]? = some t := by rw [← Array.getElem?_toList, ht]; rfl
  unfold Builtin.copy_
  simp only [e0, hu, hv, List.getElem?_toArray, List.getElem?_cons_zero, List.getElem?_cons_succ]

theorem builtin_ok (H : HR μ s.h w) {b : Builtin} {ts : Array TypeId} {ty : TypeId} {l : List HV} {vs : Array Value} {z : HV} {s' : HS} (hf : Free μ s.nx s'.nx) (hl : vs.size = l.length) (hr : ∀ (j : Nat) (h1 : j < l.length) (h2 : j < vs.size), VR μ l[j] vs[j])
    (h : builtinH P s b ts.toList l = some (z, s')) : ∃ m : Sem Value, (∀ cs, builtin b ts ty cs vs = (do pure (.value (← m)))) ∧ Res P m μ w s s' z := by
  unfold builtinH at h
  split at h
  · split at h
    · rename_i t tl x l' ht
      obtain ⟨v, hv, h⟩ := bind_some h
      cases h
      refine ⟨_, fun _ => rfl, ?_⟩
      have h0 : 0 < vs.size := by simp at hl; omega
      have e0 : ts[0]? = some t := by rw [← Array.getElem?_toList, ht]; rfl
      have e1 : vs[0]? = some vs[0] := by simp [h0]
      have hx := hr 0 (by simp) h0
      simp only [List.getElem_cons_zero] at hx
      generalize vs[0] = u at e1 hx
      unfold lenH at hv
      split at hv
      · rename_i et hu
        split at hv
        · cases hv; cases hx
          exact ⟨_, μ, w, by simp [Builtin.len_, e0, e1, run_underlying hu, goInt], H, Step.refl _ _ _, .i _ _⟩
        · cases hv; cases hx
          exact ⟨_, μ, w, by simp [Builtin.len_, e0, e1, run_underlying hu, goInt], H, Step.refl _ _ _, .i _ _⟩
        · cases hv
      · rename_i hu
        split at hv
        · cases hv; cases hx
          exact ⟨_, μ, w, by simp [Builtin.len_, e0, e1, run_underlying hu, goInt], H, Step.refl _ _ _, .i _ _⟩
        · cases hv
      · rename_i ke et hu
        split at hv
        · cases hv; cases hx
          exact ⟨_, μ, w, by simp [Builtin.len_, e0, e1, run_underlying hu, goInt], H, Step.refl _ _ _, .i _ _⟩
        · obtain ⟨es, ha, hv⟩ := asM_some hv
          cases hv
          cases hx with
          | m hq =>
            rename_i q
            obtain ⟨ms, kk, g2, hE⟩ := er_of (H.at ha hq)
            have hgo : (getObj q.1).run P w = .ok (.map ms kk) w := by simp only [getObj, Sem.run, g2]
            have : ms.size = es.length := by have := hE.1; simpa using this
            exact ⟨_, μ, w, by simp [Builtin.len_, e0, e1, run_underlying hu, goInt, hgo, this], H, Step.refl _ _ _, .i _ _⟩
        · cases hv
      · cases hv
    · cases h
  · split at h
    · rename_i t tl x l' ht
      obtain ⟨v, hv, h⟩ := bind_some h
      cases h
      refine ⟨_, fun _ => rfl, ?_⟩
      have h0 : 0 < vs.size := by simp at hl; omega
      have e0 : ts[0]? = some t := by rw [← Array.getElem?_toList, ht]; rfl
      have e1 : vs[0]? = some vs[0] := by simp [h0]
      have hx := hr 0 (by simp) h0
      simp only [List.getElem_cons_zero] at hx
      generalize vs[0] = u at e1 hx
      unfold capH at hv
      split at hv
      · rename_i et hu
        split at hv
        · cases hv; cases hx
          exact ⟨_, μ, w, by simp [Builtin.cap_, e0, e1, run_underlying hu, goInt], H, Step.refl _ _ _, .i _ _⟩
        · cases hv
          cases hx with
          | s hq hlen hc =>
            simp only [CapOk] at hc
            subst hc
            exact ⟨_, μ, w, by simp [Builtin.cap_, e0, e1, run_underlying hu, goInt], H, Step.refl _ _ _, .i _ _⟩
        · cases hv
      · cases hv
    · cases h
  · obtain ⟨v, hv, h⟩ := bind_some h
    cases h
    refine ⟨_, fun _ => rfl, ?_⟩
    obtain ⟨as, has, hv⟩ := bind_some hv
    split at hv
    · rename_i k m as'
      obtain ⟨r, hm, hv⟩ := bind_some hv
      cases hv
      obtain ⟨g1, g2⟩ := ints_rd (w := w) has (vs := vs.toList) (by simpa using hl) (fun j h1 h2 => by simpa using hr j h1 (by simpa using h2))
      cases hvl : vs.toList with
      | nil => rw [hvl] at g1; simp at g1
      | cons v0 rest =>
        simp only [hvl] at g1 g2
        have h0 := g2 0 (by simp) (by simp)
        simp only [List.getElem_cons_zero] at h0
        cases h0
        have hfold := maxA_ok (P := P) (Y := fun _ => False) (X := fun _ => False) (w := w) (vs := rest) (l := as') (by simpa using g1) (fun i h1 h2 => g2 (i + 1) (by simpa using h1) (by simpa using h2)) hm
        exact ⟨_, μ, w, by simp only [Builtin.max_, hvl, hfold], H, Step.refl _ _ _, .i _ _⟩
    · cases hv
  · obtain ⟨v, hv, h⟩ := bind_some h
    cases h
    refine ⟨_, fun _ => rfl, ?_⟩
    obtain ⟨as, has, hv⟩ := bind_some hv
    split at hv
    · rename_i k m as'
      obtain ⟨r, hm, hv⟩ := bind_some hv
      cases hv
      obtain ⟨g1, g2⟩ := ints_rd (w := w) has (vs := vs.toList) (by simpa using hl) (fun j h1 h2 => by simpa using hr j h1 (by simpa using h2))
      cases hvl : vs.toList with
      | nil => rw [hvl] at g1; simp at g1
      | cons v0 rest =>
        simp only [hvl] at g1 g2
        have h0 := g2 0 (by simp) (by simp)
        simp only [List.getElem_cons_zero] at h0
        cases h0
        have hfold := minA_ok (P := P) (Y := fun _ => False) (X := fun _ => False) (w := w) (vs := rest) (l := as') (by simpa using g1) (fun i h1 h2 => g2 (i + 1) (by simpa using h1) (by simpa using h2)) hm
        exact ⟨_, μ, w, by simp only [Builtin.min_, hvl, hfold], H, Step.refl _ _ _, .i _ _⟩
    · cases hv
  · split at h
    · rename_i t t' tl x y l' ht
      obtain ⟨u, v, e1, e2, e3, e4⟩ := vals2 rfl hl hr
      refine ⟨_, fun _ => rfl, ?_⟩
      rw [append_args ht e1 e2]
      exact append_ok H e3 e4 hf h
    · cases h
  · split at h
    · rename_i t t' tl x y l' ht
      obtain ⟨u, v, e1, e2, e3, e4⟩ := vals2 rfl hl hr
      refine ⟨_, fun _ => rfl, ?_⟩
      rw [copy_args ht e1 e2]
      exact copy_ok H e3 e4 h
    · cases h
  · cases h

theorem copy_qt {t t' : TypeId} {x y z : HV} {s' : HS} (h : copyH P s t t' x y = some (z, s')) : Qt s s' := by
  obtain ⟨⟨k, b⟩, he, h⟩ := bind_some h
  split at h
  · rename_i a off m cap b off' m' cap' _
    cases hm : Nat.beq (Nat.min m' m) 0 <;> rw [hm] at h
    · obtain ⟨cs, hb, h⟩ := asC_some h
      obtain ⟨ys, hys, h⟩ := bind_some h
      obtain ⟨cs2, ha, h⟩ := asC_some h
      obtain ⟨cs', hl, h⟩ := bind_some h
      cases h; exact Qt.turn ha
    · cases h; exact Qt.refl _
  · cases h; exact Qt.refl _
  · cases h; exact Qt.refl _
  · cases h; exact Qt.refl _
  · cases h
theorem builtin_qt {b : Builtin} {ts : List TypeId} {l : List HV} {z : HV} {s' : HS} (h : builtinH P s b ts l = some (z, s')) : Qt s s' := by
  unfold builtinH at h
  split at h
  · split at h
    · obtain ⟨v, hv, h⟩ := bind_some h; cases h; exact Qt.refl _
    · cases h
  · split at h
    · obtain ⟨v, hv, h⟩ := bind_some h; cases h; exact Qt.refl _
    · cases h
  · obtain ⟨v, hv, h⟩ := bind_some h; cases h; exact Qt.refl _
  · obtain ⟨v, hv, h⟩ := bind_some h; cases h; exact Qt.refl _
  · split at h
    · exact append_qt h
    · cases h
  · split at h
    · exact copy_qt h
    · cases h
  · cases h
end
end
end Go.Hp
