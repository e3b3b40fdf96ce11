/- Closed runs over a heap of numbered objects: numbers, comparisons, slices, maps. -/
import Derived.Test.YtokngfogomhmdaaGreatHa2
namespace Go.Hp
open Go.Ai Go.RowKit
noncomputable section

/-! ### Numbers and truth values as data without addresses -/

def intsH : List HV → Option (List AV)
  | [] => some []
  | .i k n :: l => (intsH l).map (.int k n :: ·)
  | _ => none
def avH : HV → Option AV
  | .b x => some (.bool x)
  | .i k n => some (.int k n)
  | .g cs => (intsH cs).map .agg
  | _ => none
def hvA : AV → Option HV
  | .int k n => some (.i k n)
  | .bool b => some (.b b)
  | _ => none

theorem intsH_ok : ∀ {cs : List HV} {as : List AV}, intsH cs = some as → as.length = cs.length ∧ ∀ (j : Nat) (h1 : j < cs.length) (h2 : j < as.length), ∃ k n, cs[j] = .i k n ∧ as[j] = .int k n
  | [], as, h => by
    simp only [intsH, Option.some.injEq] at h
    subst h
    exact ⟨rfl, fun j h1 => (by simp at h1)⟩
  | x :: l, as, h => by
    cases x <;> simp only [intsH, Option.map_eq_some_iff] at h <;> try cases h
    rename_i k n bs h
    obtain ⟨h, rfl⟩ := h
    obtain ⟨a, b⟩ := intsH_ok h
    refine ⟨by simp [a], fun j h1 h2 => ?_⟩
    cases j with
    | zero => exact ⟨k, n, rfl, rfl⟩
    | succ j => exact b j (by simpa using h1) (by simpa using h2)

theorem avH_ok {μ : Mu} {Y X : Nat → Prop} {w : World} {x : HV} {v : Value} {y : AV} (h : VR μ x v) (hy : avH x = some y) : Rd Y X w v y := by
  cases x <;> simp only [avH, Option.some.injEq, Option.map_eq_some_iff] at hy <;> try cases hy
  · cases h; exact .bool _
  · cases h; exact .int _ _
  · rename_i cs as hy
    obtain ⟨hy, rfl⟩ := hy
    obtain ⟨a, b⟩ := intsH_ok hy
    cases h with
    | g _ vs ho hs hr =>
      refine .agg vs as (fun z hz => ?_) (by omega) (fun j h1 h2 => ?_)
      · obtain ⟨j, hj, rfl⟩ := List.getElem_of_mem hz
        obtain ⟨k, n, _, e⟩ := b j (by omega) hj
        rw [e]; rfl
      · obtain ⟨k, n, e1, e2⟩ := b j (by omega) h2
        have := hr j (by omega) h1
        rw [e1] at this
        rw [e2]
        generalize vs[j] = u at this
        cases this
        exact .int _ _

theorem hvA_ok {μ : Mu} {Y X : Nat → Prop} {w : World} {x : HV} {v : Value} {y : AV} (h : Rd Y X w v y) (hy : hvA y = some x) : VR μ x v := by
  cases y <;> simp only [hvA, Option.some.injEq] at hy <;> try cases hy
  · cases h; exact .i _ _
  · cases h; exact .b _

def eqlH (op : BinOp) (r : Bool) : Option HV :=
  match op with
  | .eql => some (.b r)
  | .neq => some (.b (!r))
  | _ => none
def binH (P : Program) (op : BinOp) (t : TypeId) : HV → HV → Option HV
  | .i k a, .i k' b => bO (binA op (.int k a) (.int k' b)) hvA
  | .b a, .b c => whenH (isBoolT P t) (eqlH op (a == c))
  | .g xs, .g ys => bO (intsH xs) fun as => bO (intsH ys) fun bs => whenH (eqOk P t xs.length) (bO (eqCells as bs) (eqlH op))
  | .s _ _ _ _, .sn => whenH (isSliceT P t) (eqlH op false)
  | .sn, .sn => whenH (isSliceT P t) (eqlH op true)
  | _, _ => none

section
variable {P : Program} {o : Oper} {a : Act} {μ : Mu} {w : World} {s : HS} {n : Nat} {ρ : En}

theorem eql_run {op : BinOp} {t : TypeId} {x y : Operand} {u v : Value} {r : Bool} {z : HV} {t' : TypeId} (H : HR μ s.h w) (hop : o.op = .binOp op t x y t') (hz : eqlH op r = some z) (hu : a.eval x = u) (hv : a.eval y = v)
    (hg : (eqGuard op t x y u v).run P w = .ok () w) (he : (Op.equal t u v).run P w = .ok r w) (hb : ∀ op', op' = .eql ∨ op' = .neq → binOp op' t u v = (if op' = .eql then (do pure (.bool (← Op.equal t u v))) else (do pure (.bool (!(← Op.equal t u v)))))) : Gives P o a μ w s s z := by
  unfold eqlH at hz
  split at hz
  · cases hz
    refine gives_value H (v := .bool r) ?_ (.b _)
    simp only [execOp, hop, hu, hv, Sem.run_bind, hg, Result.andThen_ok, hb .eql (.inl rfl), if_true, he, Sem.run_pure]
  · cases hz
    refine gives_value H (v := .bool (!r)) ?_ (.b _)
    simp only [execOp, hop, hu, hv, Sem.run_bind, hg, Result.andThen_ok, hb .neq (.inr rfl), reduceCtorEq, if_false, he, Sem.run_pure]
  · cases hz

theorem gives_bin (H : HR μ s.h w) (F : FR μ n ρ a.tmps) {op : BinOp} {t t' : TypeId} {x y : Operand} {p q z : HV} (hop : o.op = .binOp op t x y t') (hx : opH ρ x = some p) (hy : opH ρ y = some q) (hz : binH P op t p q = some z) : Gives P o a μ w s s z := by
  have h1 := opH_ok F hx
  have h2 := opH_ok F hy
  generalize hu : a.eval x = u at h1
  generalize hv : a.eval y = v at h2
  unfold binH at hz
  split at hz
  · cases h1
    cases h2
    obtain ⟨c, hb, hc⟩ := bind_some hz
    obtain ⟨r, hrun, hr⟩ := binA_ok (P := P) (w := w) (t := t) (Y := fun _ => False) (X := fun _ => False) hb
    exact gives_value H (v := r) (by simp [execOp, hop, hu, hv, run_eqGuard_int, hrun]) (hvA_ok hr hc)
  · rename_i xa ya
    cases h1
    cases h2
    obtain ⟨h0, hz⟩ := whenH_some hz
    have ht : P.underlying t = some .bool := by
      unfold isBoolT at h0
      split at h0
      · assumption
      · cases h0
    exact eql_run H hop hz hu hv (run_eqGuard_bool ..) (run_equalIn_bool' w 9999 t xa ya ht) (by rintro op' (rfl | rfl) <;> rfl)
  · rename_i xs ys
    obtain ⟨as, e1, hz⟩ := bind_some hz
    obtain ⟨bs, e2, hz⟩ := bind_some hz
    obtain ⟨h0, hz⟩ := whenH_some hz
    obtain ⟨r, hr, hz⟩ := bind_some hz
    have r1 : Rd (fun _ => False) (fun _ => False) w u (.agg as) := avH_ok h1 (by simp [avH, e1])
    have r2 : Rd (fun _ => False) (fun _ => False) w v (.agg bs) := avH_ok h2 (by simp [avH, e2])
    obtain ⟨us, vs, rfl, rfl, heq, hg⟩ := eqv_ok h0 r1 r2 (intsH_ok e1).1 hr x y
    exact eql_run H hop hz hu hv (hg op) heq (by rintro op' (rfl | rfl) <;> rfl)
  · obtain ⟨h0, hz⟩ := whenH_some hz
    obtain ⟨e, he⟩ := isSliceT_spec h0
    cases h1
    cases h2
    exact eql_run H hop hz hu hv (by cases op <;> rfl) (run_equal_slice_nil w t e _ _ _ he) (by rintro op' (rfl | rfl) <;> rfl)
  · obtain ⟨h0, hz⟩ := whenH_some hz
    obtain ⟨e, he⟩ := isSliceT_spec h0
    cases h1
    cases h2
    exact eql_run H hop hz hu hv (by cases op <;> rfl) (run_equal_slice_nil w t e _ _ _ he) (by rintro op' (rfl | rfl) <;> rfl)
  · cases hz

def unH (op : UnOp) (p : HV) : Option HV := bO (avH p) fun y => bO (unA op y) hvA
theorem gives_un (H : HR μ s.h w) (F : FR μ n ρ a.tmps) {op : UnOp} {t : TypeId} {x : Operand} {p z : HV} (hop : o.op = .unOp op t x) (hx : opH ρ x = some p) (hz : unH op p = some z) : Gives P o a μ w s s z := by
  obtain ⟨y, hy, hz⟩ := bind_some hz
  obtain ⟨c, hc, hz⟩ := bind_some hz
  obtain ⟨v, hrun, hr⟩ := unA_ok (P := P) (w := w) (avH_ok (Y := fun _ => False) (X := fun _ => False) (opH_ok F hx) hy) hc
  exact gives_value H (v := v) (by simp [execOp, hop, hrun]) (hvA_ok hr hz)

def cvH (P : Program) (src dst : TypeId) : HV → Option HV
  | .i _ n => match P.underlying dst with
    | some (.int k) => whenH (isIntT P src) (some (.i k (k.wrap n)))
    | _ => none
  | _ => none
theorem gives_convert (H : HR μ s.h w) (F : FR μ n ρ a.tmps) {src dst : TypeId} {x : Operand} {p z : HV} (hop : o.op = .convert src dst x) (hx : opH ρ x = some p) (hz : cvH P src dst p = some z) :
    Gives P o a μ w s s z := by
  have h1 := opH_ok F hx
  generalize hv : a.eval x = v at h1
  unfold cvH at hz
  split at hz
  · cases h1
    split at hz
    · rename_i k hd
      obtain ⟨hs, hz⟩ := whenH_some hz
      cases hz
      unfold isIntT at hs
      split at hs
      · rename_i ks hs'
        exact gives_value H (v := .int k (k.wrap _)) (by simp [execOp, hop, hv, convert, run_underlying hs', run_underlying hd, Conv.intToInt]) (.i _ _)
      · cases hs
    · cases hz
  · cases hz

theorem gives_makeFunc (H : HR μ s.h w) (F : FR μ n ρ a.tmps) {f : FuncId} {xs ys : Array Operand} {fs cs : List HV} (hop : o.op = .makeFunc (.func f) xs ys) (hx : opsH ρ xs.toList = some fs) (hy : opsH ρ ys.toList = some cs) : Gives P o a μ w s s (.f f fs cs) := by
  obtain ⟨a1, a2⟩ := opsH_arr F hx
  obtain ⟨b1, b2⟩ := opsH_arr F hy
  exact gives_value H (v := .func (.func f) (xs.map a.eval) (ys.map a.eval)) (by simp [execOp, hop, Instr.makeFunc]) (.f f fs cs _ _ a1 b1 a2 b2)

theorem gives_makeMap (H : HR μ s.h w) {t : TypeId} (hop : o.op = .makeMap t none) (hμ : μ s.nx = none) : Gives P o a μ w s (newS s (.m [])) (.m s.nx) := by
  obtain ⟨h1, h2⟩ := new_h H hμ (x := .map #[] 0) 0 (o := .m []) fun μ' w' _ hw => ⟨#[], 0, hw, rfl, fun j h1 => (by simp at h1)⟩
  exact ⟨_, _, _, .inl (by simp [execOp, hop, Instr.makeMap]), h1, h2, .m (r := (w.heap.size, 0)) (by simp [addMu])⟩

/-! ### Slices -/

/-- The cells of a slice's elements. -/
def partH (cs : List HV) (off m : Nat) : Option (List HV) := segF m off cs
theorem partH_some {cs ys : List HV} {off m : Nat} (h : partH cs off m = some ys) : off + m ≤ cs.length ∧ (cs.drop off).take m = ys := by
  unfold partH at h
  rw [segF_eq] at h
  split at h
  · exact ⟨by assumption, Option.some.inj h⟩
  · cases h
theorem partH_all {cs : List HV} {m : Nat} (h : cs.length = m) : partH cs 0 m = some cs := by
  unfold partH
  rw [segF_eq, if_pos (by omega), List.drop_zero, List.take_of_length_le (by omega)]

/-- The cells of a slice, in memory. -/
theorem src_ok (H : HR μ s.h w) {b off m : Nat} {q : Nat × Nat} {cs ys : List HV} (hb : s.h.get b = some (.c cs)) (hq : μ b = some q) (hy : partH cs off m = some ys) :
    ∃ news : List Value, news.length = m ∧ ys.length = m ∧ (∀ j u, news[j]? = some u → w.cell? ((⟨q.1, off, none⟩ : Addr).add j) = some u) ∧ CRs μ ys news.toArray := by
  obtain ⟨hle, rfl⟩ := partH_some hy
  have hm := H.cell hb hq
  have hd := H.ones hb
  let f : Nat → Value := fun j => (w.cell? ⟨q.1, off + j, none⟩).getD Go.undef
  have hf : ∀ j, j < m → w.cell? ⟨q.1, off + j, none⟩ = some (f j) ∧ ∀ h : off + j < cs.length, VR μ cs[off + j] (f j) := by
    intro j hj
    obtain ⟨v, hc, hv⟩ := hm (off + j) (by omega)
    refine ⟨by simp [f, hc], fun _ => ?_⟩
    have : f j = v := by simp [f, hc]
    rw [this]; exact hv
  refine ⟨(List.range m).map f, by simp, by simp; omega, fun j u hu => ?_, fun x hx => hd x (List.mem_of_mem_drop (List.mem_of_mem_take hx)), by simp; omega, fun j h1 h2 => ?_⟩
  · have hj : j < m := by
      have := (List.getElem?_eq_some_iff.1 hu).1
      simpa using this
    rw [addr_add, (hf j hj).1]
    simp [hj] at hu
    rw [hu]
  · have hj : j < m := by simpa using h2
    simpa using (hf j hj).2 (by omega)

theorem crs_append {xs ys : List HV} {us vs : List Value} (h1 : CRs μ xs us.toArray) (h2 : CRs μ ys vs.toArray) : CRs μ (xs ++ ys) (us ++ vs).toArray := by
  have l1 : us.length = xs.length := by simpa using h1.2.1
  have l2 : vs.length = ys.length := by simpa using h2.2.1
  refine ⟨fun x hx => (List.mem_append.1 hx).elim (h1.1 x) (h2.1 x), by simp [l1, l2], fun j g1 g2 => ?_⟩
  simp only [List.getElem_toArray]
  by_cases hj : j < xs.length
  · rw [List.getElem_append_left hj, List.getElem_append_left (by omega)]
    exact h1.2.2 j hj (by simpa using (by omega : j < us.length))
  · have hj2 : j - xs.length < ys.length := by simp at g1; omega
    rw [List.getElem_append_right (by omega), List.getElem_append_right (by omega)]
    have := h2.2.2 (j - xs.length) hj2 (by simpa using (by omega : j - xs.length < vs.length))
    simpa [l1] using this

/-- The element's size and bytes, for append and copy. -/
def elemP (P : Program) (t t' : TypeId) : Option (Nat × Nat) := bO (elP P t) fun q => whenH (isSliceT P t' && Nat.ble 1 q.2.1) <| bO (zrP P q.1) fun z => whenH (Nat.beq z.length q.2.1) (some q.2)
theorem elemP_ok {t t' : TypeId} {k b : Nat} (h : elemP P t t' = some (k, b)) : ∃ e e' i z, P.underlying t = some (.slice e) ∧ P.underlying t' = some (.slice e') ∧ P.info? e = some i ∧ i.zero = some z ∧ i.size = k ∧ i.bytes = b ∧ z.cells.size = k ∧ 0 < k := by
  unfold elemP at h
  obtain ⟨⟨e, k', b'⟩, he, h⟩ := bind_some h
  obtain ⟨h1, h⟩ := whenH_some h
  obtain ⟨z, hz, h⟩ := bind_some h
  obtain ⟨h2, h⟩ := whenH_some h
  cases h
  simp only [Bool.and_eq_true, Nat.ble_eq] at h1
  obtain ⟨i, e1, e2, e3, e4⟩ := elP_ok he
  obtain ⟨e', he'⟩ := isSliceT_spec h1.1
  obtain ⟨i', v, g1, g2, _, g3⟩ := zrP_ok hz
  rw [e2] at g1
  cases g1
  exact ⟨e, e', i, v, e1, he', e2, g2, e3, e4, by rw [(g3 fun _ => none).2.1]; exact Nat.eq_of_beq_eq_true h2, h1.2⟩

/-- Whether an append of m elements to n fits into the memory. -/
def fitsH (b n : Nat) : Bool := Nat.ble (n * b) 140737488355328 && Nat.ble n 140737488355328

def growS (s : HS) (cs : List HV) : HS := newS s (.c cs)
def moveS (s : HS) (a : Nat) (cs : List HV) : HS := ⟨(s.h.set a none).set s.nx (some (.c cs)), Nat.succ s.nx, a :: s.lg⟩

def apH (k b : Nat) (s : HS) (x : HV) (m : Nat) (ys : List HV) : RH :=
  match x with
  | .sn => whenH (fitsH b m) (some (.s s.nx 0 m (.d k), newS s (.c ys)))
  | .s a off n (.k c) => asC (s.h.get a) fun cs => cnd (Nat.ble (n + m) c)
      (bO (layF ys (off + n * k) cs) fun cs' => some (.s a off (n + m) (.k c), setS s a (.c cs')))
      (whenH (fitsH b (n + m)) <| bO (partH cs off (n * k)) fun xs => some (.s s.nx 0 (n + m) (.d k), newS s (.c (xs ++ ys))))
  | .s a off n (.d sz) => asC (s.h.get a) fun cs => whenH (Nat.beq sz k && Nat.beq off 0 && Nat.beq (lenF cs) (n * k) && fitsH b (n + m)) (some (.s s.nx 0 (n + m) (.d k), moveS s a (cs ++ ys)))
  | _ => none
def sameS (s : HS) (x : HV) : RH := match x with | .sn => some (x, s) | .s _ _ _ _ => some (x, s) | _ => none
def appendH (P : Program) (s : HS) (t t' : TypeId) (x y : HV) : RH :=
  bO (elemP P t t') fun q => match y with
    | .sn => (sameS s x)
    | .s b off m _ => cnd (Nat.beq m 0) (sameS s x) (asC (s.h.get b) fun cs => bO (partH cs off (m * q.1)) fun ys => apH q.1 q.2 s x m ys)
    | _ => none
end
end
end Go.Hp
