/- One operation, kind by kind. -/
import Derived.Test.YtokngfogomhmdaaGreatAbs7
namespace Go.Ai
open Go.RowKit

section
variable {P : Program} {Y X0 : Nat → Prop} {roots : List (Nat × Nat)} {w0 : Base} {w : World} {s : State} {a : Act} {Q : Exit → Act → World → Prop}

theorem run_eqGuard_int (op : BinOp) (t : TypeId) (x y : Operand) (k k' : IntKind) (m m' : Int) : (eqGuard op t x y (.int k m) (.int k' m')).run P w = .ok () w := by
  cases op <;> rfl
theorem run_eqGuard_bool (op : BinOp) (t : TypeId) (x y : Operand) (m m' : Bool) : (eqGuard op t x y (.bool m) (.bool m')).run P w = .ok () w := by
  cases op <;> rfl

theorem binA_ok {op : BinOp} {t : TypeId} {k k' : IntKind} {m m' : Int} {z : AV} {Y X : Nat → Prop} (h : binA op (.int k m) (.int k' m') = some z) :
    ∃ v, (binOp op t (.int k m) (.int k' m')).run P w = .ok v w ∧ Rd Y X w v z := by
  simp only [binA] at h
  split at h
  · rename_i hs
    unfold shiftA at h
    split at h
    · cases h
    · rename_i hn
      cases op <;> simp only [isShift, Bool.false_eq_true] at hs <;> simp only [Option.some.injEq] at h <;> subst h
      · exact ⟨_, by simp [binOp, Op.shift, hn], .int _ _⟩
      · exact ⟨_, by simp [binOp, Op.shift, hn], .int _ _⟩
  · rename_i hs
    split at h
    · rename_i hk
      subst hk
      cases op <;> simp only [isShift, not_true_eq_false] at hs <;> simp only [intA, cmpA, bitsA, Option.map_some, Option.map_none, Option.some.injEq] at h
      case quo =>
        split at h
        · cases h
        · rename_i h0
          cases h
          exact ⟨_, by simp [binOp, Op.intDiv, h0], .int _ _⟩
      case rem =>
        split at h
        · cases h
        · rename_i h0
          cases h
          exact ⟨_, by simp [binOp, Op.intDiv, h0], .int _ _⟩
      case andNot => cases h
      case add => subst h; exact ⟨_, by simp [binOp, Op.intArith], .int _ _⟩
      case sub => subst h; exact ⟨_, by simp [binOp, Op.intArith], .int _ _⟩
      case mul => subst h; exact ⟨_, by simp [binOp, Op.intArith], .int _ _⟩
      case and => subst h; exact ⟨_, by simp only [binOp, Op.intBits, ne_eq, not_true_eq_false, if_false]; rfl, .int _ _⟩
      case or => subst h; exact ⟨_, by simp only [binOp, Op.intBits, ne_eq, not_true_eq_false, if_false]; rfl, .int _ _⟩
      case xor => subst h; exact ⟨_, by simp only [binOp, Op.intBits, ne_eq, not_true_eq_false, if_false]; rfl, .int _ _⟩
      case eql => subst h; exact ⟨_, by simp only [binOp, Op.intCmp, ne_eq, not_true_eq_false, if_false]; rfl, .bool _⟩
      case neq => subst h; exact ⟨_, by simp only [binOp, Op.intCmp, ne_eq, not_true_eq_false, if_false]; rfl, .bool _⟩
      case lss => subst h; exact ⟨_, by simp only [binOp, Op.intCmp, ne_eq, not_true_eq_false, if_false]; rfl, .bool _⟩
      case leq => subst h; exact ⟨_, by simp only [binOp, Op.intCmp, ne_eq, not_true_eq_false, if_false]; rfl, .bool _⟩
      case gtr => subst h; exact ⟨_, by simp only [binOp, Op.intCmp, ne_eq, not_true_eq_false, if_false]; rfl, .bool _⟩
      case geq => subst h; exact ⟨_, by simp only [binOp, Op.intCmp, ne_eq, not_true_eq_false, if_false]; rfl, .bool _⟩
    · cases h

theorem unA_ok {op : UnOp} {u : Value} {x z : AV} {Y X : Nat → Prop} (hu : Rd Y X w u x) (h : unA op x = some z) : ∃ v, (Op.unary op u).run P w = .ok v w ∧ Rd Y X w v z := by
  unfold unA at h
  split at h
  · cases hu
    simp only [Option.some.injEq] at h
    subst h
    exact ⟨_, by simp [Op.unary, Op.intArith], .int _ _⟩
  · cases hu
    simp only [Option.some.injEq] at h
    subst h
    exact ⟨_, by simp [Op.unary], .bool _⟩
  · cases h

theorem run_max2 (k : IntKind) (x y : Int) : (Builtin.max2 (.int k x) (.int k y)).run P w = .ok (.int k (if y > x then y else x)) w := rfl
theorem run_min2 (k : IntKind) (x y : Int) : (Builtin.min2 (.int k x) (.int k y)).run P w = .ok (.int k (if y < x then y else x)) w := rfl

theorem maxA_ok {Y X : Nat → Prop} {k : IntKind} : ∀ {vs : List Value} {l : List AV} {m r : Int}, vs.length = l.length → (∀ (i : Nat) (h1 : i < vs.length) (h2 : i < l.length), Rd Y X w vs[i] l[i]) → maxA k m l = some r →
    (List.foldlM Builtin.max2 (.int k m) vs : Sem Value).run P w = .ok (.int k r) w
  | [], [], m, r, _, _, h => by simp only [maxA, Option.some.injEq] at h; subst h; rfl
  | v :: vs, x :: l, m, r, hl, hr, h => by
    have h0 := hr 0 (by simp) (by simp)
    simp only [List.getElem_cons_zero] at h0
    cases x <;> simp only [maxA] at h <;> try cases h
    rename_i k' n
    split at h
    · rename_i hk
      subst hk
      cases h0
      have ih := maxA_ok (vs := vs) (l := l) (by simpa using hl) (fun i h1 h2 => hr (i + 1) (by simp; omega) (by simp; omega)) h
      simp only [List.foldlM_cons, Sem.run_bind, run_max2, Result.andThen_ok]
      exact ih
    · cases h
  | [], _ :: _, _, _, hl, _, _ => by simp at hl
  | _ :: _, [], _, _, hl, _, _ => by simp at hl

theorem minA_ok {Y X : Nat → Prop} {k : IntKind} : ∀ {vs : List Value} {l : List AV} {m r : Int}, vs.length = l.length → (∀ (i : Nat) (h1 : i < vs.length) (h2 : i < l.length), Rd Y X w vs[i] l[i]) → minA k m l = some r →
    (List.foldlM Builtin.min2 (.int k m) vs : Sem Value).run P w = .ok (.int k r) w
  | [], [], m, r, _, _, h => by simp only [minA, Option.some.injEq] at h; subst h; rfl
  | v :: vs, x :: l, m, r, hl, hr, h => by
    have h0 := hr 0 (by simp) (by simp)
    simp only [List.getElem_cons_zero] at h0
    cases x <;> simp only [minA] at h <;> try cases h
    rename_i k' n
    split at h
    · rename_i hk
      subst hk
      cases h0
      have ih := minA_ok (vs := vs) (l := l) (by simpa using hl) (fun i h1 h2 => hr (i + 1) (by simp; omega) (by simp; omega)) h
      simp only [List.foldlM_cons, Sem.run_bind, run_min2, Result.andThen_ok]
      exact ih
    · cases h
  | [], _ :: _, _, _, hl, _, _ => by simp at hl
  | _ :: _, [], _, _, hl, _, _ => by simp at hl

/-- New variables. -/
theorem Rel.newBox (h : Rel Y X0 roots w0 s a w) {dst : Option Nat} {cells : Array Value} {cs : List AV} {T : TypeId} {ks : List Nat} (hks : ∀ d, dst = some d → ∀ t, (t, d) ∈ roots → t ∈ ks)
    (hdst : dst.isSome = true) (hc : CellsRd Y (fun b => X0 b ∨ XS s a.tmps b) w cells cs) :
    Rel Y X0 roots w0 (rput (rputs s (ks.map fun u => (u, Reg.dead))) dst (.box cs)) (a.put dst (.pointer (some ⟨w.heap.size, 0, none⟩))) (w.alloc (.cells cells T)) := by
  cases dst with
  | none => cases hdst
  | some d =>
    refine Rel.write h ((Below.refl _ _).alloc (Nat.le_refl _) _) (fun t ht => .inl (hks d rfl t ht)) (fun _ b hb => by simp only [blockOf, rootOf, Option.map_some, Option.some.injEq] at hb; omega) (fun X h1 _ => ?_)
    have hc' := (hc.mono (X' := X) (fun b hb => (h1 b hb).imp id And.left)).world (w' := w.alloc (.cells cells T)) (fun b _ hb => Below.heap_alloc _ _ _ hb)
    refine ⟨w.heap.size, rfl, .inl h.below.size, hc.1, cells, T, by show (w.heap.push _)[w.heap.size]? = _; simp, by rw [hc.2.1]; omega, fun i hi => ?_⟩
    have hs := hc.2.1
    refine ⟨cells[i]'(by omega), by rw [Nat.zero_add, Array.getElem?_eq_getElem], hc'.2.2 i (by omega) hi⟩

theorem zeroOk_spec {t : TypeId} {z : List AV} (h : zeroOk P t z = true) : ∃ v, (∀ w, (zeroValue t).run P w = .ok v w) ∧ ∀ (Y X : Nat → Prop) (w : World), CellsRd Y X w v.cells z := by
  unfold zeroOk at h
  split at h
  · rename_i i hi
    split at h
    · rename_i v hv
      refine ⟨v, fun w => by simp [zeroValue, typeInfo, program, Sem.run, hi, hv], fun Y X w => ?_⟩
      have := constsOk_rd (Y := Y) (X := X) (w := w) h
      simpa using this
    · cases h
  · cases h

theorem sizeIs_spec {t : TypeId} {n : Nat} (h : sizeIs P t n = true) : ∀ w, (sizeOf t).run P w = .ok n w := by
  unfold sizeIs at h
  split at h
  · rename_i i hi
    simp only [beq_iff_eq] at h
    intro w
    simp [sizeOf, typeInfo, program, Sem.run, hi, h]
  · cases h

theorem fill_ok (h : Rel Y X0 roots w0 s a w) {place : Nat → Option (Nat × Nat)} {pl : Nat → Nat → Nat → Bool} (hpl : ∀ i off n, pl i off n = true → place i = some (off, n)) :
    ∀ {parts : List (Nat × Operand)} {ps : List (Nat × Nat × Opd)} {cells : Array Value} {cs cs' : List AV}, partsOk pl parts ps = true → CellsRd Y (fun b => X0 b ∨ XS s a.tmps b) w cells cs → fillA s cs ps = some cs' →
      ∃ cells', Instr.fill place cells (parts.map fun p => (p.1, a.eval p.2)) = some cells' ∧ CellsRd Y (fun b => X0 b ∨ XS s a.tmps b) w cells' cs'
  | [], [], cells, cs, cs', _, hc, hf => by
    simp only [fillA, Option.some.injEq] at hf
    subst hf
    exact ⟨cells, rfl, hc⟩
  | (i, x) :: parts, (off, n, o) :: ps, cells, cs, cs', hp, hc, hf => by
    simp only [partsOk, Bool.and_eq_true] at hp
    obtain ⟨⟨h1, h2⟩, h3⟩ := hp
    simp only [fillA] at hf
    cases ho : o.av s with
    | none => rw [ho] at hf; cases hf
    | some y =>
      rw [ho] at hf
      dsimp only at hf
      cases hy : cellsA y n with
      | none => rw [hy] at hf; cases hf
      | some ys =>
        rw [hy] at hf
        dsimp only at hf
        cases hl : layA cs off ys with
        | none => rw [hl] at hf; cases hf
        | some cs1 =>
          rw [hl] at hf
          dsimp only at hf
          obtain ⟨hn, hyr⟩ := cellsA_ok (opd_rd h h2 ho) hy
          obtain ⟨cells', e1, e2⟩ := fill_ok h hpl h3 (lay_cells hc hyr hl) hf
          refine ⟨cells', ?_, e2⟩
          simp only [List.map_cons, Instr.fill, hpl i off n h1]
          have hle := (layA_ok hl).1
          have hs1 := hc.2.1
          have hs2 := hyr.2.1
          have hcond : ((a.eval x).cells.size ≠ n || off + (a.eval x).cells.size > cells.size) = false := by
            simp only [ne_eq, Bool.or_eq_false_iff, decide_eq_false_iff_not, Decidable.not_not, gt_iff_lt, Nat.not_lt]
            omega
          rw [if_neg (by rw [hcond]; simp)]
          exact e1
  | [], _ :: _, _, _, _, hp, _, _ => by cases hp
  | _ :: _, [], _, _, _, hp, _, _ => by cases hp

theorem places_ok {fs : Array Field} (hall : fs.all (fun f => (P.info? f.type).isSome) = true) : (fs.mapM fun f => do pure (f.offset, ← sizeOf f.type) : Sem (Array (Nat × Nat))).run P w = .ok (fs.map fun f => (f.offset, P.cellsOf f.type)) w := by
  have key : ∀ (l : List Field), (∀ f ∈ l, (P.info? f.type).isSome = true) → (l.mapM fun f => do pure (f.offset, ← sizeOf f.type) : Sem (List (Nat × Nat))).run P w = .ok (l.map fun f => (f.offset, P.cellsOf f.type)) w := by
    intro l
    induction l with
    | nil => intro _; rfl
    | cons f l ih =>
      intro hl
      obtain ⟨i, hi⟩ := Option.isSome_iff_exists.1 (hl f (List.mem_cons_self ..))
      have hsz : (sizeOf f.type).run P w = .ok (P.cellsOf f.type) w := by simp [sizeOf, typeInfo, program, Sem.run, hi, Program.cellsOf]
      simp only [List.mapM_cons, Sem.run_bind, hsz, Result.andThen_ok, Sem.run_pure, ih (fun g hg => hl g (List.mem_cons_of_mem _ hg)), List.map_cons]
  have := key fs.toList (fun f hf => by simp only [Array.all_eq_true_iff_forall_mem] at hall; exact hall f (by simpa using hf))
  rw [Array.mapM_eq_mapM_toList]
  simp only [Sem.run_map, this, Result.andThen_ok]
  congr 1
  apply Array.ext'
  simp

theorem fieldOk_place {fs : Array Field} {i off n : Nat} (hi : fieldOk P fs i off n = true) : (fs.map fun f => (f.offset, P.cellsOf f.type))[i]? = some (off, n) := by
  unfold fieldOk at hi
  split at hi
  · rename_i f hf
    simp only [Bool.and_eq_true, beq_iff_eq] at hi
    obtain ⟨rfl, hsz⟩ := hi
    unfold sizeIs at hsz
    split at hsz
    · rename_i ii hii
      simp only [beq_iff_eq] at hsz
      simp [hf, Program.cellsOf, hii, hsz]
    · cases hsz
  · cases hi

theorem size_two {vs : Array Value} (h : vs.size = 2) : ∃ x y, vs = #[x, y] := by
  obtain ⟨l⟩ := vs
  match l, h with
  | [x, y], _ => exact ⟨x, y, rfl⟩

theorem bdo_spec {t : TypeId} {parts : List (Nat × Operand)} {o : Opd} {x : Nat} (hk : bdoOk P t parts o x = true) :
    ∃ a' x', parts = [(0, a'), (1, x')] ∧ opdOk a' o = true ∧ opdOk x' (.t x) = true ∧
      ∀ (b : Bool) (u : Value), u.cells = #[u] → ∀ w, (Instr.build t #[(0, .bool b), (1, u)]).run P w = .ok (.agg #[.bool b, u]) w := by
  unfold bdoOk at hk
  split at hk
  · rename_i fs a' x' hfs
    simp only [Bool.and_eq_true, beq_iff_eq] at hk
    obtain ⟨⟨⟨⟨⟨⟨h1, h2⟩, h3⟩, h4⟩, h5⟩, h6⟩, h7⟩ := hk
    refine ⟨a', x', rfl, h1, h2, fun b u hu w => ?_⟩
    obtain ⟨v, hzv, hc⟩ := zeroOk_spec h6
    obtain ⟨z0, z1, hz⟩ := size_two (hc (fun _ => False) (fun _ => False) w).2.1
    have f0 := fieldOk_place h4
    have f1 := fieldOk_place h5
    have hb : (Value.bool b).cells = #[.bool b] := rfl
    simp only [Instr.build, Sem.run_bind, hzv, Result.andThen_ok, run_underlying hfs, places_ok h7, hz, Instr.fill, f0, f1, hb, hu]
    rfl
  · cases hk

theorem fdo_spec {t : TypeId} (hk : (match P.underlying t with | some (.struct fs) => (match fs[1]? with | some f => f.offset == 1 && oneOk P f.type 1 true | none => false) | _ => false) = true) (b : Bool) (u : Value) :
    ∀ w, (Instr.field t (.agg #[.bool b, u]) 1).run P w = .ok u w := by
  intro w
  split at hk
  · rename_i fs hfs
    split at hk
    · rename_i f hf
      simp only [Bool.and_eq_true, beq_iff_eq] at hk
      obtain ⟨h1, h2⟩ := hk
      have hag := (oneOk_spec h2).1
      simp only [Instr.field, Sem.run_bind, run_underlying hfs, Result.andThen_ok, hf, asAgg, Sem.run_pure, h1, part, hag]
      rfl
    · cases hk
  · cases hk

end
end Go.Ai
