/- One operation: all kinds. -/
import Derived.Test.YthakfjlnhldehaaAbs8
namespace Go.Ai
open Go.RowKit

def freeB (roots : List (Nat × Nat)) (dst : Option Nat) : Bool := roots.all fun p => !(some p.2 == dst)
def rootB (roots : List (Nat × Nat)) (dst : Option Nat) (d : Nat) : Bool :=
  match dst with
  | some t => roots.contains (t, d)
  | none => true
def killB (roots : List (Nat × Nat)) (dst : Option Nat) (ks : List Nat) : Bool := dst.isSome && roots.all fun p => !(some p.2 == dst) || ks.contains p.1

/-- Pointers into variables are kept track of. -/
def rootOk (roots : List (Nat × Nat)) (dst : Option Nat) : K → Bool
  | .new _ ks => killB roots dst ks
  | .box _ ks => killB roots dst ks
  | .adr _ d _ => freeB roots dst && rootB roots dst d
  | .ixb x _ _ _ => freeB roots dst && rootB roots dst x
  | .st _ _ _ _ => dst.isNone
  | .bls _ _ _ => freeB roots dst && dst.isSome
  | _ => freeB roots dst

theorem freeB_spec {roots : List (Nat × Nat)} {dst : Option Nat} (h : freeB roots dst = true) : Free roots dst := by
  intro d hd t ht
  simp only [freeB, List.all_eq_true, Bool.not_eq_true', beq_eq_false_iff_ne, ne_eq] at h
  exact h (t, d) ht hd.symm
theorem rootB_spec {roots : List (Nat × Nat)} {dst : Option Nat} {d : Nat} (h : rootB roots dst d = true) : ∀ t, dst = some t → (t, d) ∈ roots := by
  intro t ht
  subst ht
  simpa [rootB] using h
theorem killB_spec {roots : List (Nat × Nat)} {dst : Option Nat} {ks : List Nat} (h : killB roots dst ks = true) : dst.isSome = true ∧ ∀ d, dst = some d → ∀ t, (t, d) ∈ roots → t ∈ ks := by
  simp only [killB, Bool.and_eq_true, List.all_eq_true, Bool.or_eq_true, Bool.not_eq_true', beq_eq_false_iff_ne, ne_eq, List.contains_eq_mem, decide_eq_true_eq] at h
  refine ⟨h.1, fun d hd t ht => ?_⟩
  rcases h.2 (t, d) ht with h1 | h1
  · exact absurd hd.symm h1
  · exact h1

section
variable {P : Program} {X0 : Nat → Prop} {roots : List (Nat × Nat)} {w0 w : World} {s : State} {a : Act} {Q : Exit → Act → World → Prop}

theorem cell_of_block {w : World} {b off : Nat} {vs : Array Value} {T : TypeId} {fz : Nat × Nat} (h : w.heap[b]? = some (.cells vs T fz)) : w.cell? ⟨b, off, none⟩ = vs[off]? := by
  simp only [World.cell?, h]
  rfl

theorem timesOk_get {X : Nat → Prop} {w : World} {zero : List Value} (hz : 0 < zero.length) : ∀ (n : Nat) (z : List AV), timesOk z zero n = true → z.length = n * zero.length →
    Dat z ∧ ∀ (i : Nat) (h : i < z.length), ∃ v, zero[i % zero.length]? = some v ∧ Rd X w v z[i]
  | 0, z, _, hl => by
    have : z = [] := List.eq_nil_of_length_eq_zero (by simpa using hl)
    subst this
    exact ⟨fun x hx => (by cases hx), fun i h => (by simp at h)⟩
  | n + 1, z, h, hl => by
    simp only [timesOk, Bool.and_eq_true] at h
    obtain ⟨h1, h2⟩ := h
    have hl' : z.length = n * zero.length + zero.length := by rw [hl, Nat.succ_mul]
    obtain ⟨hd, ih⟩ := timesOk_get (X := X) (w := w) hz n (z.drop zero.length) h2 (by simp; omega)
    have hc := constsOk_rd (X := X) (w := w) h1
    refine ⟨fun x hx => ?_, fun i hi => ?_⟩
    · rw [← List.take_append_drop zero.length z, List.mem_append] at hx
      rcases hx with hx | hx
      · exact hc.1 x hx
      · exact hd x hx
    · by_cases hlt : i < zero.length
      · rw [Nat.mod_eq_of_lt hlt]
        have e : (z.take zero.length)[i]? = some z[i] := by rw [List.getElem?_take_of_lt hlt, List.getElem?_eq_getElem hi]
        obtain ⟨v, hv, hr⟩ := hc.get e
        exact ⟨v, by simpa using hv, hr⟩
      · have hi2 : i - zero.length < (z.drop zero.length).length := by simp; omega
        obtain ⟨v, hv, hr⟩ := ih (i - zero.length) hi2
        have e1 : (i - zero.length) % zero.length = i % zero.length := by
          rw [← Nat.add_mod_right (i - zero.length) zero.length]
          congr 1
          omega
        have e2 : (z.drop zero.length)[i - zero.length] = z[i] := by
          rw [List.getElem_drop]
          congr 1
          omega
        exact ⟨v, e1 ▸ hv, e2 ▸ hr⟩

theorem RegOk.world {X : Nat → Prop} {B : Nat} {tm : Array Value} {w w' : World} {t : Nat} {v : Value} {r : Reg} (h : RegOk X B roots tm w t v r) (hw : Below w.heap.size w w') : RegOk X B roots tm w' t v r := by
  cases r with
  | val x => exact Rd.world h fun b _ hb => hw.block b hb
  | box cs => obtain ⟨b, e1, e2, e3⟩ := h; exact ⟨b, e1, e2, e3.world (fun c _ hc => hw.block c hc) (hw.block b e3.lt)⟩
  | own n cs => obtain ⟨b, off, cap, e1, e2, e3, e4⟩ := h; exact ⟨b, off, cap, e1, e2, e3, e4.world (fun c _ hc => hw.block c hc) (hw.block b e4.lt)⟩
  | mem cs => obtain ⟨b, off, e1, e2, e3⟩ := h; exact ⟨b, off, e1, e2, e3.world (fun c _ hc => hw.block c hc) (fun hb => hw.block b hb)⟩
  | ptr d off => exact h
  | dup d => exact h
  | dead => trivial

theorem part_ok {X : Nat → Prop} {w : World} {t : TypeId} {n off : Nat} {one : Bool} {vs : Array Value} {cs : List AV} {x : AV} (ho : oneOk P t n one = true) (hc : CellsRd X w vs cs) (ht : takeA cs off n one = some x) :
    ∃ v, (part t vs off).run P w = .ok v w ∧ Rd X w v x := by
  obtain ⟨h1, h2⟩ := oneOk_spec ho
  obtain ⟨hd, hs, hr⟩ := hc
  unfold takeA at ht
  cases one with
  | true =>
    simp only [if_true] at ht
    obtain ⟨v, hv, hrv⟩ := CellsRd.get ⟨hd, hs, hr⟩ ht
    exact ⟨v, by simp [part, h1, hv], hrv⟩
  | false =>
    simp only [Bool.false_eq_true, if_false] at ht
    split at ht
    · rename_i hle
      cases ht
      refine ⟨.agg (vs.extract off (off + n)), by simp [part, h1, h2], .agg _ _ (fun y hy => hd y (List.mem_of_mem_drop (List.mem_of_mem_take hy))) (by simp; omega) (fun i g1 g2 => ?_)⟩
      have hi : i < n := by simp at g2; omega
      have := hr (off + i) (by omega) (by omega)
      simpa using this
    · cases ht

set_option maxHeartbeats 1000000 in
theorem simK {o : Oper} {k : K} {F : Caller} {r : Reg} {l : List (Nat × Reg)} {K' : Act → World → Prop} (h : Rel X0 roots w0 s a w) (hF : CallOk P F) (hk : kOk P o.op k = true) (hro : rootOk roots o.dst k = true)
    (hev : evK F s k = some (r, l)) (hK : ∀ a' w', Rel X0 roots w0 (rput (rputs s l) o.dst r) a' w' → K' a' w') : o.wp P a w K' Q := by
  cases k
  case bad => cases hev
  case mov y =>
    simp only [evK, Option.map_eq_some_iff] at hev
    obtain ⟨x, hx, he⟩ := hev
    cases he
    simp only [kOk] at hk
    split at hk
    · rename_i z hop
      exact wp_value (v := a.eval z) (by simp [execOp, hop]) (hK _ _ (h.put (freeB_spec hro) (opd_rd h hk hx)))
    · rename_i z hop
      exact wp_value (v := a.eval z) (by simp [execOp, hop]) (hK _ _ (h.put (freeB_spec hro) (opd_rd h hk hx)))
    · cases hk
  case pick c x y =>
    simp only [kOk] at hk
    split at hk
    · rename_i c' x' y' hop
      simp only [Bool.and_eq_true] at hk
      obtain ⟨⟨h1, h2⟩, h3⟩ := hk
      simp only [evK] at hev
      split at hev
      · rename_i hc
        simp only [Option.map_eq_some_iff] at hev
        obtain ⟨v, hv, he⟩ := hev
        cases he
        have hcr := opd_rd h h1 hc
        generalize hcv : a.eval c' = cv at hcr
        cases hcr
        exact wp_value (v := a.eval x') (by simp [execOp, hop, hcv, asBool]) (hK _ _ (h.put (freeB_spec hro) (opd_rd h h2 hv)))
      · rename_i hc
        simp only [Option.map_eq_some_iff] at hev
        obtain ⟨v, hv, he⟩ := hev
        cases he
        have hcr := opd_rd h h1 hc
        generalize hcv : a.eval c' = cv at hcr
        cases hcr
        exact wp_value (v := a.eval y') (by simp [execOp, hop, hcv, asBool]) (hK _ _ (h.put (freeB_spec hro) (opd_rd h h3 hv)))
      · cases hev
    · cases hk
  case bin op x y =>
    simp only [kOk] at hk
    split at hk
    · rename_i op' t x' y' t' hop
      simp only [Bool.and_eq_true, beq_iff_eq] at hk
      obtain ⟨⟨rfl, h1⟩, h2⟩ := hk
      simp only [evK] at hev
      split at hev
      · rename_i xa ya hx hy
        simp only [Option.map_eq_some_iff] at hev
        obtain ⟨z, hz, he⟩ := hev
        cases he
        have hxr := opd_rd h h1 hx
        have hyr := opd_rd h h2 hy
        generalize hxv : a.eval x' = xv at hxr
        generalize hyv : a.eval y' = yv at hyr
        cases xa <;> cases ya <;> simp only [binA] at hz <;> try cases hz
        cases hxr
        cases hyr
        obtain ⟨v, hrun, hr⟩ := binA_ok (P := P) (w := w) (t := t) (X := fun b => X0 b ∨ XS s a.tmps b) (by simpa only [binA] using hz)
        exact wp_value (v := v) (by simp [execOp, hop, hxv, hyv, run_eqGuard_int, hrun]) (hK _ _ (h.put (freeB_spec hro) hr))
      · cases hev
    · cases hk
  case eqb neg x y =>
    simp only [kOk] at hk
    split at hk
    · rename_i op' t x' y' t' hop
      simp only [Bool.and_eq_true, beq_iff_eq] at hk
      obtain ⟨⟨⟨rfl, h0⟩, h1⟩, h2⟩ := hk
      simp only [evK] at hev
      split at hev
      · rename_i xa ya hx hy
        cases hev
        have hxr := opd_rd h h1 hx
        have hyr := opd_rd h h2 hy
        generalize hxv : a.eval x' = xv at hxr
        generalize hyv : a.eval y' = yv at hyr
        cases hxr
        cases hyr
        have ht : P.underlying t = some .bool := by
          unfold isBoolT at h0
          split at h0
          · assumption
          · cases h0
        have heq : (Op.equal t (.bool xa) (.bool ya)).run P w = .ok (xa == ya) w := run_equalIn_bool' w 9999 t xa ya ht
        refine wp_value (v := .bool (if neg then !(xa == ya) else xa == ya)) ?_ (hK _ _ (h.put (freeB_spec hro) (.bool _)))
        cases neg
        · simp only [Bool.false_eq_true, if_false, execOp, hop, hxv, hyv, Sem.run_bind, run_eqGuard_bool, Result.andThen_ok, binOp, heq, Sem.run_pure]
        · simp only [if_true, execOp, hop, hxv, hyv, Sem.run_bind, run_eqGuard_bool, Result.andThen_ok, binOp, heq, Sem.run_pure]
      · cases hev
    · cases hk
  case eqv neg n x y =>
    simp only [kOk] at hk
    split at hk
    · rename_i op' t x' y' t' hop
      simp only [Bool.and_eq_true, beq_iff_eq] at hk
      obtain ⟨⟨⟨rfl, h0⟩, h1⟩, h2⟩ := hk
      simp only [evK] at hev
      split at hev
      · rename_i xa ya hx hy
        split at hev
        · rename_i hn
          simp only [Option.map_eq_some_iff] at hev
          obtain ⟨z, hz, he⟩ := hev
          cases he
          obtain ⟨xs, ys, e1, e2, heq, hg⟩ := eqv_ok h0 (opd_rd h h1 hx) (opd_rd h h2 hy) hn hz x' y'
          refine wp_value (v := .bool (if neg then !z else z)) ?_ (hK _ _ (h.put (freeB_spec hro) (.bool _)))
          rw [e1, e2] at heq hg
          cases neg
          · simp only [Bool.false_eq_true, if_false, execOp, hop, e1, e2, Sem.run_bind, hg, Result.andThen_ok, binOp, heq, Sem.run_pure]
          · simp only [if_true, execOp, hop, e1, e2, Sem.run_bind, hg, Result.andThen_ok, binOp, heq, Sem.run_pure]
        · cases hev
      · cases hev
    · cases hk
  case un op x =>
    simp only [kOk] at hk
    split at hk
    · rename_i op' t x' hop
      simp only [Bool.and_eq_true, beq_iff_eq] at hk
      obtain ⟨rfl, h1⟩ := hk
      simp only [evK] at hev
      split at hev
      · rename_i xa hx
        simp only [Option.map_eq_some_iff] at hev
        obtain ⟨z, hz, he⟩ := hev
        cases he
        obtain ⟨v, hrun, hr⟩ := unA_ok (P := P) (opd_rd h h1 hx) hz
        exact wp_value (v := v) (by simp [execOp, hop, hrun]) (hK _ _ (h.put (freeB_spec hro) hr))
      · cases hev
    · cases hk
  case cv k x =>
    simp only [kOk] at hk
    split at hk
    · rename_i src dst x' hop
      simp only [Bool.and_eq_true] at hk
      obtain ⟨⟨h0, h1⟩, h2⟩ := hk
      simp only [evK] at hev
      split at hev
      · rename_i k' n hx
        cases hev
        have hxr := opd_rd h h2 hx
        generalize hxv : a.eval x' = xv at hxr
        cases hxr
        split at h1
        · rename_i k'' hd
          simp only [beq_iff_eq] at h1
          subst h1
          unfold isIntT at h0
          split at h0
          · rename_i ks hs
            exact wp_value (v := .int k'' (k''.wrap n)) (by simp [execOp, hop, hxv, convert, run_underlying hs, run_underlying hd, Conv.intToInt]) (hK _ _ (h.put (freeB_spec hro) (.int _ _)))
          · cases h0
        · cases h1
      · cases hev
    · cases hk
  case new z ks =>
    simp only [kOk] at hk
    split at hk
    · rename_i t hop
      cases hev
      obtain ⟨v, hz, hc⟩ := zeroOk_spec hk
      obtain ⟨h1, h2⟩ := killB_spec hro
      simp only [Oper.wp]
      have hrun : (execOp a.eval o).run P w = .ok (.value (.pointer (some ⟨w.heap.size, 0, none⟩))) (w.alloc (.cells v.cells t)) := by
        simp [execOp, hop, Instr.alloc, hz, newVar, newRow]
      rw [hrun]
      exact hK _ _ (Rel.newBox h h2 h1 (hc _ _))
    · cases hk
  case box x ks =>
    simp only [kOk] at hk
    split at hk
    · rename_i t x' hop
      obtain ⟨h1, h2⟩ := killB_spec hro
      have hrun : (execOp a.eval o).run P w = .ok (.value (.pointer (some ⟨w.heap.size, 0, none⟩))) (w.alloc (.cells (a.eval x').cells t)) := by
        simp [execOp, hop, Instr.box, newVar, newRow]
      simp only [Oper.wp, hrun]
      simp only [evK] at hev
      split at hev
      · rename_i cs hx
        cases hev
        have hc := (cellsA_ok (n := cs.length) (ys := cs) (opd_rd h hk hx) (by simp [cellsA])).2
        exact hK _ _ (Rel.newBox h h2 h1 hc)
      · rename_i y hy hx
        split at hev
        · rename_i hd
          cases hev
          have hc := (cellsA_ok (n := 1) (ys := [y]) (opd_rd h hk hx) (by cases y <;> first | rfl | cases hd)).2
          exact hK _ _ (Rel.newBox h h2 h1 hc)
        · cases hev
      · cases hev
    · cases hk
  case bld z ps =>
    simp only [kOk] at hk
    split at hk
    · rename_i t parts hop
      simp only [evK, Option.map_eq_some_iff] at hev
      obtain ⟨cs, hcs, he⟩ := hev
      cases he
      simp only [bldOk, Bool.and_eq_true] at hk
      obtain ⟨hz, hk⟩ := hk
      obtain ⟨v, hzv, hc⟩ := zeroOk_spec hz
      split at hk
      · rename_i fs hfs
        simp only [Bool.and_eq_true] at hk
        obtain ⟨hall, hp⟩ := hk
        have hplaces : (fs.mapM fun f => do pure (f.offset, ← sizeOf f.type) : Sem (Array (Nat × Nat))).run P w = .ok (fs.map fun f => (f.offset, P.cellsOf f.type)) w := by
          have key : ∀ (l : List Field), (∀ f ∈ l, (P.info? f.type).isSome = true) → (l.mapM fun f => do pure (f.offset, ← sizeOf f.type) : Sem (List (Nat × Nat))).run P w = .ok (l.map fun f => (f.offset, P.cellsOf f.type)) w := by
            intro l
            induction l with
            | nil => intro _; rfl
            | cons f l ih =>
              intro hl
              obtain ⟨i, hi⟩ := Option.isSome_iff_exists.1 (hl f (List.mem_cons_self ..))
              have hsz : (sizeOf f.type).run P w = .ok (P.cellsOf f.type) w := by simp [sizeOf, typeInfo, program, Sem.run, hi, Program.cellsOf]
              simp only [List.mapM_cons, Sem.run_bind, hsz, Result.andThen_ok, Sem.run_pure, ih (fun g hg => hl g (List.mem_cons_of_mem _ hg)), List.map_cons]
          have := key fs.toList (fun f hf => by simp only [Array.all_eq_true_iff_forall_mem] at hall; exact hall f (by simpa using hf))
          rw [Array.mapM_eq_mapM_toList]
          simp only [Sem.run_map, this, Result.andThen_ok]
          congr 1
          apply Array.ext'
          simp
        obtain ⟨cells', e1, e2⟩ := fill_ok h (place := fun i => (fs.map fun f => (f.offset, P.cellsOf f.type))[i]?) (pl := fieldOk P fs) (fun i off n hi => by
          unfold fieldOk at hi
          split at hi
          · rename_i f hf
            simp only [Bool.and_eq_true, beq_iff_eq] at hi
            obtain ⟨rfl, hsz⟩ := hi
            unfold sizeIs at hsz
            split at hsz
            · rename_i ii hii
              simp only [beq_iff_eq] at hsz
              simp [hf, Program.cellsOf, hii, hsz]
            · cases hsz
          · cases hi) hp (hc _ w) hcs
        have e1' : Instr.fill (fun i => (fs.map fun f => (f.offset, P.cellsOf f.type))[i]?) v.cells (parts.map fun p => (p.1, a.eval p.2)).toList = some cells' := by rw [Array.toList_map]; exact e1
        refine wp_value (v := .agg cells') ?_ (hK _ _ (h.put (freeB_spec hro) (.agg cells' cs e2.1 e2.2.1 e2.2.2)))
        simp only [execOp, hop, Instr.build, Sem.run_bind, hzv, Result.andThen_ok, run_underlying hfs, hplaces, e1', Sem.run_pure]
      · rename_i ln e hfs
        simp only [Bool.and_eq_true] at hk
        obtain ⟨hall, hp⟩ := hk
        obtain ⟨ii, hii⟩ := Option.isSome_iff_exists.1 hall
        have hsz : (sizeOf e).run P w = .ok (P.cellsOf e) w := by simp [sizeOf, typeInfo, program, Sem.run, hii, Program.cellsOf]
        obtain ⟨cells', e1, e2⟩ := fill_ok h (place := fun i => some (i * P.cellsOf e, P.cellsOf e)) (fun i off n hi => by
          simp only [Bool.and_eq_true, beq_iff_eq] at hi
          rw [hi.1, hi.2]) hp (hc _ w) hcs
        have e1' : Instr.fill (fun i => some (i * P.cellsOf e, P.cellsOf e)) v.cells (parts.map fun p => (p.1, a.eval p.2)).toList = some cells' := by rw [Array.toList_map]; exact e1
        refine wp_value (v := .agg cells') ?_ (hK _ _ (h.put (freeB_spec hro) (.agg cells' cs e2.1 e2.2.1 e2.2.2)))
        simp only [execOp, hop, Instr.build, Sem.run_bind, hzv, Result.andThen_ok, run_underlying hfs, hsz, e1', Sem.run_pure]
      · cases hk
    · cases hk
  case bls n z ps =>
    simp only [kOk] at hk
    split at hk
    · rename_i t len parts hop
      simp only [evK, Option.map_eq_some_iff] at hev
      obtain ⟨cs, hcs, he⟩ := hev
      cases he
      simp only [blsOk, Bool.and_eq_true, beq_iff_eq, decide_eq_true_eq] at hk
      obtain ⟨⟨rfl, hlen⟩, hk⟩ := hk
      split at hk
      · rename_i e hu
        split at hk
        · rename_i ii hii
          simp only [Bool.and_eq_true, decide_eq_true_eq] at hk
          obtain ⟨⟨⟨h1, h2⟩, h3⟩, hp⟩ := hk
          split at h3
          · rename_i zv hzv
            simp only [Bool.and_eq_true, decide_eq_true_eq, beq_iff_eq] at h3
            obtain ⟨⟨h3, h4⟩, h5⟩ := h3
            have hz0 : 0 < zv.cells.toList.length := by simp only [Array.length_toList]; omega
            have hzl : zv.cells.toList.length = ii.size := by simp only [Array.length_toList]; exact h3
            obtain ⟨hd, hg⟩ := timesOk_get (X := fun b => X0 b ∨ XS s a.tmps b) (w := w) hz0 len z h5 (by rw [h4, hzl])
            have hszr : (sizeOf e).run P w = .ok ii.size w := by simp [sizeOf, typeInfo, program, Sem.run, hii]
            have hzr : (zeroValue e).run P w = .ok zv w := by simp [zeroValue, typeInfo, program, Sem.run, hii, hzv]
            have hc0 : CellsRd (fun b => X0 b ∨ XS s a.tmps b) w ((Array.range (len * ii.size)).map fun j => zv.cells[j % zv.cells.size]!) z := by
              refine ⟨hd, by simp [h4], fun i g1 g2 => ?_⟩
              obtain ⟨u, hu1, hu2⟩ := hg i g2
              have e1 : zv.cells[i % zv.cells.size]! = u := by
                have : zv.cells[i % zv.cells.size]? = some u := by simpa using hu1
                simp [getElem!_def, this]
              simp only [Array.getElem_map, Array.getElem_range, e1]
              exact hu2
            obtain ⟨cells', e1, e2⟩ := fill_ok h (place := fun i => some (i * ii.size, ii.size)) (fun i off n hi => by
              simp only [Bool.and_eq_true, beq_iff_eq] at hi
              rw [hi.1, hi.2]) hp hc0 hcs
            have e1' : Instr.fill (fun i => some (i * ii.size, ii.size)) ((Array.range (len * ii.size)).map fun j => zv.cells[j % zv.cells.size]!) (parts.map fun p => (p.1, a.eval p.2)).toList = some cells' := by rw [Array.toList_map]; exact e1
            have hl0 : ¬ len * ii.size = 0 := by
              intro hh
              rcases Nat.mul_eq_zero.1 hh with h | h <;> omega
            have hl1 : ¬ len * ii.size > 2 ^ 24 := by omega
            simp only [rootOk, Bool.and_eq_true] at hro
            obtain ⟨d, hdst⟩ := Option.isSome_iff_exists.1 hro.2
            have hrun : (execOp a.eval o).run P w = .ok (.value (.slice (some ⟨w.heap.size, 0, none⟩) len len)) (w.alloc (.cells cells' e)) := by
              simp only [execOp, hop, Instr.buildSlice, Sem.run_bind, run_underlying hu, Result.andThen_ok, hszr, hl1, if_false, hl0, Sem.run_pure, hzr, e1', newRow, run_newObj_alloc]
            simp only [Oper.wp, hrun]
            refine hK _ _ ?_
            rw [hdst]
            refine Rel.write (ks := []) h ((Below.refl _ _).alloc (Nat.le_refl _) _) (fun u hu => absurd hu (freeB_spec hro.1 d hdst u)) (fun he => (by cases he)) (fun X g1 g2 => ?_)
            have hc' := (e2.mono (X' := X) g1).world (w' := w.alloc (.cells cells' e)) (fun b _ hb => Below.heap_alloc _ _ _ hb)
            refine .sl w.heap.size 0 len len cs (fun i => cells'.getD i Go.undef) hc'.1 (Nat.le_refl _) (fun _ hx => ?_) (fun i hi => ?_) (fun i hi => ?_)
            · exact Nat.lt_irrefl _ (h.lowX _ (g2 rfl _ hx))
            · have hi2 : i < cells'.size := by rw [hc'.2.1]; exact hi
              have hb : (w.alloc (.cells cells' e)).heap[w.heap.size]? = some (.cells cells' e) := by show (w.heap.push _)[w.heap.size]? = _; simp
              rw [cell_of_block hb]
              simp [hi2]
            · have hi2 : i < cells'.size := by rw [hc'.2.1]; exact hi
              have := hc'.2.2 i hi2 hi
              simpa [hi2] using this
          · cases h3
        · cases hk
      · cases hk
    · cases hk
  case adr x d off =>
    simp only [kOk] at hk
    split at hk
    · rename_i t x' fi hop
      simp only [Bool.and_eq_true] at hk
      obtain ⟨h1, hk⟩ := hk
      split at hk
      · rename_i fs hfs
        split at hk
        · rename_i f hf
          simp only [Bool.and_eq_true, beq_iff_eq, Bool.not_eq_true'] at hk
          obtain ⟨⟨rfl, h2⟩, h3⟩ := hk
          simp only [rootOk, Bool.and_eq_true] at hro
          obtain ⟨ii, hii⟩ := Option.isSome_iff_exists.1 h3
          have hsz : ∀ w, (sizeOf f.type).run P w = .ok ii.size w := fun w => by simp [sizeOf, typeInfo, program, Sem.run, hii]
          have hne : ¬ ii.size = 0 := by
            intro e0
            simp [sizeIs, hii, e0] at h2
          have hx' : a.eval x' = a.tmps.getD x Go.undef := by
            cases x' <;> simp only [opdOk] at h1 <;> try cases h1
            simp only [beq_iff_eq] at h1
            subst h1
            rfl
          have hrun : ∀ b o0, a.eval x' = .pointer (some ⟨b, o0, none⟩) → (execOp a.eval o).run P w = .ok (.value (.pointer (some ⟨b, o0 + f.offset, none⟩))) w := by
            intro b o0 he
            simp only [execOp, hop, Instr.fieldAt, Sem.run_bind, run_underlying hfs, Result.andThen_ok, hf, he, Instr.sureAddr, Sem.run_pure, fieldPlace, hsz, hne, if_false, addr_add]
          have h0 := h.reg x
          simp only [evK] at hev
          cases hr : rget s x with
          | box cs =>
            rw [hr] at h0 hev
            dsimp only at hev
            split at hev
            · rename_i hxd
              subst hxd
              cases hev
              obtain ⟨b, e1, _, _⟩ := h0
              have := hrun b 0 (by rw [hx', e1])
              refine wp_value this (hK _ _ ?_)
              exact Rel.putPtr (p := ⟨b, 0, none⟩) h (freeB_spec hro.1) (rootB_spec hro.2) (by rw [e1]; rfl) rfl
            · cases hev
          | ptr d' o0 =>
            rw [hr] at h0 hev
            dsimp only at hev
            split at hev
            · rename_i hxd
              subst hxd
              cases hev
              obtain ⟨_, p, e1, e2, e3⟩ := h0
              have := hrun p.block (p.off + o0) (by rw [hx', e3])
              refine wp_value this (hK _ _ ?_)
              have hp := Rel.putPtr (off := o0 + f.offset) h (freeB_spec hro.1) (rootB_spec hro.2) e1 e2
              rw [← Nat.add_assoc] at hp
              exact hp
            · cases hev
          | mem cs =>
            rw [hr] at h0 hev
            cases hev
            obtain ⟨b, o0, e1, e2, e3⟩ := h0
            have := hrun b o0 (by rw [hx', e1])
            refine wp_value this (hK _ _ ?_)
            refine Rel.putMem h (freeB_spec hro.1) (fun hne => e2 (fun hn => hne (by rw [hn]; simp))) (e3.drop _)
          | val x => rw [hr] at hev; cases hev
          | own n cs => rw [hr] at hev; cases hev
          | dup d => rw [hr] at hev; cases hev
          | dead => rw [hr] at hev; cases hev
        · cases hk
      · cases hk
    · cases hk
  case ld x d n one =>
    simp only [kOk] at hk
    split at hk
    · rename_i t x' hop
      simp only [Bool.and_eq_true] at hk
      obtain ⟨h1, h2⟩ := hk
      have hx' : a.eval x' = a.tmps.getD x Go.undef := by
        cases x' <;> simp only [opdOk] at h1 <;> try cases h1
        simp only [beq_iff_eq] at h1
        subst h1
        rfl
      have h0 := h.reg x
      have fin : ∀ (b base off : Nat) (cs : List AV) (y : AV), a.eval x' = .pointer (some ⟨b, base + off, none⟩) → MemRd (fun b => X0 b ∨ XS s a.tmps b) w b base cs → takeA cs off n one = some y →
          (∀ a' w', Rel X0 roots w0 (rput s o.dst (.val y)) a' w' → K' a' w') → o.wp P a w K' Q := by
        intro b base off cs y he hm ht hK'
        obtain ⟨v, hrun, hr⟩ := load_ok (P := P) h2 hm ht
        refine wp_value (v := v) ?_ (hK' _ _ (h.put (freeB_spec hro) hr))
        simp only [execOp, hop, Instr.loadAt, he, Instr.sureAddr, Sem.run_bind, Sem.run_pure, Result.andThen_ok, hrun]
      simp only [evK] at hev
      cases hr : rget s x with
      | box cs =>
        rw [hr] at h0 hev
        dsimp only at hev
        split at hev
        · simp only [Option.map_eq_some_iff] at hev
          obtain ⟨y, hy, he⟩ := hev
          cases he
          obtain ⟨b, e1, _, e3⟩ := h0
          exact fin b 0 0 cs y (by rw [hx', e1]) e3.mem hy hK
        · cases hev
      | ptr d' off =>
        rw [hr] at h0 hev
        dsimp only at hev
        split at hev
        · rename_i hd
          subst hd
          have h3 := h.reg d'
          cases hr2 : rget s d' with
          | box cs =>
            rw [hr2] at h3 hev
            simp only [Option.map_eq_some_iff] at hev
            obtain ⟨y, hy, he⟩ := hev
            cases he
            obtain ⟨b, e1, _, e3⟩ := h3
            obtain ⟨_, p, g1, g2, g3⟩ := h0
            rw [e1] at g1
            cases g1
            exact fin b 0 off cs y (by rw [hx', g3]) e3.mem hy hK
          | val x => rw [hr2] at hev; cases hev
          | ptr _ _ => rw [hr2] at hev; cases hev
          | mem _ => rw [hr2] at hev; cases hev
          | own n cs => rw [hr2] at hev; cases hev
          | dup d => rw [hr2] at hev; cases hev
          | dead => rw [hr2] at hev; cases hev
        · cases hev
      | mem cs =>
        rw [hr] at h0 hev
        simp only [Option.map_eq_some_iff] at hev
        obtain ⟨y, hy, he⟩ := hev
        cases he
        obtain ⟨b, off, e1, _, e3⟩ := h0
        exact fin b off 0 cs y (by simp [hx', e1]) e3 hy hK
      | val x => rw [hr] at hev; cases hev
      | own n cs => rw [hr] at hev; cases hev
      | dup d => rw [hr] at hev; cases hev
      | dead => rw [hr] at hev; cases hev
    · cases hk
  case st x d n v =>
    simp only [kOk] at hk
    split at hk
    · rename_i t x' v' hop
      simp only [Bool.and_eq_true] at hk
      obtain ⟨⟨h1, h2⟩, h3⟩ := hk
      have hx' : a.eval x' = a.tmps.getD x Go.undef := by
        cases x' <;> simp only [opdOk] at h1 <;> try cases h1
        simp only [beq_iff_eq] at h1
        subst h1
        rfl
      have hdst : o.dst = none := by simpa [rootOk] using hro
      have h0 := h.reg x
      simp only [evK] at hev
      split at hev
      · cases hev
      · rename_i va hva
        split at hev
        · cases hev
        · rename_i ys hys
          obtain ⟨hn, hc⟩ := cellsA_ok (opd_rd h h3 hva) hys
          have fin : ∀ (b off : Nat) (cs cs' : List AV), rget s d = .box cs → a.tmps.getD d Go.undef = .pointer (some ⟨b, 0, none⟩) → a.eval x' = .pointer (some ⟨b, off, none⟩) → layA cs off ys = some cs' →
              (∀ a' w', Rel X0 roots w0 (s.set d (.box cs')) a' w' → K' a' w') → o.wp P a w K' Q := by
            intro b off cs cs' hrd hvd he hl hK'
            have h4 := h.reg d
            rw [hrd] at h4
            obtain ⟨b', e1, _, e3⟩ := h4
            rw [hvd] at e1
            cases e1
            have hX : (fun b => X0 b ∨ XS s a.tmps b) b := .inr ⟨d, by rw [hrd]; rfl, by rw [hvd]; rfl⟩
            obtain ⟨w', hrun, g1, g2, g3, g4, g5, g6⟩ := store_ok (P := P) (sizeIs_spec h2) e3 hX hc hn hl
            have hrun' : (execOp a.eval o).run P w = .ok .skip w' := by
              simp only [execOp, hop, Instr.storeAt, he, Instr.sureAddr, Sem.run_bind, Sem.run_pure, Result.andThen_ok, hrun]
            simp only [Oper.wp, hrun', Oper.upon]
            rw [hdst]
            refine hK' _ _ (Rel.store h hrd hvd g1 g2 g3 g4 g5 (fun X hX => ?_))
            exact g6.mono fun c hc => .inl ((hX c).1 hc)
          rw [hdst] at hK
          cases hr : rget s x with
          | box cs =>
            rw [hr] at h0 hev
            dsimp only at hev
            split at hev
            · rename_i hxd
              subst hxd
              simp only [Option.map_eq_some_iff] at hev
              obtain ⟨cs', hl, he⟩ := hev
              cases he
              obtain ⟨b, e1, _, _⟩ := h0
              exact fin b 0 cs cs' hr e1 (by rw [hx', e1]) hl hK
            · cases hev
          | ptr d' off =>
            rw [hr] at h0 hev
            dsimp only at hev
            split at hev
            · rename_i hd
              subst hd
              have h5 := h.reg d'
              cases hr2 : rget s d' with
              | box cs =>
                rw [hr2] at h5 hev
                simp only [Option.map_eq_some_iff] at hev
                obtain ⟨cs', hl, he⟩ := hev
                cases he
                obtain ⟨b, e1, _, e3⟩ := h5
                obtain ⟨_, p, g1, g2, g3⟩ := h0
                rw [e1] at g1
                cases g1
                exact fin b off cs cs' hr2 e1 (by rw [hx', g3]; simp) hl hK
              | val x => rw [hr2] at hev; cases hev
              | ptr _ _ => rw [hr2] at hev; cases hev
              | mem _ => rw [hr2] at hev; cases hev
              | own n cs => rw [hr2] at hev; cases hev
              | dup d => rw [hr2] at hev; cases hev
              | dead => rw [hr2] at hev; cases hev
            · cases hev
          | val x => rw [hr] at hev; cases hev
          | mem _ => rw [hr] at hev; cases hev
          | own n cs => rw [hr] at hev; cases hev
          | dup d => rw [hr] at hev; cases hev
          | dead => rw [hr] at hev; cases hev
    · cases hk
  case fld x off n one =>
    simp only [kOk] at hk
    split at hk
    · rename_i t x' fi hop
      simp only [Bool.and_eq_true] at hk
      obtain ⟨h1, hk⟩ := hk
      split at hk
      · rename_i fs hfs
        split at hk
        · rename_i f hf
          simp only [Bool.and_eq_true, beq_iff_eq] at hk
          obtain ⟨rfl, h2⟩ := hk
          simp only [evK] at hev
          split at hev
          · rename_i cs hx
            simp only [Option.map_eq_some_iff] at hev
            obtain ⟨y, hy, he⟩ := hev
            cases he
            have hxr := opd_rd h h1 hx
            generalize hxv : a.eval x' = xv at hxr
            cases hxr with
            | agg vs _ hd hs hr =>
              obtain ⟨v, hrun, hr⟩ := part_ok (P := P) h2 ⟨hd, hs, hr⟩ hy
              refine wp_value (v := v) ?_ (hK _ _ (h.put (freeB_spec hro) hr))
              simp only [execOp, hop, Instr.field, Sem.run_bind, run_underlying hfs, Result.andThen_ok, hf, hxv, asAgg, Sem.run_pure, hrun]
          · cases hev
        · cases hk
      · cases hk
    · cases hk
  case ixa x i k =>
    simp only [kOk] at hk
    split at hk
    · rename_i t x' i' hop
      simp only [Bool.and_eq_true] at hk
      obtain ⟨⟨h1, h2⟩, hk⟩ := hk
      split at hk
      · rename_i e hu
        simp only [evK] at hev
        split at hev
        · rename_i ki iv hi
          have hir := opd_rd h h2 hi
          generalize hiv : a.eval i' = ivv at hir
          cases hir
          have hx' : a.eval x' = a.tmps.getD x Go.undef := by
            cases x' <;> simp only [opdOk] at h1 <;> try cases h1
            simp only [beq_iff_eq] at h1
            subst h1
            rfl
          have h0 := h.reg x
          split at hev
          · rename_i n cs hr
            rw [hr] at h0
            split at hev
            · rename_i hb
              cases hev
              rw [← hx'] at h0
              generalize hxv : a.eval x' = xv at h0
              cases h0 with
              | sl b off _ cap _ f hd hn hX hcell hrr =>
                have hmem : MemRd (fun b => X0 b ∨ XS s a.tmps b) w b off cs := ⟨hd, fun j hj => ⟨f j, hcell j hj, hrr j hj⟩⟩
                refine wp_value (v := .pointer (some ⟨b, off + iv.toNat * k, none⟩)) ?_ (hK _ _ ?_)
                · simp only [execOp, hop, Instr.indexAt, Sem.run_bind, hiv, asIntOf, Sem.run_pure, Result.andThen_ok, run_underlying hu, hxv, hb, and_self, if_true, sizeIs_spec hk, addr_add]
                · refine Rel.putMem h (freeB_spec hro) (fun hne => hX (fun hn => hne (by rw [hn]; simp))) (hmem.drop _)
            · cases hev
          · cases hev
        · cases hev
      · cases hk
    · cases hk
  case ixb x i len k =>
    simp only [kOk] at hk
    split at hk
    · rename_i t x' i' hop
      simp only [Bool.and_eq_true] at hk
      obtain ⟨⟨h1, h2⟩, hk⟩ := hk
      split at hk
      · rename_i ln e hu
        simp only [Bool.and_eq_true, beq_iff_eq] at hk
        obtain ⟨rfl, hk⟩ := hk
        simp only [evK] at hev
        split at hev
        · rename_i ki iv hi
          have hir := opd_rd h h2 hi
          generalize hiv : a.eval i' = ivv at hir
          cases hir
          have hx' : a.eval x' = a.tmps.getD x Go.undef := by
            cases x' <;> simp only [opdOk] at h1 <;> try cases h1
            simp only [beq_iff_eq] at h1
            subst h1
            rfl
          have h0 := h.reg x
          split at hev
          · rename_i cs hr
            rw [hr] at h0
            split at hev
            · rename_i hb
              cases hev
              obtain ⟨b, e1, _, e3⟩ := h0
              simp only [rootOk, Bool.and_eq_true] at hro
              have hxv : a.eval x' = .pointer (some ⟨b, 0, none⟩) := by rw [hx', e1]
              refine wp_value (v := .pointer (some ⟨b, 0 + iv.toNat * k, none⟩)) ?_ (hK _ _ ?_)
              · simp only [execOp, hop, Instr.indexAt, Sem.run_bind, hiv, asIntOf, Sem.run_pure, Result.andThen_ok, run_underlying hu, hxv, Instr.sureAddr, hb, and_self, if_true, sizeIs_spec hk, addr_add]
              · exact Rel.putPtr (p := ⟨b, 0, none⟩) h (freeB_spec hro.1) (rootB_spec hro.2) (by rw [e1]; rfl) rfl
            · cases hev
          · cases hev
        · cases hev
      · cases hk
    · cases hk
  case idx x i len n one =>
    simp only [kOk] at hk
    split at hk
    · rename_i t x' i' hop
      simp only [Bool.and_eq_true] at hk
      obtain ⟨⟨h1, h2⟩, hk⟩ := hk
      split at hk
      · rename_i ln e hu
        simp only [Bool.and_eq_true, beq_iff_eq] at hk
        obtain ⟨rfl, hk⟩ := hk
        simp only [evK] at hev
        split at hev
        · rename_i cs ki iv hx hi
          split at hev
          · rename_i hb
            simp only [Option.map_eq_some_iff] at hev
            obtain ⟨y, hy, he⟩ := hev
            cases he
            have hir := opd_rd h h2 hi
            generalize hiv : a.eval i' = ivv at hir
            cases hir
            have hxr := opd_rd h h1 hx
            generalize hxv : a.eval x' = xv at hxr
            cases hxr with
            | agg vs _ hd hs hr =>
              obtain ⟨v, hrun, hr⟩ := part_ok (P := P) hk ⟨hd, hs, hr⟩ hy
              refine wp_value (v := v) ?_ (hK _ _ (h.put (freeB_spec hro) hr))
              simp only [execOp, hop, Instr.index, Sem.run_bind, hiv, asIntOf, Sem.run_pure, Result.andThen_ok, run_underlying hu, hxv, hb, and_self, if_true, (oneOk_spec hk).2, hrun]
          · cases hev
        · cases hev
      · cases hk
    · cases hk
  case six x i =>
    simp only [kOk] at hk
    split at hk
    · rename_i t x' i' hop
      simp only [Bool.and_eq_true] at hk
      obtain ⟨⟨h1, h2⟩, hk⟩ := hk
      split at hk
      · rename_i hu
        simp only [evK] at hev
        split at hev
        · rename_i bs ki iv hx hi
          simp only [Option.map_eq_some_iff] at hev
          obtain ⟨c, hc, he⟩ := hev
          cases he
          have hir := opd_rd h h2 hi
          generalize hiv : a.eval i' = ivv at hir
          cases hir
          have hxr := opd_rd h h1 hx
          generalize hxv : a.eval x' = xv at hxr
          cases hxr
          refine wp_value (v := .int .u8 c.toNat) ?_ (hK _ _ (h.put (freeB_spec hro) (.int _ _)))
          simp only [execOp, hop, Instr.index, Sem.run_bind, hiv, asIntOf, Sem.run_pure, Result.andThen_ok, run_underlying hu, hxv, hc]
        · cases hev
      · cases hk
    · cases hk
  case ext x i =>
    simp only [kOk] at hk
    split at hk
    · rename_i x' i' hop
      simp only [Bool.and_eq_true, beq_iff_eq] at hk
      obtain ⟨h1, rfl⟩ := hk
      simp only [evK] at hev
      split at hev
      · rename_i vs hx
        simp only [Option.map_eq_some_iff] at hev
        obtain ⟨y, hy, he⟩ := hev
        cases he
        have hxr := opd_rd h h1 hx
        generalize hxv : a.eval x' = xv at hxr
        cases hxr with
        | tup us _ hs hr =>
          obtain ⟨hlt, hyy⟩ := List.getElem?_eq_some_iff.1 hy
          have hlt2 : i' < us.size := by omega
          refine wp_value (v := us[i']) ?_ (hK _ _ (h.put (freeB_spec hro) (hyy ▸ hr i' hlt2 hlt)))
          simp only [execOp, hop, Instr.extract, hxv, Array.getElem?_eq_getElem hlt2, Sem.run_bind, Sem.run_pure, Result.andThen_ok]
      · cases hev
    · cases hk
  case len x =>
    simp only [kOk] at hk
    split at hk
    · rename_i args ts hop
      unfold lenOk at hk
      split at hk
      · rename_i x' t hargs hts
        simp only [Bool.and_eq_true] at hk
        obtain ⟨h1, h2⟩ := hk
        have e1 : args = #[x'] := by rw [← Array.toArray_toList (xs := args), hargs]
        have e2 : ts = #[t] := by rw [← Array.toArray_toList (xs := ts), hts]
        subst e1 e2
        split at h2
        · rename_i e hu
          simp only [evK] at hev
          have fin : ∀ (base : Option Addr) (n c : Nat), a.eval x' = .slice base n c → (∀ a' w', Rel X0 roots w0 (rput s o.dst (.val (.int .i64 n))) a' w' → K' a' w') → o.wp P a w K' Q := by
            intro base n c he hK'
            refine wp_value (v := .int .i64 n) ?_ (hK' _ _ (h.put (freeB_spec hro) (.int _ _)))
            simp [execOp, hop, resolve, invoke, builtin, Builtin.len_, he, run_underlying hu, goInt]
          split at hev
          · rename_i hx
            cases hev
            have hxr := opd_rd h h1 hx
            generalize hxv : a.eval x' = xv at hxr
            cases hxr
            exact fin _ _ _ hxv hK
          · rename_i n cs hx
            cases hev
            have hxr := opd_rd h h1 hx
            generalize hxv : a.eval x' = xv at hxr
            cases hxr
            exact fin _ _ _ hxv hK
          · cases hev
        · cases h2
      · cases hk
    · cases hk
  case mx xs =>
    simp only [kOk] at hk
    split at hk
    · rename_i args ts hop
      simp only [evK] at hev
      split at hev
      · rename_i k n l hx
        simp only [Option.map_eq_some_iff] at hev
        obtain ⟨m, hm, he⟩ := hev
        cases he
        obtain ⟨e1, e2⟩ := opds_rd h hk hx
        cases hal : args.toList with
        | nil => rw [hal] at e1; simp at e1
        | cons x0 rest =>
          have e1' : rest.length = l.length := by rw [hal] at e1; simpa using e1
          have h0 := e2 0 (by rw [hal]; simp) (by simp)
          simp only [hal, List.getElem_cons_zero] at h0
          generalize hxv : a.eval x0 = xv at h0
          cases h0
          have hfold := maxA_ok (P := P) (X := fun b => X0 b ∨ XS s a.tmps b) (w := w) (vs := rest.map a.eval) (l := l) (by simpa using e1') (fun i g1 g2 => by
            have := e2 (i + 1) (by rw [hal]; simp at g1 ⊢; omega) (by simp; omega)
            simpa [hal] using this) hm
          refine wp_value (v := .int k m) ?_ (hK _ _ (h.put (freeB_spec hro) (.int _ _)))
          have hmap : (args.map a.eval).toList = .int k n :: rest.map a.eval := by rw [Array.toList_map, hal, List.map_cons, hxv]
          simp only [execOp, hop, resolve, invoke, builtin, Builtin.max_, Sem.run_bind, Sem.run_pure, Result.andThen_ok, hmap, hfold]
      · cases hev
    · cases hk
  case mn xs =>
    simp only [kOk] at hk
    split at hk
    · rename_i args ts hop
      simp only [evK] at hev
      split at hev
      · rename_i k n l hx
        simp only [Option.map_eq_some_iff] at hev
        obtain ⟨m, hm, he⟩ := hev
        cases he
        obtain ⟨e1, e2⟩ := opds_rd h hk hx
        cases hal : args.toList with
        | nil => rw [hal] at e1; simp at e1
        | cons x0 rest =>
          have e1' : rest.length = l.length := by rw [hal] at e1; simpa using e1
          have h0 := e2 0 (by rw [hal]; simp) (by simp)
          simp only [hal, List.getElem_cons_zero] at h0
          generalize hxv : a.eval x0 = xv at h0
          cases h0
          have hfold := minA_ok (P := P) (X := fun b => X0 b ∨ XS s a.tmps b) (w := w) (vs := rest.map a.eval) (l := l) (by simpa using e1') (fun i g1 g2 => by
            have := e2 (i + 1) (by rw [hal]; simp at g1 ⊢; omega) (by simp; omega)
            simpa [hal] using this) hm
          refine wp_value (v := .int k m) ?_ (hK _ _ (h.put (freeB_spec hro) (.int _ _)))
          have hmap : (args.map a.eval).toList = .int k n :: rest.map a.eval := by rw [Array.toList_map, hal, List.map_cons, hxv]
          simp only [execOp, hop, resolve, invoke, builtin, Builtin.min_, Sem.run_bind, Sem.run_pure, Result.andThen_ok, hmap, hfold]
      · cases hev
    · cases hk
  case call f xs =>
    simp only [kOk] at hk
    split at hk
    · rename_i f' args ts hop
      simp only [Bool.and_eq_true, beq_iff_eq] at hk
      obtain ⟨⟨rfl, h1⟩, h2⟩ := hk
      simp only [evK] at hev
      split at hev
      · rename_i vs hx
        simp only [Option.map_eq_some_iff] at hev
        obtain ⟨y, hy, he⟩ := hev
        cases he
        obtain ⟨e1, e2⟩ := opds_rd h h1 hx
        split at h2
        · rename_i fn hfn
          simp only [Bool.and_eq_true, Bool.not_eq_true'] at h2
          obtain ⟨hbody, hname⟩ := h2
          have hbn : ¬ fn.body = none := by intro e0; rw [e0] at hbody; cases hbody
          have hnm : ¬ fn.name = "runtime.NumGoroutine" := by simpa using hname
          have hrun : (execOp a.eval o).run P w = .ok (.enter f' (args.map a.eval)) w := by
            simp [execOp, hop, resolve, Deferred.ofValue, Act.eval, invoke, callFunc, program, Sem.run, hfn, hnm, hbn]
          have hcall := hF f' vs y hy (fun b => X0 b ∨ XS s a.tmps b) w (args.map a.eval) h.lowX (by simpa using e1) (fun i g1 g2 => by
            have := e2 i (by simpa using g1) g2
            simpa using this)
          simp only [Oper.wp, hrun, Oper.upon]
          refine hcall.mono fun e w' ⟨v, he, hb, hr⟩ => ?_
          subst he
          refine hK _ _ ?_
          cases hdst : o.dst with
          | none =>
            refine ⟨h.dfr, h.size, h.below.trans (hb.mono h.below.size), h.low, fun t => ?_, h.inj⟩
            exact RegOk.world (h.reg t) hb
          | some d =>
            refine Rel.write (ks := []) h hb (fun u hu => absurd hu (freeB_spec hro d hdst u)) (fun he => (by cases he)) (fun X _ g2 => ?_)
            exact hr.mono fun b hb => .inl (g2 rfl b hb)
        · cases h2
      · cases hev
    · cases hk

end
end Go.Ai
