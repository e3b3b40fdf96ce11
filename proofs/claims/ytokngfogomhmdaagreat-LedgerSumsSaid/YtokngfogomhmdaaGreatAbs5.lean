/- Stores, built structs, compared structs. -/
import Derived.Test.YtokngfogomhmdaaGreatAbs4
namespace Go.Ai
open Go.RowKit

theorem setRow_other (w : World) (b c : Nat) (cs : Array Value) (h : c ≠ b) : (w.setRow b cs).heap[c]? = w.heap[c]? := by
  simp only [World.setRow, Array.getElem?_modify]
  rw [if_neg (Ne.symm h)]

theorem setRow_size (w : World) (b : Nat) (cs : Array Value) : (w.setRow b cs).heap.size = w.heap.size := by
  simp [World.setRow]

theorem store_ok {P : Program} {Y X : Nat → Prop} {w : World} {t : TypeId} {n b off : Nat} {cs ys cs' : List AV} {v : Value} (hsz : ∀ w, (sizeOf t).run P w = .ok n w)
    (hb : BlockRd Y X w b 0 cs) (hX : X b) (hv : CellsRd Y X w v.cells ys) (hn : ys.length = n) (hl : layA cs off ys = some cs') :
    ∃ w', (storeVar t ⟨b, off, none⟩ v).run P w = .ok () w' ∧ w'.os = w.os ∧ w'.tape = w.tape ∧ w'.output = w.output ∧ w'.heap.size = w.heap.size ∧ (∀ c, c ≠ b → w'.heap[c]? = w.heap[c]?) ∧ BlockRd Y X w' b 0 cs' ∧ ∀ m, Room w b m → Room w' b m := by
  obtain ⟨hdat, vs, T, hblk, hle, hcell⟩ := hb
  obtain ⟨hl1, hl2, hl3⟩ := layA_ok hl
  have hvs : v.cells.size = n := by rw [hv.2.1, hn]
  have hrun := run_storeCells_at (P := P) b off T v.cells.toList 0 vs w hblk (by simp only [Array.length_toList]; omega) hv.oneCell
  simp only [Nat.add_zero, Array.length_toList, Nat.zero_add] at hrun hle hcell
  refine ⟨w.setRow b (List.take off vs.toList ++ v.cells.toList ++ List.drop (off + v.cells.size) vs.toList).toArray, ?_, rfl, rfl, rfl, setRow_size _ _ _, fun c hc => setRow_other _ _ _ _ hc, ⟨layA_dat hl hdat hv.1, _, T, setRow_heap w b vs _ T (0, 0) hblk, ?_, ?_⟩, ?_⟩
  · simp only [storeVar, Sem.run_bind, hsz, Result.andThen_ok, hvs, ne_eq, not_true_eq_false, if_false]
    rw [hvs] at hrun
    exact hrun
  · simp only [List.size_toArray, List.length_append, List.length_take, List.length_drop, Array.length_toList, Nat.zero_add]
    omega
  · have hw : ∀ c, ¬ X c → c < w.heap.size → (w.setRow b (List.take off vs.toList ++ v.cells.toList ++ List.drop (off + v.cells.size) vs.toList).toArray).heap[c]? = w.heap[c]? := fun c hc _ => setRow_other _ _ _ _ (fun e => hc (e ▸ hX))
    intro i hi
    have hg : cs'[i]? = some cs'[i] := List.getElem?_eq_getElem hi
    have e1 := getElem?_lay cs ys off i hl1
    rw [← hl3, hg] at e1
    have hvl : v.cells.toList.length = ys.length := by simp only [Array.length_toList]; omega
    have ht : (vs.toList.take off).length = off := by simp; omega
    simp only [Nat.zero_add, List.getElem?_toArray]
    by_cases h1 : i < off
    · rw [if_pos h1] at e1
      obtain ⟨u, hu, hr⟩ := hcell i (by omega)
      refine ⟨u, ?_, ?_⟩
      · rw [List.append_assoc, List.getElem?_append_left (by omega), List.getElem?_take_of_lt h1]
        simpa using hu
      · have : cs[i] = cs'[i] := by rw [List.getElem?_eq_getElem (by omega)] at e1; exact (Option.some.inj e1).symm
        rw [← this]; exact hr.world hw
    · rw [if_neg h1] at e1
      by_cases h2 : i < off + ys.length
      · rw [if_pos h2] at e1
        obtain ⟨u, hu, hr⟩ := hv.get e1.symm
        refine ⟨u, ?_, hr.world hw⟩
        rw [List.getElem?_append_left (by simp only [List.length_append]; omega), List.getElem?_append_right (by omega), ht]
        simpa using hu
      · rw [if_neg h2] at e1
        obtain ⟨u, hu, hr⟩ := hcell i (by omega)
        refine ⟨u, ?_, ?_⟩
        · rw [List.getElem?_append_right (by simp only [List.length_append]; omega), List.getElem?_drop]
          have e2 : off + v.cells.size + (i - (vs.toList.take off ++ v.cells.toList).length) = i := by simp only [List.length_append, ht, hvl]; omega
          rw [e2]
          simpa using hu
        · have : cs[i] = cs'[i] := by rw [List.getElem?_eq_getElem (by omega)] at e1; exact (Option.some.inj e1).symm
          rw [← this]; exact hr.world hw
  · rintro m ⟨vs', T', r1, r2⟩
    rw [hblk] at r1
    cases r1
    refine ⟨_, T, setRow_heap w b vs _ T (0, 0) hblk, ?_⟩
    simp only [List.size_toArray, List.length_append, List.length_take, List.length_drop, Array.length_toList]
    omega

/-! ### Built structs and arrays -/

theorem foldl_lay (off : Nat) : ∀ (l : List Value) (k : Nat) (cells : Array Value) (i : Nat),
    ((l.zipIdx k).foldl (fun (cs : Array Value) (p : Value × Nat) => cs.setIfInBounds (off + p.2) p.1) cells)[i]? =
      if off + k ≤ i ∧ i < off + k + l.length ∧ i < cells.size then l[i - (off + k)]? else cells[i]? := by
  intro l
  induction l with
  | nil => intro k cells i; simp; intro h1 h2; omega
  | cons v l ih =>
    intro k cells i
    simp only [List.zipIdx_cons, List.foldl_cons]
    rw [ih]
    simp only [Array.size_setIfInBounds, Array.getElem?_setIfInBounds, List.length_cons]
    by_cases h0 : i = off + k
    · subst h0
      by_cases hs : off + k < cells.size
      · rw [if_neg (by omega), if_pos (by omega), if_pos hs, if_pos (by omega)]; simp
      · rw [if_neg (by omega), if_pos (by omega), if_neg hs, if_neg (by omega), Array.getElem?_eq_none (by omega)]
    · by_cases h1 : off + (k + 1) ≤ i ∧ i < off + (k + 1) + l.length ∧ i < cells.size
      · rw [if_pos h1, if_pos (by omega)]
        have : i - (off + k) = (i - (off + (k + 1))) + 1 := by omega
        rw [this, List.getElem?_cons_succ]
      · rw [if_neg h1, if_neg (by omega), if_neg (by omega)]

theorem fold_size (off : Nat) : ∀ (l : List (Value × Nat)) (cells : Array Value), (l.foldl (fun (cs : Array Value) (p : Value × Nat) => cs.setIfInBounds (off + p.2) p.1) cells).size = cells.size := by
  intro l
  induction l with
  | nil => intro cells; rfl
  | cons p l ih => intro cells; simp only [List.foldl_cons]; rw [ih]; simp

/-- Cells of a part laid over the cells of the whole. -/
theorem lay_cells {Y X : Nat → Prop} {w : World} {cells ys' : Array Value} {cs ys cs' : List AV} {off : Nat} (hc : CellsRd Y X w cells cs) (hy : CellsRd Y X w ys' ys) (hl : layA cs off ys = some cs') :
    CellsRd Y X w (ys'.zipIdx.foldl (fun (cs : Array Value) (p : Value × Nat) => cs.setIfInBounds (off + p.2) p.1) cells) cs' := by
  obtain ⟨hl1, hl2, hl3⟩ := layA_ok hl
  have he : ys'.zipIdx.foldl (fun (cs : Array Value) (p : Value × Nat) => cs.setIfInBounds (off + p.2) p.1) cells = (ys'.toList.zipIdx 0).foldl (fun (cs : Array Value) (p : Value × Nat) => cs.setIfInBounds (off + p.2) p.1) cells := by
    rw [← Array.foldl_toList, Array.toList_zipIdx]
  rw [he]
  have hsz := fold_size off (ys'.toList.zipIdx 0) cells
  refine ⟨layA_dat hl hc.1 hy.1, by rw [hsz, hl2]; exact hc.2.1, ?_⟩
  intro i h1 h2
  have hg := foldl_lay off ys'.toList 0 cells i
  have e1 := getElem?_lay cs ys off i hl1
  rw [← hl3, List.getElem?_eq_getElem h2] at e1
  rw [Array.getElem?_eq_getElem h1] at hg
  have hcs := hc.2.1
  have hys := hy.2.1
  have hin : i < cells.size := by omega
  simp only [Nat.add_zero, Array.length_toList] at hg
  by_cases h3 : off ≤ i ∧ i < off + ys'.size
  · rw [if_pos ⟨h3.1, h3.2, hin⟩] at hg
    rw [if_neg (by omega), if_pos (by omega)] at e1
    obtain ⟨u, hu, hr⟩ := hy.get e1.symm
    simp only [Array.getElem?_toList, hu, Option.some.injEq] at hg
    rw [hg]; exact hr
  · rw [if_neg (by omega)] at hg
    have e2 : cs[i]? = some cs'[i] := by
      by_cases h4 : i < off
      · rw [if_pos h4] at e1; exact e1.symm
      · rw [if_neg h4, if_neg (by omega)] at e1; exact e1.symm
    obtain ⟨u, hu, hr⟩ := hc.get e2
    rw [hu] at hg
    rw [Option.some.inj hg]; exact hr

/-! ### Compared structs -/

/-- Fields of numbers alone, one cell each, one behind the other. -/
def intFields (P : Program) : Nat → List Field → Bool
  | _, [] => true
  | i, f :: fs => f.name != "_" && f.offset == i && (match P.underlying f.type with | some (.int _) => true | _ => false) && intFields P (i + 1) fs

def eqOk (P : Program) (t : TypeId) (n : Nat) : Bool :=
  match P.underlying t with
  | some (.struct fs) => !P.stoodInHeld t && !P.eqGuardType P.depth t && intFields P 0 fs.toList && fs.size == n
  | _ => false

theorem eqFields_ok {P : Program} {Y X : Nat → Prop} {w : World} {xs ys : Array Value} (d : Nat) : ∀ (fs : List Field) (i : Nat) (as bs : List AV) (r : Bool), intFields P i fs = true → eqCells as bs = some r →
    as.length = fs.length → (∀ (j : Nat) (h : j < as.length), ∃ v, xs[i + j]? = some v ∧ Rd Y X w v as[j]) → (∀ (j : Nat) (h : j < bs.length), ∃ v, ys[i + j]? = some v ∧ Rd Y X w v bs[j]) →
    (Op.eqFields (d + 1) xs ys fs).run P w = .ok r w := by
  intro fs
  induction fs with
  | nil =>
    intro i as bs r _ he hl _ _
    have : as = [] := List.eq_nil_of_length_eq_zero hl
    subst this
    cases bs with
    | nil => simp only [eqCells, Option.some.injEq] at he; subst he; rfl
    | cons b bs => simp [eqCells] at he
  | cons f fs ih =>
    intro i as bs r hf he hl hx hy
    simp only [intFields, Bool.and_eq_true, bne_iff_ne, ne_eq, beq_iff_eq] at hf
    obtain ⟨⟨⟨h1, h2⟩, h3⟩, h4⟩ := hf
    cases as with
    | nil => simp at hl
    | cons a as =>
      cases a with
      | int k m =>
        cases bs with
        | nil => simp [eqCells] at he
        | cons b bs =>
          cases b with
          | int k' m' =>
            simp only [eqCells] at he
            split at he
            · rename_i hk
              subst hk
              simp only [Option.map_eq_some_iff] at he
              obtain ⟨r', he, hrr⟩ := he
              obtain ⟨u, hu, hru⟩ := hx 0 (by simp)
              obtain ⟨u', hu', hru'⟩ := hy 0 (by simp)
              simp only [Nat.add_zero, List.getElem_cons_zero] at hu hru hu' hru'
              cases hru
              cases hru'
              split at h3
              · rename_i kk hkk
                have hagg : ∀ w, (isAgg f.type).run P w = .ok false w := fun w => by
                  simp [isAgg, run_underlying hkk]
                simp only [Op.eqFields, h1, ne_eq, not_false_eq_true, if_true, Sem.run_bind, part, hagg, Result.andThen_ok, Bool.false_eq_true, if_false, h2, hu, hu', Sem.run_pure, run_equalIn_int w d f.type k kk m m' hkk]
                by_cases hm : (m == m') = true
                · simp only [hm, Bool.true_and] at hrr ⊢
                  simp only [Bool.not_true, Bool.false_eq_true, if_false]
                  subst hrr
                  refine ih (i + 1) as bs r' h4 he (by simpa using hl) (fun j hj => ?_) (fun j hj => ?_)
                  · have := hx (j + 1) (by simp; omega)
                    simpa [Nat.add_assoc, Nat.add_comm 1 j] using this
                  · have := hy (j + 1) (by simp; omega)
                    simpa [Nat.add_assoc, Nat.add_comm 1 j] using this
                · have hm' : (m == m') = false := by simpa using hm
                  simp only [hm', Bool.false_and] at hrr
                  subst hrr
                  simp [hm']
              · cases h3
            · cases he
          | bool _ => simp [eqCells] at he
          | str _ => simp [eqCells] at he
          | agg _ => simp [eqCells] at he
          | nil => simp [eqCells] at he
          | sl _ _ => simp [eqCells] at he
          | tup _ => simp [eqCells] at he
          | undef => simp [eqCells] at he
          | fresh _ _ _ => simp [eqCells] at he
          | frs _ _ _ _ => simp [eqCells] at he
          | pt _ => simp [eqCells] at he
          | fnc _ _ => simp [eqCells] at he
      | bool _ => cases bs <;> simp [eqCells] at he
      | str _ => cases bs <;> simp [eqCells] at he
      | agg _ => cases bs <;> simp [eqCells] at he
      | nil => cases bs <;> simp [eqCells] at he
      | sl _ _ => cases bs <;> simp [eqCells] at he
      | tup _ => cases bs <;> simp [eqCells] at he
      | undef => cases bs <;> simp [eqCells] at he
      | fresh _ _ _ => cases bs <;> simp [eqCells] at he
      | frs _ _ _ _ => cases bs <;> simp [eqCells] at he
      | pt _ => cases bs <;> simp [eqCells] at he
      | fnc _ _ => cases bs <;> simp [eqCells] at he

theorem eqv_ok {P : Program} {Y X : Nat → Prop} {w : World} {t : TypeId} {n : Nat} {u v : Value} {as bs : List AV} {r : Bool} (hok : eqOk P t n = true) (hu : Rd Y X w u (.agg as)) (hv : Rd Y X w v (.agg bs))
    (hn : as.length = n) (he : eqCells as bs = some r) (x y : Operand) :
    ∃ xs ys, u = .agg xs ∧ v = .agg ys ∧ (Op.equal t u v).run P w = .ok r w ∧ ∀ op, (eqGuard op t x y u v).run P w = .ok () w := by
  cases hu with
  | agg xs _ hd hs hr =>
    cases hv with
    | agg ys _ hd' hs' hr' =>
      unfold eqOk at hok
      split at hok
      · rename_i fs hfs
        simp only [Bool.and_eq_true, Bool.not_eq_true', beq_iff_eq] at hok
        obtain ⟨⟨⟨h1, h2⟩, h3⟩, h4⟩ := hok
        have hfo : P.fieldsOf t = fs := by simp [Program.fieldsOf, hfs]
        refine ⟨xs, ys, rfl, rfl, ?_, fun op => run_eqGuard_agg w op t x y xs ys h2⟩
        show (Op.equalIn (9999 + 1) t (.agg xs) (.agg ys)).run P w = _
        rw [run_equalIn_struct w 9999 t xs ys (by rw [hfo]; exact hfs) h1, hfo]
        refine eqFields_ok (Y := Y) (X := X) 9998 fs.toList 0 as bs r h3 he (by simp only [Array.length_toList]; omega) (fun j hj => ?_) (fun j hj => ?_)
        · exact ⟨xs[j]'(by omega), by rw [Nat.zero_add, Array.getElem?_eq_getElem], hr j (by omega) hj⟩
        · exact ⟨ys[j]'(by omega), by rw [Nat.zero_add, Array.getElem?_eq_getElem], hr' j (by omega) hj⟩
      · cases hok

end Go.Ai
