/- What the model does at make, append and slice expressions, in the abstract machine's words. -/
import Derived.Test.YtokngfogomhmdaaGreatAbs8
import Derived.ArgAppend
import Derived.Laws.MakeOwn
import Derived.Laws.Slices
import Derived.Laws.Cover3
namespace Go.Ai
open Go.RowKit

section
variable {P : Program} {Y X : Nat → Prop} {w : World}

theorem elemOk_spec {t : TypeId} {k : Nat} (h : elemOk P t k = true) : ∃ e i zv, P.underlying t = some (.slice e) ∧ P.info? e = some i ∧ i.size = k ∧ 0 < k ∧ i.bytes ≤ 1048576 ∧ i.zero = some zv ∧ zv.cells.size = k := by
  unfold elemOk at h
  split at h
  · rename_i e hu
    split at h
    · rename_i i hi
      simp only [Bool.and_eq_true, beq_iff_eq, decide_eq_true_eq] at h
      obtain ⟨⟨⟨h1, h2⟩, h3⟩, h4⟩ := h
      split at h4
      · rename_i zv hz
        simp only [beq_iff_eq] at h4
        exact ⟨e, i, zv, hu, hi, h1, by omega, h3, hz, by omega⟩
      · cases h4
    · cases h
  · cases h

theorem isSliceT_spec {t : TypeId} (h : isSliceT P t = true) : ∃ e, P.underlying t = some (.slice e) := by
  unfold isSliceT at h
  split at h
  · rename_i e hu; exact ⟨e, hu⟩
  · cases h

theorem replA_length (z : List AV) (n : Nat) : (replA z n).length = n * z.length := by
  induction n with
  | zero => simp [replA]
  | succ n ih => simp only [replA, List.length_append, ih, Nat.succ_mul]; omega

theorem replA_get (z : List AV) (n : Nat) : ∀ i, i < n * z.length → (replA z n)[i]? = z[i % z.length]? := by
  induction n with
  | zero => intro i h; omega
  | succ n ih =>
    intro i h
    rw [Nat.succ_mul] at h
    simp only [replA]
    by_cases hi : i < z.length
    · rw [List.getElem?_append_left hi, Nat.mod_eq_of_lt hi]
    · rw [List.getElem?_append_right (by omega), ih _ (by omega)]
      congr 1
      exact (Nat.mod_eq_sub_mod (by omega)).symm

theorem replA_mem (z : List AV) (n : Nat) : ∀ x ∈ replA z n, x ∈ z := by
  induction n with
  | zero => intro x h; cases h
  | succ n ih =>
    intro x h
    simp only [replA, List.mem_append] at h
    exact h.elim id (ih x)

theorem make_ok {t : TypeId} {z : List AV} {kl kc : IntKind} {m : Int} (he : elemOk P t z.length = true) (hz : zeroIs P t z = true) (h0 : 0 ≤ m) (h1 : m ≤ 1048576) :
    ∃ e cells, (Instr.makeSlice t (.int kl m) (.int kc m)).run P w = .ok (.slice (some ⟨w.heap.size, 0, none⟩) m.toNat m.toNat) (w.alloc (.cells cells e)) ∧ CellsRd Y X w cells (replA z m.toNat) := by
  obtain ⟨e, i, zv, hu, hi, hs, hk, hb, hzv, hzs⟩ := elemOk_spec he
  unfold zeroIs at hz
  rw [hu] at hz
  dsimp only at hz
  unfold zeroOk at hz
  rw [hi] at hz
  dsimp only at hz
  rw [hzv] at hz
  dsimp only at hz
  have hc : CellsRd Y X w zv.cells z := by
    have := constsOk_rd (Y := Y) (X := X) (w := w) hz
    simpa using this
  have hbb : (i.bytes : Int) * m ≤ 281474976710656 := by
    have a1 : (i.bytes : Int) * m ≤ 1048576 * m := Int.mul_le_mul_of_nonneg_right (by omega) h0
    omega
  have hr := run_make (P := P) w t e i zv hu hi hzv kl kc m m h0 (Int.le_refl _) hbb (by omega)
  refine ⟨e, _, hr, fun x hx => hc.1 x (replA_mem z _ x hx), ?_, fun j g1 g2 => ?_⟩
  · rw [size_madeCells, replA_length, hs]
  · have hj : j < m.toNat * z.length := by rw [← replA_length]; exact g2
    have e1 := replA_get z m.toNat j hj
    rw [List.getElem?_eq_getElem g2] at e1
    obtain ⟨v, hv, hrv⟩ := hc.get e1.symm
    have : (madeCells zv.cells (m.toNat * i.size))[j]'g1 = v := by
      have hv' : zv.cells[j % zv.cells.size]? = some v := by rw [hzs]; exact hv
      simp [madeCells, getElem!_def, hv']
    rw [this]; exact hrv

/-- The values of n cells from a place on. -/
def cellsAt (w : World) (b off n : Nat) : List Value := (List.range n).map fun i => (w.cell? ⟨b, off + i, none⟩).getD Go.undef

theorem cellsAt_ok {b off : Nat} {cs : List AV} (h : MemRd Y X w b off cs) :
    (cellsAt w b off cs.length).length = cs.length ∧ (∀ j u, (cellsAt w b off cs.length)[j]? = some u → w.cell? ((⟨b, off, none⟩ : Addr).add j) = some u) ∧
    (∀ (i : Nat) (h : i < cs.length), ∃ u, (cellsAt w b off cs.length)[i]? = some u ∧ Rd Y X w u cs[i]) ∧ ∀ u ∈ cellsAt w b off cs.length, u.oneCell' = true := by
  obtain ⟨hd, hm⟩ := h
  have hg : ∀ (i : Nat) (h : i < cs.length), ∃ u, (cellsAt w b off cs.length)[i]? = some u ∧ w.cell? ⟨b, off + i, none⟩ = some u ∧ Rd Y X w u cs[i] := by
    intro i hi
    obtain ⟨v, h1, h2⟩ := hm i hi
    exact ⟨v, by simp [cellsAt, hi, h1], h1, h2⟩
  have hl : (cellsAt w b off cs.length).length = cs.length := by simp [cellsAt]
  refine ⟨hl, fun j u hu => ?_, fun i hi => ?_, fun u hu => ?_⟩
  · have hj : j < cs.length := by
      have := (List.getElem?_eq_some_iff.1 hu).1
      omega
    obtain ⟨v, h1, h2, _⟩ := hg j hj
    rw [hu] at h1
    cases h1
    rw [addr_add]; exact h2
  · obtain ⟨v, h1, _, h3⟩ := hg i hi
    exact ⟨v, h1, h3⟩
  · obtain ⟨j, hj, rfl⟩ := List.getElem_of_mem hu
    obtain ⟨v, h1, _, h3⟩ := hg j (by omega)
    rw [List.getElem?_eq_getElem hj] at h1
    cases h1
    exact (isData_oneCell h3 (hd _ (List.getElem_mem _))).1

theorem append_types {t t' ty e e' : TypeId} {i : TypeInfo} {args : Array Value} (h : P.underlying t = some (.slice e)) (hi : P.info? e = some i) (h' : P.underlying t' = some (.slice e')) :
    (Builtin.append_ #[t, t'] ty args).run P w = (Builtin.append_ #[t, t] ty args).run P w := by
  have hsz : (sizeOf e).run P w = .ok i.size w := by simp [sizeOf, typeInfo, program, Sem.run, hi]
  simp only [Builtin.append_, List.getElem?_toArray, List.getElem?_cons_zero, List.getElem?_cons_succ]
  cases h0 : args[0]? with
  | none => rfl
  | some s =>
    cases h1 : args[1]? with
    | none => rfl
    | some x =>
      simp only [Sem.run_bind, run_underlying h, Result.andThen_ok]
      cases s <;> try rfl
      simp only [Sem.run_bind, hsz, run_underlying h, run_underlying h', Result.andThen_ok, Sem.run_pure]

theorem rd_sl_inv {y : Value} {m : Nat} {ys : List AV} (h : Rd Y X w y (.sl m ys)) : (m = 0 ∧ ys = [] ∧ (y = .slice none 0 0 ∨ ∃ p c, y = .slice (some p) 0 c)) ∨ ∃ b off cap, y = .slice (some ⟨b, off, none⟩) m cap ∧ MemRd Y X w b off ys ∧ m ≤ cap ∧ (ys ≠ [] → ¬ X b) := by
  cases h with
  | nil0 => exact .inl ⟨rfl, rfl, .inl rfl⟩
  | e0 a c => exact .inl ⟨rfl, rfl, .inr ⟨a, c, rfl⟩⟩
  | sl b off _ cap _ f hd hn hX hY hcell hr => exact .inr ⟨b, off, cap, rfl, ⟨hd, fun i hi => ⟨f i, hcell i hi, hr i hi⟩⟩, hn, hX⟩

/-- What append reads: a slice that owns nothing here, or a part of one that does. -/
def SlR (Y X : Nat → Prop) (w : World) (y : Value) (m : Nat) (ys : List AV) : Prop := (m = 0 ∧ ys = [] ∧ (y = .slice none 0 0 ∨ ∃ p c, y = .slice (some p) 0 c)) ∨ ∃ b off cap, y = .slice (some ⟨b, off, none⟩) m cap ∧ MemRd Y X w b off ys ∧ m ≤ cap
theorem slr_of {y : Value} {m : Nat} {ys : List AV} (h : Rd Y X w y (.sl m ys)) : SlR Y X w y m ys := by
  rcases rd_sl_inv h with h | ⟨b, off, cap, h1, h2, h3, _⟩
  · exact .inl h
  · exact .inr ⟨b, off, cap, h1, h2, h3⟩
/-- The row that append has made. -/
theorem own_of_row {w' : World} {e : TypeId} {k n : Nat} {v : Value} {xs : List Value} {cs : List AV} (hown : w'.ownsRow w.heap.size e k v n xs) (hn : 0 < n) (hd : Dat cs) (hl : cs.length = n * k) (hx : xs.length = cs.length)
    (hr : ∀ (i : Nat) (h : i < cs.length), ∃ u, xs[i]? = some u ∧ Rd Y X w' u cs[i]) : OwnRd Y X (From w.heap.size) w' v k n cs := by
  obtain ⟨_, h | ⟨g, cap, cur, rfl, hg, hh, hnc, _, hcs, htake⟩⟩ := hown
  · omega
  · have hle : n * k ≤ cap * k := Nat.mul_le_mul_right _ hnc
    refine .inr ⟨g, cap, rfl, hnc, hl, hg, ⟨hd, cur, e, hh, by omega, fun i hi => ?_⟩, cur, e, hh, by omega⟩
    obtain ⟨u, h1, h2⟩ := hr i hi
    refine ⟨u, ?_, h2⟩
    rw [← htake, List.getElem?_take_of_lt (by omega)] at h1
    simpa using h1

theorem dat_append {cs ys : List AV} (h1 : Dat cs) (h2 : Dat ys) : Dat (cs ++ ys) := fun x hx => (List.mem_append.1 hx).elim (h1 x) (h2 x)

theorem roomOk_spec {t e : TypeId} {i : TypeInfo} {B : Nat} (h : roomOk P t B = true) (hu : P.underlying t = some (.slice e)) (hi : P.info? e = some i) : B * i.bytes ≤ 140737488355328 ∧ B ≤ 140737488355328 := by
  unfold roomOk at h
  simp only [hu, hi, Bool.and_eq_true, decide_eq_true_eq] at h
  exact h
/-- append that takes a new array. -/
theorem append_grow {t t' ty : TypeId} {k n m B : Nat} {cs ys : List AV} {x y : Value} (he : elemOk P t k = true) (ht' : isSliceT P t' = true) (hB : roomOk P t B = true)
    (hx : (x = .slice none 0 0 ∧ n = 0 ∧ cs = [] ∧ 0 < m) ∨ ∃ b cap, x = .slice (some ⟨b, 0, none⟩) n cap ∧ cap < n + m ∧ MemRd Y X w b 0 cs) (hlen : cs.length = n * k) (hy : SlR Y X w y m ys) (hm0 : 0 < m) (hylen : ys.length = m * k) (hnm : n + m ≤ B) :
    ∃ v' w', (Builtin.append_ #[t, t'] ty #[x, y]).run P w = .ok v' w' ∧ Below w.heap.size w w' ∧ OwnRd Y (fun c => X c ∨ w.heap.size ≤ c) (From w.heap.size) w' v' k (n + m) (cs ++ ys) := by
  obtain ⟨e, i, zv, hu, hi, hs, hk, hb, hzv, hzs⟩ := elemOk_spec he
  obtain ⟨e', hu'⟩ := isSliceT_spec ht'
  rw [append_types hu hi hu']
  obtain ⟨by_, boff, bcap, rfl, hmem, _⟩ := hy.resolve_left (fun h => by have := h.1; omega)
  obtain ⟨n1, n2, n3, n4⟩ := cellsAt_ok hmem
  obtain ⟨hB1, hB2⟩ := roomOk_spec hB hu hi
  have hbytes : (n + m) * i.bytes ≤ 140737488355328 := Nat.le_trans (Nat.mul_le_mul hnm (Nat.le_refl _)) hB1
  have hmax : n + m ≤ maxLen := by simp only [maxLen]; omega
  rcases hx with ⟨rfl, rfl, rfl, hm⟩ | ⟨b, cap, rfl, hcap, hbm⟩
  · obtain ⟨v', w', hrun, r1, r2, _⟩ := run_append_own (P := P) w w.heap.size t ty e i zv k i.bytes hu hi hzv hs rfl hzs hk (.slice none 0 0) 0 [] (World.ownsRow_nil w _ e k) ⟨by_, boff, none⟩ m bcap _ (by rw [n1, hylen]) n2 n4 hmax hbytes (Nat.le_refl _)
    have hbel : Below w.heap.size w w' := ⟨r2.os, r2.tape, r2.output, r2.size, fun c hc => r2.block c hc (by simp [Value.ownBlock])⟩
    refine ⟨v', w', hrun, hbel, ?_⟩
    simp only [List.nil_append]
    refine own_of_row r1 (by omega) hmem.1 (by rw [hylen, Nat.zero_add]) (by simp [n1]) (fun j hj => ?_)
    obtain ⟨u, h1, h2⟩ := n3 j hj
    exact ⟨u, by simpa using h1, (h2.mono fun b hb => hb).world fun c _ hc => hbel.block c hc⟩
  · obtain ⟨o1, o2, o3, o4⟩ := cellsAt_ok hbm
    obtain ⟨v', w', hrun, r1, r2⟩ := run_append_arg_grows (P := P) w t ty e i zv k i.bytes hu hi hzv hs rfl hzs hk ⟨b, 0, none⟩ n cap _ (by rw [o1, hlen]) o2 ⟨by_, boff, none⟩ m bcap _ (by rw [n1, hylen]) n2 hcap hmax hbytes
    have hbel : Below w.heap.size w w' := ⟨r2.os, r2.tape, r2.output, r2.size, fun c hc => r2.block c hc (by simp)⟩
    refine ⟨v', w', hrun, hbel, ?_⟩
    refine own_of_row r1 (by omega) (dat_append hbm.1 hmem.1) (by rw [List.length_append, hlen, hylen, Nat.add_mul]) (by simp [o1, n1]) (fun j hj => ?_)
    by_cases hj1 : j < cs.length
    · obtain ⟨u, h1, h2⟩ := o3 j hj1
      refine ⟨u, by rw [List.getElem?_append_left (by omega)]; exact h1, ?_⟩
      rw [List.getElem_append_left hj1]
      exact (h2.mono fun b hb => hb).world fun c _ hc => hbel.block c hc
    · have hj2 : j - cs.length < ys.length := by simp at hj; omega
      obtain ⟨u, h1, h2⟩ := n3 _ hj2
      refine ⟨u, by rw [List.getElem?_append_right (by omega), o1]; exact h1, ?_⟩
      rw [List.getElem_append_right (by omega)]
      exact (h2.mono fun b hb => hb).world fun c _ hc => hbel.block c hc

/-- append in place. -/
theorem append_room {t t' ty : TypeId} {k n m b cap : Nat} {cs ys : List AV} {y : Value} (he : elemOk P t k = true) (ht' : isSliceT P t' = true) (hcap : n + m ≤ cap) (hX : X b)
    (hblk : BlockRd Y X w b 0 cs) (hroom : Room w b (cap * k)) (hlen : cs.length = n * k) (hy : SlR Y X w y m ys) (hy0 : m ≠ 0) (hylen : ys.length = m * k) :
    ∃ w', (Builtin.append_ #[t, t'] ty #[.slice (some ⟨b, 0, none⟩) n cap, y]).run P w = .ok (.slice (some ⟨b, 0, none⟩) (n + m) cap) w' ∧ w'.os = w.os ∧ w'.tape = w.tape ∧ w'.output = w.output ∧ w'.heap.size = w.heap.size ∧
      (∀ c, c ≠ b → w'.heap[c]? = w.heap[c]?) ∧ BlockRd Y X w' b 0 (cs ++ ys) ∧ Room w' b (cap * k) := by
  obtain ⟨e, i, zv, hu, hi, hs, hk, hb, hzv, hzs⟩ := elemOk_spec he
  obtain ⟨e', hu'⟩ := isSliceT_spec ht'
  rw [append_types hu hi hu']
  obtain ⟨by_, boff, bcap, rfl, hmem, _⟩ := hy.resolve_left (fun h => hy0 h.1)
  obtain ⟨n1, n2, n3, n4⟩ := cellsAt_ok hmem
  obtain ⟨hdat, vs, T, hh, _, hcell⟩ := hblk
  obtain ⟨vs', T', hh', hsz⟩ := hroom
  rw [hh] at hh'
  cases hh'
  have hle : (n + m) * k ≤ cap * k := Nat.mul_le_mul_right _ hcap
  rw [Nat.add_mul] at hle
  generalize hnews : cellsAt w by_ boff ys.length = news at *
  have hf := run_firstCells_some (P := P) w i.size m ⟨by_, boff, none⟩ m bcap news (by rw [n1, hylen, hs]) n2
  have hst := run_storeCells_at P b (n * i.size) T news 0 vs w hh (by rw [hs, n1, hylen]; omega) n4
  simp only [Nat.add_zero] at hst
  have hext : ∀ c, ¬ X c → c < w.heap.size → (w.setRow b (List.take (n * i.size) vs.toList ++ news ++ List.drop (n * i.size + news.length) vs.toList).toArray).heap[c]? = w.heap[c]? := fun c hc _ => setRow_other _ _ _ _ (fun e => hc (e ▸ hX))
  have hrow := setRow_heap w b vs (List.take (n * i.size) vs.toList ++ news ++ List.drop (n * i.size + news.length) vs.toList).toArray T (0, 0) hh
  have hsize : (List.take (n * i.size) vs.toList ++ news ++ List.drop (n * i.size + news.length) vs.toList).toArray.size = vs.size := by
    simp only [List.size_toArray, List.length_append, List.length_take, List.length_drop, Array.length_toList, n1, hylen, hs]; omega
  refine ⟨w.setRow b (List.take (n * i.size) vs.toList ++ news ++ List.drop (n * i.size + news.length) vs.toList).toArray, ?_, rfl, rfl, rfl, setRow_size _ _ _, fun c hc => setRow_other _ _ _ _ hc, ⟨dat_append hdat hmem.1, _, T, hrow, ?_, fun j hj => ?_⟩, ⟨_, T, hrow, by rw [hsize]; exact hsz⟩⟩
  · simp [Builtin.append_, run_underlying hu, sizeOf, typeInfo, hi, Builtin.lenOf, hcap, hf, Addr.add_lit, hst]
  · rw [hsize, List.length_append, hlen, hylen]; omega
  · have ht : (vs.toList.take (n * i.size)).length = n * k := by simp only [List.length_take, Array.length_toList, hs]; omega
    simp only [Nat.zero_add, List.getElem?_toArray]
    by_cases hj1 : j < cs.length
    · obtain ⟨u, h1, h2⟩ := hcell j hj1
      refine ⟨u, ?_, ?_⟩
      · rw [List.append_assoc, List.getElem?_append_left (by omega), List.getElem?_take_of_lt (by rw [hs]; omega)]
        simpa using h1
      · rw [List.getElem_append_left hj1]; exact h2.world hext
    · have hj2 : j - cs.length < ys.length := by simp at hj; omega
      obtain ⟨u, h1, h2⟩ := n3 _ hj2
      refine ⟨u, ?_, ?_⟩
      · rw [List.getElem?_append_left (by simp only [List.length_append, ht, n1]; simp at hj; omega), List.getElem?_append_right (by omega), ht, ← hlen]
        exact h1
      · rw [List.getElem_append_right (by omega)]; exact h2.world hext

theorem append_nil {t t' ty : TypeId} {k : Nat} (he : elemOk P t k = true) (ht' : isSliceT P t' = true) : (Builtin.append_ #[t, t'] ty #[.slice none 0 0, .slice none 0 0]).run P w = .ok (.slice none 0 0) w := by
  obtain ⟨e, i, zv, hu, hi, hs, hk, hb, hzv, hzs⟩ := elemOk_spec he
  obtain ⟨e', hu'⟩ := isSliceT_spec ht'
  rw [append_types hu hi hu']
  simp [Builtin.append_, run_underlying hu, sizeOf, typeInfo, hi, Builtin.lenOf, Builtin.firstCells]
theorem append_nil0 {t t' ty : TypeId} {k c : Nat} {p : Addr} (he : elemOk P t k = true) (ht' : isSliceT P t' = true) : (Builtin.append_ #[t, t'] ty #[.slice none 0 0, .slice (some p) 0 c]).run P w = .ok (.slice none 0 0) w := by
  obtain ⟨e, i, zv, hu, hi, hs, hk, hb, hzv, hzs⟩ := elemOk_spec he
  obtain ⟨e', hu'⟩ := isSliceT_spec ht'
  rw [append_types hu hi hu']
  have hf := run_firstCells_some (P := P) w i.size 0 p 0 c [] (by simp) (by simp)
  simp [Builtin.append_, run_underlying hu, sizeOf, typeInfo, hi, Builtin.lenOf, hf]
theorem append_none {t t' ty : TypeId} {k n b cap : Nat} (he : elemOk P t k = true) (ht' : isSliceT P t' = true) (hn : n ≤ cap) :
    (Builtin.append_ #[t, t'] ty #[.slice (some ⟨b, 0, none⟩) n cap, .slice none 0 0]).run P w = .ok (.slice (some ⟨b, 0, none⟩) n cap) w := by
  obtain ⟨e, i, zv, hu, hi, hs, hk, hb, hzv, hzs⟩ := elemOk_spec he
  obtain ⟨e', hu'⟩ := isSliceT_spec ht'
  rw [append_types hu hi hu']
  simp [Builtin.append_, run_underlying hu, sizeOf, typeInfo, hi, Builtin.lenOf, Builtin.firstCells, hn, storeCells]

theorem append_noneE {t t' ty : TypeId} {k n b cap c : Nat} {p : Addr} (he : elemOk P t k = true) (ht' : isSliceT P t' = true) (hn : n ≤ cap) :
    (Builtin.append_ #[t, t'] ty #[.slice (some ⟨b, 0, none⟩) n cap, .slice (some p) 0 c]).run P w = .ok (.slice (some ⟨b, 0, none⟩) n cap) w := by
  obtain ⟨e, i, zv, hu, hi, hs, hk, hb, hzv, hzs⟩ := elemOk_spec he
  obtain ⟨e', hu'⟩ := isSliceT_spec ht'
  rw [append_types hu hi hu']
  have hf := run_firstCells_some (P := P) w i.size 0 p 0 c [] (by simp) (by simp)
  simp [Builtin.append_, run_underlying hu, sizeOf, typeInfo, hi, Builtin.lenOf, hf, hn, storeCells]

theorem bounds_ok {len cap m h l : Nat} {lo hi mx : Option Value} (hmx : (mx = none ∧ m = cap) ∨ ∃ k i, mx = some (.int k i) ∧ 0 ≤ i ∧ i.toNat = m ∧ m ≤ cap) (hhi : (hi = none ∧ mx = none ∧ h = len) ∨ ∃ k i, hi = some (.int k i) ∧ 0 ≤ i ∧ i.toNat = h ∧ h ≤ m)
    (hlo : (lo = none ∧ l = 0) ∨ ∃ k i, lo = some (.int k i) ∧ 0 ≤ i ∧ i.toNat = l ∧ l ≤ h) : (Instr.sliceBounds true len cap lo hi mx).run P w = .ok (l, h, m) w := by
  have hb : ∀ (k : IntKind) (i : Int) (y n : Nat) (code : BoundsCode), 0 ≤ i → i.toNat = n → n ≤ y → (Instr.sliceBound (.int k i) y code).run P w = .ok n w := by
    intro k i y n code h0 h1 h2
    rw [run_sliceBound w k i y code h0 (by omega), h1]
  rcases hmx with ⟨rfl, rfl⟩ | ⟨km, im, rfl, m0, m1, m2⟩ <;> rcases hhi with ⟨rfl, hh, rfl⟩ | ⟨kh, ih, rfl, h0, h1, h2⟩ <;> rcases hlo with ⟨rfl, rfl⟩ | ⟨kl, il, rfl, l0, l1, l2⟩
  all_goals first
    | cases hh; done
    | simp only [Instr.sliceBounds, Sem.run_bind, Sem.run_pure, Result.andThen_ok]
  all_goals first
    | rfl
    | simp only [hb kl il _ l _ l0 l1 l2, Result.andThen_ok]; done
    | simp only [hb kh ih _ h _ h0 h1 h2, Result.andThen_ok]; done
    | simp only [hb kh ih _ h _ h0 h1 h2, hb kl il _ l _ l0 l1 l2, Result.andThen_ok]; done
    | simp only [hb km im _ m _ m0 m1 m2, hb kh ih _ h _ h0 h1 h2, Result.andThen_ok]; done
    | simp only [hb km im _ m _ m0 m1 m2, hb kh ih _ h _ h0 h1 h2, hb kl il _ l _ l0 l1 l2, Result.andThen_ok]; done

theorem slice_run {t : TypeId} {k len cap m h l : Nat} {a : Option Addr} {lo hi mx : Option Value} (he : elemOk P t k = true) (hb : (Instr.sliceBounds true len cap lo hi mx).run P w = .ok (l, h, m) w) :
    (Instr.sliceAt t (.slice a len cap) lo hi mx).run P w = .ok (.slice (if m = l then a else a.map (·.add (l * k))) (h - l) (m - l)) w := by
  obtain ⟨e, i, zv, hu, hi', hs, hk, hb', hzv, hzs⟩ := elemOk_spec he
  have hsz : (sizeOf e).run P w = .ok k w := by simp [sizeOf, typeInfo, program, Sem.run, hi', hs]
  simp only [Instr.sliceAt, Sem.run_bind, run_underlying hu, Result.andThen_ok, Instr.slice, hb, hsz, Sem.run_pure]

theorem slice_ok {v : Value} {n l h m k : Nat} {cs : List AV} (hv : Rd Y X w v (.sl n cs)) (hlh : l ≤ h) (hhn : h ≤ n) :
    ∃ a cap, v = .slice a n cap ∧ n ≤ cap ∧ (h ≤ m → (a = none → m = 0) → Rd Y X w (.slice (if m = l then a else a.map (·.add (l * k))) (h - l) (m - l)) (.sl (h - l) ((cs.drop (l * k)).take ((h - l) * k)))) ∧ (a = none → cap = 0) := by
  cases hv with
  | nil0 =>
    refine ⟨none, 0, rfl, Nat.le_refl _, fun _ hm => ?_, fun _ => rfl⟩
    have h0 : h = 0 := by omega
    have l0 : l = 0 := by omega
    subst h0 l0
    rw [hm rfl]
    simpa using Rd.nil0
  | e0 a c =>
    have h0 : h = 0 := by omega
    have l0 : l = 0 := by omega
    subst h0 l0
    refine ⟨some a, c, rfl, Nat.zero_le _, fun _ _ => ?_, fun h => by cases h⟩
    simp only [Nat.sub_zero, Nat.zero_mul, List.take_zero]
    split
    · exact .e0 _ _
    · exact .e0 _ _
  | sl b off _ cap _ f hd hn hX hY hcell hr =>
    refine ⟨_, cap, rfl, hn, fun hhm _ => ?_, fun h => by cases h⟩
    have hlen : ((cs.drop (l * k)).take ((h - l) * k)).length ≤ cs.length - l * k := by simp only [List.length_take, List.length_drop]; omega
    have hdat : Dat ((cs.drop (l * k)).take ((h - l) * k)) := fun x hx => hd x (List.mem_of_mem_drop (List.mem_of_mem_take hx))
    by_cases hml : m = l
    · have hh : h - l = 0 := by omega
      rw [if_pos hml, hh, Nat.zero_mul, List.take_zero]
      exact .sl b off 0 (m - l) [] f (fun x hx => by cases hx) (Nat.zero_le _) (fun h => absurd rfl h) (fun ⟨c, hc, _⟩ => by cases hc) (fun i hi => by simp at hi) (fun i hi => by simp at hi)
    · rw [if_neg hml]
      simp only [Option.map_some, addr_add]
      refine .sl b (off + l * k) (h - l) (m - l) _ (fun i => f (l * k + i)) hdat (by omega) (fun hne => hX (fun e => hne (by rw [e]; simp))) (fun ⟨c, hc, h1⟩ => hY ⟨c, List.mem_of_mem_drop (List.mem_of_mem_take hc), h1⟩) (fun i hi => ?_) (fun i hi => ?_)
      · rw [Nat.add_assoc]; exact hcell _ (by omega)
      · have := hr (l * k + i) (by omega)
        simpa using this

end
end Go.Ai
