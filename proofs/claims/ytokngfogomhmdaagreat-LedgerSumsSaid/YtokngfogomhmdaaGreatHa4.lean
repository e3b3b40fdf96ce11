/- Closed runs over a heap of numbered objects: append, copy, parts of slices, maps. -/
import Derived.Test.YtokngfogomhmdaaGreatHa3
namespace Go.Hp
open Go.Ai Go.RowKit
noncomputable section

section
variable {P : Program} {μ : Mu} {w : World} {s : HS}

theorem HR.drew (H : HR μ s.h w) : HR μ s.h w.drew := ⟨fun a o h => let ⟨r, h1, h2⟩ := H.obj a o h; ⟨r, h1, h2.same (fun _ _ h => h) rfl⟩, H.inj, H.lt⟩
theorem Step.drew {μ' : Mu} {s' : HS} {w' : World} (h : Step μ s w.drew μ' s' w') : Step μ s w μ' s' w' := ⟨h.le, h.os, h.tape, h.out, h.size, h.new, h.frame, h.stay⟩

/-- What an append gives. -/
def Res (P : Program) (m : Sem Value) (μ : Mu) (w : World) (s s' : HS) (z : HV) : Prop := ∃ v μ' w', m.run P w = .ok v w' ∧ HR μ' s'.h w' ∧ Step μ s w μ' s' w' ∧ VR μ' z v

theorem append_nothing {t t' ty e e' : TypeId} {i : TypeInfo} (h : P.underlying t = some (.slice e)) (hi : P.info? e = some i) (h' : P.underlying t' = some (.slice e')) {base : Option Addr} {n c : Nat} (hn : n ≤ c) {b : Option Addr} {c2 : Nat} :
    (Builtin.append_ #[t, t'] ty #[.slice base n c, .slice b 0 c2]).run P w = .ok (.slice base n c) w := by
  rw [append_types h hi h']
  have hf : (Builtin.firstCells i.size 0 (.slice b 0 c2)).run P w = .ok #[] w := by
    cases b with
    | none => simp [Builtin.firstCells]
    | some b => simp [Builtin.firstCells, loadCells, loadCellsFrom]
  cases base with
  | none => simp [Builtin.append_, run_underlying h, sizeOf, typeInfo, hi, Builtin.lenOf, hn, hf]
  | some a => simp [Builtin.append_, run_underlying h, sizeOf, typeInfo, hi, Builtin.lenOf, hn, hf, storeCells]

/-- append in place. -/
theorem append_in {t t' ty e e' : TypeId} {i : TypeInfo} (h : P.underlying t = some (.slice e)) (hi : P.info? e = some i) (h' : P.underlying t' = some (.slice e')) {r off n c m c2 : Nat} {b : Addr} {news : List Value} (hl : news.length = m * i.size)
    (hnews : ∀ j u, news[j]? = some u → w.cell? (b.add j) = some u) (hroom : n + m ≤ c) {w' : World} (hst : (storeCells ⟨r, off + n * i.size, none⟩ news 0).run P w = .ok () w') :
    (Builtin.append_ #[t, t'] ty #[.slice (some ⟨r, off, none⟩) n c, .slice (some b) m c2]).run P w = .ok (.slice (some ⟨r, off, none⟩) (n + m) c) w' := by
  rw [append_types h hi h']
  have hfc := run_firstCells_some (P := P) w i.size m b m c2 news hl hnews
  simp [Builtin.append_, run_underlying h, sizeOf, typeInfo, hi, Builtin.lenOf, hroom, hfc, Addr.add_lit, hst]

theorem Qt.move (s : HS) {a : Nat} {o : HO} (ha : s.h.get a = some o) (cs : List HV) : Qt s (moveS s a cs) where
  nx := Nat.le_succ _
  lg b hb := List.mem_cons_of_mem _ hb
  dom b x hb := by
    simp only [moveS, Tr.get_set] at hb ⊢
    split at hb
    · rename_i e; subst e; exact .inr ⟨Nat.le_refl _, Nat.lt_succ_self _⟩
    · split at hb
      · cases hb
      · exact .inl ⟨_, hb⟩
  keep b hb hn := by
    simp only [moveS, Tr.get_set] at hn ⊢
    rw [if_neg fun e => hn ⟨Nat.le_of_eq e.symm, by omega⟩, if_neg fun e => hb (by rw [e]; exact List.mem_cons_self)]
  lgd b hb := by
    rcases List.mem_cons.1 hb with rfl | hb
    · exact .inr (.inl ⟨_, ha⟩)
    · exact .inl hb

/-- An object dies, another one takes its place in memory (or a new row). -/
theorem move_h (H : HR μ s.h w) (hμ : μ s.nx = none) {a : Nat} {q q' : Nat × Nat} {cs cs' : List HV} (ha : s.h.get a = some (.c cs)) (hq : μ a = some q) {w' : World} (hos : w'.os = w.os) (htp : w'.tape = w.tape) (hout : w'.output = w.output)
    (hsz : w.heap.size ≤ w'.heap.size) (hlt : q'.1 < w'.heap.size) (hq' : q' = q ∨ w.heap.size ≤ q'.1) (hoth : ∀ r, r ≠ q'.1 → r < w.heap.size → w'.heap[r]? = w.heap[r]?) (ho : ∀ μ', (∀ b r, μ b = some r → μ' b = some r) → OR μ' w' q' (.c cs')) :
    HR (addMu μ s.nx q') (moveS s a cs').h w' ∧ Step μ s w (addMu μ s.nx q') (moveS s a cs') w' := by
  have hle := addMu_le (μ := μ) (r := q') hμ
  have hne : a ≠ s.nx := fun e => by rw [e, hμ] at hq; cases hq
  -- nobody else lies there
  have other : ∀ b x p, b ≠ a → s.h.get b = some x → μ b = some p → p.1 ≠ q'.1 := by
    intro b x p hb hx hp e
    rcases hq' with h | h
    · rw [h] at e
      exact hb (H.inj _ _ _ _ _ _ hx ha hp hq e)
    · have := H.lt _ _ hp
      omega
  refine ⟨⟨fun b x hb => ?_, fun b b' x x' p p' hb hb' h1 h2 h3 => ?_, fun b p hb => ?_⟩, ⟨hle, hos, htp, hout, hsz, fun b p hb => ?_, fun r hr hn => ?_, fun b hb => ?_⟩⟩
  · simp only [moveS, Tr.get_set] at hb
    split at hb
    · rename_i e
      subst e
      cases hb
      exact ⟨q', by simp [addMu], ho _ hle⟩
    · split at hb
      · cases hb
      · rename_i e1 e2
        obtain ⟨p, h1, h2⟩ := H.obj b x hb
        exact ⟨p, hle _ _ h1, h2.same hle (hoth _ (other b x p e2 hb h1) h2.lt)⟩
  · simp only [moveS, Tr.get_set] at hb hb'
    unfold addMu at h1 h2
    split at h1
    · rename_i e1
      split at h2
      · rename_i e2; rw [e1, e2]
      · rename_i e2
        cases h1
        rw [if_neg e2] at hb'
        split at hb'
        · cases hb'
        · rename_i e3
          exact absurd h3.symm (other b' x' p' e3 hb' h2)
    · rename_i e1
      rw [if_neg e1] at hb
      split at hb
      · cases hb
      · rename_i e3
        split at h2
        · cases h2
          exact absurd h3 (other b x p e3 hb h1)
        · rename_i e2
          rw [if_neg e2] at hb'
          split at hb'
          · cases hb'
          · exact H.inj _ _ _ _ _ _ hb hb' h1 h2 h3
  · unfold addMu at hb
    split at hb
    · cases hb; exact hlt
    · have := H.lt _ _ hb; omega
  · unfold addMu at hb
    split at hb
    · cases hb
      rcases hq' with h | h
      · rw [h]; exact .inr (.inl ⟨a, _, ha, hq⟩)
      · exact .inr (.inr h)
    · exact .inl hb
  · refine hoth r (fun e => ?_) hr
    rcases hq' with h | h
    · exact hn a _ q ha hq (by rw [e, h])
    · omega
  · unfold addMu
    rw [if_neg fun e => hb ⟨Nat.le_of_eq e.symm, by simp [moveS]; omega⟩]

theorem cr_longer {cs : List HV} {A B : Array Value} (h : CRs μ cs A) : CR μ cs (A ++ B) := by
  have hl := h.2.1
  refine ⟨h.1, fun j hj => ⟨A[j]'(by omega), ?_, h.2.2 j hj (by omega)⟩⟩
  rw [Array.getElem?_append_left (by omega), Array.getElem?_eq_getElem]

theorem ap_ok (H : HR μ s.h w) {t t' ty e e' : TypeId} {i : TypeInfo} {z : Value} (h1 : P.underlying t = some (.slice e)) (h2 : P.underlying t' = some (.slice e')) (h3 : P.info? e = some i) (h4 : i.zero = some z) (h5 : z.cells.size = i.size)
    {x : HV} {xv : Value} (hx : VR μ x xv) {bq : Nat × Nat} {boff m c2 : Nat} {bcs ys : List HV} {bb : Nat} (hb : s.h.get bb = some (.c bcs)) (hbq : μ bb = some bq) (hys : partH bcs boff (m * i.size) = some ys) (hm : m ≠ 0) {r : HV} {s' : HS} (hfr : Free μ s.nx s'.nx)
    (hap : apH i.size i.bytes s x m ys = some (r, s')) : Res P (Builtin.append_ #[t, t'] ty #[xv, .slice (some ⟨bq.1, boff, none⟩) m c2]) μ w s s' r := by
  obtain ⟨news, n1, n2, n3, n4⟩ := src_ok H hb hbq hys
  have fits : ∀ k, fitsH i.bytes k = true → k * i.bytes ≤ 140737488355328 ∧ (k : Int) ≤ 9223372036854775807 := by
    intro k hk
    simp only [fitsH, Bool.and_eq_true, Nat.ble_eq] at hk
    exact ⟨hk.1, by omega⟩
  unfold apH at hap
  split at hap
  · -- nil
    obtain ⟨hf, hap⟩ := whenH_some hap
    cases hap
    have hμ := hfr s.nx (Nat.le_refl _) (Nat.lt_succ_self _)
    cases hx
    obtain ⟨f1, f2⟩ := fits _ hf
    have hr := run_append_nil (P := P) w t ty e i z h1 h3 h4 ⟨bq.1, boff, none⟩ m c2 news n1 n3 (by omega) f2 (by omega)
    rw [← append_types h1 h3 h2] at hr
    obtain ⟨g1, g2⟩ := new_h H.drew hμ (x := .cells (news.toArray ++ Builtin.zeroCells z.cells (grownCap w m 0 e - m)) e) (grownCap w m 0 e * i.size) (o := .c ys) fun μ' w' hle hw => ⟨_, e, hw, by
      have := grownCap_ge w m 0 e
      simp only [Array.size_append, List.size_toArray, size_zeroCells, n1, h5, ← Nat.add_mul]
      congr 1
      omega, by
      exact cr_longer (n4.mono hle)⟩
    refine ⟨_, _, _, hr, g1, g2.drew, .s (r := (w.heap.size, grownCap w m 0 e * i.size)) (by simp [addMu]) (grownCap_ge w m 0 e) ?_⟩
    simp [CapOk]
  · rename_i a off n c
    obtain ⟨cs, ha, hap⟩ := asC_some hap
    cases hx with
    | s hq hlen hc =>
      rename_i c' q
      simp only [CapOk] at hc
      subst hc
      cases hcase : Nat.ble (n + m) c
      · rw [hcase] at hap
        obtain ⟨hf, hap⟩ := whenH_some hap
        obtain ⟨xs, hxs, hap⟩ := bind_some hap
        cases hap
        have hμ := hfr s.nx (Nat.le_refl _) (Nat.lt_succ_self _)
        obtain ⟨olds, o1, o2, o3, o4⟩ := src_ok H ha hq hxs
        obtain ⟨f1, f2⟩ := fits _ hf
        have hg : c < n + m := by
          apply Classical.byContradiction
          intro hh
          have : Nat.ble (n + m) c = true := by rw [Nat.ble_eq]; omega
          rw [this] at hcase; cases hcase
        have hr := run_append_grow (P := P) w t ty e i z h1 h3 h4 ⟨q.1, off, none⟩ n c olds o1 o3 ⟨bq.1, boff, none⟩ m c2 news n1 n3 hg f2 (growslice_fits hg f1)
        rw [← append_types h1 h3 h2] at hr
        have hge := grownCap_ge w (n + m) c e
        obtain ⟨g1, g2⟩ := new_h H.drew hμ (x := .cells (olds.toArray ++ news.toArray ++ Builtin.zeroCells z.cells (grownCap w (n + m) c e - (n + m))) e) (grownCap w (n + m) c e * i.size) (o := .c (xs ++ ys)) fun μ' w' hle hw => ⟨_, e, hw, by
          simp only [Array.size_append, List.size_toArray, size_zeroCells, n1, o1, h5, ← Nat.add_mul]
          congr 1
          omega, by
          have e1 : olds.toArray ++ news.toArray = (olds ++ news).toArray := by simp
          rw [e1]
          exact cr_longer ((crs_append o4 n4).mono hle)⟩
        refine ⟨_, _, _, hr, g1, g2.drew, .s (r := (w.heap.size, grownCap w (n + m) c e * i.size)) (by simp [addMu]) hge ?_⟩
        simp [CapOk]
      · rw [hcase] at hap
        rw [Nat.ble_eq] at hcase
        obtain ⟨cs', hl, hap⟩ := bind_some hap
        rw [layF_eq] at hl
        cases hap
        obtain ⟨w', st, g1, g2⟩ := lay_h (P := P) H ha hq n4 hl
        exact ⟨_, μ, w', append_in h1 h3 h2 n1 n3 hcase st, g1, g2, .s hq hcase rfl⟩
  · rename_i a off n sz
    obtain ⟨cs, ha, hap⟩ := asC_some hap
    obtain ⟨hc0, hap⟩ := whenH_some hap
    cases hap
    have hμ := hfr s.nx (Nat.le_refl _) (Nat.lt_succ_self _)
    simp only [Bool.and_eq_true] at hc0
    obtain ⟨⟨⟨k1, k2⟩, k3⟩, hf⟩ := hc0
    have k1 := Nat.eq_of_beq_eq_true k1
    have k2 := Nat.eq_of_beq_eq_true k2
    have k3 := Nat.eq_of_beq_eq_true k3
    rw [lenF_eq] at k3
    subst k1 k2
    obtain ⟨f1, f2⟩ := fits _ hf
    cases hx with
    | s hq hlen hc =>
      rename_i c q
      simp only [CapOk, Nat.zero_add] at hc
      have hall : partH cs 0 (n * i.size) = some cs := partH_all k3
      obtain ⟨olds, o1, o2, o3, o4⟩ := src_ok H ha hq hall
      by_cases hcase : n + m ≤ c
      · -- there is room
        obtain ⟨vs, T, hblk, hvs, hcr⟩ := H.at ha hq
        have hle1 : (n + m) * i.size ≤ c * i.size := Nat.mul_le_mul_right _ hcase
        rw [Nat.add_mul] at hle1
        have hrun := run_storeCells_at (P := P) q.1 (n * i.size) T news 0 vs w hblk (by omega) (fun v hv' => n4.oneCell v (by simpa using hv'))
        simp only [Nat.add_zero] at hrun
        have hr := append_in (ty := ty) (off := 0) (c2 := c2) h1 h3 h2 n1 n3 hcase (by rw [Nat.zero_add]; exact hrun)
        have hrow := setRow_heap w q.1 vs (List.take (n * i.size) vs.toList ++ news ++ List.drop (n * i.size + news.length) vs.toList).toArray T (0, 0) hblk
        have hlt := (Array.getElem?_eq_some_iff.1 hblk).1
        obtain ⟨g1, g2⟩ := move_h (q' := q) (cs' := cs ++ ys) H hμ ha hq (w' := w.setRow q.1 (List.take (n * i.size) vs.toList ++ news ++ List.drop (n * i.size + news.length) vs.toList).toArray) rfl rfl rfl (by rw [setRow_size]; exact Nat.le_refl _) (by rw [setRow_size]; exact hlt) (.inl rfl) (fun r hr _ => setRow_other _ _ _ _ hr) fun μ' hle => ⟨_, T, hrow, by
            simp only [List.size_toArray, List.length_append, List.length_take, List.length_drop, Array.length_toList]
            omega, by
            refine ⟨fun x hx => (List.mem_append.1 hx).elim (hcr.1 x) (n4.1 x), fun j hj => ?_⟩
            simp only [List.getElem?_toArray]
            have ht : (vs.toList.take (n * i.size)).length = n * i.size := by simp; omega
            by_cases hj1 : j < cs.length
            · obtain ⟨u, hu, hv'⟩ := hcr.2 j hj1
              refine ⟨u, ?_, by rw [List.getElem_append_left hj1]; exact hv'.mono hle⟩
              rw [List.append_assoc, List.getElem?_append_left (by omega), List.getElem?_take_of_lt (by omega)]
              simpa using hu
            · have hj2 : j - cs.length < ys.length := by simp at hj; omega
              obtain ⟨u, hu, hv'⟩ := n4.cr.2 _ hj2
              refine ⟨u, ?_, by rw [List.getElem_append_right (by omega)]; exact hv'.mono hle⟩
              rw [List.getElem?_append_left (by simp only [List.length_append]; omega), List.getElem?_append_right (by omega), ht, ← k3]
              simpa using hu⟩
        exact ⟨_, _, _, hr, g1, g2, .s (r := q) (by simp [addMu]) hcase (by simpa [CapOk] using hc)⟩
      · have hg : c < n + m := by omega
        have hr := run_append_grow (P := P) w t ty e i z h1 h3 h4 ⟨q.1, 0, none⟩ n c olds o1 o3 ⟨bq.1, boff, none⟩ m c2 news n1 n3 hg f2 (growslice_fits hg f1)
        rw [← append_types h1 h3 h2] at hr
        have hge := grownCap_ge w (n + m) c e
        have hnew : (w.drew.alloc (.cells (olds.toArray ++ news.toArray ++ Builtin.zeroCells z.cells (grownCap w (n + m) c e - (n + m))) e)).heap[w.heap.size]? = some (.cells (olds.toArray ++ news.toArray ++ Builtin.zeroCells z.cells (grownCap w (n + m) c e - (n + m))) e) := by
          show (w.heap.push _)[w.heap.size]? = _; simp
        have hsz : (w.drew.alloc (.cells (olds.toArray ++ news.toArray ++ Builtin.zeroCells z.cells (grownCap w (n + m) c e - (n + m))) e)).heap.size = w.heap.size + 1 := by show (w.heap.push _).size = _; simp
        obtain ⟨g1, g2⟩ := move_h (q' := (w.heap.size, grownCap w (n + m) c e * i.size)) (cs' := cs ++ ys) H hμ ha hq (w' := w.drew.alloc (.cells (olds.toArray ++ news.toArray ++ Builtin.zeroCells z.cells (grownCap w (n + m) c e - (n + m))) e)) rfl rfl rfl (by omega) (by simp only; omega) (.inr (Nat.le_refl _)) (fun r _ hr => Below.heap_alloc w.drew _ r hr) fun μ' hle => ⟨_, e, hnew, by
            simp only [Array.size_append, List.size_toArray, size_zeroCells, n1, o1, h5, ← Nat.add_mul]
            congr 1
            omega, by
            have e1 : olds.toArray ++ news.toArray = (olds ++ news).toArray := by simp
            rw [e1]
            exact cr_longer ((crs_append o4 n4).mono hle)⟩
        exact ⟨_, _, _, hr, g1, g2, .s (r := (w.heap.size, grownCap w (n + m) c e * i.size)) (by simp [addMu]) hge (by simp [CapOk])⟩
  · cases hap

theorem ap_qt {k b m : Nat} {x r : HV} {ys : List HV} {s' : HS} (h : apH k b s x m ys = some (r, s')) : Qt s s' := by
  unfold apH at h
  split at h
  · obtain ⟨_, h⟩ := whenH_some h; cases h; exact Qt.new _ _
  · obtain ⟨cs, ha, h⟩ := asC_some h
    rename_i a off n c _
    cases hc : Nat.ble (n + m) c <;> rw [hc] at h
    · obtain ⟨_, h⟩ := whenH_some h
      obtain ⟨xs, _, h⟩ := bind_some h
      cases h; exact Qt.new _ _
    · obtain ⟨cs', _, h⟩ := bind_some h
      cases h; exact Qt.turn ha
  · obtain ⟨cs, ha, h⟩ := asC_some h
    obtain ⟨_, h⟩ := whenH_some h
    cases h; exact Qt.move s ha _
  · cases h

theorem append_ok (H : HR μ s.h w) {t t' ty : TypeId} {x y r : HV} {xv yv : Value} (hx : VR μ x xv) (hy : VR μ y yv) {s' : HS} (hf : Free μ s.nx s'.nx) (h : appendH P s t t' x y = some (r, s')) :
    Res P (Builtin.append_ #[t, t'] ty #[xv, yv]) μ w s s' r := by
  obtain ⟨⟨k, b⟩, he, h⟩ := bind_some h
  obtain ⟨e, e', i, z, h1, h2, h3, h4, rfl, rfl, h5, _⟩ := elemP_ok he
  have nothing : ∀ {ba : Option Addr} {c2 : Nat}, yv = .slice ba 0 c2 → sameS s x = some (r, s') → Res P (Builtin.append_ #[t, t'] ty #[xv, yv]) μ w s s' r := by
    rintro ba c2 rfl h
    cases x <;> simp only [sameS, Option.some.injEq, Prod.mk.injEq, reduceCtorEq] at h
    · obtain ⟨rfl, rfl⟩ := h
      cases hx
      exact ⟨_, μ, w, append_nothing h1 h3 h2 (Nat.le_refl _), H, Step.refl _ _ _, .sn⟩
    · obtain ⟨rfl, rfl⟩ := h
      cases hx with
      | s hq hlen hc => exact ⟨_, μ, w, append_nothing h1 h3 h2 hlen, H, Step.refl _ _ _, .s hq hlen hc⟩
  split at h
  · cases hy
    exact nothing rfl h
  · rename_i b off m cap _
    cases hy with
    | s hq hlen hc =>
      cases hm : Nat.beq m 0
      · rw [hm] at h
        obtain ⟨cs, hb, h⟩ := asC_some h
        obtain ⟨ys, hys, h⟩ := bind_some h
        exact ap_ok H h1 h2 h3 h4 h5 hx hb hq hys (fun e => by rw [e] at hm; cases hm) hf h
      · rw [hm] at h
        have := Nat.eq_of_beq_eq_true hm
        subst this
        exact nothing rfl h
  · cases h

theorem append_qt {t t' : TypeId} {x y r : HV} {s' : HS} (h : appendH P s t t' x y = some (r, s')) : Qt s s' := by
  obtain ⟨⟨k, b⟩, he, h⟩ := bind_some h
  have nothing : sameS s x = some (r, s') → Qt s s' := by
    intro h
    cases x <;> simp only [sameS, Option.some.injEq, Prod.mk.injEq, reduceCtorEq] at h <;> exact h.2 ▸ Qt.refl _
  split at h
  · exact nothing h
  · rename_i b off m cap _
    cases hm : Nat.beq m 0 <;> rw [hm] at h
    · obtain ⟨cs, hb, h⟩ := asC_some h
      obtain ⟨ys, hys, h⟩ := bind_some h
      exact ap_qt h
    · exact nothing h
  · cases h
end
end
end Go.Hp
