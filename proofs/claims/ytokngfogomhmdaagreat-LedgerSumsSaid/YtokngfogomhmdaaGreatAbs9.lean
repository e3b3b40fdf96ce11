/- One operation: all kinds. -/
import Derived.Test.YtokngfogomhmdaaGreatAbsS
namespace Go.Ai
open Go.RowKit

def freeB (roots : List (Nat × Nat)) (oks : List Nat) (dst : Option Nat) : Bool := roots.all fun p => !(some p.2 == dst) || oks.contains p.1
def rootB (roots : List (Nat × Nat)) (dst : Option Nat) (d : Nat) : Bool :=
  match dst with
  | some t => roots.contains (t, d) && !(t == d)
  | none => true
def killB (roots : List (Nat × Nat)) (dst : Option Nat) (ks : List Nat) : Bool := dst.isSome && roots.all fun p => !(some p.2 == dst) || ks.contains p.1

/-- Pointers into variables are kept track of. -/
def rootOk (roots : List (Nat × Nat)) (oks : List Nat) (dst : Option Nat) : K → Bool
  | .new _ ks => killB roots dst ks
  | .box _ ks => killB roots dst ks
  | .adr _ d _ => freeB roots oks dst && rootB roots dst d
  | .ixb x _ _ _ => freeB roots oks dst && rootB roots dst x
  | .ixo _ d _ _ => freeB roots oks dst && rootB roots dst d
  | .cpy x => freeB roots oks dst && rootB roots dst x
  | .cpo x => freeB roots oks dst && rootB roots dst x
  | .st _ _ _ _ => dst.isNone
  | .bls _ _ _ => freeB roots oks dst && dst.isSome
  | .blo _ _ _ _ => freeB roots oks dst && dst.isSome
  | .mks _ _ => freeB roots oks dst && dst.isSome
  | .tra _ => freeB roots oks dst && dst.isSome
  | .apd _ _ _ _ _ => freeB roots oks dst && dst.isSome
  | .clo _ _ => freeB roots oks dst && dst.isSome
  | .nlo _ => freeB roots oks dst && dst.isSome
  | .bdo _ _ l => freeB roots (oks ++ l) dst && dst.isSome
  | .cln _ _ l => freeB roots (oks ++ l) dst && dst.isSome
  | .stl x v => dst.isNone && roots.contains (x, v)
  | .fdo _ => freeB roots oks dst && dst.isSome
  | .exo _ => freeB roots oks dst && dst.isSome
  | .sub _ d _ _ _ => freeB roots oks dst && rootB roots dst d
  | .app _ x _ _ _ => freeB roots oks dst && dst.isSome && freeB roots oks (some x)
  | .apb _ _ _ _ _ => freeB roots oks dst && dst.isSome
  | .slo _ _ _ => freeB roots oks dst && dst.isSome
  | .cao _ _ _ _ => freeB roots oks dst && dst.isSome
  | _ => freeB roots oks dst

theorem freeB_spec {s : State} {roots : List (Nat × Nat)} {oks : List Nat} {dst : Option Nat} (hkd : ∀ t ∈ oks, isLink (rget s t) = false) (h : freeB roots oks dst = true) : Free s roots dst := by
  intro d hd t ht
  simp only [freeB, List.all_eq_true, Bool.or_eq_true, Bool.not_eq_true', beq_eq_false_iff_ne, ne_eq, List.contains_eq_mem, decide_eq_true_eq] at h
  rcases h (t, d) ht with h1 | h1
  · exact absurd hd.symm h1
  · exact hkd t h1
theorem links_spec {s : State} {oks ls : List Nat} (hkd : ∀ t ∈ oks, isLink (rget s t) = false) (hls : (ls.all fun t => isFirm (rget s t)) = true) : ∀ t ∈ oks ++ ls, isLink (rget s t) = false := by
  intro t ht
  rcases List.mem_append.1 ht with ht | ht
  · exact hkd t ht
  · exact isFirm_link (List.all_eq_true.1 hls t ht)
theorem rootB_spec {roots : List (Nat × Nat)} {dst : Option Nat} {d : Nat} (h : rootB roots dst d = true) : ∀ t, dst = some t → (t, d) ∈ roots ∧ t ≠ d := by
  intro t ht
  subst ht
  simpa [rootB] using h
theorem killB_spec {roots : List (Nat × Nat)} {dst : Option Nat} {ks : List Nat} (h : killB roots dst ks = true) : dst.isSome = true ∧ ∀ d, dst = some d → ∀ t, (t, d) ∈ roots → t ∈ ks := by
  simp only [killB, Bool.and_eq_true, List.all_eq_true, Bool.or_eq_true, Bool.not_eq_true', beq_eq_false_iff_ne, ne_eq, List.contains_eq_mem, decide_eq_true_eq] at h
  refine ⟨h.1, fun d hd t ht => ?_⟩
  rcases h.2 (t, d) ht with h1 | h1
  · exact absurd hd.symm h1
  · exact h1

section
variable {P : Program} {Y X0 : Nat → Prop} {roots : List (Nat × Nat)} {w0 : Base} {w : World} {s : State} {a : Act} {Q : Exit → Act → World → Prop}

theorem cell_of_block {w : World} {b off : Nat} {vs : Array Value} {T : TypeId} {fz : Nat × Nat} (h : w.heap[b]? = some (.cells vs T fz)) : w.cell? ⟨b, off, none⟩ = vs[off]? := by
  simp only [World.cell?, h]
  rfl

theorem timesOk_get {Y X : Nat → Prop} {w : World} {zero : List Value} (hz : 0 < zero.length) : ∀ (n : Nat) (z : List AV), timesOk z zero n = true → z.length = n * zero.length →
    Dat z ∧ ∀ (i : Nat) (h : i < z.length), ∃ v, zero[i % zero.length]? = some v ∧ Rd Y X w v z[i]
  | 0, z, _, hl => by
    have : z = [] := List.eq_nil_of_length_eq_zero (by simpa using hl)
    subst this
    exact ⟨fun x hx => (by cases hx), fun i h => (by simp at h)⟩
  | n + 1, z, h, hl => by
    simp only [timesOk, Bool.and_eq_true] at h
    obtain ⟨h1, h2⟩ := h
    have hl' : z.length = n * zero.length + zero.length := by rw [hl, Nat.succ_mul]
    obtain ⟨hd, ih⟩ := timesOk_get (Y := Y) (X := X) (w := w) hz n (z.drop zero.length) h2 (by simp; omega)
    have hc := constsOk_rd (Y := Y) (X := X) (w := w) h1
    refine ⟨fun x hx => ?_, fun i hi => ?_⟩
    · rw [← List.take_append_drop zero.length z, List.mem_append] at hx
      rcases hx with hx | hx
      · exact hc.1 x hx
      · exact hd x hx
    · by_cases hlt : i < zero.length
      · rw [Nat.mod_eq_of_lt hlt]
        have e : (z.take zero.length)[i]? = some z[i] := by rw [List.getElem?_take_of_lt hlt, List.getElem?_eq_getElem hi]
        obtain ⟨v, hv, hr⟩ := hc.get e
        exact ⟨v, by simpa using hv, hr⟩
      · have hi2 : i - zero.length < (z.drop zero.length).length := by simp; omega
        obtain ⟨v, hv, hr⟩ := ih (i - zero.length) hi2
        have e1 : (i - zero.length) % zero.length = i % zero.length := by
          rw [← Nat.add_mod_right (i - zero.length) zero.length]
          congr 1
          omega
        have e2 : (z.drop zero.length)[i - zero.length] = z[i] := by
          rw [List.getElem_drop]
          congr 1
          omega
        exact ⟨v, e1 ▸ hv, e2 ▸ hr⟩

theorem RegOk.world {Y X : Nat → Prop} {B : Nat → Prop} {tm : Array Value} {w w' : World} {t : Nat} {v : Value} {r : Reg} (h : RegOk Y X B roots tm w t v r) (hw : Below w.heap.size w w') : RegOk Y X B roots tm w' t v r := by
  cases r with
  | val x => exact Rd.world h fun b _ hb => hw.block b hb
  | box cs => obtain ⟨b, e1, e2, e3⟩ := h; exact ⟨b, e1, e2, e3.world (fun c _ hc => hw.block c hc) (hw.block b e3.lt)⟩
  | own k n cs => exact OwnRd.world h (fun c _ hc => hw.block c hc) (fun b _ hb => hw.block b hb)
  | agn b k n cs => exact AgnRd.world h (fun c _ hc => hw.block c hc) (fun b _ hb => hw.block b hb)
  | bxl d =>
    obtain ⟨e1, b, e2, e3, e4, e5⟩ := h
    exact ⟨e1, b, e2, e3, Nat.lt_of_lt_of_le e4 hw.size, fun i hi => by rw [← e5 i hi]; exact cell?_of_heap (hw.block b e4)⟩
  | mem cs => obtain ⟨b, off, e1, e2, e3⟩ := h; exact ⟨b, off, e1, e2, e3.world (fun c _ hc => hw.block c hc) (fun hb => hw.block b hb)⟩
  | ptr d off => exact h
  | dup d => exact h
  | sub _ _ _ _ => exact h
  | dead => trivial

theorem part_ok {Y X : Nat → Prop} {w : World} {t : TypeId} {n off : Nat} {one : Bool} {vs : Array Value} {cs : List AV} {x : AV} (ho : oneOk P t n one = true) (hc : CellsRd Y X w vs cs) (ht : takeA cs off n one = some x) :
    ∃ v, (part t vs off).run P w = .ok v w ∧ Rd Y X w v x := by
  obtain ⟨h1, h2⟩ := oneOk_spec ho
  obtain ⟨hd, hs, hr⟩ := hc
  unfold takeA at ht
  cases one with
  | true =>
    simp only [if_true] at ht
    obtain ⟨v, hv, hrv⟩ := CellsRd.get ⟨hd, hs, hr⟩ ht
    exact ⟨v, by simp [part, h1, hv], hrv⟩
  | false =>
    simp only [Bool.false_eq_true, if_false] at ht
    split at ht
    · rename_i hle
      cases ht
      refine ⟨.agg (vs.extract off (off + n)), by simp [part, h1, h2], .agg _ _ (fun y hy => hd y (List.mem_of_mem_drop (List.mem_of_mem_take hy))) (by simp; omega) (fun i g1 g2 => ?_)⟩
      have hi : i < n := by simp at g2; omega
      have := hr (off + i) (by omega) (by omega)
      simpa using this
    · cases ht

theorem opd_slot {x' : Operand} {x : Nat} (h1 : opdOk x' (.t x) = true) : a.eval x' = a.tmps.getD x Go.undef := by
  cases x' <;> simp only [opdOk] at h1 <;> try cases h1
  simp only [beq_iff_eq] at h1
  subst h1
  rfl

theorem movOk_spec {o : Oper} {x : Nat} (h : movOk o.op x = true) : (execOp a.eval o).run P w = .ok (.value (a.tmps.getD x Go.undef)) w := by
  unfold movOk at h
  split at h
  · rename_i y hop
    simp [execOp, hop, opd_slot (a := a) h]
  · rename_i y hop
    simp [execOp, hop, opd_slot (a := a) h]
  · cases h

theorem reg_av {x : Opd} {v : AV} (h : x.reg s = .val v) : x.av s = some v := by simp only [Opd.av, h]
theorem reg_own {x : Opd} {k n : Nat} {cs : List AV} (h : x.reg s = .own k n cs) : ∃ m, x = .t m := by
  cases x with
  | t m => exact ⟨m, rfl⟩
  | c y => simp only [Opd.reg] at h; cases h

theorem own_call {Y X X' : Nat → Prop} {B B' U : Nat → Prop} {w' : World} {v : Value} {k n : Nat} {cs : List AV} (hB : ∀ b, B' b → B b) (h : OwnRd Y (fun c => X c ∨ blockOf v = some c) B' w' v k n cs) (hX : ∀ b, X' b → X b ∨ (U b ∧ blockOf v = some b)) : OwnRd Y X' B w' v k n cs :=
  (h.mono fun c hc => .inl ((hX c hc).imp id And.right)).lower hB

theorem fillA_length {s : State} : ∀ {ps : List (Nat × Nat × Opd)} {cs cs' : List AV}, fillA s cs ps = some cs' → cs'.length = cs.length
  | [], cs, cs', h => by simp only [fillA, Option.some.injEq] at h; rw [h]
  | (off, n, o) :: ps, cs, cs', h => by
    simp only [fillA] at h
    split at h
    · cases h
    · split at h
      · cases h
      · split at h
        · cases h
        · rename_i hl
          rw [fillA_length h, (layA_ok hl).2.1]

/-- A new array, owned. -/
theorem own_new (h : Rel Y X0 roots w0 s a w) {d k n : Nat} {cells : Array Value} {cs : List AV} {T : TypeId} (hks : ∀ t, (t, d) ∈ roots → isLink (rget s t) = false) (hc : CellsRd Y (fun b => X0 b ∨ XS s a.tmps b) w cells cs) (hl : cs.length = n * k) :
    Rel Y X0 roots w0 (rput s (some d) (.own k n cs)) (a.put (some d) (.slice (some ⟨w.heap.size, 0, none⟩) n n)) (w.alloc (.cells cells T)) := by
  refine Rel.write (ks := []) h ((Below.refl _ _).alloc (Nat.le_refl _) _) (fun t ht => .inr (hks t ht)) (fun _ b hb => by simp only [blockOf, rootOf, Option.map_some, Option.some.injEq] at hb; omega) (fun X h1 _ => ?_)
  have hc' := (hc.mono (X' := X) (fun b hb => (h1 b hb).imp id And.left)).world (w' := w.alloc (.cells cells T)) (fun b _ hb => Below.heap_alloc _ _ _ hb)
  have hh : (w.alloc (.cells cells T)).heap[w.heap.size]? = some (.cells cells T (0, 0)) := by show (w.heap.push _)[w.heap.size]? = _; simp
  have hs := hc.2.1
  refine .inr ⟨w.heap.size, n, rfl, Nat.le_refl _, hl, .inl h.below.size, ⟨hc.1, cells, T, hh, by omega, fun i hi => ?_⟩, cells, T, hh, by omega⟩
  exact ⟨cells[i]'(by omega), by rw [Nat.zero_add, Array.getElem?_eq_getElem], hc'.2.2 i (by omega) hi⟩

theorem own_or {Y X : Nat → Prop} {B : Nat → Prop} {d : Nat} {tm : Array Value} {w : World} {v : Value} {k n : Nat} {cs : List AV} {ow : Bool} (h : OwnRd Y X B w v k n cs) (hn : ow = false → ∀ b, blockOf v = some b → ¬ X b) (hY : ∀ b, Y b → ¬ B b) : RegOk Y X B roots tm w d v (if ow then .own k n cs else .val (.sl n cs)) := by
  cases ow with
  | true => exact h
  | false => exact OwnRd.frozen h (fun b hb => .inl hb) (hn rfl) hY

def cap0 : Value → Nat
  | .slice _ _ c => c
  | _ => 0

theorem bnd_some (h : Rel Y X0 roots w0 s a w) {o : Option Opd} {o' : Option Operand} {d n : Nat} (ho : opdO o' o = true) (hb : bndA s d o = some n) : (o = none ∧ o' = none ∧ n = d) ∨ ∃ x, o = some x ∧ ∃ k i, o'.map a.eval = some (.int k i) ∧ 0 ≤ i ∧ i.toNat = n := by
  cases o with
  | none =>
    cases o' with
    | none => simp only [bndA, Option.some.injEq] at hb; exact .inl ⟨rfl, rfl, hb.symm⟩
    | some y => cases ho
  | some x =>
    cases o' with
    | none => cases ho
    | some y =>
      simp only [opdO] at ho
      simp only [bndA] at hb
      split at hb
      · rename_i k i hi
        split at hb
        · rename_i h0
          cases hb
          have := opd_rd h ho hi
          generalize hv : a.eval y = v at this
          cases this
          exact .inr ⟨x, rfl, k, i, by simp [hv], h0, rfl⟩
        · cases hb
      · cases hb

theorem bnd_lo (h : Rel Y X0 roots w0 s a w) {o : Option Opd} {o' : Option Operand} {l hh : Nat} (ho : opdO o' o = true) (hb : bndA s 0 o = some l) (hle : l ≤ hh) : (o'.map a.eval = none ∧ l = 0) ∨ ∃ k i, o'.map a.eval = some (.int k i) ∧ 0 ≤ i ∧ i.toNat = l ∧ l ≤ hh := by
  rcases bnd_some h ho hb with ⟨_, rfl, rfl⟩ | ⟨_, _, k, i, h1, h2, h3⟩
  · exact .inl ⟨rfl, rfl⟩
  · exact .inr ⟨k, i, h1, h2, h3, hle⟩
theorem bnd_mx (h : Rel Y X0 roots w0 s a w) {o : Option Opd} {o' : Option Operand} {d m cap : Nat} (ho : opdO o' o = true) (hb : bndA s d o = some m) (hd : d = cap) (hle : m ≤ cap) : (o'.map a.eval = none ∧ m = cap) ∨ ∃ k i, o'.map a.eval = some (.int k i) ∧ 0 ≤ i ∧ i.toNat = m ∧ m ≤ cap := by
  rcases bnd_some h ho hb with ⟨_, rfl, rfl⟩ | ⟨_, _, k, i, h1, h2, h3⟩
  · exact .inl ⟨rfl, hd⟩
  · exact .inr ⟨k, i, h1, h2, h3, hle⟩
theorem bnd_m (h : Rel Y X0 roots w0 s a w) {o : Option Opd} {o' : Option Operand} {d m cap : Nat} (ho : opdO o' o = true) (hb : bndA s d o = some m) (hle : m ≤ cap) : (o'.map a.eval = none ∧ (if o.isSome then m else cap) = cap) ∨ ∃ k i, o'.map a.eval = some (.int k i) ∧ 0 ≤ i ∧ i.toNat = (if o.isSome then m else cap) ∧ (if o.isSome then m else cap) ≤ cap := by
  rcases bnd_some h ho hb with ⟨rfl, rfl, rfl⟩ | ⟨x, rfl, k, i, h1, h2, h3⟩
  · exact .inl ⟨rfl, rfl⟩
  · exact .inr ⟨k, i, h1, h2, h3, hle⟩
theorem bnd_h (h : Rel Y X0 roots w0 s a w) {o om : Option Opd} {o' om' : Option Operand} {n hh mm : Nat} (ho : opdO o' o = true) (hom : opdO om' om = true) (hb : bndA s n o = some hh) (hs : om.isSome → o.isSome) (h1 : om.isSome = true → hh ≤ mm) (h2 : ¬ om.isSome = true → hh ≤ mm) :
    (o'.map a.eval = none ∧ om'.map a.eval = none ∧ hh = n) ∨ ∃ k i, o'.map a.eval = some (.int k i) ∧ 0 ≤ i ∧ i.toNat = hh ∧ hh ≤ mm := by
  rcases bnd_some h ho hb with ⟨rfl, rfl, rfl⟩ | ⟨x, rfl, k, i, g1, g2, g3⟩
  · refine .inl ⟨rfl, ?_, rfl⟩
    cases om with
    | none => cases om' with | none => rfl | some y => cases hom
    | some z => have := hs rfl; cases this
  · refine .inr ⟨k, i, g1, g2, g3, ?_⟩
    by_cases hh : om.isSome = true
    · exact h1 hh
    · exact h2 hh

theorem const_nil {v : Value} (h : constOk v (.sl 0 []) = true) : v = .slice none 0 0 := by
  unfold constOk at h
  split at h <;> first | rfl | (rename_i e; cases e; done) | (rename_i e _; cases e; done) | cases h
theorem Grown.from_ {B : Base} {w : World} (h : Grown B w) : ∀ b, From w.heap.size b → B.mine b := fun _ hb => .inl (Nat.le_trans h.size hb)

/-- **A call that is given a slice to write.** -/
theorem own_given (h : Rel Y X0 roots w0 s a w) {F : Caller} (hF : CallOk P F) {f k n : Nat} {cs : List AV} {vs : List AV} {y : AV} (hy : F f (.fresh k n cs :: vs) = some y) {o1 : Operand} {rest : List Operand} (e1 : rest.length = vs.length)
    (e2 : ∀ (i : Nat) (h1 : i < rest.length) (h2 : i < vs.length), Rd Y (fun b => X0 b ∨ XS s a.tmps b) w (a.eval rest[i]) vs[i]) (h0 : OwnRd Y (fun b => X0 b ∨ XS s a.tmps b) w0.mine w (a.eval o1) k n cs)
    {ks : List Nat} (hO : ∀ b, blockOf (a.eval o1) = some b → ∃ x, x ∈ ks ∧ excl (rget s x) = true ∧ blockOf (a.tmps.getD x Go.undef) = some b) {d : Nat} (hks : ∀ t, (t, d) ∈ roots → t ∈ ks ∨ isLink (rget s t) = false) :
    Calls P f ((o1 :: rest).map a.eval).toArray w fun e w' => ∃ v, e = .returned v ∧ Rel Y X0 roots w0 (rput (rputs s (ks.map fun u => (u, Reg.dead))) (some d) (ownReg y)) (a.put (some d) v) w' := by
  have hG : ∀ b, Given (.fresh k n cs :: vs) ((o1 :: rest).map a.eval).toArray b ↔ blockOf (a.eval o1) = some b := fun b => ⟨fun hb => hb.2, fun hb => ⟨⟨k, n, cs, vs, rfl⟩, hb⟩⟩
  have hXS : ∀ b, blockOf (a.eval o1) = some b → XS s a.tmps b := fun b hb => let ⟨x, _, h2, h3⟩ := hO b hb; ⟨x, h2, h3⟩
  have hmine : ∀ b, blockOf (a.eval o1) = some b → w0.mine b := fun b hb => let ⟨x, _, h2, h3⟩ := hO b hb; (h.exclLow h2 h3).1
  have hG' : Given (.fresh k n cs :: vs) ((o1 :: rest).map a.eval).toArray = fun b => blockOf (a.eval o1) = some b := funext fun b => propext (hG b)
  refine (hF f (.fresh k n cs :: vs) y hy Y (fun b => (X0 b ∨ XS s a.tmps b) ∧ ¬ blockOf (a.eval o1) = some b) w ((o1 :: rest).map a.eval).toArray (fun b hb => ⟨h.lowX b hb.1, fun e => hb.2 ((hG b).1 e)⟩)
    (fun b hb => ⟨h.lowYw b hb, fun e => h.lowY b hb (hmine b ((hG b).1 e))⟩) (by simp [e1]) (fun i h1 h2 => ?_) (fun i h2 h3 => ?_)).mono ?_
  · cases i with
    | zero =>
      rw [hG']
      show OwnRd _ _ _ w (a.eval o1) k n cs
      have h0' := OwnRd.mono (X' := fun c => ((X0 c ∨ XS s a.tmps c) ∧ ¬ blockOf (a.eval o1) = some c) ∨ blockOf (a.eval o1) = some c) h0 fun c hc => .inl (hc.elim And.left fun e => .inr (hXS c e))
      rcases h0' with g | ⟨b, cap, g1, g2, g3, _, g5, g6⟩
      · exact .inl g
      · exact .inr ⟨b, cap, g1, g2, g3, by rw [g1]; rfl, g5, g6⟩
    | succ i =>
      rw [hG']
      have j1 : i < rest.length := by simpa using h1
      have j2 : i < vs.length := by simpa using h2
      have g := e2 i j1 j2
      have g' : Rd Y (fun c => ((X0 c ∨ XS s a.tmps c) ∧ ¬ blockOf (a.eval o1) = some c) ∨ blockOf (a.eval o1) = some c) w (a.eval rest[i]) vs[i] := g.mono fun c hc => .inl (hc.elim And.left fun e => .inr (hXS c e))
      simp only [List.map_cons, List.getElem_toArray, List.getElem_cons_succ, List.getElem_map]
      generalize vs[i] = z at g' ⊢
      generalize a.eval rest[i] = u at g' ⊢
      cases z <;> first | exact g' | (exfalso; revert g'; intro g'; cases g')
  · cases i with
    | zero => rfl
    | succ i =>
      have h2' : i < vs.length := by simpa using h2
      have g := e2 i (by omega) h2'
      simp only [List.getElem_cons_succ] at h3
      generalize vs[i] = z at g h3
      generalize a.eval (rest[i]'(by omega)) = u at g
      cases g <;> cases h3
  · rw [hG']
    rintro e w' ⟨v, e1, e2, e3⟩
    refine ⟨v, e1, h.give e2 hO hks (fun he b hb => ?_) (fun X h1 h2 h3 => ?_)⟩
    · cases y
      case fresh k n cs => exact (OwnRd.block e3 hb).1
      case frs bb k n cs => exact (AgnRd.block e3 hb).1
      all_goals cases he
    · have hlow : ∀ b, Base.mine ⟨w, fun b => blockOf (a.eval o1) = some b⟩ b → w0.mine b := fun b hb => hb.elim (h.below.from_ b) (hmine b)
      have hXc : ∀ c, X c → ((X0 c ∨ XS s a.tmps c) ∧ ¬ blockOf (a.eval o1) = some c) ∨ blockOf v = some c := by
        intro c hc
        by_cases ho : blockOf (a.eval o1) = some c
        · exact .inr (h2 c hc ho).2
        · rcases h1 c hc with g | g
          · exact .inl ⟨g, ho⟩
          · exact .inr g.2
      cases y
      case fresh k n cs => exact (OwnRd.mono e3 fun c hc => .inl (hXc c hc)).lower hlow
      case frs bb k n cs => exact (AgnRd.mono e3 fun c hc => .inl (hXc c hc)).lower hlow
      all_goals exact Rd.mono e3 fun c hc => .inl ⟨h3 rfl c hc, fun ho => by cases (h2 c hc ho).1⟩

/-- A slice in a new array goes into slot d, owned or frozen. -/
theorem own_grown (h : Rel Y X0 roots w0 s a w) {w' : World} (hw : Below w.heap.size w w') {d k n : Nat} {v : Value} {cs : List AV} {ow : Bool} {ks : List Nat} (hks : ∀ t, (t, d) ∈ roots → t ∈ ks ∨ isLink (rget s t) = false)
    (hown : OwnRd Y (fun c => (X0 c ∨ XS s a.tmps c) ∨ w.heap.size ≤ c) (From w.heap.size) w' v k n cs) :
    Rel Y X0 roots w0 (rput (rputs s (ks.map fun u => (u, Reg.dead))) (some d) (if ow then .own k n cs else .val (.sl n cs))) (a.put (some d) v) w' := by
  refine Rel.write h hw hks (fun _ b hb => (OwnRd.block hown hb).1) (fun X g1 g2 => ?_)
  have hown' : OwnRd Y X w0.mine w' v k n cs := (hown.mono fun c hc => .inl ((g1 c hc).imp id And.left)).lower h.below.from_
  refine own_or hown' (fun he c hc hXc => ?_) h.lowY
  subst he
  have h1 := (OwnRd.block hown hc).1
  have := h.lowX c (g2 rfl c hXc)
  unfold From at h1
  omega

/-- No array at all. -/
theorem own_none (h : Rel Y X0 roots w0 s a w) {d k : Nat} {ow : Bool} {ks : List Nat} (hks : ∀ t, (t, d) ∈ roots → t ∈ ks ∨ isLink (rget s t) = false) :
    Rel Y X0 roots w0 (rput (rputs s (ks.map fun u => (u, Reg.dead))) (some d) (if ow then .own k 0 [] else .val (.sl 0 []))) (a.put (some d) (.slice none 0 0)) w :=
  own_grown h (Below.refl _ _) hks (.inl ⟨rfl, rfl, rfl⟩)

/-- append onto a slice that owns its array. -/
theorem apd_own {o : Oper} {x' y' : Operand} {t t' : TypeId} {nx d k n m B : Nat} {cs ys : List AV} {ow : Bool} {K' : Act → World → Prop} (h : Rel Y X0 roots w0 s a w)
    (hop : o.op = .call { callee := .builtin .append, args := #[x', y'], argTypes := #[t, t'] }) (h1 : opdOk x' (.t nx) = true) (h3 : elemOk P t k = true) (h4 : isSliceT P t' = true) (h5 : roomOk P t B = true) (hdst : o.dst = some d)
    (hfr : ∀ u, (u, d) ∈ roots → isLink (rget s u) = false) (hxr : rget s nx = .own k n cs) (hyr : SlR Y (fun b => X0 b ∨ XS s a.tmps b) w (a.eval y') m ys) (hylen : ys.length = m * k) (hnm : n + m ≤ B)
    (hK : ∀ a' w', Rel Y X0 roots w0 (rput (rputs s [(nx, .dead)]) (some d) (if ow then .own k (n + m) (cs ++ ys) else .val (.sl (n + m) (cs ++ ys)))) a' w' → K' a' w') : o.wp P a w K' Q := by
  have hrunO : ∀ {v : Value} {w' : World}, (Builtin.append_ #[t, t'] o.type #[a.eval x', a.eval y']).run P w = .ok v w' → (execOp a.eval o).run P w = .ok (.value v) w' := by
    intro v w' hh
    simp [execOp, hop, resolve, invoke, builtin, hh]
  rcases h.ownLow hxr with ⟨e1, rfl, rfl⟩ | ⟨b, cap, e1, e2, e3, e4, e5, e6, hXb⟩
  · have hxv : a.eval x' = .slice none 0 0 := by rw [opd_slot h1, e1]
    rw [hxv] at hrunO
    simp only [Nat.zero_add, List.nil_append] at hK
    rcases Nat.eq_zero_or_pos m with hm | hm
    · subst hm
      have hy0 : ys = [] := List.eq_nil_of_length_eq_zero (by simpa using hylen)
      subst hy0
      have hr : (execOp a.eval o).run P w = .ok (.value (.slice none 0 0)) w := by
        rcases hyr with ⟨_, _, hyv | ⟨p, c, hyv⟩⟩ | ⟨b, off, cap, hyv, _⟩
        · rw [hyv] at hrunO
          exact hrunO (append_nil (P := P) (w := w) (ty := o.type) h3 h4)
        · rw [hyv] at hrunO
          exact hrunO (append_nil0 (P := P) (w := w) (ty := o.type) h3 h4)
        · rw [hyv] at hrunO
          exact hrunO (append_nil0 (P := P) (w := w) (ty := o.type) h3 h4)
      refine wp_value hr (hK _ _ ?_)
      rw [hdst]
      exact own_none (ks := [nx]) h (fun u hu => .inr (hfr u hu))
    · obtain ⟨v', w', hrun, hbel, hown⟩ := append_grow (P := P) (ty := o.type) (n := 0) (cs := []) h3 h4 h5 (.inl ⟨rfl, rfl, rfl, hm⟩) (by simp) hyr hm hylen (by omega)
      have hr := hrunO hrun
      simp only [Oper.wp, hr, Oper.upon]
      refine hK _ _ ?_
      rw [hdst]
      simp only [Nat.zero_add, List.nil_append] at hown
      exact own_grown (ks := [nx]) h hbel (fun u hu => .inr (hfr u hu)) hown
  have hxv : a.eval x' = .slice (some ⟨b, 0, none⟩) n cap := by rw [opd_slot h1, e1]
  rw [hxv] at hrunO
  by_cases hyn : m = 0
  · subst hyn
    have hy0 : ys = [] := List.eq_nil_of_length_eq_zero (by simpa using hylen)
    subst hy0
    have hr : (execOp a.eval o).run P w = .ok (.value (.slice (some ⟨b, 0, none⟩) n cap)) w := by
      rcases hyr with ⟨_, _, hyv | ⟨p, c, hyv⟩⟩ | ⟨b', off', cap', hyv, _⟩
      · rw [hyv] at hrunO
        exact hrunO (append_none (P := P) (w := w) (ty := o.type) h3 h4 e2)
      · rw [hyv] at hrunO
        exact hrunO (append_noneE (P := P) (w := w) (ty := o.type) h3 h4 e2)
      · rw [hyv] at hrunO
        exact hrunO (append_noneE (P := P) (w := w) (ty := o.type) h3 h4 e2)
    refine wp_value hr (hK _ _ ?_)
    rw [hdst]
    refine Rel.shift h hxr (b := b) (by rw [e1]; rfl) hfr rfl rfl rfl rfl (fun _ _ => rfl) (fun _ => rfl) (fun X g1 g2 => ?_)
    simp only [Nat.add_zero, List.append_nil] at g2 ⊢
    exact own_or (.inr ⟨b, cap, rfl, e2, e3, e4, e5.mono fun c hc => .inl (g1 c hc), e6⟩) (fun he => by subst he; exact fun c hc => by cases hc; exact g2 rfl) h.lowY
  by_cases hroom : n + m ≤ cap
  · obtain ⟨w', hrun, g1, g2, g3, g4, g5, g6, g7⟩ := append_room (P := P) (ty := o.type) h3 h4 hroom (Y := Y) (X := fun b => X0 b ∨ XS s a.tmps b) (.inr hXb) e5 e6 e3 hyr hyn hylen
    have hr := hrunO hrun
    simp only [Oper.wp, hr, Oper.upon]
    refine hK _ _ ?_
    rw [hdst]
    refine Rel.shift h hxr (b := b) (by rw [e1]; rfl) hfr g1 g2 g3 g4 g5 (fun _ => rfl) (fun X q1 q2 => ?_)
    exact own_or (.inr ⟨b, cap, rfl, hroom, by rw [List.length_append, e3, hylen, Nat.add_mul], e4, g6.mono fun c hc => .inl (q1 c hc), g7⟩) (fun he => by subst he; exact fun c hc => by cases hc; exact q2 rfl) h.lowY
  · obtain ⟨v', w', hrun, hbel, hown⟩ := append_grow (P := P) (ty := o.type) h3 h4 h5 (.inr ⟨b, cap, rfl, by omega, e5.mem⟩) e3 hyr (by omega) hylen hnm
    have hr := hrunO hrun
    simp only [Oper.wp, hr, Oper.upon]
    refine hK _ _ ?_
    rw [hdst]
    exact own_grown (ks := [nx]) h hbel (fun u hu => .inr (hfr u hu)) hown
theorem put_same (a : Act) (x : Nat) : a.put (some x) (a.tmps.getD x Go.undef) = a := by
  have e : a.tmps.setIfInBounds x (a.tmps.getD x Go.undef) = a.tmps := by
    apply Array.ext
    · simp
    · intro i h1 h2
      rw [Array.getElem_setIfInBounds]
      split
      · rename_i g
        subst g
        simp [Array.getD, h2]
      · rfl
  show { a with tmps := a.tmps.setIfInBounds x (a.tmps.getD x Go.undef) } = a
  rw [e]
/-- The first part of what slot d owns goes over to the slot that names it. -/
theorem retake (h : Rel Y X0 roots w0 s a w) {x d k n hh : Nat} {cs : List AV} (hx : rget s x = .sub d k 0 hh) (hd : rget s d = .own k n cs) (hle : hh ≤ n) (hks : ∀ t, (t, x) ∈ roots → isLink (rget s t) = false) :
    Rel Y X0 roots w0 ((s.set d .dead).set x (.own k hh (cs.take (hh * k)))) a w := by
  have h0 := h.reg x
  rw [hx] at h0
  obtain ⟨_, hv⟩ := h0
  have hd0 := h.reg d
  rw [hd] at hd0
  have hp := h.pass (x := d) (d := x) (r := .own k hh (cs.take (hh * k))) (v := a.tmps.getD x Go.undef) (by rw [hd]; rfl) ?_ hks ?_
  · rw [put_same] at hp
    exact hp
  · rcases hv with ⟨e1, e2, _⟩ | ⟨b, n', cap, e1, _, _, _, e2⟩
    · rw [e1, e2]
    · rw [e1, e2, Nat.zero_mul]
      split <;> rfl
  · intro X g1
    rcases hv with ⟨e1, e2, _, rfl⟩ | ⟨b, n', cap, e1, _, hl2, hl3, e2⟩
    · refine .inl ⟨e2, rfl, by simp⟩
    · have e3 : a.tmps.getD x Go.undef = .slice (some ⟨b, 0, none⟩) hh cap := by
        rw [e2, Nat.zero_mul]
        split <;> rfl
      rcases hd0 with ⟨q1, _⟩ | ⟨b', cap', q1, q2, q3, q4, q5, q6⟩
      · rw [e1] at q1; cases q1
      · rw [e1] at q1
        cases q1
        refine .inr ⟨b, cap, e3, by omega, ?_, q4, ?_, q6⟩
        · rw [List.length_take, q3, Nat.min_eq_left (Nat.mul_le_mul_right _ hle)]
        · obtain ⟨p1, vs, T, p2, p3, p4⟩ := q5.mono (X' := X) fun c hc => .inl (g1 c hc)
          refine ⟨fun y hy => p1 y (List.mem_of_mem_take hy), vs, T, p2, ?_, fun i hi => ?_⟩
          · have : (cs.take (hh * k)).length ≤ cs.length := by rw [List.length_take]; exact Nat.min_le_right _ _
            omega
          · obtain ⟨v, r1, r2⟩ := p4 i (by simp at hi; omega)
            exact ⟨v, r1, by simpa using r2⟩
theorem memrd_take {Y X : Nat → Prop} {w : World} {b off : Nat} {cs : List AV} (h : MemRd Y X w b off cs) (k : Nat) : MemRd Y X w b off (cs.take k) :=
  ⟨fun y hy => h.1 y (List.mem_of_mem_take hy), fun i hi => by
    obtain ⟨v, r1, r2⟩ := h.2 i (by simp at hi; omega)
    exact ⟨v, r1, by simpa using r2⟩⟩

set_option maxHeartbeats 4000000 in
theorem simK {o : Oper} {k : K} {oks : List Nat} {F : Caller} {r : Reg} {l : List (Nat × Reg)} {K' : Act → World → Prop} (h : Rel Y X0 roots w0 s a w) (hF : CallOk P F) (hk : kOk P o.op k = true) (hkd : ∀ t ∈ oks, isLink (rget s t) = false) (hro : rootOk roots oks o.dst k = true)
    (hev : evK F s k = some (r, l)) (hK : ∀ a' w', Rel Y X0 roots w0 (rput (rputs s l) o.dst r) a' w' → K' a' w') : o.wp P a w K' Q := by
  cases k
  case bad => cases hev
  case mov y =>
    simp only [evK, Option.map_eq_some_iff] at hev
    obtain ⟨x, hx, he⟩ := hev
    cases he
    simp only [kOk] at hk
    split at hk
    · rename_i z hop
      exact wp_value (v := a.eval z) (by simp [execOp, hop]) (hK _ _ (h.put (freeB_spec hkd hro) (opd_rd h hk hx)))
    · rename_i z hop
      exact wp_value (v := a.eval z) (by simp [execOp, hop]) (hK _ _ (h.put (freeB_spec hkd hro) (opd_rd h hk hx)))
    · cases hk
  case pick c x y =>
    simp only [kOk] at hk
    split at hk
    · rename_i c' x' y' hop
      simp only [Bool.and_eq_true] at hk
      obtain ⟨⟨h1, h2⟩, h3⟩ := hk
      simp only [evK] at hev
      split at hev
      · rename_i hc
        simp only [Option.map_eq_some_iff] at hev
        obtain ⟨v, hv, he⟩ := hev
        cases he
        have hcr := opd_rd h h1 hc
        generalize hcv : a.eval c' = cv at hcr
        cases hcr
        exact wp_value (v := a.eval x') (by simp [execOp, hop, hcv, asBool]) (hK _ _ (h.put (freeB_spec hkd hro) (opd_rd h h2 hv)))
      · rename_i hc
        simp only [Option.map_eq_some_iff] at hev
        obtain ⟨v, hv, he⟩ := hev
        cases he
        have hcr := opd_rd h h1 hc
        generalize hcv : a.eval c' = cv at hcr
        cases hcr
        exact wp_value (v := a.eval y') (by simp [execOp, hop, hcv, asBool]) (hK _ _ (h.put (freeB_spec hkd hro) (opd_rd h h3 hv)))
      · cases hev
    · cases hk
  case bin op x y =>
    simp only [kOk] at hk
    split at hk
    · rename_i op' t x' y' t' hop
      simp only [Bool.and_eq_true, beq_iff_eq] at hk
      obtain ⟨⟨rfl, h1⟩, h2⟩ := hk
      simp only [evK] at hev
      split at hev
      · rename_i xa ya hx hy
        simp only [Option.map_eq_some_iff] at hev
        obtain ⟨z, hz, he⟩ := hev
        cases he
        have hxr := opd_rd h h1 hx
        have hyr := opd_rd h h2 hy
        generalize hxv : a.eval x' = xv at hxr
        generalize hyv : a.eval y' = yv at hyr
        cases xa <;> cases ya <;> simp only [binA] at hz <;> try cases hz
        cases hxr
        cases hyr
        obtain ⟨v, hrun, hr⟩ := binA_ok (P := P) (w := w) (t := t) (Y := Y) (X := fun b => X0 b ∨ XS s a.tmps b) (by simpa only [binA] using hz)
        exact wp_value (v := v) (by simp [execOp, hop, hxv, hyv, run_eqGuard_int, hrun]) (hK _ _ (h.put (freeB_spec hkd hro) hr))
      · cases hev
    · cases hk
  case eqb neg x y =>
    simp only [kOk] at hk
    split at hk
    · rename_i op' t x' y' t' hop
      simp only [Bool.and_eq_true, beq_iff_eq] at hk
      obtain ⟨⟨⟨rfl, h0⟩, h1⟩, h2⟩ := hk
      simp only [evK] at hev
      split at hev
      · rename_i xa ya hx hy
        cases hev
        have hxr := opd_rd h h1 hx
        have hyr := opd_rd h h2 hy
        generalize hxv : a.eval x' = xv at hxr
        generalize hyv : a.eval y' = yv at hyr
        cases hxr
        cases hyr
        have ht : P.underlying t = some .bool := by
          unfold isBoolT at h0
          split at h0
          · assumption
          · cases h0
        have heq : (Op.equal t (.bool xa) (.bool ya)).run P w = .ok (xa == ya) w := run_equalIn_bool' w 9999 t xa ya ht
        refine wp_value (v := .bool (if neg then !(xa == ya) else xa == ya)) ?_ (hK _ _ (h.put (freeB_spec hkd hro) (.bool _)))
        cases neg
        · simp only [Bool.false_eq_true, if_false, execOp, hop, hxv, hyv, Sem.run_bind, run_eqGuard_bool, Result.andThen_ok, binOp, heq, Sem.run_pure]
        · simp only [if_true, execOp, hop, hxv, hyv, Sem.run_bind, run_eqGuard_bool, Result.andThen_ok, binOp, heq, Sem.run_pure]
      · cases hev
    · cases hk
  case eqv neg n x y =>
    simp only [kOk] at hk
    split at hk
    · rename_i op' t x' y' t' hop
      simp only [Bool.and_eq_true, beq_iff_eq] at hk
      obtain ⟨⟨⟨rfl, h0⟩, h1⟩, h2⟩ := hk
      simp only [evK] at hev
      split at hev
      · rename_i xa ya hx hy
        split at hev
        · rename_i hn
          simp only [Option.map_eq_some_iff] at hev
          obtain ⟨z, hz, he⟩ := hev
          cases he
          obtain ⟨xs, ys, e1, e2, heq, hg⟩ := eqv_ok h0 (opd_rd h h1 hx) (opd_rd h h2 hy) hn hz x' y'
          refine wp_value (v := .bool (if neg then !z else z)) ?_ (hK _ _ (h.put (freeB_spec hkd hro) (.bool _)))
          rw [e1, e2] at heq hg
          cases neg
          · simp only [Bool.false_eq_true, if_false, execOp, hop, e1, e2, Sem.run_bind, hg, Result.andThen_ok, binOp, heq, Sem.run_pure]
          · simp only [if_true, execOp, hop, e1, e2, Sem.run_bind, hg, Result.andThen_ok, binOp, heq, Sem.run_pure]
        · cases hev
      · cases hev
    · cases hk
  case un op x =>
    simp only [kOk] at hk
    split at hk
    · rename_i op' t x' hop
      simp only [Bool.and_eq_true, beq_iff_eq] at hk
      obtain ⟨rfl, h1⟩ := hk
      simp only [evK] at hev
      split at hev
      · rename_i xa hx
        simp only [Option.map_eq_some_iff] at hev
        obtain ⟨z, hz, he⟩ := hev
        cases he
        obtain ⟨v, hrun, hr⟩ := unA_ok (P := P) (opd_rd h h1 hx) hz
        exact wp_value (v := v) (by simp [execOp, hop, hrun]) (hK _ _ (h.put (freeB_spec hkd hro) hr))
      · cases hev
    · cases hk
  case cv k x =>
    simp only [kOk] at hk
    split at hk
    · rename_i src dst x' hop
      simp only [Bool.and_eq_true] at hk
      obtain ⟨⟨h0, h1⟩, h2⟩ := hk
      simp only [evK] at hev
      split at hev
      · rename_i k' n hx
        cases hev
        have hxr := opd_rd h h2 hx
        generalize hxv : a.eval x' = xv at hxr
        cases hxr
        split at h1
        · rename_i k'' hd
          simp only [beq_iff_eq] at h1
          subst h1
          unfold isIntT at h0
          split at h0
          · rename_i ks hs
            exact wp_value (v := .int k'' (k''.wrap n)) (by simp [execOp, hop, hxv, convert, run_underlying hs, run_underlying hd, Conv.intToInt]) (hK _ _ (h.put (freeB_spec hkd hro) (.int _ _)))
          · cases h0
        · cases h1
      · cases hev
    · cases hk
  case new z ks =>
    simp only [kOk] at hk
    split at hk
    · rename_i t hop
      cases hev
      obtain ⟨v, hz, hc⟩ := zeroOk_spec hk
      obtain ⟨h1, h2⟩ := killB_spec hro
      simp only [Oper.wp]
      have hrun : (execOp a.eval o).run P w = .ok (.value (.pointer (some ⟨w.heap.size, 0, none⟩))) (w.alloc (.cells v.cells t)) := by
        simp [execOp, hop, Instr.alloc, hz, newVar, newRow]
      rw [hrun]
      exact hK _ _ (Rel.newBox h h2 h1 (hc _ _ _))
    · cases hk
  case box x ks =>
    simp only [kOk] at hk
    split at hk
    · rename_i t x' hop
      obtain ⟨h1, h2⟩ := killB_spec hro
      have hrun : (execOp a.eval o).run P w = .ok (.value (.pointer (some ⟨w.heap.size, 0, none⟩))) (w.alloc (.cells (a.eval x').cells t)) := by
        simp [execOp, hop, Instr.box, newVar, newRow]
      simp only [Oper.wp, hrun]
      simp only [evK] at hev
      split at hev
      · rename_i cs hx
        cases hev
        have hc := (cellsA_ok (n := cs.length) (ys := cs) (opd_rd h hk hx) (by simp [cellsA])).2
        exact hK _ _ (Rel.newBox h h2 h1 hc)
      · rename_i y hy hx
        split at hev
        · rename_i hd
          cases hev
          have hc := (cellsA_ok (n := 1) (ys := [y]) (opd_rd h hk hx) (by cases y <;> first | rfl | cases hd)).2
          exact hK _ _ (Rel.newBox h h2 h1 hc)
        · cases hev
      · cases hev
    · cases hk
  case bld z ps =>
    simp only [kOk] at hk
    split at hk
    · rename_i t parts hop
      simp only [evK, Option.map_eq_some_iff] at hev
      obtain ⟨cs, hcs, he⟩ := hev
      cases he
      simp only [bldOk, Bool.and_eq_true] at hk
      obtain ⟨hz, hk⟩ := hk
      obtain ⟨v, hzv, hc⟩ := zeroOk_spec hz
      split at hk
      · rename_i fs hfs
        simp only [Bool.and_eq_true] at hk
        obtain ⟨hall, hp⟩ := hk
        have hplaces : (fs.mapM fun f => do pure (f.offset, ← sizeOf f.type) : Sem (Array (Nat × Nat))).run P w = .ok (fs.map fun f => (f.offset, P.cellsOf f.type)) w := by
          have key : ∀ (l : List Field), (∀ f ∈ l, (P.info? f.type).isSome = true) → (l.mapM fun f => do pure (f.offset, ← sizeOf f.type) : Sem (List (Nat × Nat))).run P w = .ok (l.map fun f => (f.offset, P.cellsOf f.type)) w := by
            intro l
            induction l with
            | nil => intro _; rfl
            | cons f l ih =>
              intro hl
              obtain ⟨i, hi⟩ := Option.isSome_iff_exists.1 (hl f (List.mem_cons_self ..))
              have hsz : (sizeOf f.type).run P w = .ok (P.cellsOf f.type) w := by simp [sizeOf, typeInfo, program, Sem.run, hi, Program.cellsOf]
              simp only [List.mapM_cons, Sem.run_bind, hsz, Result.andThen_ok, Sem.run_pure, ih (fun g hg => hl g (List.mem_cons_of_mem _ hg)), List.map_cons]
          have := key fs.toList (fun f hf => by simp only [Array.all_eq_true_iff_forall_mem] at hall; exact hall f (by simpa using hf))
          rw [Array.mapM_eq_mapM_toList]
          simp only [Sem.run_map, this, Result.andThen_ok]
          congr 1
          apply Array.ext'
          simp
        obtain ⟨cells', e1, e2⟩ := fill_ok h (place := fun i => (fs.map fun f => (f.offset, P.cellsOf f.type))[i]?) (pl := fieldOk P fs) (fun i off n hi => by
          unfold fieldOk at hi
          split at hi
          · rename_i f hf
            simp only [Bool.and_eq_true, beq_iff_eq] at hi
            obtain ⟨rfl, hsz⟩ := hi
            unfold sizeIs at hsz
            split at hsz
            · rename_i ii hii
              simp only [beq_iff_eq] at hsz
              simp [hf, Program.cellsOf, hii, hsz]
            · cases hsz
          · cases hi) hp (hc _ _ w) hcs
        have e1' : Instr.fill (fun i => (fs.map fun f => (f.offset, P.cellsOf f.type))[i]?) v.cells (parts.map fun p => (p.1, a.eval p.2)).toList = some cells' := by rw [Array.toList_map]; exact e1
        refine wp_value (v := .agg cells') ?_ (hK _ _ (h.put (freeB_spec hkd hro) (.agg cells' cs e2.1 e2.2.1 e2.2.2)))
        simp only [execOp, hop, Instr.build, Sem.run_bind, hzv, Result.andThen_ok, run_underlying hfs, hplaces, e1', Sem.run_pure]
      · rename_i ln e hfs
        simp only [Bool.and_eq_true] at hk
        obtain ⟨hall, hp⟩ := hk
        obtain ⟨ii, hii⟩ := Option.isSome_iff_exists.1 hall
        have hsz : (sizeOf e).run P w = .ok (P.cellsOf e) w := by simp [sizeOf, typeInfo, program, Sem.run, hii, Program.cellsOf]
        obtain ⟨cells', e1, e2⟩ := fill_ok h (place := fun i => some (i * P.cellsOf e, P.cellsOf e)) (fun i off n hi => by
          simp only [Bool.and_eq_true, beq_iff_eq] at hi
          rw [hi.1, hi.2]) hp (hc _ _ w) hcs
        have e1' : Instr.fill (fun i => some (i * P.cellsOf e, P.cellsOf e)) v.cells (parts.map fun p => (p.1, a.eval p.2)).toList = some cells' := by rw [Array.toList_map]; exact e1
        refine wp_value (v := .agg cells') ?_ (hK _ _ (h.put (freeB_spec hkd hro) (.agg cells' cs e2.1 e2.2.1 e2.2.2)))
        simp only [execOp, hop, Instr.build, Sem.run_bind, hzv, Result.andThen_ok, run_underlying hfs, hsz, e1', Sem.run_pure]
      · cases hk
    · cases hk
  case bls n z ps =>
    simp only [kOk] at hk
    split at hk
    · rename_i t len parts hop
      simp only [evK, Option.map_eq_some_iff] at hev
      obtain ⟨cs, hcs, he⟩ := hev
      cases he
      simp only [blsOk, Bool.and_eq_true, beq_iff_eq] at hk
      obtain ⟨rfl, hk⟩ := hk
      split at hk
      · rename_i e hu
        split at hk
        · rename_i ii hii
          simp only [Bool.and_eq_true, decide_eq_true_eq] at hk
          obtain ⟨⟨⟨h1, h2⟩, h3⟩, hp⟩ := hk
          split at h3
          · rename_i zv hzv
            simp only [Bool.and_eq_true, decide_eq_true_eq, beq_iff_eq] at h3
            obtain ⟨⟨h3, h4⟩, h5⟩ := h3
            have hz0 : 0 < zv.cells.toList.length := by simp only [Array.length_toList]; omega
            have hzl : zv.cells.toList.length = ii.size := by simp only [Array.length_toList]; exact h3
            obtain ⟨hd, hg⟩ := timesOk_get (Y := Y) (X := fun b => X0 b ∨ XS s a.tmps b) (w := w) hz0 len z h5 (by rw [h4, hzl])
            have hszr : (sizeOf e).run P w = .ok ii.size w := by simp [sizeOf, typeInfo, program, Sem.run, hii]
            have hzr : (zeroValue e).run P w = .ok zv w := by simp [zeroValue, typeInfo, program, Sem.run, hii, hzv]
            have hc0 : CellsRd Y (fun b => X0 b ∨ XS s a.tmps b) w ((Array.range (len * ii.size)).map fun j => zv.cells[j % zv.cells.size]!) z := by
              refine ⟨hd, by simp [h4], fun i g1 g2 => ?_⟩
              obtain ⟨u, hu1, hu2⟩ := hg i g2
              have e1 : zv.cells[i % zv.cells.size]! = u := by
                have : zv.cells[i % zv.cells.size]? = some u := by simpa using hu1
                simp [getElem!_def, this]
              simp only [Array.getElem_map, Array.getElem_range, e1]
              exact hu2
            obtain ⟨cells', e1, e2⟩ := fill_ok h (place := fun i => some (i * ii.size, ii.size)) (fun i off n hi => by
              simp only [Bool.and_eq_true, beq_iff_eq] at hi
              rw [hi.1, hi.2]) hp hc0 hcs
            have e1' : Instr.fill (fun i => some (i * ii.size, ii.size)) ((Array.range (len * ii.size)).map fun j => zv.cells[j % zv.cells.size]!) (parts.map fun p => (p.1, a.eval p.2)).toList = some cells' := by rw [Array.toList_map]; exact e1
            have e3 : len * ii.size = 0 → (Array.range (len * ii.size)).map (fun j => (#[] : Array Value)[j % (#[] : Array Value).size]!) = (Array.range (len * ii.size)).map fun j => zv.cells[j % zv.cells.size]! := fun hh => by rw [hh]; simp
            have hl1 : ¬ len * ii.size > 2 ^ 24 := by omega
            simp only [rootOk, Bool.and_eq_true] at hro
            obtain ⟨d, hdst⟩ := Option.isSome_iff_exists.1 hro.2
            have hrun : (execOp a.eval o).run P w = .ok (.value (.slice (some ⟨w.heap.size, 0, none⟩) len len)) (w.alloc (.cells cells' e)) := by
              by_cases hl0 : len * ii.size = 0
              · simp only [execOp, hop, Instr.buildSlice, Sem.run_bind, run_underlying hu, Result.andThen_ok, hszr, hl1, if_false, if_pos hl0, Sem.run_pure, e3 hl0, e1', newRow, run_newObj_alloc]
              · simp only [execOp, hop, Instr.buildSlice, Sem.run_bind, run_underlying hu, Result.andThen_ok, hszr, hl1, if_false, hl0, Sem.run_pure, hzr, e1', newRow, run_newObj_alloc]
            simp only [Oper.wp, hrun]
            refine hK _ _ ?_
            rw [hdst]
            refine Rel.write (ks := []) h ((Below.refl _ _).alloc (Nat.le_refl _) _) (fun u hu => .inr (freeB_spec hkd hro.1 d hdst u hu)) (fun he => (by cases he)) (fun X g1 g2 => ?_)
            have hc' := (e2.mono (X' := X) (fun b hb => (g1 b hb).imp id And.left)).world (w' := w.alloc (.cells cells' e)) (fun b _ hb => Below.heap_alloc _ _ _ hb)
            refine .sl w.heap.size 0 len len cs (fun i => cells'.getD i Go.undef) hc'.1 (Nat.le_refl _) (fun _ hx => ?_) (fun _ hy => Nat.lt_irrefl _ (h.lowYw _ hy)) (fun i hi => ?_) (fun i hi => ?_)
            · exact Nat.lt_irrefl _ (h.lowX _ (g2 rfl _ hx))
            · have hi2 : i < cells'.size := by rw [hc'.2.1]; exact hi
              have hb : (w.alloc (.cells cells' e)).heap[w.heap.size]? = some (.cells cells' e) := by show (w.heap.push _)[w.heap.size]? = _; simp
              rw [cell_of_block hb]
              simp [hi2]
            · have hi2 : i < cells'.size := by rw [hc'.2.1]; exact hi
              have := hc'.2.2 i hi2 hi
              simpa [hi2] using this
          · cases h3
        · cases hk
      · cases hk
    · cases hk
  case adr x d off =>
    simp only [kOk] at hk
    split at hk
    · rename_i t x' fi hop
      simp only [Bool.and_eq_true] at hk
      obtain ⟨h1, hk⟩ := hk
      split at hk
      · rename_i fs hfs
        split at hk
        · rename_i f hf
          simp only [Bool.and_eq_true, beq_iff_eq, Bool.not_eq_true'] at hk
          obtain ⟨⟨rfl, h2⟩, h3⟩ := hk
          simp only [rootOk, Bool.and_eq_true] at hro
          obtain ⟨ii, hii⟩ := Option.isSome_iff_exists.1 h3
          have hsz : ∀ w, (sizeOf f.type).run P w = .ok ii.size w := fun w => by simp [sizeOf, typeInfo, program, Sem.run, hii]
          have hne : ¬ ii.size = 0 := by
            intro e0
            simp [sizeIs, hii, e0] at h2
          have hx' : a.eval x' = a.tmps.getD x Go.undef := by
            cases x' <;> simp only [opdOk] at h1 <;> try cases h1
            simp only [beq_iff_eq] at h1
            subst h1
            rfl
          have hrun : ∀ b o0, a.eval x' = .pointer (some ⟨b, o0, none⟩) → (execOp a.eval o).run P w = .ok (.value (.pointer (some ⟨b, o0 + f.offset, none⟩))) w := by
            intro b o0 he
            simp only [execOp, hop, Instr.fieldAt, Sem.run_bind, run_underlying hfs, Result.andThen_ok, hf, he, Instr.sureAddr, Sem.run_pure, fieldPlace, hsz, hne, if_false, addr_add]
          have h0 := h.reg x
          simp only [evK] at hev
          cases hr : rget s x with
          | box cs =>
            rw [hr] at h0 hev
            dsimp only at hev
            split at hev
            · rename_i hxd
              subst hxd
              cases hev
              obtain ⟨b, e1, _, _⟩ := h0
              have := hrun b 0 (by rw [hx', e1])
              refine wp_value this (hK _ _ ?_)
              exact Rel.putPtr (p := ⟨b, 0, none⟩) h (freeB_spec hkd hro.1) (rootB_spec hro.2) (by rw [e1]; rfl) rfl
            · cases hev
          | ptr d' o0 =>
            rw [hr] at h0 hev
            dsimp only at hev
            split at hev
            · rename_i hxd
              subst hxd
              cases hev
              obtain ⟨_, p, e1, e2, e3⟩ := h0
              have := hrun p.block (p.off + o0) (by rw [hx', e3])
              refine wp_value this (hK _ _ ?_)
              have hp := Rel.putPtr (off := o0 + f.offset) h (freeB_spec hkd hro.1) (rootB_spec hro.2) e1 e2
              rw [← Nat.add_assoc] at hp
              exact hp
            · cases hev
          | mem cs =>
            rw [hr] at h0 hev
            cases hev
            obtain ⟨b, o0, e1, e2, e3⟩ := h0
            have := hrun b o0 (by rw [hx', e1])
            refine wp_value this (hK _ _ ?_)
            refine Rel.putMem h (freeB_spec hkd hro.1) (fun hne => e2 (fun hn => hne (by rw [hn]; simp))) (e3.drop _)
          | val x => rw [hr] at hev; cases hev
          | own _ _ _ => rw [hr] at hev; cases hev
          | agn _ _ _ _ => rw [hr] at hev; cases hev
          | bxl _ => rw [hr] at hev; cases hev
          | dup d => rw [hr] at hev; cases hev
          | sub _ _ _ _ => rw [hr] at hev; cases hev
          | dead => rw [hr] at hev; cases hev
        · cases hk
      · cases hk
    · cases hk
  case ld x d n one =>
    simp only [kOk] at hk
    split at hk
    · rename_i t x' hop
      simp only [Bool.and_eq_true] at hk
      obtain ⟨h1, h2⟩ := hk
      have hx' : a.eval x' = a.tmps.getD x Go.undef := by
        cases x' <;> simp only [opdOk] at h1 <;> try cases h1
        simp only [beq_iff_eq] at h1
        subst h1
        rfl
      have h0 := h.reg x
      have fin : ∀ (b base off : Nat) (cs : List AV) (y : AV), a.eval x' = .pointer (some ⟨b, base + off, none⟩) → MemRd Y (fun b => X0 b ∨ XS s a.tmps b) w b base cs → takeA cs off n one = some y →
          (∀ a' w', Rel Y X0 roots w0 (rput s o.dst (.val y)) a' w' → K' a' w') → o.wp P a w K' Q := by
        intro b base off cs y he hm ht hK'
        obtain ⟨v, hrun, hr⟩ := load_ok (P := P) h2 hm ht
        refine wp_value (v := v) ?_ (hK' _ _ (h.put (freeB_spec hkd hro) hr))
        simp only [execOp, hop, Instr.loadAt, he, Instr.sureAddr, Sem.run_bind, Sem.run_pure, Result.andThen_ok, hrun]
      simp only [evK] at hev
      cases hr : rget s x with
      | box cs =>
        rw [hr] at h0 hev
        dsimp only at hev
        split at hev
        · simp only [Option.map_eq_some_iff] at hev
          obtain ⟨y, hy, he⟩ := hev
          cases he
          obtain ⟨b, e1, _, e3⟩ := h0
          exact fin b 0 0 cs y (by rw [hx', e1]) e3.mem hy hK
        · cases hev
      | ptr d' off =>
        rw [hr] at h0 hev
        dsimp only at hev
        split at hev
        · rename_i hd
          subst hd
          have h3 := h.reg d'
          cases hr2 : rget s d' with
          | box cs =>
            rw [hr2] at h3 hev
            simp only [Option.map_eq_some_iff] at hev
            obtain ⟨y, hy, he⟩ := hev
            cases he
            obtain ⟨b, e1, _, e3⟩ := h3
            obtain ⟨_, p, g1, g2, g3⟩ := h0
            rw [e1] at g1
            cases g1
            exact fin b 0 off cs y (by rw [hx', g3]) e3.mem hy hK
          | val x => rw [hr2] at hev; cases hev
          | ptr _ _ => rw [hr2] at hev; cases hev
          | mem _ => rw [hr2] at hev; cases hev
          | own k n cs =>
            rw [hr2] at h3 hev
            simp only [Option.map_eq_some_iff] at hev
            obtain ⟨y, hy, he⟩ := hev
            cases he
            obtain ⟨_, p, g1, g2, g3⟩ := h0
            rcases h3 with ⟨e1, _⟩ | ⟨b, cap, e1, _, _, _, e3, _⟩
            · rw [e1] at g1; cases g1
            · rw [e1] at g1
              cases g1
              exact fin b 0 off cs y (by rw [hx', g3]) e3.mem hy hK
          | agn _ _ _ _ => rw [hr2] at hev; cases hev
          | bxl _ => rw [hr2] at hev; cases hev
          | dup d => rw [hr2] at hev; cases hev
          | sub _ _ _ _ => rw [hr2] at hev; cases hev
          | dead => rw [hr2] at hev; cases hev
        · cases hev
      | mem cs =>
        rw [hr] at h0 hev
        simp only [Option.map_eq_some_iff] at hev
        obtain ⟨y, hy, he⟩ := hev
        cases he
        obtain ⟨b, off, e1, _, e3⟩ := h0
        exact fin b off 0 cs y (by simp [hx', e1]) e3 hy hK
      | val x => rw [hr] at hev; cases hev
      | own _ _ _ => rw [hr] at hev; cases hev
      | agn _ _ _ _ => rw [hr] at hev; cases hev
      | bxl _ => rw [hr] at hev; cases hev
      | dup d => rw [hr] at hev; cases hev
      | sub _ _ _ _ => rw [hr] at hev; cases hev
      | dead => rw [hr] at hev; cases hev
    · cases hk
  case st x d n v =>
    simp only [kOk] at hk
    split at hk
    · rename_i t x' v' hop
      simp only [Bool.and_eq_true] at hk
      obtain ⟨⟨h1, h2⟩, h3⟩ := hk
      have hx' : a.eval x' = a.tmps.getD x Go.undef := by
        cases x' <;> simp only [opdOk] at h1 <;> try cases h1
        simp only [beq_iff_eq] at h1
        subst h1
        rfl
      have hdst : o.dst = none := by simpa [rootOk] using hro
      have h0 := h.reg x
      simp only [evK] at hev
      split at hev
      · cases hev
      · rename_i va hva
        split at hev
        · cases hev
        · rename_i ys hys
          obtain ⟨hn, hc⟩ := cellsA_ok (opd_rd h h3 hva) hys
          have fin : ∀ (b off : Nat) (cs cs' : List AV), rget s d = .box cs → a.tmps.getD d Go.undef = .pointer (some ⟨b, 0, none⟩) → a.eval x' = .pointer (some ⟨b, off, none⟩) → layA cs off ys = some cs' →
              (∀ a' w', Rel Y X0 roots w0 (s.set d (.box cs')) a' w' → K' a' w') → o.wp P a w K' Q := by
            intro b off cs cs' hrd hvd he hl hK'
            have h4 := h.reg d
            rw [hrd] at h4
            obtain ⟨b', e1, hB, e3⟩ := h4
            rw [hvd] at e1
            cases e1
            have hX : (fun b => X0 b ∨ XS s a.tmps b) b := .inr ⟨d, by rw [hrd]; rfl, by rw [hvd]; rfl⟩
            obtain ⟨w', hrun, g1, g2, g3, g4, g5, g6, g7⟩ := store_ok (P := P) (sizeIs_spec h2) e3 hX hc hn hl
            have hrun' : (execOp a.eval o).run P w = .ok .skip w' := by
              simp only [execOp, hop, Instr.storeAt, he, Instr.sureAddr, Sem.run_bind, Sem.run_pure, Result.andThen_ok, hrun]
            simp only [Oper.wp, hrun', Oper.upon]
            rw [hdst]
            refine hK' _ _ (Rel.store h hrd rfl rfl (by rw [hvd]; rfl) hB g1 g2 g3 g4 g5 (fun X hX => ?_))
            exact ⟨b, hvd, hB, g6.mono fun c hc => .inl ((hX c).1 hc)⟩
          have finO : ∀ (b off k m : Nat) (cs cs' : List AV), rget s d = .own k m cs → blockOf (a.tmps.getD d Go.undef) = some b → a.eval x' = .pointer (some ⟨b, off, none⟩) → layA cs off ys = some cs' →
              (∀ a' w', Rel Y X0 roots w0 (s.set d (.own k m cs')) a' w' → K' a' w') → o.wp P a w K' Q := by
            intro b off k m cs cs' hrd hvd he hl hK'
            obtain ⟨b', cap, e1, e2, e3, e4, e5, e6, hXb⟩ := (h.ownLow hrd).resolve_left (fun hh => by rw [hh.1] at hvd; cases hvd)
            have hbb : b' = b := by rw [e1] at hvd; simpa [blockOf, rootOf] using hvd
            subst hbb
            obtain ⟨w', hrun, g1, g2, g3, g4, g5, g6, g7⟩ := store_ok (P := P) (sizeIs_spec h2) e5 (.inr hXb) hc hn hl
            have hrun' : (execOp a.eval o).run P w = .ok .skip w' := by
              simp only [execOp, hop, Instr.storeAt, he, Instr.sureAddr, Sem.run_bind, Sem.run_pure, Result.andThen_ok, hrun]
            simp only [Oper.wp, hrun', Oper.upon]
            rw [hdst]
            refine hK' _ _ (Rel.store h hrd rfl rfl hvd e4 g1 g2 g3 g4 g5 (fun X hX => ?_))
            refine .inr ⟨b', cap, e1, e2, by rw [(layA_ok hl).2.1]; exact e3, e4, g6.mono fun c hc => .inl ((hX c).1 hc), g7 _ e6⟩
          rw [hdst] at hK
          cases hr : rget s x with
          | box cs =>
            rw [hr] at h0 hev
            dsimp only at hev
            split at hev
            · rename_i hxd
              subst hxd
              simp only [Option.map_eq_some_iff] at hev
              obtain ⟨cs', hl, he⟩ := hev
              cases he
              obtain ⟨b, e1, _, _⟩ := h0
              exact fin b 0 cs cs' hr e1 (by rw [hx', e1]) hl hK
            · cases hev
          | ptr d' off =>
            rw [hr] at h0 hev
            dsimp only at hev
            split at hev
            · rename_i hd
              subst hd
              have h5 := h.reg d'
              cases hr2 : rget s d' with
              | box cs =>
                rw [hr2] at h5 hev
                simp only [Option.map_eq_some_iff] at hev
                obtain ⟨cs', hl, he⟩ := hev
                cases he
                obtain ⟨b, e1, _, e3⟩ := h5
                obtain ⟨_, p, g1, g2, g3⟩ := h0
                rw [e1] at g1
                cases g1
                exact fin b off cs cs' hr2 e1 (by rw [hx', g3]; simp) hl hK
              | val x => rw [hr2] at hev; cases hev
              | ptr _ _ => rw [hr2] at hev; cases hev
              | mem _ => rw [hr2] at hev; cases hev
              | own k m cs =>
                rw [hr2] at h5 hev
                simp only [Option.map_eq_some_iff] at hev
                obtain ⟨cs', hl, he⟩ := hev
                cases he
                obtain ⟨_, p, g1, g2, g3⟩ := h0
                rcases h5 with ⟨e1, _⟩ | ⟨b, cap, e1, _, _, _, e3, _⟩
                · rw [e1] at g1; cases g1
                · rw [e1] at g1
                  cases g1
                  exact finO b off k m cs cs' hr2 (by rw [e1]; rfl) (by rw [hx', g3]; simp) hl hK
              | agn _ _ _ _ => rw [hr2] at hev; cases hev
              | bxl _ => rw [hr2] at hev; cases hev
              | dup d => rw [hr2] at hev; cases hev
              | sub _ _ _ _ => rw [hr2] at hev; cases hev
              | dead => rw [hr2] at hev; cases hev
            · cases hev
          | val x => rw [hr] at hev; cases hev
          | mem _ => rw [hr] at hev; cases hev
          | own _ _ _ => rw [hr] at hev; cases hev
          | agn _ _ _ _ => rw [hr] at hev; cases hev
          | bxl _ => rw [hr] at hev; cases hev
          | dup d => rw [hr] at hev; cases hev
          | sub _ _ _ _ => rw [hr] at hev; cases hev
          | dead => rw [hr] at hev; cases hev
    · cases hk
  case fld x off n one =>
    simp only [kOk] at hk
    split at hk
    · rename_i t x' fi hop
      simp only [Bool.and_eq_true] at hk
      obtain ⟨h1, hk⟩ := hk
      split at hk
      · rename_i fs hfs
        split at hk
        · rename_i f hf
          simp only [Bool.and_eq_true, beq_iff_eq] at hk
          obtain ⟨rfl, h2⟩ := hk
          simp only [evK] at hev
          split at hev
          · rename_i cs hx
            simp only [Option.map_eq_some_iff] at hev
            obtain ⟨y, hy, he⟩ := hev
            cases he
            have hxr := opd_rd h h1 hx
            generalize hxv : a.eval x' = xv at hxr
            cases hxr with
            | agg vs _ hd hs hr =>
              obtain ⟨v, hrun, hr⟩ := part_ok (P := P) h2 ⟨hd, hs, hr⟩ hy
              refine wp_value (v := v) ?_ (hK _ _ (h.put (freeB_spec hkd hro) hr))
              simp only [execOp, hop, Instr.field, Sem.run_bind, run_underlying hfs, Result.andThen_ok, hf, hxv, asAgg, Sem.run_pure, hrun]
          · cases hev
        · cases hk
      · cases hk
    · cases hk
  case ixa x i k =>
    simp only [kOk] at hk
    split at hk
    · rename_i t x' i' hop
      simp only [Bool.and_eq_true] at hk
      obtain ⟨⟨h1, h2⟩, hk⟩ := hk
      split at hk
      · rename_i e hu
        simp only [evK] at hev
        split at hev
        · rename_i ki iv hi
          have hir := opd_rd h h2 hi
          generalize hiv : a.eval i' = ivv at hir
          cases hir
          have hx' : a.eval x' = a.tmps.getD x Go.undef := by
            cases x' <;> simp only [opdOk] at h1 <;> try cases h1
            simp only [beq_iff_eq] at h1
            subst h1
            rfl
          have h0 := h.reg x
          split at hev
          · rename_i n cs hr
            rw [hr] at h0
            split at hev
            · rename_i hb
              cases hev
              rw [← hx'] at h0
              generalize hxv : a.eval x' = xv at h0
              cases h0 with
              | nil0 => exact absurd hb (by omega)
              | e0 _ _ => exact absurd hb (by omega)
              | sl b off _ cap _ f hd hn hX hY hcell hrr =>
                have hmem : MemRd Y (fun b => X0 b ∨ XS s a.tmps b) w b off cs := ⟨hd, fun j hj => ⟨f j, hcell j hj, hrr j hj⟩⟩
                refine wp_value (v := .pointer (some ⟨b, off + iv.toNat * k, none⟩)) ?_ (hK _ _ ?_)
                · simp only [execOp, hop, Instr.indexAt, Sem.run_bind, hiv, asIntOf, Sem.run_pure, Result.andThen_ok, run_underlying hu, hxv, hb, and_self, if_true, sizeIs_spec hk, addr_add]
                · refine Rel.putMem h (freeB_spec hkd hro) (fun hne => hX (fun hn => hne (by rw [hn]; simp))) (hmem.drop _)
            · cases hev
          · cases hev
        · cases hev
      · cases hk
    · cases hk
  case ixb x i len k =>
    simp only [kOk] at hk
    split at hk
    · rename_i t x' i' hop
      simp only [Bool.and_eq_true] at hk
      obtain ⟨⟨h1, h2⟩, hk⟩ := hk
      split at hk
      · rename_i ln e hu
        simp only [Bool.and_eq_true, beq_iff_eq] at hk
        obtain ⟨rfl, hk⟩ := hk
        simp only [evK] at hev
        split at hev
        · rename_i ki iv hi
          have hir := opd_rd h h2 hi
          generalize hiv : a.eval i' = ivv at hir
          cases hir
          have hx' : a.eval x' = a.tmps.getD x Go.undef := by
            cases x' <;> simp only [opdOk] at h1 <;> try cases h1
            simp only [beq_iff_eq] at h1
            subst h1
            rfl
          have h0 := h.reg x
          split at hev
          · rename_i cs hr
            rw [hr] at h0
            split at hev
            · rename_i hb
              cases hev
              obtain ⟨b, e1, _, e3⟩ := h0
              simp only [rootOk, Bool.and_eq_true] at hro
              have hxv : a.eval x' = .pointer (some ⟨b, 0, none⟩) := by rw [hx', e1]
              refine wp_value (v := .pointer (some ⟨b, 0 + iv.toNat * k, none⟩)) ?_ (hK _ _ ?_)
              · simp only [execOp, hop, Instr.indexAt, Sem.run_bind, hiv, asIntOf, Sem.run_pure, Result.andThen_ok, run_underlying hu, hxv, Instr.sureAddr, hb, and_self, if_true, sizeIs_spec hk, addr_add]
              · exact Rel.putPtr (p := ⟨b, 0, none⟩) h (freeB_spec hkd hro.1) (rootB_spec hro.2) (by rw [e1]; rfl) rfl
            · cases hev
          · cases hev
        · cases hev
      · cases hk
    · cases hk
  case idx x i len n one =>
    simp only [kOk] at hk
    split at hk
    · rename_i t x' i' hop
      simp only [Bool.and_eq_true] at hk
      obtain ⟨⟨h1, h2⟩, hk⟩ := hk
      split at hk
      · rename_i ln e hu
        simp only [Bool.and_eq_true, beq_iff_eq] at hk
        obtain ⟨rfl, hk⟩ := hk
        simp only [evK] at hev
        split at hev
        · rename_i cs ki iv hx hi
          split at hev
          · rename_i hb
            simp only [Option.map_eq_some_iff] at hev
            obtain ⟨y, hy, he⟩ := hev
            cases he
            have hir := opd_rd h h2 hi
            generalize hiv : a.eval i' = ivv at hir
            cases hir
            have hxr := opd_rd h h1 hx
            generalize hxv : a.eval x' = xv at hxr
            cases hxr with
            | agg vs _ hd hs hr =>
              obtain ⟨v, hrun, hr⟩ := part_ok (P := P) hk ⟨hd, hs, hr⟩ hy
              refine wp_value (v := v) ?_ (hK _ _ (h.put (freeB_spec hkd hro) hr))
              simp only [execOp, hop, Instr.index, Sem.run_bind, hiv, asIntOf, Sem.run_pure, Result.andThen_ok, run_underlying hu, hxv, hb, and_self, if_true, (oneOk_spec hk).2, hrun]
          · cases hev
        · cases hev
      · cases hk
    · cases hk
  case six x i =>
    simp only [kOk] at hk
    split at hk
    · rename_i t x' i' hop
      simp only [Bool.and_eq_true] at hk
      obtain ⟨⟨h1, h2⟩, hk⟩ := hk
      split at hk
      · rename_i hu
        simp only [evK] at hev
        split at hev
        · rename_i bs ki iv hx hi
          simp only [Option.map_eq_some_iff] at hev
          obtain ⟨c, hc, he⟩ := hev
          cases he
          have hir := opd_rd h h2 hi
          generalize hiv : a.eval i' = ivv at hir
          cases hir
          have hxr := opd_rd h h1 hx
          generalize hxv : a.eval x' = xv at hxr
          cases hxr
          refine wp_value (v := .int .u8 c.toNat) ?_ (hK _ _ (h.put (freeB_spec hkd hro) (.int _ _)))
          simp only [execOp, hop, Instr.index, Sem.run_bind, hiv, asIntOf, Sem.run_pure, Result.andThen_ok, run_underlying hu, hxv, hc]
        · cases hev
      · cases hk
    · cases hk
  case ext x i =>
    simp only [kOk] at hk
    split at hk
    · rename_i x' i' hop
      simp only [Bool.and_eq_true, beq_iff_eq] at hk
      obtain ⟨h1, rfl⟩ := hk
      simp only [evK] at hev
      split at hev
      · rename_i vs hx
        simp only [Option.map_eq_some_iff] at hev
        obtain ⟨y, hy, he⟩ := hev
        cases he
        have hxr := opd_rd h h1 hx
        generalize hxv : a.eval x' = xv at hxr
        cases hxr with
        | tup us _ hs hr =>
          obtain ⟨hlt, hyy⟩ := List.getElem?_eq_some_iff.1 hy
          have hlt2 : i' < us.size := by omega
          refine wp_value (v := us[i']) ?_ (hK _ _ (h.put (freeB_spec hkd hro) (hyy ▸ hr i' hlt2 hlt)))
          simp only [execOp, hop, Instr.extract, hxv, Array.getElem?_eq_getElem hlt2, Sem.run_bind, Sem.run_pure, Result.andThen_ok]
      · cases hev
    · cases hk
  case len x =>
    simp only [kOk] at hk
    split at hk
    · rename_i args ts hop
      unfold lenOk at hk
      split at hk
      · rename_i x' t hargs hts
        simp only [Bool.and_eq_true] at hk
        obtain ⟨h1, h2⟩ := hk
        have e1 : args = #[x'] := by rw [← Array.toArray_toList (xs := args), hargs]
        have e2 : ts = #[t] := by rw [← Array.toArray_toList (xs := ts), hts]
        subst e1 e2
        split at h2
        · rename_i e hu
          simp only [evK] at hev
          have fin : ∀ (base : Option Addr) (n c : Nat), a.eval x' = .slice base n c → (∀ a' w', Rel Y X0 roots w0 (rput s o.dst (.val (.int .i64 n))) a' w' → K' a' w') → o.wp P a w K' Q := by
            intro base n c he hK'
            refine wp_value (v := .int .i64 n) ?_ (hK' _ _ (h.put (freeB_spec hkd hro) (.int _ _)))
            simp [execOp, hop, resolve, invoke, builtin, Builtin.len_, he, run_underlying hu, goInt]
          split at hev
          · rename_i hx
            cases hev
            have hxr := opd_rd h h1 hx
            generalize hxv : a.eval x' = xv at hxr
            cases hxr
            exact fin _ _ _ hxv hK
          · rename_i n cs hx
            cases hev
            have hxr := opd_rd h h1 hx
            generalize hxv : a.eval x' = xv at hxr
            cases hxr <;> exact fin _ _ _ hxv hK
          · cases hev
        · cases h2
      · cases hk
    · cases hk
  case mx xs =>
    simp only [kOk] at hk
    split at hk
    · rename_i args ts hop
      simp only [evK] at hev
      split at hev
      · rename_i k n l hx
        simp only [Option.map_eq_some_iff] at hev
        obtain ⟨m, hm, he⟩ := hev
        cases he
        obtain ⟨e1, e2⟩ := opds_rd h hk hx
        cases hal : args.toList with
        | nil => rw [hal] at e1; simp at e1
        | cons x0 rest =>
          have e1' : rest.length = l.length := by rw [hal] at e1; simpa using e1
          have h0 := e2 0 (by rw [hal]; simp) (by simp)
          simp only [hal, List.getElem_cons_zero] at h0
          generalize hxv : a.eval x0 = xv at h0
          cases h0
          have hfold := maxA_ok (P := P) (Y := Y) (X := fun b => X0 b ∨ XS s a.tmps b) (w := w) (vs := rest.map a.eval) (l := l) (by simpa using e1') (fun i g1 g2 => by
            have := e2 (i + 1) (by rw [hal]; simp at g1 ⊢; omega) (by simp; omega)
            simpa [hal] using this) hm
          refine wp_value (v := .int k m) ?_ (hK _ _ (h.put (freeB_spec hkd hro) (.int _ _)))
          have hmap : (args.map a.eval).toList = .int k n :: rest.map a.eval := by rw [Array.toList_map, hal, List.map_cons, hxv]
          simp only [execOp, hop, resolve, invoke, builtin, Builtin.max_, Sem.run_bind, Sem.run_pure, Result.andThen_ok, hmap, hfold]
      · cases hev
    · cases hk
  case mn xs =>
    simp only [kOk] at hk
    split at hk
    · rename_i args ts hop
      simp only [evK] at hev
      split at hev
      · rename_i k n l hx
        simp only [Option.map_eq_some_iff] at hev
        obtain ⟨m, hm, he⟩ := hev
        cases he
        obtain ⟨e1, e2⟩ := opds_rd h hk hx
        cases hal : args.toList with
        | nil => rw [hal] at e1; simp at e1
        | cons x0 rest =>
          have e1' : rest.length = l.length := by rw [hal] at e1; simpa using e1
          have h0 := e2 0 (by rw [hal]; simp) (by simp)
          simp only [hal, List.getElem_cons_zero] at h0
          generalize hxv : a.eval x0 = xv at h0
          cases h0
          have hfold := minA_ok (P := P) (Y := Y) (X := fun b => X0 b ∨ XS s a.tmps b) (w := w) (vs := rest.map a.eval) (l := l) (by simpa using e1') (fun i g1 g2 => by
            have := e2 (i + 1) (by rw [hal]; simp at g1 ⊢; omega) (by simp; omega)
            simpa [hal] using this) hm
          refine wp_value (v := .int k m) ?_ (hK _ _ (h.put (freeB_spec hkd hro) (.int _ _)))
          have hmap : (args.map a.eval).toList = .int k n :: rest.map a.eval := by rw [Array.toList_map, hal, List.map_cons, hxv]
          simp only [execOp, hop, resolve, invoke, builtin, Builtin.min_, Sem.run_bind, Sem.run_pure, Result.andThen_ok, hmap, hfold]
      · cases hev
    · cases hk
  case call f xs =>
    simp only [kOk] at hk
    split at hk
    · rename_i f' args ts hop
      simp only [Bool.and_eq_true, beq_iff_eq] at hk
      obtain ⟨⟨rfl, h1⟩, h2⟩ := hk
      simp only [evK] at hev
      split at hev
      · rename_i vs hx
        simp only [Option.map_eq_some_iff] at hev
        obtain ⟨y, hy, he⟩ := hev
        cases he
        obtain ⟨e1, e2⟩ := opds_rd h h1 hx
        split at h2
        · rename_i fn hfn
          simp only [Bool.and_eq_true, Bool.not_eq_true'] at h2
          obtain ⟨hbody, hname⟩ := h2
          have hbn : ¬ fn.body = none := by intro e0; rw [e0] at hbody; cases hbody
          have hnm : ¬ fn.name = "runtime.NumGoroutine" := by simpa using hname
          have hrun : (execOp a.eval o).run P w = .ok (.enter f' (args.map a.eval)) w := by
            simp [execOp, hop, resolve, Deferred.ofValue, Act.eval, invoke, callFunc, program, Sem.run, hfn, hnm, hbn]
          have hcall := hF.plain f' vs y hy Y (fun b => X0 b ∨ XS s a.tmps b) w (args.map a.eval) h.lowX h.lowYw (by simpa using e1) (fun i g1 g2 => by
            have := e2 i (by simpa using g1) g2
            simpa using this)
          simp only [Oper.wp, hrun, Oper.upon]
          refine hcall.mono fun e w' ⟨v, he, hb, hr⟩ => ?_
          subst he
          refine hK _ _ ?_
          cases hdst : o.dst with
          | none =>
            refine ⟨h.dfr, h.size, h.below.trans hb, h.low, h.lowY, fun t => ?_, h.inj⟩
            exact RegOk.world (h.reg t) hb
          | some d =>
            refine Rel.write (ks := []) h hb (fun u hu => .inr (freeB_spec hkd hro d hdst u hu)) (fun he => (by cases he)) (fun X _ g2 => ?_)
            exact (hr.thawed (fun b hb => Nat.not_le_of_lt (h.lowX b hb)) (fun b hb => Nat.not_le_of_lt (h.lowYw b hb))).mono fun b hb => .inl (g2 rfl b hb)
        · cases h2
      · cases hev
    · cases hk
  case clo f xs =>
    simp only [kOk] at hk
    split at hk
    · rename_i f' args ts hop
      simp only [Bool.and_eq_true, beq_iff_eq] at hk
      obtain ⟨⟨rfl, h1⟩, h2⟩ := hk
      simp only [evK] at hev
      split at hev
      · rename_i vs hx
        simp only [Option.map_eq_some_iff] at hev
        obtain ⟨y, hy, he⟩ := hev
        cases he
        obtain ⟨e1, e2⟩ := opds_rd h h1 hx
        split at h2
        · rename_i fn hfn
          simp only [Bool.and_eq_true, Bool.not_eq_true'] at h2
          obtain ⟨hbody, hname⟩ := h2
          have hbn : ¬ fn.body = none := by intro e0; rw [e0] at hbody; cases hbody
          have hnm : ¬ fn.name = "runtime.NumGoroutine" := by simpa using hname
          have hrun : (execOp a.eval o).run P w = .ok (.enter f' (args.map a.eval)) w := by
            simp [execOp, hop, resolve, Deferred.ofValue, Act.eval, invoke, callFunc, program, Sem.run, hfn, hnm, hbn]
          have hcall := hF.plain f' vs y hy Y (fun b => X0 b ∨ XS s a.tmps b) w (args.map a.eval) h.lowX h.lowYw (by simpa using e1) (fun i g1 g2 => by
            have := e2 i (by simpa using g1) g2
            simpa using this)
          simp only [Oper.wp, hrun, Oper.upon]
          refine hcall.mono fun e w' ⟨v, he, hb, hr⟩ => ?_
          subst he
          refine hK _ _ ?_
          simp only [rootOk, Bool.and_eq_true] at hro
          obtain ⟨d, hdst⟩ := Option.isSome_iff_exists.1 hro.2
          rw [hdst]
          cases y
          case fresh k n cs =>
            simp only [ResOk] at hr
            refine Rel.write (ks := []) h hb (fun u hu => .inr (freeB_spec hkd hro.1 d hdst u hu)) (fun _ b hb => (OwnRd.block hr hb).1) (fun X g1 _ => ?_)
            exact own_call h.below.from_ hr g1
          case frs bb k n cs =>
            simp only [ResOk] at hr
            refine Rel.write (ks := []) h hb (fun u hu => .inr (freeB_spec hkd hro.1 d hdst u hu)) (fun _ b hb => (AgnRd.block hr hb).1) (fun X g1 _ => ?_)
            obtain ⟨u, rfl, hr⟩ := hr
            rw [agn_block _ hr] at g1
            refine ⟨u, rfl, own_call h.below.from_ ?_ g1⟩
            rw [agn_block _ hr] at hr
            exact hr
          all_goals
            refine Rel.write (ks := []) h hb (fun u hu => .inr (freeB_spec hkd hro.1 d hdst u hu)) (fun he => (by cases he)) (fun X _ g2 => ?_)
            exact Rd.mono hr fun b hb => .inl (g2 rfl b hb)
        · cases h2
      · cases hev
    · cases hk
  case brw f x d =>
    simp only [kOk] at hk
    split at hk
    · rename_i f' args ts hop
      simp only [Bool.and_eq_true, beq_iff_eq] at hk
      obtain ⟨⟨rfl, h1⟩, h2⟩ := hk
      simp only [evK] at hev
      split at hev
      · rename_i d' hrx
        split at hev
        · rename_i hdd
          subst hdd
          split at hev
          · rename_i k n cs hrd
            split at hev
            · rename_i hni
              split at hev
              · rename_i y hy
                split at hev
                · rename_i hio
                  cases hev
                  have hvx := h.reg x
                  rw [hrx] at hvx
                  have hev : a.tmps.getD x Go.undef = a.tmps.getD d' Go.undef := hvx.2
                  have hown := h.reg d'
                  rw [hrd] at hown
                  have hXd : ∀ b, blockOf (a.tmps.getD d' Go.undef) = some b → (X0 b ∨ XS s a.tmps b) := fun b hb => .inr ⟨d', by rw [hrd]; rfl, hb⟩
                  obtain ⟨o1, ho1, hox⟩ : ∃ o1, args.toList = [o1] ∧ opdOk o1 (.t x) = true := by
                    cases hal : args.toList with
                    | nil => rw [hal] at h1; cases h1
                    | cons o1 l =>
                      rw [hal] at h1
                      simp only [opdsOk, Bool.and_eq_true] at h1
                      cases l with
                      | nil => exact ⟨o1, rfl, h1.1⟩
                      | cons _ _ => cases h1.2
                  have hoe : a.eval o1 = a.tmps.getD d' Go.undef := by
                    cases o1 <;> first | (cases hox; done) | skip
                    rename_i m
                    simp only [opdOk, beq_iff_eq] at hox
                    subst hox
                    rw [← hev]; rfl
                  split at h2
                  · rename_i fn hfn
                    simp only [Bool.and_eq_true, Bool.not_eq_true'] at h2
                    obtain ⟨hbody, hname⟩ := h2
                    have hbn : ¬ fn.body = none := by intro e0; rw [e0] at hbody; cases hbody
                    have hnm : ¬ fn.name = "runtime.NumGoroutine" := by simpa using hname
                    have hrun : (execOp a.eval o).run P w = .ok (.enter f' (args.map a.eval)) w := by
                      simp [execOp, hop, resolve, Deferred.ofValue, Act.eval, invoke, callFunc, program, Sem.run, hfn, hnm, hbn]
                    have hargs : args = #[o1] := by
                      apply Array.toList_inj.1
                      rw [ho1]
                    have hlent : Rd (fun c => Y c ∨ blockOf (a.tmps.getD d' Go.undef) = some c) (fun c => (X0 c ∨ XS s a.tmps c) ∧ ¬ blockOf (a.tmps.getD d' Go.undef) = some c) w (a.tmps.getD d' Go.undef) (.sl n cs) :=
                      OwnRd.lent hown (fun b hb => hb.1) (fun b hb => hb.imp id (hXd b)) (fun b hb hx => hx.2 hb) hni
                    have hcall := hF.plain f' [.sl n cs] y hy (fun c => Y c ∨ blockOf (a.tmps.getD d' Go.undef) = some c) (fun c => (X0 c ∨ XS s a.tmps c) ∧ ¬ blockOf (a.tmps.getD d' Go.undef) = some c) w (args.map a.eval)
                      (fun b hb => h.lowX b hb.1) (fun b hb => hb.elim (h.lowYw b) (fun hb => h.lowX b (hXd b hb))) (by rw [hargs]; simp) (fun i g1 g2 => by
                        have hi : i = 0 := by simp at g2; exact g2
                        subst hi
                        subst hargs
                        simp only [List.map_toArray, List.map_cons, List.map_nil, List.getElem_toArray, List.getElem_cons_zero]
                        rw [hoe]
                        exact hlent)
                    simp only [Oper.wp, hrun, Oper.upon]
                    refine hcall.mono fun e w' ⟨v, he, hb, hr⟩ => ?_
                    subst he
                    refine hK _ _ ?_
                    have hback : Rd Y (fun b => X0 b ∨ XS s a.tmps b) w' v (thaw y) := by
                      refine (hr.thawed (fun b hb => Nat.not_le_of_lt (h.lowX b hb.1)) (fun b hb => Nat.not_le_of_lt (hb.elim (h.lowYw b) (fun hb => h.lowX b (hXd b hb))))).back hio (fun b hb => ?_) (fun b hb => .inl hb)
                      by_cases hq : blockOf (a.tmps.getD d' Go.undef) = some b
                      · exact .inr (.inr hq)
                      · exact .inl ⟨hb, hq⟩
                    cases hdst : o.dst with
                    | none =>
                      refine ⟨h.dfr, h.size, h.below.trans hb, h.low, h.lowY, fun t => ?_, h.inj⟩
                      exact RegOk.world (h.reg t) hb
                    | some d =>
                      refine Rel.write (ks := []) h hb (fun u hu => .inr (freeB_spec hkd hro d hdst u hu)) (fun he => (by cases he)) (fun X _ g2 => ?_)
                      exact hback.mono fun b hb => .inl (g2 rfl b hb)
                  · cases h2
                · cases hev
              · cases hev
            · cases hev
          · cases hev
        · cases hev
      · cases hev
    · cases hk
  case cpy x =>
    have hx := movOk_spec (a := a) (P := P) (w := w) hk
    simp only [rootOk, Bool.and_eq_true] at hro
    simp only [evK] at hev
    have h0 := h.reg x
    split at hev
    · rename_i v hr
      cases hev
      rw [hr] at h0
      exact wp_value hx (hK _ _ (h.put (freeB_spec hkd hro.1) h0))
    · cases hev
      exact wp_value hx (hK _ _ (h.putDup (freeB_spec hkd hro.1) (rootB_spec hro.2)))
    · cases hev
  case cpo x =>
    have hx := movOk_spec (a := a) (P := P) (w := w) hk
    simp only [rootOk, Bool.and_eq_true] at hro
    simp only [evK] at hev
    cases hev
    exact wp_value hx (hK _ _ (h.putDup (freeB_spec hkd hro.1) (rootB_spec hro.2)))
  case tra x =>
    have hx := movOk_spec (a := a) (P := P) (w := w) hk
    simp only [rootOk, Bool.and_eq_true] at hro
    simp only [evK] at hev
    have h0 := h.reg x
    split at hev
    · rename_i v hr
      cases hev
      rw [hr] at h0
      exact wp_value hx (hK _ _ (h.put (freeB_spec hkd hro.1) h0))
    · rename_i k n cs hr
      cases hev
      obtain ⟨d, hdst⟩ := Option.isSome_iff_exists.1 hro.2
      refine wp_value hx (hK _ _ ?_)
      rw [hdst]
      rcases h.ownLow hr with ⟨e1, rfl, rfl⟩ | ⟨b, cap, e1, e2, e3, e4, e5, e6, hXb⟩
      · rw [e1]
        exact own_none (ow := true) (ks := [x]) h (fun u hu => .inr (freeB_spec hkd hro.1 d hdst u hu))
      refine Rel.shift h hr (b := b) (by rw [e1]; rfl) (fun u hu => freeB_spec hkd hro.1 d hdst u hu) rfl rfl rfl rfl (fun _ _ => rfl) (fun _ => by rw [e1]; rfl) (fun X g1 _ => ?_)
      exact .inr ⟨b, cap, e1, e2, e3, e4, e5.mono fun c hc => .inl (g1 c hc), e6⟩
    · rename_i b k n cs hr
      cases hev
      obtain ⟨d, hdst⟩ := Option.isSome_iff_exists.1 hro.2
      rw [hr] at h0
      refine wp_value hx (hK _ _ ?_)
      rw [hdst]
      exact h.pass (by rw [hr]; rfl) rfl (fun u hu => freeB_spec hkd hro.1 d hdst u hu) (fun X g1 => AgnRd.mono h0 fun c hc => .inl (g1 c hc))
    · cases hev
  case frz x =>
    have hx := movOk_spec (a := a) (P := P) (w := w) hk
    simp only [evK] at hev
    have h0 := h.reg x
    split at hev
    · rename_i v hr
      cases hev
      rw [hr] at h0
      exact wp_value hx (hK _ _ (h.put (freeB_spec hkd hro) h0))
    · rename_i k n cs hr
      cases hev
      have hf := h.freeze hr
      have h1 := hf.reg x
      have hlt : x < s.length := by
        rcases Nat.lt_or_ge x s.length with hlt | hge
        · exact hlt
        · simp only [rget, List.getD_eq_getElem?_getD, List.getElem?_eq_none hge] at hr; cases hr
      rw [rget_set, if_pos ⟨rfl, hlt⟩] at h1
      refine wp_value hx (hK _ _ (hf.put (fun d hd t ht => ?_) h1))
      have hfree := freeB_spec hkd hro d hd t ht
      rw [rget_set]
      split
      · rfl
      · exact hfree
    · cases hev
  case mks z n =>
    simp only [kOk] at hk
    split at hk
    · rename_i t l c hop
      simp only [Bool.and_eq_true] at hk
      obtain ⟨⟨⟨h1, h2⟩, h3⟩, h4⟩ := hk
      simp only [rootOk, Bool.and_eq_true] at hro
      obtain ⟨d, hdst⟩ := Option.isSome_iff_exists.1 hro.2
      simp only [evK] at hev
      split at hev
      · rename_i kk m hn
        split at hev
        · rename_i hb
          cases hev
          have hl := opd_rd h h1 hn
          have hc := opd_rd h h2 hn
          generalize hlv : a.eval l = lv at hl
          generalize hcv : a.eval c = cv at hc
          cases hl
          cases hc
          obtain ⟨e, cells, hrun, hcells⟩ := make_ok (P := P) (Y := Y) (X := fun b => X0 b ∨ XS s a.tmps b) (w := w) (kl := kk) (kc := kk) h3 h4 hb.1 hb.2
          have hrun' : (execOp a.eval o).run P w = .ok (.value (.slice (some ⟨w.heap.size, 0, none⟩) m.toNat m.toNat)) (w.alloc (.cells cells e)) := by
            simp only [execOp, hop, hlv, hcv, Sem.run_bind, hrun, Result.andThen_ok, Sem.run_pure]
          simp only [Oper.wp, hrun', Oper.upon]
          refine hK _ _ ?_
          rw [hdst]
          exact own_new h (fun u hu => freeB_spec hkd hro.1 d hdst u hu) hcells (replA_length z m.toNat)
        · cases hev
      · cases hev
    · cases hk
  case blo k n z ps =>
    simp only [kOk] at hk
    split at hk
    · rename_i t len parts hop
      simp only [Bool.and_eq_true] at hk
      obtain ⟨hk, hel⟩ := hk
      simp only [evK, Option.map_eq_some_iff] at hev
      obtain ⟨cs, hcs, he⟩ := hev
      cases he
      simp only [blsOk, Bool.and_eq_true, beq_iff_eq] at hk
      obtain ⟨rfl, hk⟩ := hk
      obtain ⟨e', i', zv', hu', hi', hs', hk', _, _, _⟩ := elemOk_spec hel
      split at hk
      · rename_i e hu
        split at hk
        · rename_i ii hii
          obtain rfl : e = e' := by rw [hu] at hu'; cases hu'; rfl
          obtain rfl : ii = i' := by rw [hii] at hi'; cases hi'; rfl
          simp only [Bool.and_eq_true, decide_eq_true_eq] at hk
          obtain ⟨⟨⟨h1, h2⟩, h3⟩, hp⟩ := hk
          split at h3
          · rename_i zv hzv
            simp only [Bool.and_eq_true, decide_eq_true_eq, beq_iff_eq] at h3
            obtain ⟨⟨h3, h4⟩, h5⟩ := h3
            have hz0 : 0 < zv.cells.toList.length := by simp only [Array.length_toList]; omega
            have hzl : zv.cells.toList.length = ii.size := by simp only [Array.length_toList]; exact h3
            obtain ⟨hd, hg⟩ := timesOk_get (Y := Y) (X := fun b => X0 b ∨ XS s a.tmps b) (w := w) hz0 len z h5 (by rw [h4, hzl])
            have hszr : (sizeOf e).run P w = .ok ii.size w := by simp [sizeOf, typeInfo, program, Sem.run, hii]
            have hzr : (zeroValue e).run P w = .ok zv w := by simp [zeroValue, typeInfo, program, Sem.run, hii, hzv]
            have hc0 : CellsRd Y (fun b => X0 b ∨ XS s a.tmps b) w ((Array.range (len * ii.size)).map fun j => zv.cells[j % zv.cells.size]!) z := by
              refine ⟨hd, by simp [h4], fun i g1 g2 => ?_⟩
              obtain ⟨u, hu1, hu2⟩ := hg i g2
              have e1 : zv.cells[i % zv.cells.size]! = u := by
                have : zv.cells[i % zv.cells.size]? = some u := by simpa using hu1
                simp [getElem!_def, this]
              simp only [Array.getElem_map, Array.getElem_range, e1]
              exact hu2
            obtain ⟨cells', e1, e2⟩ := fill_ok h (place := fun i => some (i * ii.size, ii.size)) (fun i off n hi => by
              simp only [Bool.and_eq_true, beq_iff_eq] at hi
              rw [hi.1, hi.2]) hp hc0 hcs
            have e1' : Instr.fill (fun i => some (i * ii.size, ii.size)) ((Array.range (len * ii.size)).map fun j => zv.cells[j % zv.cells.size]!) (parts.map fun p => (p.1, a.eval p.2)).toList = some cells' := by rw [Array.toList_map]; exact e1
            have e3 : len * ii.size = 0 → (Array.range (len * ii.size)).map (fun j => (#[] : Array Value)[j % (#[] : Array Value).size]!) = (Array.range (len * ii.size)).map fun j => zv.cells[j % zv.cells.size]! := fun hh => by rw [hh]; simp
            have hl1 : ¬ len * ii.size > 2 ^ 24 := by omega
            simp only [rootOk, Bool.and_eq_true] at hro
            obtain ⟨d, hdst⟩ := Option.isSome_iff_exists.1 hro.2
            have hrun : (execOp a.eval o).run P w = .ok (.value (.slice (some ⟨w.heap.size, 0, none⟩) len len)) (w.alloc (.cells cells' e)) := by
              by_cases hl0 : len * ii.size = 0
              · simp only [execOp, hop, Instr.buildSlice, Sem.run_bind, run_underlying hu, Result.andThen_ok, hszr, hl1, if_false, if_pos hl0, Sem.run_pure, e3 hl0, e1', newRow, run_newObj_alloc]
              · simp only [execOp, hop, Instr.buildSlice, Sem.run_bind, run_underlying hu, Result.andThen_ok, hszr, hl1, if_false, hl0, Sem.run_pure, hzr, e1', newRow, run_newObj_alloc]
            simp only [Oper.wp, hrun, Oper.upon]
            refine hK _ _ ?_
            rw [hdst]
            refine own_new h (fun u hu => freeB_spec hkd hro.1 d hdst u hu) e2 ?_
            rw [fillA_length hcs, h4, hs']
          · cases h3
        · cases hk
      · cases hk
    · cases hk
  case apd ow x y k B =>
    simp only [kOk] at hk
    split at hk
    · rename_i args ts hop
      unfold apdOk at hk
      split at hk
      · rename_i x' y' t t' hargs hts
        simp only [Bool.and_eq_true] at hk
        obtain ⟨⟨⟨⟨h1, h2⟩, h3⟩, h4⟩, h5⟩ := hk
        have e1 : args = #[x', y'] := by rw [← Array.toArray_toList (xs := args), hargs]
        have e2 : ts = #[t, t'] := by rw [← Array.toArray_toList (xs := ts), hts]
        subst e1 e2
        simp only [rootOk, Bool.and_eq_true] at hro
        obtain ⟨d, hdst⟩ := Option.isSome_iff_exists.1 hro.2
        have hfr : ∀ u, (u, d) ∈ roots → isLink (rget s u) = false := fun u hu => freeB_spec hkd hro.1 d hdst u hu
        have hrunO : ∀ {v : Value} {w' : World}, (Builtin.append_ #[t, t'] o.type #[a.eval x', a.eval y']).run P w = .ok v w' → (execOp a.eval o).run P w = .ok (.value v) w' := by
          intro v w' hh
          simp [execOp, hop, resolve, invoke, builtin, hh]
        simp only [evK] at hev
        split at hev
        · -- nothing to append
          rename_i hy
          have hyr := opd_rd h h2 hy
          generalize hyv : a.eval y' = yv at hyr hrunO
          cases hyr
          split at hev
          · rename_i hxr
            cases hev
            have hxx := opd_rd h h1 (reg_av hxr)
            generalize hxv : a.eval x' = xv at hxx hrunO
            cases hxx
            have hr := hrunO (append_nil (P := P) (w := w) (ty := o.type) h3 h4)
            exact wp_value hr (hK _ _ (h.put (freeB_spec hkd hro.1) .nil))
          · rename_i k' n cs hxr
            obtain ⟨nx, rfl⟩ := reg_own hxr
            simp only [Opd.reg] at hxr
            split at hev
            · rename_i hkk
              subst hkk
              cases hev
              rcases h.ownLow hxr with ⟨e1, rfl, rfl⟩ | ⟨b, cap, e1, e2, e3, e4, e5, e6, hXb⟩
              · have hxv : a.eval x' = .slice none 0 0 := by rw [opd_slot h1, e1]
                rw [hxv] at hrunO
                have hr := hrunO (append_nil (P := P) (w := w) (ty := o.type) h3 h4)
                refine wp_value hr (hK _ _ ?_)
                rw [hdst]
                exact own_none (ks := [nx]) h (fun u hu => .inr (hfr u hu))
              have hxv : a.eval x' = .slice (some ⟨b, 0, none⟩) n cap := by rw [opd_slot h1, e1]
              rw [hxv] at hrunO
              have hr := hrunO (append_none (P := P) (w := w) (ty := o.type) h3 h4 e2)
              refine wp_value hr (hK _ _ ?_)
              rw [hdst]
              refine Rel.shift h hxr (b := b) (by rw [e1]; rfl) hfr rfl rfl rfl rfl (fun _ _ => rfl) (fun _ => rfl) (fun X g1 g2 => ?_)
              exact own_or (.inr ⟨b, cap, rfl, e2, e3, e4, e5.mono fun c hc => .inl (g1 c hc), e6⟩) (fun he => by subst he; exact fun c hc => by cases hc; exact g2 rfl) h.lowY
            · cases hev
          · cases hev
        · rename_i m ys hy
          have hyr := slr_of (opd_rd h h2 hy)
          split at hev
          · rename_i hylen
            -- from no array on
            have fromNil : a.eval x' = .slice none 0 0 → m ≤ B → ∀ ks : List Nat, (∀ a' w', Rel Y X0 roots w0 (rput (rputs s (ks.map fun u => (u, Reg.dead))) (some d) (if ow then .own k m ys else .val (.sl m ys))) a' w' → K' a' w') → o.wp P a w K' Q := by
              intro hxv hm2 ks hK'
              rw [hxv] at hrunO
              rcases Nat.eq_zero_or_pos m with hm | hm
              · subst hm
                have hy0 : ys = [] := List.eq_nil_of_length_eq_zero (by simpa using hylen)
                subst hy0
                have hr : (execOp a.eval o).run P w = .ok (.value (.slice none 0 0)) w := by
                  rcases hyr with ⟨_, _, hyv | ⟨p, c, hyv⟩⟩ | ⟨b, off, cap, hyv, _⟩
                  · rw [hyv] at hrunO
                    exact hrunO (append_nil (P := P) (w := w) (ty := o.type) h3 h4)
                  · rw [hyv] at hrunO
                    exact hrunO (append_nil0 (P := P) (w := w) (ty := o.type) h3 h4)
                  · rw [hyv] at hrunO
                    exact hrunO (append_nil0 (P := P) (w := w) (ty := o.type) h3 h4)
                refine wp_value hr (hK' _ _ ?_)
                rw [hdst]
                exact own_none (ks := ks) h (fun u hu => .inr (hfr u hu))
              · obtain ⟨v', w', hrun, hbel, hown⟩ := append_grow (P := P) (ty := o.type) (n := 0) (cs := []) h3 h4 h5 (.inl ⟨rfl, rfl, rfl, hm⟩) (by simp) hyr hm hylen (by omega)
                have hr := hrunO hrun
                simp only [Oper.wp, hr, Oper.upon]
                refine hK' _ _ ?_
                rw [hdst]
                simp only [Nat.zero_add, List.nil_append] at hown
                exact own_grown (ks := ks) h hbel (fun u hu => .inr (hfr u hu)) hown
            split at hev
            · rename_i hxr
              have hxx := opd_rd h h1 (reg_av hxr)
              generalize hxv : a.eval x' = xv at hxx
              cases hxx
              split at hev
              · rename_i hm2
                cases hev
                rw [hdst] at hK
                exact fromNil hxv hm2 [] hK
              · cases hev
            · rename_i k' n cs hxr
              obtain ⟨nx, rfl⟩ := reg_own hxr
              simp only [Opd.reg] at hxr
              split at hev
              · rename_i hkk
                obtain ⟨rfl, hnm⟩ := hkk
                cases hev
                rcases h.ownLow hxr with ⟨e1, rfl, rfl⟩ | ⟨b, cap, e1, e2, e3, e4, e5, e6, hXb⟩
                · rw [hdst] at hK
                  simp only [Nat.zero_add, List.nil_append] at hK
                  exact fromNil (by rw [opd_slot h1, e1]) (by omega) [nx] hK
                have hxv : a.eval x' = .slice (some ⟨b, 0, none⟩) n cap := by rw [opd_slot h1, e1]
                rw [hxv] at hrunO
                by_cases hyn : m = 0
                · subst hyn
                  have hy0 : ys = [] := List.eq_nil_of_length_eq_zero (by simpa using hylen)
                  subst hy0
                  have hr : (execOp a.eval o).run P w = .ok (.value (.slice (some ⟨b, 0, none⟩) n cap)) w := by
                    rcases hyr with ⟨_, _, hyv | ⟨p, c, hyv⟩⟩ | ⟨b', off', cap', hyv, _⟩
                    · rw [hyv] at hrunO
                      exact hrunO (append_none (P := P) (w := w) (ty := o.type) h3 h4 e2)
                    · rw [hyv] at hrunO
                      exact hrunO (append_noneE (P := P) (w := w) (ty := o.type) h3 h4 e2)
                    · rw [hyv] at hrunO
                      exact hrunO (append_noneE (P := P) (w := w) (ty := o.type) h3 h4 e2)
                  refine wp_value hr (hK _ _ ?_)
                  rw [hdst]
                  refine Rel.shift h hxr (b := b) (by rw [e1]; rfl) hfr rfl rfl rfl rfl (fun _ _ => rfl) (fun _ => rfl) (fun X g1 g2 => ?_)
                  simp only [Nat.add_zero, List.append_nil] at g2 ⊢
                  exact own_or (.inr ⟨b, cap, rfl, e2, e3, e4, e5.mono fun c hc => .inl (g1 c hc), e6⟩) (fun he => by subst he; exact fun c hc => by cases hc; exact g2 rfl) h.lowY
                by_cases hroom : n + m ≤ cap
                · obtain ⟨w', hrun, g1, g2, g3, g4, g5, g6, g7⟩ := append_room (P := P) (ty := o.type) h3 h4 hroom (Y := Y) (X := fun b => X0 b ∨ XS s a.tmps b) (.inr hXb) e5 e6 e3 hyr hyn hylen
                  have hr := hrunO hrun
                  simp only [Oper.wp, hr, Oper.upon]
                  refine hK _ _ ?_
                  rw [hdst]
                  refine Rel.shift h hxr (b := b) (by rw [e1]; rfl) hfr g1 g2 g3 g4 g5 (fun _ => rfl) (fun X q1 q2 => ?_)
                  exact own_or (.inr ⟨b, cap, rfl, hroom, by rw [List.length_append, e3, hylen, Nat.add_mul], e4, g6.mono fun c hc => .inl (q1 c hc), g7⟩) (fun he => by subst he; exact fun c hc => by cases hc; exact q2 rfl) h.lowY
                · obtain ⟨v', w', hrun, hbel, hown⟩ := append_grow (P := P) (ty := o.type) h3 h4 h5 (.inr ⟨b, cap, rfl, by omega, e5.mem⟩) e3 hyr (by omega) hylen hnm
                  have hr := hrunO hrun
                  simp only [Oper.wp, hr, Oper.upon]
                  refine hK _ _ ?_
                  rw [hdst]
                  exact own_grown (ks := [nx]) h hbel (fun u hu => .inr (hfr u hu)) hown
              · cases hev
            · cases hev
          · cases hev
        · cases hev
      · cases hk
    · cases hk
  case sli x lo hi mx k =>
    simp only [kOk] at hk
    split at hk
    · rename_i t x' lo' hi' mx' hop
      simp only [Bool.and_eq_true] at hk
      obtain ⟨⟨⟨⟨h1, h2⟩, h3⟩, h4⟩, h5⟩ := hk
      have hrunO : ∀ {v : Value}, (Instr.sliceAt t (a.eval x') (lo'.map a.eval) (hi'.map a.eval) (mx'.map a.eval)).run P w = .ok v w → (execOp a.eval o).run P w = .ok (.value v) w := by
        intro v hh
        simp only [execOp, hop, Sem.run_bind, hh, Result.andThen_ok, Sem.run_pure]
      simp only [evK] at hev
      split at hev
      · rename_i hx
        have hxr := opd_rd h h1 hx
        generalize hxv : a.eval x' = xv at hxr hrunO
        cases hxr
        split at hev
        · rename_i b1 b2 b3
          split at hev
          · rename_i c4
            cases hev
            have hb := bounds_ok (P := P) (w := w) (len := 0) (cap := 0) (m := 0) (h := 0) (l := 0) (bnd_mx h h4 b1 rfl (Nat.le_refl _)) (bnd_h h h3 h4 b2 c4 (fun _ => Nat.le_refl _) (fun _ => Nat.le_refl _)) (bnd_lo h h2 b3 (Nat.le_refl _))
            have hr := hrunO (slice_run h5 hb)
            exact wp_value hr (hK _ _ (h.put (freeB_spec hkd hro) .nil))
          · cases hev
        · cases hev
      · rename_i n cs hx
        have hxr := opd_rd h h1 hx
        split at hev
        · rename_i m hh l b1 b2 b3
          split at hev
          · rename_i hc
            cases hev
            obtain ⟨c1, c2, c3, c4⟩ := hc
            obtain ⟨ad, cap, hv, hcap, hres, hnone⟩ := slice_ok (k := k) (m := if mx.isSome then m else cap0 (a.eval x')) hxr c1 (by omega)
            rw [hv] at hrunO hres
            have hb := bounds_ok (P := P) (w := w) (len := n) (cap := cap) (m := if mx.isSome then m else cap) (h := hh) (l := l) (bnd_m h h4 b1 (by omega)) (bnd_h h h3 h4 b2 c4 (fun hs => by rw [if_pos hs]; exact c2) (fun hs => by rw [if_neg hs]; omega)) (bnd_lo h h2 b3 c1)
            have hr := hrunO (slice_run h5 hb)
            refine wp_value hr (hK _ _ (h.put (freeB_spec hkd hro) (hres ?_ (fun hn => ?_))))
            · simp only [cap0]
              split
              · exact c2
              · omega
            · have h0 := hnone hn
              simp only [cap0]
              split
              · omega
              · exact h0
          · cases hev
        · cases hev
      · cases hev
    · cases hk
  case nlo k =>
    simp only [kOk] at hk
    simp only [evK] at hev
    cases hev
    simp only [rootOk, Bool.and_eq_true] at hro
    obtain ⟨d, hdst⟩ := Option.isSome_iff_exists.1 hro.2
    have hr : (execOp a.eval o).run P w = .ok (.value (.slice none 0 0)) w := by
      split at hk
      · rename_i hop; simp [execOp, hop, Act.eval]
      · rename_i hop; simp [execOp, hop, Act.eval]
      · cases hk
    refine wp_value hr (hK _ _ ?_)
    rw [hdst]
    exact own_none (ow := true) (ks := []) h (fun u hu => .inr (freeB_spec hkd hro.1 d hdst u hu))
  case bdo y x ls =>
    simp only [kOk] at hk
    split at hk
    · rename_i t parts hop
      obtain ⟨a', x', hparts, h1, h2, hrun⟩ := bdo_spec hk
      simp only [rootOk, Bool.and_eq_true] at hro
      obtain ⟨d, hdst⟩ := Option.isSome_iff_exists.1 hro.2
      simp only [evK] at hev
      split at hev
      · rename_i b hb
        split at hev
        · rename_i k n cs hr
          split at hev
          case isFalse => cases hev
          rename_i hls
          cases hev
          have hkd' : ∀ t ∈ oks ++ ls, isLink (rget s t) = false := links_spec hkd hls
          have hbr := opd_rd h h1 hb
          generalize hbv : a.eval a' = bv at hbr
          cases hbr
          have hx' := opd_slot (a := a) h2
          have h0 := h.reg x
          rw [hr] at h0
          have hcell : (a.tmps.getD x Go.undef).cells = #[a.tmps.getD x Go.undef] := by
            rcases h0 with ⟨e, _⟩ | ⟨_, _, e, _⟩ <;> rw [e] <;> rfl
          have hpe : (parts.map fun p => (p.1, a.eval p.2)) = #[(0, .bool b), (1, a.tmps.getD x Go.undef)] := by
            apply Array.toList_inj.1
            rw [Array.toList_map, hparts]
            simp [hbv, hx']
          refine wp_value (v := .agg #[.bool b, a.tmps.getD x Go.undef]) ?_ (hK _ _ ?_)
          · simp only [execOp, hop, Sem.run_bind]
            rw [show (parts.map fun x : Nat × Operand => match x with | (i, x) => (i, a.eval x)) = (parts.map fun p => (p.1, a.eval p.2)) from rfl, hpe, hrun b _ hcell w]
            rfl
          · rw [hdst]
            exact h.pass (by rw [hr]; rfl) (agn_block (.st b) h0) (fun u hu => freeB_spec hkd' hro.1 d hdst u hu) (fun X g1 => ⟨_, rfl, OwnRd.mono h0 fun c hc => .inl (g1 c hc)⟩)
        · cases hev
      · cases hev
    · cases hk
  case stl x v =>
    simp only [kOk] at hk
    split at hk
    · rename_i t x' v' hop
      simp only [Bool.and_eq_true] at hk
      obtain ⟨⟨h1, h2⟩, h3⟩ := hk
      simp only [rootOk, Bool.and_eq_true, Option.isNone_iff_eq_none, List.contains_eq_mem, decide_eq_true_eq] at hro
      obtain ⟨hdst, hroot⟩ := hro
      simp only [evK] at hev
      split at hev
      · rename_i cs hr
        split at hev
        · rename_i bb k n ds hrv
          split at hev
          · rename_i hcs
            cases hev
            have hx' := opd_slot (a := a) h1
            have hv' := opd_slot (a := a) h3
            have h0 := h.reg x
            rw [hr] at h0
            obtain ⟨b, e1, hB, hd, vs, T, e2, e3, _⟩ := h0
            have h5 := h.reg v
            rw [hrv] at h5
            obtain ⟨u, hu, h5⟩ := h5
            have hcell : u.oneCell' = true := by
              rcases h5 with ⟨e, _⟩ | ⟨_, _, e, _⟩ <;> rw [e] <;> rfl
            have hsz := sizeIs_spec h2
            have hrow := run_storeCells_at (P := P) b 0 T [.bool bb, u] 0 vs w e2 (by simp; omega) (by
              intro y hy
              simp only [List.mem_cons, List.not_mem_nil, or_false] at hy
              rcases hy with rfl | rfl
              · rfl
              · exact hcell)
            have hrun' : (execOp a.eval o).run P w = .ok .skip (w.setRow b (vs.toList.take (0 + 0) ++ [.bool bb, u] ++ vs.toList.drop (0 + 0 + [Value.bool bb, u].length)).toArray) := by
              have hcells : (Value.agg #[.bool bb, u]).cells = #[.bool bb, u] := rfl
              simp only [execOp, hop, Instr.storeAt, hx', e1, hv', hu, tagV, Instr.sureAddr, Sem.run_bind, Sem.run_pure, Result.andThen_ok, storeVar, hsz, hcells]
              simp only [List.size_toArray, List.length_cons, List.length_nil, ne_eq, not_true_eq_false, if_false]
              rw [hrow]
              rfl
            simp only [Oper.wp, hrun', Oper.upon]
            rw [hdst] at hK ⊢
            refine hK _ _ (Rel.store (w' := w.setRow b _) h hr rfl rfl (by rw [e1]; rfl) hB rfl rfl rfl (setRow_size _ _ _) (fun c hc => setRow_other _ _ _ _ hc) (fun X hX => ?_))
            have hlt : b < w.heap.size := (Array.getElem?_eq_some_iff.1 e2).1
            refine ⟨hroot, b, e1, hB, by rw [setRow_size]; exact hlt, fun i hi => ?_⟩
            rw [cell_of_block (setRow_heap w b vs _ T (0, 0) e2), hu]
            match i, hi with
            | 0, _ => rfl
            | 1, _ => rfl
          · cases hev
        · cases hev
      · cases hev
    · cases hk
  case cln f xs ls =>
    simp only [kOk] at hk
    split at hk
    · rename_i f' args ts hop
      simp only [Bool.and_eq_true, beq_iff_eq] at hk
      obtain ⟨⟨rfl, h1⟩, h2⟩ := hk
      simp only [evK] at hev
      split at hev
      · rename_i vs hx
        split at hev
        case isFalse => cases hev
        rename_i hls
        have hkd' : ∀ t ∈ oks ++ ls, isLink (rget s t) = false := links_spec hkd hls
        simp only [Option.map_eq_some_iff] at hev
        obtain ⟨y, hy, he⟩ := hev
        cases he
        obtain ⟨e1, e2⟩ := opds_rd h h1 hx
        unfold bodyOk at h2
        split at h2
        · rename_i fn hfn
          simp only [Bool.and_eq_true, Bool.not_eq_true'] at h2
          obtain ⟨hbody, hname⟩ := h2
          have hbn : ¬ fn.body = none := by intro e0; rw [e0] at hbody; cases hbody
          have hnm : ¬ fn.name = "runtime.NumGoroutine" := by simpa using hname
          have hrun : (execOp a.eval o).run P w = .ok (.enter f' (args.map a.eval)) w := by
            simp [execOp, hop, resolve, Deferred.ofValue, Act.eval, invoke, callFunc, program, Sem.run, hfn, hnm, hbn]
          have hcall := hF.plain f' vs y hy Y (fun b => X0 b ∨ XS s a.tmps b) w (args.map a.eval) h.lowX h.lowYw (by simpa using e1) (fun i g1 g2 => by
            have := e2 i (by simpa using g1) g2
            simpa using this)
          simp only [Oper.wp, hrun, Oper.upon]
          refine hcall.mono fun e w' ⟨v, he, hb, hr⟩ => ?_
          subst he
          refine hK _ _ ?_
          simp only [rootOk, Bool.and_eq_true] at hro
          obtain ⟨d, hdst⟩ := Option.isSome_iff_exists.1 hro.2
          rw [hdst]
          cases y
          case fresh k n cs =>
            simp only [ResOk] at hr
            refine Rel.write (ks := []) h hb (fun u hu => .inr (freeB_spec hkd' hro.1 d hdst u hu)) (fun _ b hb => (OwnRd.block hr hb).1) (fun X g1 _ => ?_)
            exact own_call h.below.from_ hr g1
          case frs bb k n cs =>
            simp only [ResOk] at hr
            refine Rel.write (ks := []) h hb (fun u hu => .inr (freeB_spec hkd' hro.1 d hdst u hu)) (fun _ b hb => (AgnRd.block hr hb).1) (fun X g1 _ => ?_)
            obtain ⟨u, rfl, hr⟩ := hr
            rw [agn_block _ hr] at g1
            refine ⟨u, rfl, own_call h.below.from_ ?_ g1⟩
            rw [agn_block _ hr] at hr
            exact hr
          all_goals
            refine Rel.write (ks := []) h hb (fun u hu => .inr (freeB_spec hkd' hro.1 d hdst u hu)) (fun he => (by cases he)) (fun X _ g2 => ?_)
            exact Rd.mono hr fun b hb => .inl (g2 rfl b hb)
        · cases h2
      · cases hev
    · cases hk
  case fdo x =>
    simp only [kOk] at hk
    split at hk
    · rename_i t x' hop
      simp only [Bool.and_eq_true] at hk
      obtain ⟨h1, h2⟩ := hk
      simp only [rootOk, Bool.and_eq_true] at hro
      obtain ⟨d, hdst⟩ := Option.isSome_iff_exists.1 hro.2
      simp only [evK] at hev
      split at hev
      · rename_i b k n cs hr
        cases hev
        have hx' := opd_slot (a := a) h1
        have h0 := h.reg x
        rw [hr] at h0
        obtain ⟨u, hu, h0⟩ := h0
        refine wp_value (v := u) ?_ (hK _ _ ?_)
        · simp only [execOp, hop, Sem.run_bind, hx', hu, tagV, fdo_spec h2 b u w]
          rfl
        · rw [hdst]
          exact h.pass (by rw [hr]; rfl) (by rw [hu]; exact (agn_block (.st b) h0).symm) (fun u hu => freeB_spec hkd hro.1 d hdst u hu) (fun X g1 => OwnRd.mono h0 fun c hc => .inl (g1 c hc))
      · cases hev
    · cases hk
  case exo x =>
    simp only [kOk] at hk
    split at hk
    · rename_i x' hop
      simp only [rootOk, Bool.and_eq_true] at hro
      obtain ⟨d, hdst⟩ := Option.isSome_iff_exists.1 hro.2
      simp only [evK] at hev
      split at hev
      · rename_i b k n cs hr
        cases hev
        have hx' := opd_slot (a := a) hk
        have h0 := h.reg x
        rw [hr] at h0
        obtain ⟨u, hu, h0⟩ := h0
        have hrd : ∀ X, Rd Y X w u (.sl n []) := by
          intro X
          rcases h0 with ⟨rfl, rfl, _⟩ | ⟨c, cap, rfl, hle, _⟩
          · exact .nil0
          · exact .sl c 0 n cap [] (fun _ => Go.undef) (by intro y hy; cases hy) hle (fun hne => absurd rfl hne) (fun ⟨y, hy, _⟩ => by cases hy) (fun i hi => by simp at hi) (fun i hi => by simp at hi)
        refine wp_value (v := u) ?_ (hK _ _ ?_)
        · simp only [execOp, hop, Instr.extract, hx', hu, tagV, Sem.run_bind, Sem.run_pure]
          rfl
        · rw [hdst]
          have hp := h.pass (r := .own k n cs) (v := u) (by rw [hr]; rfl) (by rw [hu]; exact (agn_block (.tp b) h0).symm) (fun u hu => freeB_spec hkd hro.1 d hdst u hu) (fun X g1 => OwnRd.mono h0 fun c hc => .inl (g1 c hc))
          by_cases hxd : x = d
          · subst hxd
            simp only [rput, rputs, List.set_set] at hp ⊢
            exact hp
          · simp only [rput, rputs] at hp ⊢
            have e1 : ((s.set x (.val (.tup [.sl n [], .bool b]))).set d (.own k n cs)) = (((s.set x .dead).set d (.own k n cs)).set x (.val (.tup [.sl n [], .bool b]))) := by
              rw [List.set_comm (i := x) (j := d) _ _ hxd, List.set_comm (i := x) (j := d) _ _ hxd, List.set_set]
            rw [e1]
            refine hp.wake ?_ ?_
            · rw [rget_set, if_neg (fun g => hxd g.1.symm), rget_set]
              split
              · rfl
              · rename_i g
                simp only [true_and, Nat.not_lt] at g
                simp only [rget, List.getD_eq_getElem?_getD, List.getElem?_eq_none g]
                rfl
            · have e2 : (a.put (some d) u).tmps.getD x Go.undef = .tuple #[u, .bool b] := by
                show (a.tmps.setIfInBounds d u).getD x Go.undef = _
                rw [getD_put, if_neg (fun g => hxd g.1.symm)]
                exact hu
              rw [e2]
              refine Rd.tup #[u, .bool b] [.sl n [], .bool b] rfl fun i h1 h2 => ?_
              match i, h2 with
              | 0, _ => exact hrd _
              | 1, _ => exact Rd.bool b
      · cases hev
    · cases hk
  case sub x d lo hi k =>
    simp only [kOk] at hk
    split at hk
    · rename_i t x' lo' hi' hop
      simp only [Bool.and_eq_true] at hk
      obtain ⟨⟨⟨h1, h2⟩, h3⟩, h5⟩ := hk
      simp only [rootOk, Bool.and_eq_true] at hro
      simp only [evK] at hev
      split at hev
      · rename_i d' hxr
        split at hev
        · rename_i hdd
          subst hdd
          split at hev
          · rename_i k' n cs hdr
            split at hev
            · rename_i hh l b2 b3
              split at hev
              · rename_i hc
                obtain ⟨rfl, c1, c2⟩ := hc
                cases hev
                have h0 := h.reg x
                rw [hxr] at h0
                obtain ⟨hrt, hv⟩ := h0
                have hd0 := h.reg d'
                rw [hdr] at hd0
                have hxv : a.eval x' = a.tmps.getD d' Go.undef := by rw [opd_slot h1, hv]
                have hrunO : ∀ {v : Value}, (Instr.sliceAt t (a.eval x') (lo'.map a.eval) (hi'.map a.eval) none).run P w = .ok v w → (execOp a.eval o).run P w = .ok (.value v) w := by
                  intro v hv
                  simp only [execOp, hop, Sem.run_bind, Option.map_none, hv, Result.andThen_ok, Sem.run_pure]
                have key : ∀ {len cap : Nat} {v : Value}, n = len → n ≤ cap → (Instr.sliceAt t (a.eval x') (lo'.map a.eval) (hi'.map a.eval) none).run P w = .ok v w → SubV k' l hh (a.tmps.getD d' Go.undef) v → o.wp P a w K' Q := by
                  intro len cap v _ _ hrun hsv
                  refine wp_value (hrunO hrun) (hK _ _ ?_)
                  have hroot := rootB_spec hro.2
                  have hfree := freeB_spec hkd hro.1
                  cases hdst : o.dst with
                  | none => exact h
                  | some t1 =>
                    rw [hdst] at hroot hfree
                    refine Rel.write (ks := []) h (Below.refl _ _) (fun u hu => .inr (hfree t1 rfl u hu)) (fun he => (by cases he)) (fun X _ _ => ?_)
                    refine ⟨(hroot t1 rfl).1, ?_⟩
                    rw [getD_put, if_neg]
                    · exact hsv
                    · rintro ⟨g, _⟩
                      exact (hroot t1 rfl).2 g
                rcases hd0 with ⟨e, rfl, rfl⟩ | ⟨b, cap, e, e2, e3, e4, e5, e6⟩
                · have hb := bounds_ok (P := P) (w := w) (len := 0) (cap := 0) (m := 0) (h := hh) (l := l) (mx := none) (.inl ⟨rfl, rfl⟩) (bnd_h (om := none) (om' := none) h h3 rfl b2 (fun g => by cases g) (fun g => by cases g) (fun _ => c2)) (bnd_lo h h2 b3 c1)
                  have hz : hh = 0 := by omega
                  have lz : l = 0 := by omega
                  subst hz lz
                  refine key rfl (Nat.le_refl _) (v := .slice none 0 0) ?_ (.inl ⟨e, rfl, rfl, rfl⟩)
                  rw [hxv, e, slice_run h5 hb]
                  rfl
                · have hb := bounds_ok (P := P) (w := w) (len := n) (cap := cap) (m := cap) (h := hh) (l := l) (mx := none) (.inl ⟨rfl, rfl⟩) (bnd_h (om := none) (om' := none) h h3 rfl b2 (fun g => by cases g) (fun g => by cases g) (fun _ => by omega)) (bnd_lo h h2 b3 c1)
                  refine key rfl e2 (v := .slice (if cap = l then some ⟨b, 0, none⟩ else some ⟨b, l * k', none⟩) (hh - l) (cap - l)) ?_ (.inr ⟨b, n, cap, e, c1, c2, e2, rfl⟩)
                  rw [hxv, e, slice_run h5 hb]
                  simp only [Option.map_some, addr_add, Nat.zero_add]
              · cases hev
            · cases hev
          · cases hev
        · cases hev
      · cases hev
    · cases hk
  case app ow x d y k =>
    simp only [kOk] at hk
    split at hk
    · rename_i args ts hop
      unfold apdOk at hk
      split at hk
      · rename_i x' y' t t' hargs hts
        simp only [Bool.and_eq_true] at hk
        obtain ⟨⟨⟨⟨h1, h2⟩, h3⟩, h4⟩, h5⟩ := hk
        have e1 : args = #[x', y'] := by rw [← Array.toArray_toList (xs := args), hargs]
        have e2 : ts = #[t, t'] := by rw [← Array.toArray_toList (xs := ts), hts]
        subst e1 e2
        simp only [rootOk, Bool.and_eq_true] at hro
        obtain ⟨dd, hdst⟩ := Option.isSome_iff_exists.1 hro.1.2
        have hfr : ∀ u, (u, dd) ∈ roots → isLink (rget s u) = false := fun u hu => freeB_spec hkd hro.1.1 dd hdst u hu
        simp only [evK] at hev
        split at hev
        · rename_i d' k' l hh hxr
          split at hev
          · rename_i hc
            obtain ⟨rfl, rfl, rfl⟩ := hc
            split at hev
            · rename_i k'' n cs hdr
              split at hev
              · rename_i hc2
                obtain ⟨rfl, hle⟩ := hc2
                split at hev
                · rename_i m ys hy
                  split at hev
                  · rename_i hc3
                    cases hev
                    have hs1 := retake h hxr hdr hle (fun t ht => freeB_spec hkd hro.2 x rfl t ht)
                    have hxd : x ≠ d' := by intro g; rw [g, hdr] at hxr; cases hxr
                    have hlx : x < s.length := by
                      rcases Nat.lt_or_ge x s.length with hlt | hge
                      · exact hlt
                      · simp only [rget, List.getD_eq_getElem?_getD, List.getElem?_eq_none hge] at hxr; cases hxr
                    have hget : ∀ u, rget ((s.set d' .dead).set x (.own k'' hh (cs.take (hh * k'')))) u = if x = u then .own k'' hh (cs.take (hh * k'')) else if d' = u ∧ u < s.length then .dead else rget s u := by
                      intro u
                      rw [rget_set, List.length_set, rget_set]
                      by_cases g : x = u
                      · subst g
                        rw [if_pos ⟨rfl, hlx⟩, if_pos rfl]
                      · rw [if_neg (fun q => g q.1), if_neg g]
                        by_cases g2 : d' = u
                        · subst g2; rfl
                        · rw [if_neg (fun q => g2 q.1), if_neg (fun q => g2 q.1)]
                    have hy1 : y.av ((s.set d' .dead).set x (.own k'' hh (cs.take (hh * k'')))) = some (.sl m ys) := by
                      cases y with
                      | c v => exact hy
                      | t u =>
                        simp only [Opd.av, Opd.reg] at hy ⊢
                        have hux : x ≠ u := by intro g; rw [← g, hxr] at hy; cases hy
                        have hud : d' ≠ u := by intro g; rw [← g, hdr] at hy; cases hy
                        rw [hget, if_neg hux, if_neg (fun q => hud q.1)]
                        exact hy
                    have hK2 : ∀ a' w', Rel Y X0 roots w0 (rput (rputs ((s.set d' .dead).set x (.own k'' hh (cs.take (hh * k'')))) [(x, .dead)]) (some dd) (if ow then .own k'' (hh + m) (cs.take (hh * k'') ++ ys) else .val (.sl (hh + m) (cs.take (hh * k'') ++ ys)))) a' w' → K' a' w' := by
                      intro a' w' hrel
                      refine hK a' w' ?_
                      rw [hdst]
                      simp only [rputs, List.set_set] at hrel ⊢
                      exact hrel
                    refine apd_own hs1 hop h1 h3 h4 h5 hdst (fun u hu => ?_) (by rw [hget, if_pos rfl]) (slr_of (opd_rd hs1 h2 hy1)) hc3.1 hc3.2 hK2
                    rw [hget]
                    split
                    · rfl
                    · split
                      · rfl
                      · exact hfr u hu
                  · cases hev
                · cases hev
              · cases hev
            · cases hev
          · cases hev
        · cases hev
      · cases hk
    · cases hk
  case apb ow x y d k =>
    simp only [kOk] at hk
    split at hk
    · rename_i args ts hop
      unfold apdOk at hk
      split at hk
      · rename_i x' y' t t' hargs hts
        simp only [Bool.and_eq_true] at hk
        obtain ⟨⟨⟨⟨h1, h2⟩, h3⟩, h4⟩, h5⟩ := hk
        have e1 : args = #[x', y'] := by rw [← Array.toArray_toList (xs := args), hargs]
        have e2 : ts = #[t, t'] := by rw [← Array.toArray_toList (xs := ts), hts]
        subst e1 e2
        simp only [rootOk, Bool.and_eq_true] at hro
        obtain ⟨dd, hdst⟩ := Option.isSome_iff_exists.1 hro.2
        have hfr : ∀ u, (u, dd) ∈ roots → isLink (rget s u) = false := fun u hu => freeB_spec hkd hro.1 dd hdst u hu
        simp only [evK] at hev
        split at hev
        · rename_i k0 n cs hxr
          split at hev
          · rename_i d' k' l hh hyr
            split at hev
            · rename_i hc
              obtain ⟨rfl, rfl, rfl⟩ := hc
              split at hev
              · rename_i k'' n' cs' hdr
                split at hev
                · rename_i hc2
                  obtain ⟨rfl, hle, hnm⟩ := hc2
                  cases hev
                  have h0 := h.reg y
                  rw [hyr] at h0
                  obtain ⟨_, hv⟩ := h0
                  have hd0 := h.reg d'
                  rw [hdr] at hd0
                  have hyv : a.eval y' = a.tmps.getD y Go.undef := opd_slot h2
                  rcases hv with ⟨q1, q2, rfl, rfl⟩ | ⟨b, n2, cap, q1, ql, ql2, ql3, q2⟩
                  · refine apd_own (ow := ow) (m := 0 - 0) (ys := (cs'.drop (0 * k'')).take ((0 - 0) * k'')) h hop h1 h3 h4 h5 hdst hfr hxr (.inl ⟨rfl, by simp, .inl (by rw [hyv, q2])⟩) (by simp) hnm ?_
                    rw [← hdst]; exact hK
                  · rcases hd0 with ⟨p1, _⟩ | ⟨b', cap', p1, p2, p3, p4, p5, p6⟩
                    · rw [q1] at p1; cases p1
                    · rw [q1] at p1
                      cases p1
                      have hmem : MemRd Y (fun b => X0 b ∨ XS s a.tmps b) w b (0 + l * k'') ((cs'.drop (l * k'')).take ((hh - l) * k'')) := memrd_take (p5.mem.drop (l * k'')) _
                      rw [Nat.zero_add] at hmem
                      have hlen : ((cs'.drop (l * k'')).take ((hh - l) * k'')).length = (hh - l) * k'' := by
                        rw [List.length_take, List.length_drop, p3]
                        have : l * k'' + (hh - l) * k'' ≤ n' * k'' := by rw [← Nat.add_mul]; exact Nat.mul_le_mul_right _ (by omega)
                        omega
                      refine apd_own (ow := ow) (m := hh - l) h hop h1 h3 h4 h5 hdst hfr hxr ?_ hlen hnm ?_
                      · by_cases hcl : cap = l
                        · have hz : hh - l = 0 := by omega
                          rw [if_pos hcl] at q2
                          refine .inl ⟨hz, by rw [hz]; simp, .inr ⟨⟨b, 0, none⟩, cap - l, ?_⟩⟩
                          rw [hyv, q2, hz]
                        · rw [if_neg hcl] at q2
                          exact .inr ⟨b, l * k'', cap - l, by rw [hyv, q2], hmem, by omega⟩
                      · rw [← hdst]; exact hK
                · cases hev
              · cases hev
            · cases hev
          · cases hev
        · cases hev
      · cases hk
    · cases hk
  case slo x hi k =>
    simp only [kOk] at hk
    split at hk
    · rename_i t x' hi' hop
      simp only [Bool.and_eq_true] at hk
      obtain ⟨⟨h1, h2⟩, h5⟩ := hk
      simp only [rootOk, Bool.and_eq_true] at hro
      obtain ⟨d, hdst⟩ := Option.isSome_iff_exists.1 hro.2
      simp only [evK] at hev
      split at hev
      · rename_i ki iv hiv
        split at hev
        · rename_i k' n cs hr
          split at hev
          · rename_i hc
            obtain ⟨rfl, c1, c2⟩ := hc
            cases hev
            have hbr := opd_rd h h2 hiv
            generalize hbv : a.eval hi' = bv at hbr
            cases hbr
            have hx' := opd_slot (a := a) h1
            have h0 := h.reg x
            rw [hr] at h0
            have hle : iv.toNat ≤ n := by omega
            rcases h0 with ⟨e, rfl, rfl⟩ | ⟨b, cap, e, e2, e3, e4, e5, e6⟩
            · have hb := bounds_ok (P := P) (w := w) (len := 0) (cap := 0) (m := 0) (h := iv.toNat) (l := 0) (lo := none) (hi := some (.int ki iv)) (mx := none) (.inl ⟨rfl, rfl⟩) (.inr ⟨ki, iv, rfl, c1, rfl, hle⟩) (.inl ⟨rfl, rfl⟩)
              have hz : iv.toNat = 0 := by omega
              refine wp_value (v := .slice none 0 0) ?_ (hK _ _ ?_)
              · simp only [execOp, hop, Sem.run_bind, hx', e, Option.map_none, Option.map_some, hbv, slice_run h5 hb, hz]
                rfl
              · rw [hdst, hz]
                simpa using own_none (ow := true) (ks := [x]) h (fun u hu => .inr (freeB_spec hkd hro.1 d hdst u hu))
            · have hb := bounds_ok (P := P) (w := w) (len := n) (cap := cap) (m := cap) (h := iv.toNat) (l := 0) (lo := none) (hi := some (.int ki iv)) (mx := none) (.inl ⟨rfl, rfl⟩) (.inr ⟨ki, iv, rfl, c1, rfl, by omega⟩) (.inl ⟨rfl, rfl⟩)
              refine wp_value (v := .slice (some ⟨b, 0, none⟩) iv.toNat cap) ?_ (hK _ _ ?_)
              · simp only [execOp, hop, Sem.run_bind, hx', e, Option.map_none, Option.map_some, hbv, slice_run h5 hb, Nat.zero_mul, Nat.sub_zero, addr_add, ite_self]
                rfl
              · rw [hdst]
                refine h.pass (by rw [hr]; rfl) (by rw [e]; rfl) (fun u hu => freeB_spec hkd hro.1 d hdst u hu) (fun X g1 => .inr ⟨b, cap, rfl, by omega, ?_, e4, ?_, e6⟩)
                · rw [List.length_take, e3, Nat.min_eq_left (Nat.mul_le_mul_right _ hle)]
                · obtain ⟨q1, vs, T, q2, q3, q4⟩ := e5.mono (X' := X) fun c hc => .inl (g1 c hc)
                  refine ⟨fun y hy => q1 y (List.mem_of_mem_take hy), vs, T, q2, ?_, fun i hi => ?_⟩
                  · have : (cs.take (iv.toNat * k')).length ≤ cs.length := by rw [List.length_take]; exact Nat.min_le_right _ _
                    omega
                  · obtain ⟨v, r1, r2⟩ := q4 i (by simp at hi; omega)
                    exact ⟨v, r1, by simpa using r2⟩
          · cases hev
        · cases hev
      · cases hev
    · cases hk
  case mkf f x =>
    simp only [kOk] at hk
    split at hk
    · rename_i f' first captured hop
      simp only [Bool.and_eq_true, beq_iff_eq] at hk
      obtain ⟨⟨rfl, h1⟩, h2⟩ := hk
      simp only [evK] at hev
      split at hev
      · rename_i cs hr
        cases hev
        obtain ⟨o1, ho1, hox⟩ : ∃ o1, captured.toList = [o1] ∧ opdOk o1 (.t x) = true := by
          cases hal : captured.toList with
          | nil => rw [hal] at h2; cases h2
          | cons o1 l =>
            rw [hal] at h2
            simp only [opdsOk, Bool.and_eq_true] at h2
            cases l with
            | nil => exact ⟨o1, rfl, h2.1⟩
            | cons _ _ => cases h2.2
        have hcap : captured = #[o1] := by
          apply Array.toList_inj.1
          rw [ho1]
        have hfst : first = #[] := by simpa using h1
        have hx' := opd_slot (a := a) hox
        have hf := h.freezeBox hr
        have hlt : x < s.length := by
          rcases Nat.lt_or_ge x s.length with hlt | hge
          · exact hlt
          · simp only [rget, List.getD_eq_getElem?_getD, List.getElem?_eq_none hge] at hr; cases hr
        have h0 := hf.reg x
        have hrx : rget (s.set x (.mem cs)) x = .mem cs := by rw [rget_set, if_pos ⟨rfl, hlt⟩]
        rw [hrx] at h0
        obtain ⟨b, off, e1, e2, e3⟩ := h0
        refine wp_value (v := .func (.func f') #[] #[a.tmps.getD x Go.undef]) ?_ (hK _ _ ?_)
        · simp [execOp, hop, Instr.makeFunc, hfst, hcap, hx']
        · refine hf.put ?_ (.fnc f' _ cs ?_)
          · intro d hd t ht
            have h3 := freeB_spec hkd hro d hd t ht
            rw [rget_set]
            split
            · rfl
            · exact h3
          · rw [e1]
            exact e3.pt e2
      · cases hev
    · cases hk
  case cal f x xs =>
    simp only [kOk] at hk
    split at hk
    · rename_i tt args ts hop
      simp only [Bool.and_eq_true] at hk
      obtain ⟨⟨h0, h1⟩, h2⟩ := hk
      simp only [evK] at hev
      split at hev
      · rename_i f' cs vs hxf hx
        split at hev
        · rename_i hff
          subst hff
          simp only [Option.map_eq_some_iff] at hev
          obtain ⟨y, hy, he⟩ := hev
          cases he
          have hfr := opd_rd h h0 hxf
          obtain ⟨e1, e2⟩ := opds_rd h h1 hx
          unfold bodyOk at h2
          split at h2
          · rename_i fn hfn
            simp only [Bool.and_eq_true, Bool.not_eq_true'] at h2
            obtain ⟨hbody, hname⟩ := h2
            have hbn : ¬ fn.body = none := by intro e0; rw [e0] at hbody; cases hbody
            have hnm : ¬ fn.name = "runtime.NumGoroutine" := by simpa using hname
            generalize hfv : a.eval (.tmp tt) = fv at hfr
            cases hfr with
            | fnc g u cs hu =>
              have hrun : (execOp a.eval o).run P w = .ok (.enter f' (args.map a.eval ++ #[u])) w := by
                simp [execOp, hop, resolve, hfv, Deferred.ofValue, invoke, callFunc, program, Sem.run, hfn, hnm, hbn]
              have hcall := hF.plain f' (vs ++ [.pt cs]) y hy Y (fun b => X0 b ∨ XS s a.tmps b) w (args.map a.eval ++ #[u]) h.lowX h.lowYw (by simpa using e1) (fun i g1 g2 => by
                by_cases hi : i < vs.length
                · have := e2 i (by omega) hi
                  rw [List.getElem_append_left hi, Array.getElem_append_left (by simpa using (by omega : i < args.toList.length))]
                  simpa using this
                · have hi' : i = vs.length := by simp at g2; omega
                  subst hi'
                  rw [List.getElem_append_right (by omega), Array.getElem_append_right (by simpa using (by omega : args.toList.length ≤ vs.length))]
                  simpa using hu)
              simp only [Oper.wp, hrun, Oper.upon]
              refine hcall.mono fun e w' ⟨v, he, hb, hr⟩ => ?_
              subst he
              refine hK _ _ ?_
              cases hdst : o.dst with
              | none =>
                refine ⟨h.dfr, h.size, h.below.trans hb, h.low, h.lowY, fun t => ?_, h.inj⟩
                exact RegOk.world (h.reg t) hb
              | some d =>
                refine Rel.write (ks := []) h hb (fun u hu => .inr (freeB_spec hkd hro d hdst u hu)) (fun he => (by cases he)) (fun X _ g2 => ?_)
                exact (hr.thawed (fun b hb => Nat.not_le_of_lt (h.lowX b hb)) (fun b hb => Nat.not_le_of_lt (h.lowYw b hb))).mono fun b hb => .inl (g2 rfl b hb)
          · cases h2
        · cases hev
      · cases hev
    · cases hk
  case cao f k x xs =>
    simp only [kOk] at hk
    split at hk
    · rename_i f' args ts hop
      simp only [Bool.and_eq_true, beq_iff_eq] at hk
      obtain ⟨⟨rfl, h1⟩, h2⟩ := hk
      simp only [rootOk, Bool.and_eq_true] at hro
      obtain ⟨d, hdst⟩ := Option.isSome_iff_exists.1 hro.2
      obtain ⟨args⟩ := args
      cases args with
      | nil => cases h1
      | cons o1 rest =>
        simp only [opdsOk, Bool.and_eq_true] at h1
        unfold bodyOk at h2
        split at h2
        · rename_i fn hfn
          simp only [Bool.and_eq_true, Bool.not_eq_true'] at h2
          obtain ⟨hbody, hname⟩ := h2
          have hbn : ¬ fn.body = none := by intro e0; rw [e0] at hbody; cases hbody
          have hnm : ¬ fn.name = "runtime.NumGoroutine" := by simpa using hname
          have hrun : (execOp a.eval o).run P w = .ok (.enter f' ((o1 :: rest).map a.eval).toArray) w := by
            simp [execOp, hop, resolve, Deferred.ofValue, Act.eval, invoke, callFunc, program, Sem.run, hfn, hnm, hbn]
          simp only [evK] at hev
          split at hev
          · rename_i vs hx
            obtain ⟨e1, e2⟩ := opds_rd h h1.2 hx
            split at hev
            · rename_i m
              split at hev
              case h_2 => cases hev
              rename_i k' n cs hxr'
              simp only [Option.map_eq_some_iff] at hev
              obtain ⟨y, hy, he⟩ := hev
              cases he
              have ho := opd_slot (a := a) h1.1
              have h0 := h.reg m
              rw [hxr'] at h0
              simp only [Oper.wp, hrun, Oper.upon]
              refine (own_given h hF hy (ks := [m]) e1 e2 (by rw [ho]; exact h0) (fun b hb => ⟨m, by simp, by rw [hxr']; rfl, by rw [← ho]; exact hb⟩) (fun u hu => .inr (freeB_spec hkd hro.1 d hdst u hu))).mono fun e w' ⟨v, he, hr⟩ => ?_
              subst he
              refine hK _ _ ?_
              rw [hdst]
              exact hr
            · simp only [Option.map_eq_some_iff] at hev
              obtain ⟨y, hy, he⟩ := hev
              cases he
              have hv0 : a.eval o1 = .slice none 0 0 := by
                have h0 := h1.1
                cases o1 with
                | const v => exact const_nil h0
                | tmp m => cases h0
                | global g => cases h0
                | func f => cases h0
              simp only [Oper.wp, hrun, Oper.upon]
              refine (own_given h hF hy (ks := []) e1 e2 (by rw [hv0]; exact .inl ⟨rfl, rfl, rfl⟩) (fun b hb => by rw [hv0] at hb; cases hb) (fun u hu => .inr (freeB_spec hkd hro.1 d hdst u hu))).mono fun e w' ⟨v, he, hr⟩ => ?_
              subst he
              refine hK _ _ ?_
              rw [hdst]
              exact hr
            · cases hev
          · cases hev
        · cases h2
    · cases hk
  case ixo x d i k =>
    simp only [kOk] at hk
    split at hk
    · rename_i t x' i' hop
      simp only [Bool.and_eq_true] at hk
      obtain ⟨⟨h1, h2⟩, hk⟩ := hk
      obtain ⟨e, ii, zv, hu, hii, hs, hk0, _, _, _⟩ := elemOk_spec hk
      have hsz : (sizeOf e).run P w = .ok k w := by simp [sizeOf, typeInfo, program, Sem.run, hii, hs]
      simp only [rootOk, Bool.and_eq_true] at hro
      simp only [evK] at hev
      split at hev
      · rename_i ki iv hi
        have hir := opd_rd h h2 hi
        generalize hiv : a.eval i' = ivv at hir
        cases hir
        have hx' := opd_slot (a := a) h1
        have h0 := h.reg x
        split at hev
        · rename_i n cs hr
          rw [hr] at h0
          split at hev
          · rename_i hb
            cases hev
            rw [← hx'] at h0
            generalize hxv : a.eval x' = xv at h0
            cases h0 with
            | nil0 => exact absurd hb (by omega)
            | e0 _ _ => exact absurd hb (by omega)
            | sl b off _ cap _ f hd hn hX hY hcell hrr =>
              have hmem : MemRd Y (fun b => X0 b ∨ XS s a.tmps b) w b off cs := ⟨hd, fun j hj => ⟨f j, hcell j hj, hrr j hj⟩⟩
              refine wp_value (v := .pointer (some ⟨b, off + iv.toNat * k, none⟩)) ?_ (hK _ _ ?_)
              · simp only [execOp, hop, Instr.indexAt, Sem.run_bind, hiv, asIntOf, Sem.run_pure, Result.andThen_ok, run_underlying hu, hxv, hb, and_self, if_true, hsz, addr_add]
              · refine Rel.putMem h (freeB_spec hkd hro.1) (fun hne => hX (fun hn => hne (by rw [hn]; simp))) (hmem.drop _)
          · cases hev
        · rename_i d' hr
          split at hev
          · rename_i hd
            subst hd
            split at hev
            · rename_i k' n cs hr2
              split at hev
              · rename_i hb
                obtain ⟨rfl, hb⟩ := hb
                cases hev
                rw [hr] at h0
                obtain ⟨b, cap, e1, _⟩ := (h.ownLow hr2).resolve_left (fun hh => by omega)
                have hxv : a.eval x' = .slice (some ⟨b, 0, none⟩) n cap := by rw [hx', h0.2, e1]
                refine wp_value (v := .pointer (some ⟨b, 0 + iv.toNat * k', none⟩)) ?_ (hK _ _ ?_)
                · simp only [execOp, hop, Instr.indexAt, Sem.run_bind, hiv, asIntOf, Sem.run_pure, Result.andThen_ok, run_underlying hu, hxv, hb, and_self, if_true, hsz, addr_add]
                · exact Rel.putPtr (p := ⟨b, 0, none⟩) h (freeB_spec hkd hro.1) (rootB_spec hro.2) (by rw [e1]; rfl) rfl
              · cases hev
            · cases hev
          · cases hev
        · cases hev
      · cases hev
    · cases hk
  case lno x d =>
    simp only [kOk] at hk
    split at hk
    · rename_i args ts hop
      unfold lenOk at hk
      split at hk
      · rename_i x' t hargs hts
        simp only [Bool.and_eq_true] at hk
        obtain ⟨h1, h2⟩ := hk
        have e1 : args = #[x'] := by rw [← Array.toArray_toList (xs := args), hargs]
        have e2 : ts = #[t] := by rw [← Array.toArray_toList (xs := ts), hts]
        subst e1 e2
        split at h2
        · rename_i e hu
          simp only [evK] at hev
          have fin : ∀ (base : Option Addr) (n c : Nat), a.eval x' = .slice base n c → (∀ a' w', Rel Y X0 roots w0 (rput s o.dst (.val (.int .i64 n))) a' w' → K' a' w') → o.wp P a w K' Q := by
            intro base n c he hK'
            refine wp_value (v := .int .i64 n) ?_ (hK' _ _ (h.put (freeB_spec hkd hro) (.int _ _)))
            simp [execOp, hop, resolve, invoke, builtin, Builtin.len_, he, run_underlying hu, goInt]
          have hx' := opd_slot (a := a) h1
          have h0 := h.reg x
          split at hev
          · rename_i hr
            cases hev
            rw [hr, ← hx'] at h0
            generalize hxv : a.eval x' = xv at h0
            cases h0
            exact fin _ _ _ hxv hK
          · rename_i n cs hr
            cases hev
            rw [hr, ← hx'] at h0
            generalize hxv : a.eval x' = xv at h0
            cases h0 <;> exact fin _ _ _ hxv hK
          · rename_i d' hr
            split at hev
            · rename_i hd
              subst hd
              split at hev
              · rename_i k n cs hr2
                cases hev
                rw [hr] at h0
                rcases h.ownLow hr2 with ⟨e1, rfl, _⟩ | ⟨b, cap, e1, _⟩
                · exact fin _ _ _ (by rw [hx', h0.2, e1]) hK
                · exact fin _ _ _ (by rw [hx', h0.2, e1]) hK
              · cases hev
            · cases hev
          · cases hev
        · cases h2
      · cases hk
    · cases hk
  case isn neg x d =>
    simp only [kOk] at hk
    split at hk
    · rename_i op' t x' y' t' hop
      simp only [Bool.and_eq_true, beq_iff_eq] at hk
      obtain ⟨⟨⟨rfl, h0t⟩, h1⟩, h2⟩ := hk
      obtain ⟨e, hu⟩ := isSliceT_spec h0t
      split at h2
      · simp only [evK] at hev
        have fin : ∀ (ad : Option Addr) (n c : Nat), a.eval x' = .slice ad n c → (∀ a' w', Rel Y X0 roots w0 (rput s o.dst (.val (.bool (if neg then !ad.isNone else ad.isNone)))) a' w' → K' a' w') → o.wp P a w K' Q := by
          intro ad n c he hK'
          have hcn : a.eval (.const (.slice none 0 0)) = .slice none 0 0 := rfl
          have heq := run_equal_slice_nil (P := P) w t e ad n c hu
          have hg : ∀ op, (eqGuard op t x' (.const (.slice none 0 0)) (.slice ad n c) (.slice none 0 0)).run P w = .ok () w := by intro op; cases op <;> rfl
          refine wp_value (v := .bool (if neg then !ad.isNone else ad.isNone)) ?_ (hK' _ _ (h.put (freeB_spec hkd hro) (.bool _)))
          cases neg
          · simp only [Bool.false_eq_true, if_false, execOp, hop, he, hcn, Sem.run_bind, hg, Result.andThen_ok, binOp, heq, Sem.run_pure]
          · simp only [if_true, execOp, hop, he, hcn, Sem.run_bind, hg, Result.andThen_ok, binOp, heq, Sem.run_pure]
        have hx' := opd_slot (a := a) h1
        have h0 := h.reg x
        split at hev
        · rename_i hr
          cases hev
          rw [hr, ← hx'] at h0
          generalize hxv : a.eval x' = xv at h0
          cases h0
          refine fin none 0 0 hxv ?_
          cases neg <;> exact hK
        · rename_i n cs hr
          split at hev
          · rename_i hn0
            cases hev
            rw [hr, ← hx'] at h0
            generalize hxv : a.eval x' = xv at h0
            cases h0
            · omega
            · omega
            · refine fin _ _ _ hxv ?_
              cases neg <;> exact hK
          · cases hev
        · rename_i d' hr
          split at hev
          · rename_i hd
            subst hd
            split at hev
            · rename_i k n cs hr2
              split at hev
              · rename_i hn0
                cases hev
                rw [hr] at h0
                rcases h.ownLow hr2 with ⟨_, rfl, _⟩ | ⟨b, cap, e1, _⟩
                · omega
                · refine fin _ _ _ (by rw [hx', h0.2, e1]) ?_
                  cases neg <;> exact hK
              · cases hev
            · cases hev
          · cases hev
        · cases hev
      · cases h2
    · cases hk

end
end Go.Ai
