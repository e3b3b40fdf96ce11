/- Arguments of any types made of numbers, bools, strings, structs and slices, read as abstract data. -/
import Derived.Test.YtokngfogomhmdaaGreatAbs17
import Derived.SizedLaws
namespace Go.Ai
open Go.RowKit Go.WideShapes Go.ChangeShapes

/-- What one cell is. -/
inductive SH where
  | int (k : IntKind)
  | bool
  | str
  | sl (b : Nat) (ks : List SH)

def repS (n : Nat) (ks : List SH) : List SH := match n with
  | 0 => []
  | n + 1 => repS n ks ++ ks
theorem repS_length (n : Nat) (ks : List SH) : (repS n ks).length = n * ks.length := by
  induction n with
  | zero => simp [repS]
  | succ n ih => simp [repS, ih, Nat.succ_mul]

mutual
inductive AIs : SH → AV → Prop where
  | int {k : IntKind} {n : Int} (h : (Lit.int k n).wf = true) : AIs (.int k) (.int k n)
  | bool {b : Bool} : AIs .bool (.bool b)
  | str {s : ByteArray} : AIs .str (.str s)
  | sl {b : Nat} {ks : List SH} {n : Nat} {az : List AV} (h : AsAre (repS n ks) az) (hb : n * b ≤ reachBytes) : AIs (.sl b ks) (.sl n az)
inductive AsAre : List SH → List AV → Prop where
  | nil : AsAre [] []
  | cons {k : SH} {a : AV} {ks : List SH} {az : List AV} (h : AIs k a) (hs : AsAre ks az) : AsAre (k :: ks) (a :: az)
end

theorem AIs.data {k : SH} {a : AV} (h : AIs k a) : isData a = true := by cases h <;> rfl
theorem AsAre.dat : ∀ {ks : List SH} {az : List AV}, AsAre ks az → Dat az
  | _, _, .nil => fun x hx => by cases hx
  | _, _, .cons h hs => fun x hx => by
    cases hx with
    | head => exact h.data
    | tail _ hx => exact hs.dat x hx
theorem AsAre.append : ∀ {ks ls : List SH} {a b : List AV}, AsAre ks a → AsAre ls b → AsAre (ks ++ ls) (a ++ b)
  | _, _, _, _, .nil, h => h
  | _, _, _, _, .cons h hs, h' => .cons h (hs.append h')
theorem AsAre.length : ∀ {ks : List SH} {a : List AV}, AsAre ks a → a.length = ks.length
  | _, _, .nil => rfl
  | _, _, .cons _ hs => by simp [hs.length]

mutual
def shape (P : Program) : Nat → TypeId → Option (List SH)
  | 0, _ => none
  | n + 1, t => match P.underlying t with
    | some .bool => some [.bool]
    | some (.int k) => some [.int k]
    | some .string => some [.str]
    | some (.slice e) => match shape P n e with
      | some ks => if ks.length = P.cellsOf e ∧ 0 < ks.length then some [.sl (P.bytesOf e) ks] else none
      | none => none
    | some (.struct fs) => match shapeF P n fs.toList 0 with
      | some ks => if ks.length = P.cellsOf t then some ks else none
      | none => none
    | _ => none
def shapeF (P : Program) : Nat → List Field → Nat → Option (List SH)
  | _, [], _ => some []
  | 0, _ :: _, _ => none
  | n + 1, f :: fs, off => match shape P n f.type with
    | some ks => if f.offset = off ∧ ks.length = P.cellsOf f.type then
        match shapeF P n fs (off + ks.length) with
        | some ls => some (ks ++ ls)
        | none => none
      else none
    | none => none
end

theorem RdL.append {Y X : Nat → Prop} {w : World} : ∀ {a c : List Value} {b d : List AV}, RdL Y X w a b → RdL Y X w c d → RdL Y X w (a ++ c) (b ++ d)
  | [], _, [], _, _, h => h
  | _ :: _, _, _ :: _, _, h, h' => ⟨h.1, RdL.append h.2 h'⟩
  | [], _, _ :: _, _, h, _ => h.elim
  | _ :: _, _, [], _, h, _ => h.elim

theorem weightsAll_mem {H : Type} {P : Program} {e : TypeId} : ∀ {ds : List (DataW H)} {d : DataW H}, d ∈ ds → ∀ n ∈ d.weights P e, n ∈ DataW.weightsAll P e ds
  | _ :: _, _, .head _, n, hn => by simp only [DataW.weightsAll, List.mem_append]; exact .inl hn
  | _ :: _, _, .tail _ h, n, hn => by simp only [DataW.weightsAll, List.mem_append]; exact .inr (weightsAll_mem h n hn)
section
variable {H : Type} {enc : TypeId × Value → H} {P : Program} {w : World} {base : Nat} {spare : Nat → Bool} {held : Bool}
abbrev F0 : Nat → Prop := fun _ => False

theorem shape_both (n : Nat) :
    (∀ t ks, shape P n t = some ks → ∀ fuel cs x, DataW.trod enc P w base spare held fuel t cs = some x → (∀ n ∈ x.1.weights P t, n ≤ reachBytes) → ∃ az, RdL F0 F0 w cs az ∧ AsAre ks az) ∧
    (∀ fs off ks, shapeF P n fs off = some ks → ∀ fuel (cs : List Value) xs, off + ks.length ≤ cs.length →
      fs.mapM (fun f => DataW.trod enc P w base spare held fuel f.type ((cs.drop f.offset).take (P.cellsOf f.type))) = some xs → (∀ n ∈ DataW.weightsEach P (fs.map (·.type)) (xs.map (·.1)), n ≤ reachBytes) → ∃ az, RdL F0 F0 w ((cs.drop off).take ks.length) az ∧ AsAre ks az) := by
  induction n with
  | zero =>
    refine ⟨fun t ks h => by simp [shape] at h, fun fs off ks h fuel cs xs hl hm _ => ?_⟩
    cases fs with
    | nil => simp [shapeF] at h; subst h; exact ⟨[], by simp [RdL], .nil⟩
    | cons f fs => simp [shapeF] at h
  | succ n ih =>
    constructor
    · intro t ks h fuel cs x hx hw
      cases fuel with
      | zero => simp [DataW.trod] at hx
      | succ fuel =>
        unfold shape at h
        split at h
        · rename_i hu
          cases h
          unfold DataW.trod at hx
          rw [hu] at hx
          split at hx <;> simp_all
          exact ⟨[.bool _], ⟨.bool _, trivial⟩, .cons .bool .nil⟩
        · rename_i k hu
          cases h
          obtain ⟨m, e, _, hwf⟩ := DataW.trod_int hu hx
          subst e
          exact ⟨[.int k m], ⟨.int k m, trivial⟩, .cons (.int hwf) .nil⟩
        · rename_i hu
          cases h
          obtain ⟨s, e, _, _⟩ := DataW.trod_string hu hx
          subst e
          exact ⟨[.str s], ⟨.str s, trivial⟩, .cons .str .nil⟩
        · rename_i e hu
          split at h
          · rename_i ls hls
            split at h
            · rename_i hlen
              cases h
              rcases Go.Deep.open_slice hu hx with ⟨h0, _⟩ | ⟨a, len, cap, m, nn, D, Pl, h1, hb, hl, hm, hmm, hxe, hx'⟩
              · subst h0
                exact ⟨[.sl 0 []], ⟨.nil0, trivial⟩, .cons (.sl .nil (by simp)) .nil⟩
              · subst h1
                rcases Nat.eq_zero_or_pos len with h0 | hpos
                · subst h0
                  exact ⟨[.sl 0 []], ⟨.e0 _ _, trivial⟩, .cons (.sl .nil (by simp)) .nil⟩
                · have hlm : len ≤ m := by rw [hmm]; split <;> omega
                  rw [hxe] at hw
                  simp only [DataW.weights, hu, List.mem_cons, List.mem_append, List.length_map, List.length_range] at hw
                  have hsz : len * P.bytesOf e ≤ reachBytes := Nat.le_trans (Nat.mul_le_mul_right _ (by omega)) (hw _ (.inl rfl))
                  have hel : ∀ k, k < len → ∀ n ∈ (D k).weights P e, n ≤ reachBytes := fun k hk n hn => hw n (.inr (.inl (weightsAll_mem (List.mem_map.2 ⟨k, List.mem_range.2 hk, rfl⟩) n hn)))
                  have hspot : a.spot = none := by
                    obtain ⟨cs', h3, _⟩ := hx' 0 (by omega)
                    unfold World.cells? at h3
                    split at h3
                    · obtain ⟨l1, l2⟩ := mapM_some h3
                      rw [List.length_range] at l1
                      have := l2 0 (by rw [List.length_range]; omega) (by omega)
                      have := World.cell?_spot this
                      simpa [Addr.add] using this
                    · cases h3
                  obtain ⟨b, off, sp⟩ := a
                  simp only at hspot
                  subst hspot
                  have key : ∀ k, k ≤ len → ∃ (cs : List Value) (az : List AV), RdL F0 F0 w cs az ∧ AsAre (repS k ls) az ∧ ∀ (i : Nat) (h : i < cs.length), w.cell? ⟨b, off + i, none⟩ = some cs[i] := by
                    intro k
                    induction k with
                    | zero => intro _; exact ⟨[], [], trivial, .nil, fun i h => absurd h (Nat.not_lt_zero i)⟩
                    | succ k ihk =>
                      intro hkl
                      obtain ⟨cs, az, h1, h2, h2'⟩ := ihk (by omega)
                      obtain ⟨cs', h3, h4⟩ := hx' k (by omega)
                      obtain ⟨az', h5, h6⟩ := ih.1 e ls hls nn cs' _ h4 (hel k (by omega))
                      refine ⟨cs ++ cs', az ++ az', h1.append h5, h2.append h6, fun i hi => ?_⟩
                      have hlen2 : cs.length = k * ls.length := by rw [(h1.at).1, h2.length, repS_length]
                      by_cases hik : i < cs.length
                      · rw [List.getElem_append_left hik]; exact h2' i hik
                      · rw [List.getElem_append_right (by omega)]
                        have hi' : i - cs.length < cs'.length := by rw [List.length_append] at hi; omega
                        unfold World.cells? at h3
                        split at h3
                        · obtain ⟨l1, l2⟩ := mapM_some h3
                          have := l2 (i - cs.length) (by rw [← l1]; exact hi') hi'
                          rw [← this, List.getElem_range]
                          congr 1
                          have hq : k * P.cellsOf e = cs.length := by rw [hlen2, hlen.1]
                          rw [hq]
                          have ho : off + i = off + cs.length + (i - cs.length) := by omega
                          rw [ho]
                          unfold Addr.add
                          by_cases z1 : cs.length = 0 <;> by_cases z2 : i - cs.length = 0 <;> simp [z1, z2] <;> omega
                        · cases h3
                  obtain ⟨cs, az, h1, h2, h3⟩ := key len (Nat.le_refl _)
                  exact ⟨[.sl len az], ⟨rd_slice (fun h => h) (fun h => h) hl h2.dat h1 h3, trivial⟩, .cons (.sl h2 hsz) .nil⟩
            · cases h
          · cases h
        · rename_i fs hu
          split at h
          · rename_i ls hls
            split at h
            · rename_i hlen
              cases h
              obtain ⟨hl, xs, hm, hxa⟩ : cs.length = P.cellsOf t ∧ ∃ xs, fs.toList.mapM (fun f => DataW.trod enc P w base spare held fuel f.type ((cs.drop f.offset).take (P.cellsOf f.type))) = some xs ∧ x.1 = .agg (xs.map (·.1)) := by
                unfold DataW.trod at hx
                rw [hu] at hx
                simp only at hx
                split at hx
                · rename_i hl
                  refine ⟨hl, ?_⟩
                  cases hm : fs.toList.mapM (fun f => DataW.trod enc P w base spare held fuel f.type ((cs.drop f.offset).take (P.cellsOf f.type))) with
                  | none => rw [hm] at hx; cases hx
                  | some xs => rw [hm] at hx; cases hx; exact ⟨xs, rfl, rfl⟩
                · cases hx
              rw [hxa] at hw
              simp only [DataW.weights, hu] at hw
              have := (ih.2 fs.toList 0 ks hls fuel cs xs (by omega) hm hw)
              rw [List.drop_zero, List.take_of_length_le (by omega)] at this
              exact this
            · cases h
          · cases h
        · cases h
    · intro fs off ks h fuel cs xs hl hm hw
      cases fs with
      | nil => simp [shapeF] at h; subst h; exact ⟨[], by simp [RdL], .nil⟩
      | cons f fs =>
        unfold shapeF at h
        split at h
        · rename_i ls hls
          split at h
          · rename_i ho
            split at h
            · rename_i ms hms
              cases h
              rw [List.mapM_cons] at hm
              cases h1 : DataW.trod enc P w base spare held fuel f.type ((cs.drop f.offset).take (P.cellsOf f.type)) with
              | none => rw [h1] at hm; cases hm
              | some y =>
                rw [h1] at hm
                cases h2 : fs.mapM (fun f => DataW.trod enc P w base spare held fuel f.type ((cs.drop f.offset).take (P.cellsOf f.type))) with
                | none => simp [h2] at hm
                | some ys =>
                  rw [h2] at hm
                  cases hm
                  simp only [List.map_cons, DataW.weightsEach, List.mem_append] at hw
                  rw [List.length_append] at hl ⊢
                  obtain ⟨as1, a1, a1'⟩ := ih.1 f.type ls hls fuel _ y h1 (fun n hn => hw n (.inl hn))
                  obtain ⟨as2, a2, a2'⟩ := ih.2 fs (off + ls.length) ms hms fuel cs ys (by omega) h2 (fun n hn => hw n (.inr hn))
                  rw [ho.1, ← ho.2] at a1
                  rw [List.take_add, List.drop_drop]
                  exact ⟨as1 ++ as2, a1.append a2, a1'.append a2'⟩
            · cases h
          · cases h
        · cases h

/-- A slice. -/
theorem open_deep {r : Reach} {b0 : Nat} {t e : TypeId} {v : Value} {d : DataW H} {ps : List MemPlace} {ks : List SH} (n : Nat) (hu : P.underlying t = some (.slice e)) {b : Nat} (hk : shape P n t = some [.sl b ks])
    (hval : Value.okWide P w r b0 t v) (hd : DataW.Trod enc P w base spare held t v d ps) (hw : ∀ n ∈ d.weights P t, n ≤ reachBytes) : ∃ x, Rd (fun _ => False) (fun _ => False) w v x ∧ AIs (.sl b ks) x := by
  obtain ⟨fuel, hf⟩ := hd
  obtain ⟨a0, l0, c0, hv⟩ := okWide_slice hu hval
  subst hv
  obtain ⟨az, h1, h2⟩ := (shape_both n).1 t _ hk fuel _ _ hf hw
  cases h2 with
  | cons h hs =>
    cases hs
    exact ⟨_, h1.1, h⟩
/-- A struct. -/
theorem open_deepS {r : Reach} {b0 : Nat} {t : TypeId} {fs : Array Field} {v : Value} {d : DataW H} {ps : List MemPlace} {ks : List SH} (n : Nat) (hu : P.underlying t = some (.struct fs)) (hk : shape P n t = some ks)
    (hval : Value.okWide P w r b0 t v) (hd : DataW.Trod enc P w base spare held t v d ps) (hw : ∀ n ∈ d.weights P t, n ≤ reachBytes) : ∃ az, Rd (fun _ => False) (fun _ => False) w v (.agg az) ∧ AsAre ks az := by
  obtain ⟨cs, rfl, hsz⟩ := okWide_struct hu hval
  obtain ⟨fuel, hf⟩ := hd
  obtain ⟨az, h1, h2⟩ := (shape_both n).1 t ks hk fuel _ _ hf hw
  obtain ⟨e, k⟩ := h1.at
  refine ⟨az, .agg cs az h2.dat (by simpa [Value.cells] using e) (fun i h3 h4 => ?_), h2⟩
  have := k i (by simpa [Value.cells] using h3) h4
  simpa [Value.cells] using this
end

/-! Numbers of any size, polynomials, dyadic numbers -/
end Go.Ai
