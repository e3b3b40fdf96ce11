/- Arguments that are slices of flat elements, read as abstract data. -/
import Derived.Test.YtokngfogomhmdaaGreatAbs16
import Derived.Deep.Slices
namespace Go.Ai
open Go.RowKit Go.WideShapes Go.ChangeShapes

def rep (n : Nat) (ks : List CK) : List CK := match n with
  | 0 => []
  | n + 1 => rep n ks ++ ks

theorem rep_length (n : Nat) (ks : List CK) : (rep n ks).length = n * ks.length := by
  induction n with
  | zero => simp [rep]
  | succ n ih => simp [rep, ih, Nat.succ_mul]

theorem mapM_some {α β : Type} {f : α → Option β} : ∀ {l : List α} {r : List β}, l.mapM f = some r → r.length = l.length ∧ ∀ (i : Nat) (h : i < l.length) (h' : i < r.length), f l[i] = some r[i]
  | [], r, h => by simp at h; subst h; exact ⟨rfl, fun i h => absurd h (Nat.not_lt_zero i)⟩
  | a :: l, r, h => by
    rw [List.mapM_cons] at h
    cases h1 : f a with
    | none => rw [h1] at h; cases h
    | some b =>
      rw [h1] at h
      cases h2 : l.mapM f with
      | none => simp [h2] at h
      | some bs =>
        rw [h2] at h
        cases h
        obtain ⟨e, k⟩ := mapM_some h2
        refine ⟨by simp [e], fun i => ?_⟩
        cases i with
        | zero => intro _ _; exact h1
        | succ i => intro a b; exact k i (by simpa using a) (by simpa using b)

section
variable {H : Type} {enc : TypeId × Value → H} {P : Program} {w : World} {base : Nat} {spare : Nat → Bool} {held : Bool}

theorem open_sl {r : Reach} {b0 : Nat} {t e : TypeId} {v : Value} {d : DataW H} {ps : List MemPlace} {ks : List CK} (n : Nat) (hu : P.underlying t = some (.slice e)) (hk : flat P n e = some ks) (hc : ks.length = P.cellsOf e)
    (hval : Value.okWide P w r b0 t v) (hd : DataW.Trod enc P w base spare held t v d ps) :
    v = .slice none 0 0 ∨ ∃ (b off len cap : Nat) (cs : List Value), v = .slice (some ⟨b, off, none⟩) len cap ∧ len ≤ cap ∧ cap ≤ maxLen ∧ CellsAre (rep len ks) cs ∧
      ∀ (i : Nat) (h : i < cs.length), w.cell? ⟨b, off + i, none⟩ = some cs[i] := by
  obtain ⟨fuel, hf⟩ := hd
  obtain ⟨a0, l0, c0, hv⟩ := okWide_slice hu hval
  subst hv
  rcases Go.Deep.open_slice hu hf with ⟨h0, _⟩ | ⟨a, len, cap, m, nn, D, Pl, h1, hb, hl, hm, hmm, _, hx⟩
  · left; simpa [Value.cells] using h0
  · right
    have e1 : Value.slice a0 l0 c0 = .slice (some a) len cap := by simpa [Value.cells] using h1
    injection e1 with ea el ec
    subst ea; subst el; subst ec
    have hsp : a.spot = none := by
      simp only [Value.okWide, hu, Cell.okWide, Cell.ok, World.has] at hval
      exact hval.2.2.2.1
    obtain ⟨b, off, sp⟩ := a
    simp only at hsp
    subst hsp
    have hlm : l0 ≤ m := by rw [hmm]; split <;> omega
    have key : ∀ k, k ≤ l0 → ∃ cs : List Value, CellsAre (rep k ks) cs ∧ ∀ (i : Nat) (h : i < cs.length), w.cell? ⟨b, off + i, none⟩ = some cs[i] := by
      intro k
      induction k with
      | zero => intro _; exact ⟨[], rfl, fun i h => absurd h (Nat.not_lt_zero i)⟩
      | succ k ih =>
        intro hkl
        obtain ⟨cs, h1, h2⟩ := ih (by omega)
        obtain ⟨cs', h3, h4⟩ := hx k (by omega)
        have h5 := (flat_both n).1 e ks hk nn cs' _ h4
        refine ⟨cs ++ cs', h1.append h5, fun i hi => ?_⟩
        have hlen := h1.length
        rw [rep_length] at hlen
        by_cases hik : i < cs.length
        · rw [List.getElem_append_left hik]; exact h2 i hik
        · rw [List.getElem_append_right (by omega)]
          have hi' : i - cs.length < cs'.length := by rw [List.length_append] at hi; omega
          unfold World.cells? at h3
          split at h3
          · obtain ⟨l1, l2⟩ := mapM_some h3
            have := l2 (i - cs.length) (by rw [← l1]; exact hi') hi'
            rw [← this, List.getElem_range]
            congr 1
            have hq : k * P.cellsOf e = cs.length := by rw [hlen, hc]
            rw [hq]
            have ho : off + i = off + cs.length + (i - cs.length) := by omega
            rw [ho]
            unfold Addr.add
            by_cases z1 : cs.length = 0 <;> by_cases z2 : i - cs.length = 0 <;> simp [z1, z2] <;> omega
          · cases h3
    obtain ⟨cs, h1, h2⟩ := key l0 (Nat.le_refl _)
    exact ⟨b, off, l0, c0, cs, rfl, hl, hm, h1, h2⟩
end

theorem cells_ints {k : IntKind} : ∀ {n : Nat} {cs : List Value}, CellsAre (rep n [.int k]) cs → ∃ xs : List Int, xs.length = n ∧ cs = xs.map (Value.int k) ∧ ∀ x ∈ xs, (Lit.int k x).wf = true := by
  intro n
  induction n with
  | zero => intro cs h; cases h; exact ⟨[], rfl, rfl, fun x hx => by cases hx⟩
  | succ n ih =>
    intro cs h
    have hsp : ∀ {a b : List CK} {cs : List Value}, CellsAre (a ++ b) cs → ∃ c d, cs = c ++ d ∧ CellsAre a c ∧ CellsAre b d := by
      intro a
      induction a with
      | nil => intro b cs h; exact ⟨[], cs, rfl, rfl, h⟩
      | cons x a ia =>
        intro b cs h
        obtain ⟨c, cs', e, hc, h⟩ := h
        obtain ⟨p, q, e', hp, hq⟩ := ia h
        exact ⟨c :: p, q, by rw [e, e']; rfl, ⟨c, p, rfl, hc, hp⟩, hq⟩
    obtain ⟨c, d, rfl, h1, h2⟩ := hsp h
    obtain ⟨xs, e1, rfl, hx⟩ := ih h1
    obtain ⟨_, _, rfl, ⟨m, rfl, hm⟩, h3⟩ := h2
    cases h3
    refine ⟨xs ++ [m], by simp [e1], by simp, fun x h => ?_⟩
    rcases List.mem_append.1 h with g | g
    · exact hx x g
    · simp at g; subst g; exact hm

theorem cells_bools : ∀ {n : Nat} {cs : List Value}, CellsAre (rep n [.bool]) cs → ∃ xs : List Bool, xs.length = n ∧ cs = xs.map Value.bool := by
  intro n
  induction n with
  | zero => intro cs h; cases h; exact ⟨[], rfl, rfl⟩
  | succ n ih =>
    intro cs h
    have hsp : ∀ {a b : List CK} {cs : List Value}, CellsAre (a ++ b) cs → ∃ c d, cs = c ++ d ∧ CellsAre a c ∧ CellsAre b d := by
      intro a
      induction a with
      | nil => intro b cs h; exact ⟨[], cs, rfl, rfl, h⟩
      | cons x a ia =>
        intro b cs h
        obtain ⟨c, cs', e, hc, h⟩ := h
        obtain ⟨p, q, e', hp, hq⟩ := ia h
        exact ⟨c :: p, q, by rw [e, e']; rfl, ⟨c, p, rfl, hc, hp⟩, hq⟩
    obtain ⟨c, d, rfl, h1, h2⟩ := hsp h
    obtain ⟨xs, e1, rfl⟩ := ih h1
    obtain ⟨_, _, rfl, ⟨m, rfl⟩, h3⟩ := h2
    cases h3
    exact ⟨xs ++ [m], by simp [e1], by simp⟩

theorem rd_slice {Y X : Nat → Prop} {w : World} {b off len cap : Nat} {cs : List Value} {az : List AV} (hX : ¬ X b) (hY : ¬ Y b) (hn : len ≤ cap) (hd : Dat az) (h : RdL Y X w cs az)
    (hcell : ∀ (i : Nat) (h : i < cs.length), w.cell? ⟨b, off + i, none⟩ = some cs[i]) : Rd Y X w (.slice (some ⟨b, off, none⟩) len cap) (.sl len az) := by
  obtain ⟨e, k⟩ := h.at
  refine .sl b off len cap az (fun i => cs.getD i Go.undef) hd hn (fun _ => hX) (fun _ => hY) (fun i hi => ?_) (fun i hi => ?_)
  · rw [hcell i (by omega)]
    simp [List.getD, List.getElem?_eq_getElem (show i < cs.length by omega)]
  · have : cs.getD i Go.undef = cs[i]'(by omega) := by simp [List.getD, List.getElem?_eq_getElem (show i < cs.length by omega)]
    rw [this]
    exact k i (by omega) hi

theorem rdL_ints {Y X : Nat → Prop} {w : World} {k : IntKind} : ∀ xs : List Int, RdL Y X w (xs.map (Value.int k)) (xs.map (AV.int k))
  | [] => trivial
  | x :: xs => ⟨.int k x, rdL_ints xs⟩
theorem rdL_bools {Y X : Nat → Prop} {w : World} : ∀ xs : List Bool, RdL Y X w (xs.map Value.bool) (xs.map AV.bool)
  | [] => trivial
  | x :: xs => ⟨.bool x, rdL_bools xs⟩
theorem dat_ints {k : IntKind} (xs : List Int) : Dat (xs.map (AV.int k)) := fun x hx => by
  obtain ⟨y, _, rfl⟩ := List.mem_map.1 hx; rfl
theorem dat_bools (xs : List Bool) : Dat (xs.map AV.bool) := fun x hx => by
  obtain ⟨y, _, rfl⟩ := List.mem_map.1 hx; rfl

def IntsAV (k : IntKind) (x : AV) : Prop := ∃ xs : List Int, (∀ n ∈ xs, (Lit.int k n).wf = true) ∧ x = .sl xs.length (xs.map (AV.int k))
def BoolsAV (x : AV) : Prop := ∃ xs : List Bool, x = .sl xs.length (xs.map AV.bool)

section
variable {H : Type} {enc : TypeId × Value → H} {P : Program} {w : World} {base : Nat} {spare : Nat → Bool} {held : Bool}
theorem open_avInts {r : Reach} {b0 : Nat} {t e : TypeId} {v : Value} {d : DataW H} {ps : List MemPlace} {k : IntKind} (n : Nat) (hu : P.underlying t = some (.slice e)) (hk : flat P n e = some [.int k]) (hc : 1 = P.cellsOf e)
    (hval : Value.okWide P w r b0 t v) (hd : DataW.Trod enc P w base spare held t v d ps) : ∃ x, Rd (fun _ => False) (fun _ => False) w v x ∧ IntsAV k x := by
  rcases open_sl n hu hk hc hval hd with rfl | ⟨b, off, len, cap, cs, rfl, hl, _, hcs, hcell⟩
  · exact ⟨.sl 0 [], .nil0, [], fun n hn => (by cases hn), rfl⟩
  · obtain ⟨xs, rfl, rfl, hw⟩ := cells_ints hcs
    exact ⟨_, rd_slice (fun h => h) (fun h => h) hl (dat_ints xs) (rdL_ints xs) hcell, ⟨xs, hw, rfl⟩⟩
theorem open_avBools {r : Reach} {b0 : Nat} {t e : TypeId} {v : Value} {d : DataW H} {ps : List MemPlace} (n : Nat) (hu : P.underlying t = some (.slice e)) (hk : flat P n e = some [.bool]) (hc : 1 = P.cellsOf e)
    (hval : Value.okWide P w r b0 t v) (hd : DataW.Trod enc P w base spare held t v d ps) : ∃ x, Rd (fun _ => False) (fun _ => False) w v x ∧ BoolsAV x := by
  rcases open_sl n hu hk hc hval hd with rfl | ⟨b, off, len, cap, cs, rfl, hl, _, hcs, hcell⟩
  · exact ⟨.sl 0 [], .nil0, [], rfl⟩
  · obtain ⟨xs, rfl, rfl⟩ := cells_bools hcs
    exact ⟨_, rd_slice (fun h => h) (fun h => h) hl (dat_bools xs) (rdL_bools xs) hcell, ⟨xs, rfl⟩⟩
end

theorem cells_split : ∀ {a b : List CK} {cs : List Value}, CellsAre (a ++ b) cs → ∃ c d, cs = c ++ d ∧ CellsAre a c ∧ CellsAre b d := by
  intro a
  induction a with
  | nil => intro b cs h; exact ⟨[], cs, rfl, rfl, h⟩
  | cons x a ia =>
    intro b cs h
    obtain ⟨c, cs', e, hc, h⟩ := h
    obtain ⟨p, q, e', hp, hq⟩ := ia h
    exact ⟨c :: p, q, by rw [e, e']; rfl, ⟨c, p, rfl, hc, hp⟩, hq⟩

theorem cells_vecs {k : IntKind} : ∀ {n : Nat} {cs : List Value}, CellsAre (rep n [.int k, .int k]) cs → ∃ xs : List (Int × Int), xs.length = n ∧ cs = xs.flatMap (fun p => [Value.int k p.1, Value.int k p.2]) := by
  intro n
  induction n with
  | zero => intro cs h; cases h; exact ⟨[], rfl, rfl⟩
  | succ n ih =>
    intro cs h
    obtain ⟨c, d, rfl, h1, h2⟩ := cells_split h
    obtain ⟨xs, e1, rfl⟩ := ih h1
    obtain ⟨_, _, rfl, ⟨m, rfl, _⟩, h3⟩ := h2
    obtain ⟨_, _, rfl, ⟨m', rfl, _⟩, h4⟩ := h3
    cases h4
    exact ⟨xs ++ [(m, m')], by simp [e1], by simp⟩

theorem rdL_vecs {Y X : Nat → Prop} {w : World} {k : IntKind} : ∀ xs : List (Int × Int), RdL Y X w (xs.flatMap (fun p => [Value.int k p.1, Value.int k p.2])) (xs.flatMap (fun p => [AV.int k p.1, AV.int k p.2]))
  | [] => trivial
  | p :: xs => ⟨.int k p.1, .int k p.2, rdL_vecs xs⟩
theorem dat_vecs {k : IntKind} (xs : List (Int × Int)) : Dat (xs.flatMap (fun p => [AV.int k p.1, AV.int k p.2])) := fun x hx => by
  obtain ⟨y, _, hy⟩ := List.mem_flatMap.1 hx
  simp only [List.mem_cons, List.not_mem_nil, or_false] at hy
  rcases hy with rfl | rfl <;> rfl

/-- A slice of pairs of numbers. -/
def VecsAV (k : IntKind) (x : AV) : Prop := ∃ xs : List (Int × Int), x = .sl xs.length (xs.flatMap (fun p => [AV.int k p.1, AV.int k p.2]))

section
variable {H : Type} {enc : TypeId × Value → H} {P : Program} {w : World} {base : Nat} {spare : Nat → Bool} {held : Bool}
theorem open_avVecs {r : Reach} {b0 : Nat} {t e : TypeId} {v : Value} {d : DataW H} {ps : List MemPlace} {k : IntKind} (n : Nat) (hu : P.underlying t = some (.slice e)) (hk : flat P n e = some [.int k, .int k]) (hc : 2 = P.cellsOf e)
    (hval : Value.okWide P w r b0 t v) (hd : DataW.Trod enc P w base spare held t v d ps) : ∃ x, Rd (fun _ => False) (fun _ => False) w v x ∧ VecsAV k x := by
  rcases open_sl n hu hk hc hval hd with rfl | ⟨b, off, len, cap, cs, rfl, hl, _, hcs, hcell⟩
  · exact ⟨.sl 0 [], .nil0, [], rfl⟩
  · obtain ⟨xs, rfl, rfl⟩ := cells_vecs hcs
    exact ⟨_, rd_slice (fun h => h) (fun h => h) hl (dat_vecs xs) (rdL_vecs xs) hcell, ⟨xs, rfl⟩⟩
end
end Go.Ai
