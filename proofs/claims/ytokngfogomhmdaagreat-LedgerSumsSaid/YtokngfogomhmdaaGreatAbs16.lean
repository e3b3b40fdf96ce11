/- The join: arguments of flat types (whole numbers, bools, strings, structs and arrays of them) read as abstract data; the row's last step where the call only adds memory. -/
import Derived.Test.YtokngfogomhmdaaGreatAbs15
import Derived.ProofKit
import Derived.Carry
namespace Go.Ai
open Go.RowKit Go.WideShapes Go.ChangeShapes

inductive CK where
  | int (k : IntKind)
  | bool
  | str

def CellIs : CK → Value → Prop
  | .int k, v => ∃ n, v = .int k n ∧ (Lit.int k n).wf = true
  | .bool, v => ∃ b, v = .bool b
  | .str, v => ∃ s, v = .string s

def CellsAre : List CK → List Value → Prop
  | [], cs => cs = []
  | k :: ks, cs => ∃ c cs', cs = c :: cs' ∧ CellIs k c ∧ CellsAre ks cs'

theorem CellsAre.append : ∀ {ks ls : List CK} {a b : List Value}, CellsAre ks a → CellsAre ls b → CellsAre (ks ++ ls) (a ++ b)
  | [], _, _, _, h, h' => by cases h; exact h'
  | _ :: _, _, _, _, ⟨c, cs, e, hc, h⟩, h' => by subst e; exact ⟨c, _, rfl, hc, h.append h'⟩

theorem CellsAre.length : ∀ {ks : List CK} {a : List Value}, CellsAre ks a → a.length = ks.length
  | [], _, h => by cases h; rfl
  | _ :: _, _, ⟨_, _, e, _, h⟩ => by subst e; simp [h.length]

mutual
def flat (P : Program) : Nat → TypeId → Option (List CK)
  | 0, _ => none
  | n + 1, t => match P.underlying t with
    | some .bool => some [.bool]
    | some (.int k) => some [.int k]
    | some .string => some [.str]
    | some (.struct fs) => match flatF P n fs.toList 0 with
      | some ks => if ks.length = P.cellsOf t then some ks else none
      | none => none
    | _ => none
def flatF (P : Program) : Nat → List Field → Nat → Option (List CK)
  | _, [], _ => some []
  | 0, _ :: _, _ => none
  | n + 1, f :: fs, off => match flat P n f.type with
    | some ks => if f.offset = off ∧ ks.length = P.cellsOf f.type then
        match flatF P n fs (off + ks.length) with
        | some ls => some (ks ++ ls)
        | none => none
      else none
    | none => none
end

section
variable {H : Type} {enc : TypeId × Value → H} {P : Program} {w : World} {base : Nat} {spare : Nat → Bool} {held : Bool}

theorem flat_both (n : Nat) :
    (∀ t ks, flat P n t = some ks → ∀ fuel cs x, DataW.trod enc P w base spare held fuel t cs = some x → CellsAre ks cs) ∧
    (∀ fs off ks, flatF P n fs off = some ks → ∀ fuel (cs : List Value) xs, off + ks.length ≤ cs.length →
      fs.mapM (fun f => DataW.trod enc P w base spare held fuel f.type ((cs.drop f.offset).take (P.cellsOf f.type))) = some xs → CellsAre ks ((cs.drop off).take ks.length)) := by
  induction n with
  | zero =>
    refine ⟨fun t ks h => by simp [flat] at h, fun fs off ks h fuel cs xs hl hm => ?_⟩
    cases fs with
    | nil => simp [flatF] at h; subst h; simp [CellsAre]
    | cons f fs => simp [flatF] at h
  | succ n ih =>
    constructor
    · intro t ks h fuel cs x hx
      cases fuel with
      | zero => simp [DataW.trod] at hx
      | succ fuel =>
        unfold flat at h
        split at h
        · rename_i hu
          cases h
          unfold DataW.trod at hx
          rw [hu] at hx
          split at hx <;> simp_all [CellsAre, CellIs]
        · rename_i k hu
          cases h
          obtain ⟨m, e, _, hw⟩ := DataW.trod_int hu hx
          exact ⟨_, _, e, ⟨m, rfl, hw⟩, rfl⟩
        · rename_i hu
          cases h
          obtain ⟨s, e, _, _⟩ := DataW.trod_string hu hx
          exact ⟨_, _, e, ⟨s, rfl⟩, rfl⟩
        · rename_i fs hu
          split at h
          · rename_i ls hls
            split at h
            · rename_i hlen
              cases h
              obtain ⟨hl, xs, hm, _⟩ : cs.length = P.cellsOf t ∧ ∃ xs, fs.toList.mapM (fun f => DataW.trod enc P w base spare held fuel f.type ((cs.drop f.offset).take (P.cellsOf f.type))) = some xs ∧ True := by
                unfold DataW.trod at hx
                rw [hu] at hx
                simp only at hx
                split at hx
                · rename_i hl
                  refine ⟨hl, ?_⟩
                  cases hm : fs.toList.mapM (fun f => DataW.trod enc P w base spare held fuel f.type ((cs.drop f.offset).take (P.cellsOf f.type))) with
                  | none => rw [hm] at hx; cases hx
                  | some xs => exact ⟨xs, rfl, trivial⟩
                · cases hx
              have := (ih.2 fs.toList 0 ks hls fuel cs xs (by omega) hm)
              rw [List.drop_zero, List.take_of_length_le (by omega)] at this
              exact this
            · cases h
          · cases h
        · cases h
    · intro fs off ks h fuel cs xs hl hm
      cases fs with
      | nil => simp [flatF] at h; subst h; simp [CellsAre]
      | cons f fs =>
        unfold flatF at h
        split at h
        · rename_i ls hls
          split at h
          · rename_i ho
            split at h
            · rename_i ms hms
              cases h
              rw [List.mapM_cons] at hm
              cases h1 : DataW.trod enc P w base spare held fuel f.type ((cs.drop f.offset).take (P.cellsOf f.type)) with
              | none => rw [h1] at hm; cases hm
              | some y =>
                rw [h1] at hm
                cases h2 : fs.mapM (fun f => DataW.trod enc P w base spare held fuel f.type ((cs.drop f.offset).take (P.cellsOf f.type))) with
                | none => simp [h2] at hm
                | some ys =>
                  rw [List.length_append] at hl ⊢
                  have a1 := ih.1 f.type ls hls fuel _ y h1
                  have a2 := ih.2 fs (off + ls.length) ms hms fuel cs ys (by omega) h2
                  rw [ho.1, ← ho.2] at a1
                  rw [List.take_add, List.drop_drop]
                  exact a1.append a2
            · cases h
          · cases h
        · cases h

theorem open_flat {r : Reach} {b0 : Nat} {t : TypeId} {fs : Array Field} {v : Value} {d : DataW H} {ps : List MemPlace} {ks : List CK} (n : Nat) (hu : P.underlying t = some (.struct fs)) (hk : flat P n t = some ks)
    (hval : Value.okWide P w r b0 t v) (hd : DataW.Trod enc P w base spare held t v d ps) : ∃ cs, v = .agg cs.toArray ∧ CellsAre ks cs := by
  obtain ⟨cs, rfl, hsz⟩ := okWide_struct hu hval
  obtain ⟨fuel, hf⟩ := hd
  exact ⟨cs.toList, by simp, (flat_both n).1 t ks hk fuel _ _ hf⟩

theorem trodAll_again (hl : laidOutB P = true) {W W' : World} (hb : Below W.heap.size W W') {sp : Nat → Bool} : ∀ {ts : List TypeId} {vs : List Value} {ds : List (DataW H)} {ps : List MemPlace},
    ts.all (fun t => P.readableRec t && decide (t < P.types.size)) = true → DataW.TrodAll enc P W 0 (fun _ => true) true ts vs ds ps → (∀ p ∈ ps, p.block < W.heap.size) → (∀ p ∈ ps, sp p.block = true) →
    DataW.TrodAll enc P W' 0 sp true ts vs ds ps
  | [], [], [], _, _, h, _, _ => h
  | [], _ :: _, _, _, _, h, _, _ => h.elim
  | [], [], _ :: _, _, _, h, _, _ => h.elim
  | _ :: _, [], _, _, _, h, _, _ => h.elim
  | _ :: _, _ :: _, [], _, _, h, _, _ => h.elim
  | t :: ts, v :: vs, d :: ds, ps, ht, h, hlt, hsp => by
    obtain ⟨p, q, h1, h2, e⟩ := h
    rw [List.all_cons, Bool.and_eq_true, Bool.and_eq_true, decide_eq_true_eq] at ht
    subst e
    exact ⟨p, q, WideElems.Trod_stays hl ht.1.1 ht.1.2 h1 (fun x hx => hb.same (hlt x (by simp [hx]))) (fun x hx => hsp x (by simp [hx])),
      trodAll_again hl hb ht.2 h2 (fun x hx => hlt x (by simp [hx])) (fun x hx => hsp x (by simp [hx])), rfl⟩

/-- The last step of a row that says 'true, and the input reads as it did', for a row without variables of its own. -/
theorem post_true {f : Func} {s : ChangeSpec} {apart fresh handsOn again : Bool} {W W' : World} {args : Array Value} {ds gs : List (DataW H)} {before : List MemPlace} {tb : TypeId}
    (hl : laidOutB P = true) (hts : f.params.toList.all (fun t => P.readableRec t && decide (t < P.types.size)) = true) (hv : s.vars = [])
    (hr : f.resultTypes = #[tb]) (hub : P.underlying tb = some .bool)
    (hW : DataW.Whole enc P f.params.toList s.vars apart W args.toList ds gs before)
    (hfn : s.fn H (ds ++ gs) = { results := [.lit (.bool true)], args := ds }) (hb : Below W.heap.size W W') :
    s.post enc P f apart fresh handsOn again W args (.bool true) W' := by
  have hlt : ∀ p ∈ before, p.block < W.heap.size := fun p hp => hW.lt p hp
  have hold : ∀ p ∈ before, (fun b => decide (b < W.heap.size)) p.block = true := fun p hp => by simpa using hlt p hp
  have hW0 := hW
  obtain ⟨p, q, hA, hV, he, hz, hn⟩ := hW
  rw [hv] at hV
  obtain ⟨hg, hq⟩ : gs = [] ∧ q = [] := by
    cases gs with
    | nil => exact ⟨rfl, hV⟩
    | cons _ _ => exact hV.elim
  subst hg hq
  rw [List.append_nil] at he
  subst he
  have hres (b : Nat) (sp : Nat → Bool) (hd : Bool) : DataW.TrodAll enc P W' b sp hd f.resultTypes.toList ((Value.bool true).resultList f.resultTypes.size) (s.fn H (ds ++ [])).results [] := by
    rw [hfn, hr]
    exact ⟨[], [], ⟨1, by simp [DataW.trod, Value.cells, hub]⟩, rfl, rfl⟩
  have hargs (sp : Nat → Bool) (hs : ∀ p ∈ before, sp p.block = true) : DataW.TrodAll enc P W' 0 sp true f.params.toList args.toList (s.fn H (ds ++ [])).args before := by
    rw [hfn]
    exact trodAll_again hl hb hts hA hlt hs
  have hvars (sp : Nat → Bool) : DataW.TrodVars enc P W' sp s.vars (s.fn H (ds ++ [])).vars [] := by
    rw [hfn, hv]; rfl
  have hok : ∀ (j : Nat) (t : TypeId) (r : Value), f.resultTypes[j]? = some t → ((Value.bool true).resultList f.resultTypes.size)[j]? = some r → Value.okWide P W' .any 0 t r :=
    ok_one hr rfl (okWide_bool_mk hub true)
  refine ⟨ds, [], before, [], before, [], hW0, hres _ _ _, hargs _ hold, hvars _, World.keptBut_mono (fun p hp => ⟨hp, ?_⟩) (hb.frame (· ∈ before)), fun _ => ?_⟩
  · exact Or.inr (Or.inl hp)
  · refine ⟨hok, _, _, ([] ++ before) ++ [], ⟨[] ++ before, [], trodAll_append (hargs _ (fun _ _ => rfl)) (hres _ _ _), hvars _, rfl, ?_, ?_⟩, ?_⟩
    · intro b off hp
      have hin : MemPlace.cell b off ∈ before := by simpa using hp
      rw [hb.frozen (hlt _ hin)]
      exact hz b off hin
    · intro ha
      simpa using hn ha
    · intro p hp _
      simpa using hp
end

/-! ### Concrete arguments read -/

def RdL (Y X : Nat → Prop) (w : World) : List Value → List AV → Prop
  | [], [] => True
  | v :: vs, x :: xs => Rd Y X w v x ∧ RdL Y X w vs xs
  | _, _ => False

theorem RdL.at {Y X : Nat → Prop} {w : World} : ∀ {vs : List Value} {xs : List AV}, RdL Y X w vs xs → vs.length = xs.length ∧ ∀ (i : Nat) (h1 : i < vs.length) (h2 : i < xs.length), Rd Y X w vs[i] xs[i]
  | [], [], _ => ⟨rfl, fun i h => absurd h (Nat.not_lt_zero i)⟩
  | [], _ :: _, h => h.elim
  | _ :: _, [], h => h.elim
  | v :: vs, x :: xs, h => by
    obtain ⟨h0, h1⟩ := h
    obtain ⟨e, k⟩ := RdL.at h1
    refine ⟨by simp [e], fun i => ?_⟩
    cases i with
    | zero => intro _ _; exact h0
    | succ i => intro a b; exact k i (by simpa using a) (by simpa using b)

theorem rdAll_of {Y X : Nat → Prop} {w : World} {vs : List Value} {xs : List AV} (h : RdL Y X w vs xs) : ∀ (i : Nat) (h1 : i < vs.toArray.size) (h2 : i < xs.length), Rd Y X w vs.toArray[i] xs[i] :=
  fun i h1 h2 => h.at.2 i (by simpa using h1) h2

theorem rdAgg_of {Y X : Nat → Prop} {w : World} {vs : List Value} {xs : List AV} (hd : Dat xs) (h : RdL Y X w vs xs) : Rd Y X w (.agg vs.toArray) (.agg xs) :=
  .agg _ _ hd (by simpa using h.at.1) (fun i h1 h2 => h.at.2 i (by simpa using h1) h2)

theorem dat_of {xs : List AV} (h : xs.all isData = true) : Dat xs := fun x hx => List.all_eq_true.1 h x hx

theorem rd_bool {Y X : Nat → Prop} {w : World} {v : Value} {b : Bool} (h : Rd Y X w v (.bool b)) : v = .bool b := by
  cases h; rfl

theorem i64_bd {n : Int} (h : (Lit.int .i64 n).wf = true) : -9223372036854775808 ≤ n ∧ n ≤ 9223372036854775807 := by
  simp only [Lit.wf, Bool.and_eq_true, decide_eq_true_eq] at h
  exact h
end Go.Ai
