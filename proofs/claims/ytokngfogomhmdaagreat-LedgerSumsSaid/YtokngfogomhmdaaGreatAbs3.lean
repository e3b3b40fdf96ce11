/- How abstract data lie in memory: the relation between the abstract machine's slots and the model's frame and world. -/
import Derived.Test.YtokngfogomhmdaaGreatAbs2
namespace Go.Ai
open Go.RowKit

/-- Each is the content of one cell. -/
def Dat (cs : List AV) : Prop := ∀ x ∈ cs, isData x = true

/-- In the world w the value v reads as x; no block of X is read, and none of Y by a slice with numbers in it. -/
inductive Rd (Y X : Nat → Prop) (w : World) : Value → AV → Prop where
  | int (k : IntKind) (n : Int) : Rd Y X w (.int k n) (.int k n)
  | bool (b : Bool) : Rd Y X w (.bool b) (.bool b)
  | str (s : ByteArray) : Rd Y X w (.string s) (.str s)
  | undef : Rd Y X w Go.undef .undef
  | agg (vs : Array Value) (cs : List AV) (hd : Dat cs) (h : vs.size = cs.length) (hc : ∀ (i : Nat) (h1 : i < vs.size) (h2 : i < cs.length), Rd Y X w vs[i] cs[i]) : Rd Y X w (.agg vs) (.agg cs)
  | tup (vs : Array Value) (cs : List AV) (h : vs.size = cs.length) (hc : ∀ (i : Nat) (h1 : i < vs.size) (h2 : i < cs.length), Rd Y X w vs[i] cs[i]) : Rd Y X w (.tuple vs) (.tup cs)
  | nil : Rd Y X w (.slice none 0 0) .nil
  | nil0 : Rd Y X w (.slice none 0 0) (.sl 0 [])
  | e0 (a : Addr) (c : Nat) : Rd Y X w (.slice (some a) 0 c) (.sl 0 [])
  | sl (b off n cap : Nat) (cs : List AV) (f : Nat → Value) (hd : Dat cs) (hn : n ≤ cap) (hX : cs ≠ [] → ¬ X b) (hY : (∃ c ∈ cs, isI c = true) → ¬ Y b) (hcell : ∀ i, i < cs.length → w.cell? ⟨b, off + i, none⟩ = some (f i))
      (hr : ∀ (i : Nat) (h : i < cs.length), Rd Y X w (f i) cs[i]) : Rd Y X w (.slice (some ⟨b, off, none⟩) n cap) (.sl n cs)
  | pt (b off : Nat) (cs : List AV) (f : Nat → Value) (hd : Dat cs) (hX : cs ≠ [] → ¬ X b) (hcell : ∀ i, i < cs.length → w.cell? ⟨b, off + i, none⟩ = some (f i))
      (hr : ∀ (i : Nat) (h : i < cs.length), Rd Y X w (f i) cs[i]) : Rd Y X w (.pointer (some ⟨b, off, none⟩)) (.pt cs)
  | fnc (g : Nat) (u : Value) (cs : List AV) (h : Rd Y X w u (.pt cs)) : Rd Y X w (.func (.func g) #[] #[u]) (.fnc g cs)

theorem cell?_of_heap {w w' : World} {p : Addr} (h : w'.heap[p.block]? = w.heap[p.block]?) : w'.cell? p = w.cell? p := by
  simp only [World.cell?, h]

theorem block_lt {w : World} {p : Addr} {v : Value} (h : w.cell? p = some v) : p.block < w.heap.size := by
  rcases Nat.lt_or_ge p.block w.heap.size with h1 | h1
  · exact h1
  · simp [World.cell?, Array.getElem?_eq_none h1] at h

theorem Rd.world {Y X : Nat → Prop} {w w' : World} {v : Value} {x : AV} (h : Rd Y X w v x) (hw : ∀ b, ¬ X b → b < w.heap.size → w'.heap[b]? = w.heap[b]?) : Rd Y X w' v x := by
  induction h with
  | int k n => exact .int k n
  | bool b => exact .bool b
  | str s => exact .str s
  | undef => exact .undef
  | agg vs cs hd h hc ih => exact .agg vs cs hd h ih
  | tup vs cs h hc ih => exact .tup vs cs h ih
  | nil => exact .nil
  | nil0 => exact .nil0
  | e0 a c => exact .e0 a c
  | sl b off n cap cs f hd hn hX hY hcell hr ih =>
    refine .sl b off n cap cs f hd hn hX hY (fun i hi => ?_) ih
    have h1 := hcell i hi
    rw [cell?_of_heap (hw b (hX (by intro e; subst e; simp at hi)) (block_lt h1))]
    exact h1
  | pt b off cs f hd hX hcell hr ih =>
    refine .pt b off cs f hd hX (fun i hi => ?_) ih
    have h1 := hcell i hi
    rw [cell?_of_heap (hw b (hX (by intro e; subst e; simp at hi)) (block_lt h1))]
    exact h1
  | fnc g u cs h ih => exact .fnc g u cs ih

theorem Rd.mono {Y X X' : Nat → Prop} {w : World} {v : Value} {x : AV} (h : Rd Y X w v x) (hX : ∀ b, X' b → X b ∨ w.heap.size ≤ b) : Rd Y X' w v x := by
  induction h with
  | int k n => exact .int k n
  | bool b => exact .bool b
  | str s => exact .str s
  | undef => exact .undef
  | agg vs cs hd h hc ih => exact .agg vs cs hd h ih
  | tup vs cs h hc ih => exact .tup vs cs h ih
  | nil => exact .nil
  | nil0 => exact .nil0
  | e0 a c => exact .e0 a c
  | sl b off n cap cs f hd hn hXb hY hcell hr ih =>
    refine .sl b off n cap cs f hd hn (fun hne hb => ?_) hY hcell ih
    rcases hX b hb with h1 | h1
    · exact hXb hne h1
    · have h0 : 0 < cs.length := List.length_pos_iff.2 hne
      have := block_lt (hcell 0 h0)
      simp only at this
      omega
  | pt b off cs f hd hXb hcell hr ih =>
    refine .pt b off cs f hd (fun hne hb => ?_) hcell ih
    rcases hX b hb with h1 | h1
    · exact hXb hne h1
    · have h0 : 0 < cs.length := List.length_pos_iff.2 hne
      have := block_lt (hcell 0 h0)
      simp only at this
      omega
  | fnc g u cs h ih => exact .fnc g u cs ih

/-- Another set of blocks is left unread. -/
theorem Rd.lend {Y X Y' X' : Nat → Prop} {w : World} {v : Value} {x : AV} (h : Rd Y X w v x) (hX : ∀ b, X' b → X b) (hY : ∀ b, Y' b → Y b ∨ X b) : Rd Y' X' w v x := by
  induction h with
  | int k n => exact .int k n
  | bool b => exact .bool b
  | str s => exact .str s
  | undef => exact .undef
  | agg vs cs hd h hc ih => exact .agg vs cs hd h ih
  | tup vs cs h hc ih => exact .tup vs cs h ih
  | nil => exact .nil
  | nil0 => exact .nil0
  | e0 a c => exact .e0 a c
  | sl b off n cap cs f hd hn hXb hYb hcell hr ih =>
    refine .sl b off n cap cs f hd hn (fun hne hb => hXb hne (hX b hb)) (fun hi hb => ?_) hcell ih
    rcases hY b hb with h1 | h1
    · exact hYb hi h1
    · obtain ⟨c, hc, _⟩ := hi
      exact hXb (List.ne_nil_of_mem hc) h1
  | pt b off cs f hd hXb hcell hr ih => exact .pt b off cs f hd (fun hne hb => hXb hne (hX b hb)) hcell ih
  | fnc g u cs h ih => exact .fnc g u cs ih

theorem Rd.back1 {Y X Y' X' : Nat → Prop} {w : World} {v : Value} {x : AV} (h : Rd Y' X' w v x) (hx : flatInts x = true) (hX : ∀ b, X b → X' b ∨ Y' b) (hY : ∀ b, Y b → Y' b) : Rd Y X w v x := by
  cases h with
  | int k n => exact .int k n
  | bool b => exact .bool b
  | str s => exact .str s
  | undef => exact .undef
  | agg vs cs hd h hc => cases hx
  | tup vs cs h hc => cases hx
  | nil => cases hx
  | pt _ _ _ _ _ _ _ _ => cases hx
  | fnc _ _ _ _ => cases hx
  | nil0 => exact .nil0
  | e0 a c => exact .e0 a c
  | sl b off n cap cs f hd hn hXb hYb hcell hr =>
    simp only [flatInts, List.all_eq_true] at hx
    have hall : ∀ c ∈ cs, ¬ Y' b := fun c hc => hYb ⟨c, hc, hx c hc⟩
    refine .sl b off n cap cs f hd hn (fun hne hb => ?_) (fun ⟨c, hc, _⟩ hb => hall c hc (hY b hb)) hcell (fun i hi => ?_)
    · obtain ⟨c, hc⟩ := List.exists_mem_of_ne_nil cs hne
      rcases hX b hb with h1 | h1
      · exact hXb hne h1
      · exact hall c hc h1
    · have h1 := hx _ (List.getElem_mem hi)
      have h2 := hr i hi
      generalize cs[i] = c at h1 h2 ⊢
      generalize f i = u at h2 ⊢
      cases c <;> first | (cases h1; done) | (cases h2; exact .int _ _)

/-- What came back from one that was lent a block: it holds numbers only, so it does not read that block. -/
theorem Rd.back {Y X Y' X' : Nat → Prop} {w : World} {v : Value} {x : AV} (h : Rd Y' X' w v x) (hx : intsOnly x = true) (hX : ∀ b, X b → X' b ∨ Y' b) (hY : ∀ b, Y b → Y' b) : Rd Y X w v x := by
  cases h with
  | agg vs cs hd h hc =>
    simp only [intsOnly, List.all_eq_true] at hx
    exact .agg vs cs hd h fun i h1 h2 => (hc i h1 h2).back1 (hx _ (List.getElem_mem h2)) hX hY
  | int k n => exact .int k n
  | bool b => exact .bool b
  | str s => exact .str s
  | undef => exact .undef
  | tup vs cs h hc => cases hx
  | nil => cases hx
  | pt _ _ _ _ _ _ _ _ => cases hx
  | fnc _ _ _ _ => cases hx
  | nil0 => exact .nil0
  | e0 a c => exact .e0 a c
  | sl b off n cap cs f hd hn hXb hYb hcell hr => exact Rd.back1 (.sl b off n cap cs f hd hn hXb hYb hcell hr) hx hX hY

theorem Rd.boolSl {Y X : Nat → Prop} {w : World} {u : Value} {b : Bool} {n : Nat} {cs : List AV} (h : Rd Y X w u (.sl n cs)) : Rd Y X w (.agg #[.bool b, u]) (.agg [.bool b, .sl n cs]) := by
  refine .agg _ _ (fun x hx => ?_) rfl (fun i h1 h2 => ?_)
  · simp only [List.mem_cons, List.not_mem_nil, or_false] at hx
    rcases hx with rfl | rfl <;> rfl
  · match i, h2 with
    | 0, _ => exact .bool b
    | 1, _ => exact h

/-- Cells that lie from a place on. -/
def MemRd (Y X : Nat → Prop) (w : World) (b off : Nat) (cs : List AV) : Prop :=
  Dat cs ∧ ∀ (i : Nat) (h : i < cs.length), ∃ v, w.cell? ⟨b, off + i, none⟩ = some v ∧ Rd Y X w v cs[i]

theorem MemRd.drop {Y X : Nat → Prop} {w : World} {b off : Nat} {cs : List AV} (h : MemRd Y X w b off cs) (k : Nat) : MemRd Y X w b (off + k) (cs.drop k) := by
  obtain ⟨hd, h⟩ := h
  refine ⟨fun x hx => hd x (List.mem_of_mem_drop hx), ?_⟩
  intro i hi
  have hi' : k + i < cs.length := by simp at hi; omega
  obtain ⟨v, h1, h2⟩ := h (k + i) hi'
  refine ⟨v, by rw [Nat.add_assoc]; exact h1, ?_⟩
  simpa using h2

theorem MemRd.world {Y X : Nat → Prop} {w w' : World} {b off : Nat} {cs : List AV} (h : MemRd Y X w b off cs) (hw : ∀ c, ¬ X c → c < w.heap.size → w'.heap[c]? = w.heap[c]?)
    (hb : b < w.heap.size → w'.heap[b]? = w.heap[b]?) : MemRd Y X w' b off cs := by
  obtain ⟨hd, h⟩ := h
  refine ⟨hd, ?_⟩
  intro i hi
  obtain ⟨v, h1, h2⟩ := h i hi
  exact ⟨v, by rw [cell?_of_heap (hb (block_lt h1))]; exact h1, h2.world hw⟩

theorem MemRd.mono {Y X X' : Nat → Prop} {w : World} {b off : Nat} {cs : List AV} (h : MemRd Y X w b off cs) (hX : ∀ b, X' b → X b ∨ w.heap.size ≤ b) : MemRd Y X' w b off cs := by
  obtain ⟨hd, h⟩ := h
  refine ⟨hd, ?_⟩
  intro i hi
  obtain ⟨v, h1, h2⟩ := h i hi
  exact ⟨v, h1, h2.mono hX⟩

/-- Where a slot's own variable or array lies. -/
def rootOf : Value → Option Addr
  | .pointer (some p) => some p
  | .slice (some p) _ _ => some p
  | .agg vs => match vs.toList with
    | [.bool _, .slice (some p) _ _] => some p
    | _ => none
  | .tuple vs => match vs.toList with
    | [.slice (some p) _ _, .bool _] => some p
    | _ => none
  | _ => none
def blockOf (v : Value) : Option Nat := (rootOf v).map (·.block)

def excl : Reg → Bool
  | .box _ => true
  | .own _ _ _ => true
  | .agn _ _ _ _ => true
  | .bxl _ => true
  | _ => false

/-- The block of a variable or of an owned array, all of it. -/
def BlockRd (Y X : Nat → Prop) (w : World) (b off : Nat) (cs : List AV) : Prop :=
  Dat cs ∧ ∃ (vs : Array Value) (T : TypeId), w.heap[b]? = some (.cells vs T (0, 0)) ∧ off + cs.length ≤ vs.size ∧ ∀ (i : Nat) (h : i < cs.length), ∃ v, vs[off + i]? = some v ∧ Rd Y X w v cs[i]

theorem BlockRd.mem {Y X : Nat → Prop} {w : World} {b off : Nat} {cs : List AV} (h : BlockRd Y X w b off cs) : MemRd Y X w b off cs := by
  obtain ⟨hd, vs, T, hb, _, hc⟩ := h
  refine ⟨hd, ?_⟩
  intro i hi
  obtain ⟨v, h1, h2⟩ := hc i hi
  exact ⟨v, by simp [World.cell?, hb, h1], h2⟩

theorem BlockRd.lt {Y X : Nat → Prop} {w : World} {b off : Nat} {cs : List AV} (h : BlockRd Y X w b off cs) : b < w.heap.size := by
  obtain ⟨_, vs, T, hb, _⟩ := h
  exact (Array.getElem?_eq_some_iff.1 hb).1

theorem BlockRd.world {Y X : Nat → Prop} {w w' : World} {b off : Nat} {cs : List AV} (h : BlockRd Y X w b off cs) (hw : ∀ c, ¬ X c → c < w.heap.size → w'.heap[c]? = w.heap[c]?)
    (hb : w'.heap[b]? = w.heap[b]?) : BlockRd Y X w' b off cs := by
  obtain ⟨hd, vs, T, h1, h2, h3⟩ := h
  exact ⟨hd, vs, T, by rw [hb]; exact h1, h2, fun i hi => let ⟨v, h4, h5⟩ := h3 i hi; ⟨v, h4, h5.world hw⟩⟩

theorem BlockRd.mono {Y X X' : Nat → Prop} {w : World} {b off : Nat} {cs : List AV} (h : BlockRd Y X w b off cs) (hX : ∀ b, X' b → X b ∨ w.heap.size ≤ b) : BlockRd Y X' w b off cs := by
  obtain ⟨hd, vs, T, h1, h2, h3⟩ := h
  exact ⟨hd, vs, T, h1, h2, fun i hi => let ⟨v, h4, h5⟩ := h3 i hi; ⟨v, h4, h5.mono hX⟩⟩

/-- The block has room for m cells. -/
def Room (w : World) (b m : Nat) : Prop := ∃ (vs : Array Value) (T : TypeId), w.heap[b]? = some (.cells vs T (0, 0)) ∧ m ≤ vs.size

theorem Room.world {w w' : World} {b m : Nat} (h : Room w b m) (hb : w'.heap[b]? = w.heap[b]?) : Room w' b m := by
  obtain ⟨vs, T, h1, h2⟩ := h
  exact ⟨vs, T, by rw [hb]; exact h1, h2⟩

/-- A slice that owns its array, or none: k cells an element, n elements. -/
def OwnRd (Y X : Nat → Prop) (B : Nat → Prop) (w : World) (v : Value) (k n : Nat) (cs : List AV) : Prop :=
  (v = .slice none 0 0 ∧ n = 0 ∧ cs = []) ∨
  ∃ b cap, v = .slice (some ⟨b, 0, none⟩) n cap ∧ n ≤ cap ∧ cs.length = n * k ∧ B b ∧ BlockRd Y X w b 0 cs ∧ Room w b (cap * k)

theorem OwnRd.world {Y X : Nat → Prop} {B : Nat → Prop} {w w' : World} {v : Value} {k n : Nat} {cs : List AV} (h : OwnRd Y X B w v k n cs) (hw : ∀ c, ¬ X c → c < w.heap.size → w'.heap[c]? = w.heap[c]?)
    (hb : ∀ b, blockOf v = some b → b < w.heap.size → w'.heap[b]? = w.heap[b]?) : OwnRd Y X B w' v k n cs := by
  rcases h with h | ⟨b, cap, e1, e2, e3, e4, e5, e6⟩
  · exact .inl h
  · have hbb : w'.heap[b]? = w.heap[b]? := hb b (by rw [e1]; rfl) e5.lt
    exact .inr ⟨b, cap, e1, e2, e3, e4, e5.world hw hbb, e6.world hbb⟩
theorem OwnRd.mono {Y X X' : Nat → Prop} {B : Nat → Prop} {w : World} {v : Value} {k n : Nat} {cs : List AV} (h : OwnRd Y X B w v k n cs) (hX : ∀ b, X' b → X b ∨ w.heap.size ≤ b) : OwnRd Y X' B w v k n cs := by
  rcases h with h | ⟨b, cap, e1, e2, e3, e4, e5, e6⟩
  · exact .inl h
  · exact .inr ⟨b, cap, e1, e2, e3, e4, e5.mono hX, e6⟩
theorem OwnRd.lower {Y X : Nat → Prop} {B B' : Nat → Prop} {w : World} {v : Value} {k n : Nat} {cs : List AV} (h : OwnRd Y X B w v k n cs) (hB : ∀ b, B b → B' b) : OwnRd Y X B' w v k n cs := by
  rcases h with h | ⟨b, cap, e1, e2, e3, e4, e5, e6⟩
  · exact .inl h
  · exact .inr ⟨b, cap, e1, e2, e3, hB b e4, e5, e6⟩
theorem OwnRd.block {Y X : Nat → Prop} {B : Nat → Prop} {w : World} {v : Value} {k n : Nat} {cs : List AV} (h : OwnRd Y X B w v k n cs) {b : Nat} (hb : blockOf v = some b) : B b ∧ b < w.heap.size := by
  rcases h with ⟨rfl, _⟩ | ⟨b', cap, e1, e2, e3, e4, e5, e6⟩
  · cases hb
  · rw [e1] at hb
    simp only [blockOf, rootOf, Option.map_some, Option.some.injEq] at hb
    subst hb
    exact ⟨e4, e5.lt⟩
/-- As a value that nobody will write any more. -/
theorem OwnRd.frozen {Y X X' : Nat → Prop} {B : Nat → Prop} {w : World} {v : Value} {k n : Nat} {cs : List AV} (h : OwnRd Y X B w v k n cs) (hX : ∀ b, X' b → X b ∨ w.heap.size ≤ b) (hb : ∀ b, blockOf v = some b → ¬ X' b) (hY : ∀ b, Y b → ¬ B b) : Rd Y X' w v (.sl n cs) := by
  rcases h with ⟨rfl, rfl, rfl⟩ | ⟨b, cap, e1, e2, e3, e4, e5, e6⟩
  · exact .nil0
  have hbb : ¬ X' b := hb b (by rw [e1]; rfl)
  obtain ⟨hd, hm⟩ := (e5.mono hX).mem
  subst e1
  refine .sl b 0 n cap cs (fun i => (w.cell? ⟨b, 0 + i, none⟩).getD Go.undef) hd e2 (fun _ => hbb) (fun _ h => hY b h e4) (fun i hi => ?_) (fun i hi => ?_)
  · obtain ⟨u, h1, _⟩ := hm i hi
    rw [h1]; rfl
  · obtain ⟨u, h1, h2⟩ := hm i hi
    rw [h1]; exact h2

/-- Lent: as a value that is read for a while. -/
theorem OwnRd.lent {Y X Y' X' : Nat → Prop} {B : Nat → Prop} {w : World} {v : Value} {k n : Nat} {cs : List AV} (h : OwnRd Y X B w v k n cs) (hX : ∀ b, X' b → X b) (hY : ∀ b, Y' b → Y b ∨ X b) (hb : ∀ b, blockOf v = some b → ¬ X' b) (hi : cs.all (fun c => !isI c) = true) : Rd Y' X' w v (.sl n cs) := by
  rcases h with ⟨rfl, rfl, rfl⟩ | ⟨b, cap, e1, e2, e3, e4, e5, e6⟩
  · exact .nil0
  have hbb : ¬ X' b := hb b (by rw [e1]; rfl)
  obtain ⟨hd, hm⟩ := e5.mem
  subst e1
  refine .sl b 0 n cap cs (fun i => (w.cell? ⟨b, 0 + i, none⟩).getD Go.undef) hd e2 (fun _ => hbb) (fun ⟨c, hc, h1⟩ _ => ?_) (fun i hi => ?_) (fun i hi => ?_)
  · have := List.all_eq_true.1 hi c hc
    rw [h1] at this
    cases this
  · obtain ⟨u, h1, _⟩ := hm i hi
    rw [h1]; rfl
  · obtain ⟨u, h1, h2⟩ := hm i hi
    rw [h1]; exact h2.lend hX hY

def tagV : Tag → Value → Value
  | .st b, u => .agg #[.bool b, u]
  | .tp b, u => .tuple #[u, .bool b]
/-- A truth value and a slice that owns its array. -/
def AgnRd (Y X : Nat → Prop) (B : Nat → Prop) (w : World) (v : Value) (b : Tag) (k n : Nat) (cs : List AV) : Prop := ∃ u, v = tagV b u ∧ OwnRd Y X B w u k n cs
theorem agn_block {Y X : Nat → Prop} {B : Nat → Prop} {w : World} {u : Value} {k n : Nat} {cs : List AV} (b : Tag) (h : OwnRd Y X B w u k n cs) : blockOf (tagV b u) = blockOf u := by
  cases b <;> rcases h with ⟨rfl, _⟩ | ⟨b', cap, rfl, _⟩ <;> rfl
theorem AgnRd.world {Y X : Nat → Prop} {B : Nat → Prop} {w w' : World} {v : Value} {b : Tag} {k n : Nat} {cs : List AV} (h : AgnRd Y X B w v b k n cs) (hw : ∀ c, ¬ X c → c < w.heap.size → w'.heap[c]? = w.heap[c]?)
    (hb : ∀ b, blockOf v = some b → b < w.heap.size → w'.heap[b]? = w.heap[b]?) : AgnRd Y X B w' v b k n cs := by
  obtain ⟨u, rfl, h⟩ := h
  rw [agn_block b h] at hb
  exact ⟨u, rfl, h.world hw hb⟩
theorem AgnRd.mono {Y X X' : Nat → Prop} {B : Nat → Prop} {w : World} {v : Value} {b : Tag} {k n : Nat} {cs : List AV} (h : AgnRd Y X B w v b k n cs) (hX : ∀ b, X' b → X b ∨ w.heap.size ≤ b) : AgnRd Y X' B w v b k n cs := by
  obtain ⟨u, e, h⟩ := h; exact ⟨u, e, h.mono hX⟩
theorem AgnRd.lower {Y X : Nat → Prop} {B B' : Nat → Prop} {w : World} {v : Value} {b : Tag} {k n : Nat} {cs : List AV} (h : AgnRd Y X B w v b k n cs) (hB : ∀ b, B b → B' b) : AgnRd Y X B' w v b k n cs := by
  obtain ⟨u, e, h⟩ := h; exact ⟨u, e, h.lower hB⟩
/-- A struct whose block is left out as well. -/
theorem AgnRd.own {Y X0 : Nat → Prop} {Z : Nat → Prop} {B : Nat → Prop} {w : World} {v : Value} {b : Tag} {k n : Nat} {cs : List AV} (h : AgnRd Y (fun c => X0 c ∨ Z c) B w v b k n cs) (hZ : ∀ c, blockOf v = some c → Z c) : AgnRd Y (fun c => X0 c ∨ blockOf v = some c) B w v b k n cs :=
  h.mono fun c hc => .inl (hc.imp id (hZ c))
theorem AgnRd.block {Y X : Nat → Prop} {B : Nat → Prop} {w : World} {v : Value} {b : Tag} {k n : Nat} {cs : List AV} (h : AgnRd Y X B w v b k n cs) {c : Nat} (hb : blockOf v = some c) : B c ∧ c < w.heap.size := by
  obtain ⟨u, rfl, h⟩ := h
  rw [agn_block b h] at hb
  exact h.block hb

/-- v is the part from l to h of the slice u, whose elements have k cells. -/
def SubV (k l h : Nat) (u v : Value) : Prop := (u = .slice none 0 0 ∧ v = .slice none 0 0 ∧ l = 0 ∧ h = 0) ∨
  ∃ b n cap, u = .slice (some ⟨b, 0, none⟩) n cap ∧ l ≤ h ∧ h ≤ n ∧ n ≤ cap ∧ v = .slice (if cap = l then some ⟨b, 0, none⟩ else some ⟨b, l * k, none⟩) (h - l) (cap - l)

/-- The slot's value v (of the frame 'tm') is as the register says. 'B': these blocks are the call's own. -/
def RegOk (Y X : Nat → Prop) (B : Nat → Prop) (roots : List (Nat × Nat)) (tm : Array Value) (w : World) (t : Nat) (v : Value) : Reg → Prop
  | .val x => Rd Y X w v x
  | .box cs => ∃ b, v = .pointer (some ⟨b, 0, none⟩) ∧ B b ∧ BlockRd Y X w b 0 cs
  | .ptr d off => (t, d) ∈ roots ∧ ∃ p, rootOf (tm.getD d Go.undef) = some p ∧ p.spot = none ∧ v = .pointer (some ⟨p.block, p.off + off, none⟩)
  | .mem cs => ∃ b off, v = .pointer (some ⟨b, off, none⟩) ∧ (cs ≠ [] → ¬ X b) ∧ MemRd Y X w b off cs
  | .own k n cs => OwnRd Y X B w v k n cs
  | .agn b k n cs => AgnRd Y X B w v b k n cs
  | .bxl d => (t, d) ∈ roots ∧ ∃ b, v = .pointer (some ⟨b, 0, none⟩) ∧ B b ∧ b < w.heap.size ∧ ∀ i, i < 2 → w.cell? ⟨b, i, none⟩ = (tm.getD d Go.undef).cells[i]?
  | .dup d => (t, d) ∈ roots ∧ v = tm.getD d Go.undef
  | .sub d k l h => (t, d) ∈ roots ∧ SubV k l h (tm.getD d Go.undef) v
  | .dead => True

/-- The blocks that belong to slots. -/
def XS (s : State) (tm : Array Value) (b : Nat) : Prop := ∃ t, excl (rget s t) = true ∧ blockOf (tm.getD t Go.undef) = some b

/-- Fewer blocks are left out. -/
theorem RegOk.monoX {Y X X' : Nat → Prop} {B : Nat → Prop} {roots : List (Nat × Nat)} {tm : Array Value} {w : World} {t : Nat} {v : Value} {r : Reg} (h : RegOk Y X B roots tm w t v r) (hX : ∀ b, X' b → X b) : RegOk Y X' B roots tm w t v r := by
  have hX' : ∀ b, X' b → X b ∨ w.heap.size ≤ b := fun b hb => .inl (hX b hb)
  cases r with
  | val x => exact Rd.mono h hX'
  | box cs => obtain ⟨b, e1, e2, e3⟩ := h; exact ⟨b, e1, e2, e3.mono hX'⟩
  | own k n cs => exact OwnRd.mono h hX'
  | agn bb k n cs => exact AgnRd.mono h hX'
  | mem cs => obtain ⟨b, off, e1, e2, e3⟩ := h; exact ⟨b, off, e1, fun hne hx => e2 hne (hX b hx), e3.mono hX'⟩
  | bxl d' => exact h
  | ptr d off => exact h
  | dup d => exact h
  | sub _ _ _ _ => exact h
  | dead => trivial

/-- Where a call began, and which older blocks it was given to write. -/
structure Base where
  w : World
  own : Nat → Prop
/-- The call's own blocks. -/
def Base.mine (B : Base) (b : Nat) : Prop := B.w.heap.size ≤ b ∨ B.own b
/-- Since then only the call's own blocks have turned. -/
structure Grown (B : Base) (w : World) : Prop where
  os : w.os = B.w.os
  tape : w.tape = B.w.tape
  output : w.output = B.w.output
  size : B.w.heap.size ≤ w.heap.size
  block : ∀ b, ¬ B.mine b → w.heap[b]? = B.w.heap[b]?
theorem Grown.trans {B : Base} {w w' : World} (h : Grown B w) (g : Below w.heap.size w w') : Grown B w' :=
  ⟨g.os.trans h.os, g.tape.trans h.tape, g.output.trans h.output, Nat.le_trans h.size g.size, fun b hb => (g.block b (Nat.lt_of_lt_of_le (Nat.lt_of_not_le fun e => hb (.inl e)) h.size)).trans (h.block b hb)⟩
theorem Grown.below {B : Base} {w : World} (h : Grown B w) (ho : ∀ b, ¬ B.own b) : Below B.w.heap.size B.w w :=
  ⟨h.os, h.tape, h.output, h.size, fun b hb => h.block b (fun e => e.elim (fun e => Nat.lt_irrefl _ (Nat.lt_of_lt_of_le hb e)) (ho b))⟩

structure Rel (Y X0 : Nat → Prop) (roots : List (Nat × Nat)) (w0 : Base) (s : State) (a : Act) (w : World) : Prop where
  dfr : a.defers = []
  size : a.tmps.size = s.length
  below : Grown w0 w
  low : ∀ b, X0 b → ¬ w0.mine b
  lowY : ∀ b, Y b → ¬ w0.mine b
  reg : ∀ t, RegOk Y (fun b => X0 b ∨ XS s a.tmps b) w0.mine roots a.tmps w t (a.tmps.getD t Go.undef) (rget s t)
  inj : ∀ t t' b, excl (rget s t) = true → excl (rget s t') = true → blockOf (a.tmps.getD t Go.undef) = some b → blockOf (a.tmps.getD t' Go.undef) = some b → t = t'

theorem Below.ext {w w' : World} (h : Below w.heap.size w w') : ∀ b, b < w.heap.size → w'.heap[b]? = w.heap[b]? := h.block

theorem getD_put (tm : Array Value) (d : Nat) (v : Value) (t : Nat) : (tm.setIfInBounds d v).getD t Go.undef = if d = t ∧ d < tm.size then v else tm.getD t Go.undef := by
  simp only [Array.getD_eq_getD_getElem?, Array.getElem?_setIfInBounds]
  by_cases h : d = t
  · subst h
    by_cases h2 : d < tm.size
    · simp [h2]
    · simp [h2]
  · simp [h]

theorem rget_kill (ks : List Nat) : ∀ (s : State) (t : Nat), rget (rputs s (ks.map fun u => (u, Reg.dead))) t = rget s t ∨ rget (rputs s (ks.map fun u => (u, Reg.dead))) t = .dead := by
  induction ks with
  | nil => exact fun s t => .inl rfl
  | cons k ks ih =>
    intro s t
    simp only [List.map_cons, rputs]
    rcases ih (s.set k .dead) t with h | h
    · rw [h, rget_set]
      split
      · exact .inr rfl
      · exact .inl rfl
    · exact .inr h

theorem rget_killed (ks : List Nat) : ∀ (s : State) (t : Nat), t ∈ ks → rget (rputs s (ks.map fun u => (u, Reg.dead))) t = .dead := by
  induction ks with
  | nil => intro s t h; cases h
  | cons k ks ih =>
    intro s t h
    simp only [List.map_cons, rputs]
    by_cases hk : t ∈ ks
    · exact ih _ t hk
    · have e : t = k := by
        cases h with
        | head => rfl
        | tail _ h => exact absurd h hk
      subst e
      rcases rget_kill ks (s.set t .dead) t with h1 | h1
      · rw [h1, rget_set]
        split
        · rfl
        · rename_i hn
          simp only [rget, List.getD_eq_getElem?_getD]
          have : s.length ≤ t := by simp at hn; exact hn
          rw [List.getElem?_eq_none this]; rfl
      · exact h1

theorem length_rputs (l : List (Nat × Reg)) : ∀ s : State, (rputs s l).length = s.length := by
  induction l with
  | nil => intro s; rfl
  | cons p l ih => intro s; obtain ⟨t, r⟩ := p; simp only [rputs, ih, List.length_set]

/-- A slot's own block is one of the call's own. -/
theorem exclMine {Y X : Nat → Prop} {B : Nat → Prop} {roots : List (Nat × Nat)} {tm : Array Value} {w : World} {t : Nat} {v : Value} {r : Reg} {b : Nat} (h : RegOk Y X B roots tm w t v r) (he : excl r = true) (hb : blockOf v = some b) : B b := by
  cases r with
  | box cs =>
    obtain ⟨b', e1, e2, e3⟩ := h
    rw [e1] at hb
    simp only [blockOf, rootOf, Option.map_some, Option.some.injEq] at hb
    exact hb ▸ e2
  | own k n cs => exact (OwnRd.block h hb).1
  | agn bb k n cs => exact (AgnRd.block h hb).1
  | bxl d' =>
    obtain ⟨_, b', e1, e2, e3, _⟩ := h
    rw [e1] at hb
    simp only [blockOf, rootOf, Option.map_some, Option.some.injEq] at hb
    exact hb ▸ e2
  | val x => cases he
  | ptr d off => cases he
  | mem cs => cases he
  | dup d => cases he
  | sub _ _ _ _ => cases he
  | dead => cases he

/-- **A slot gets a value; the world has grown by new blocks, and blocks of slots that die have turned.** -/
theorem Rel.give {Y X0 : Nat → Prop} {roots : List (Nat × Nat)} {w0 : Base} {w w' : World} {s : State} {a : Act} (h : Rel Y X0 roots w0 s a w) {O : Nat → Prop} (hw : Grown ⟨w, O⟩ w')
    {d : Nat} {v : Value} {r : Reg} {ks : List Nat} (hO : ∀ b, O b → ∃ x, x ∈ ks ∧ excl (rget s x) = true ∧ blockOf (a.tmps.getD x Go.undef) = some b) (hks : ∀ t, (t, d) ∈ roots → t ∈ ks ∨ isLink (rget s t) = false)
    (hfresh : excl r = true → ∀ b, blockOf v = some b → w.heap.size ≤ b ∨ O b)
    (hr : ∀ X : Nat → Prop, (∀ b, X b → (X0 b ∨ XS s a.tmps b) ∨ (w.heap.size ≤ b ∧ blockOf v = some b)) → (∀ c, X c → O c → excl r = true ∧ blockOf v = some c) → (excl r = false → ∀ b, X b → X0 b ∨ XS s a.tmps b) →
      RegOk Y X w0.mine roots (a.tmps.setIfInBounds d v) w' d v r) :
    Rel Y X0 roots w0 (rput (rputs s (ks.map fun u => (u, Reg.dead))) (some d) r) (a.put (some d) v) w' := by
  obtain ⟨hd, hs, hb, hl, hly, hreg, hinj⟩ := h
  have hsz : w0.w.heap.size ≤ w.heap.size := hb.size
  have hblk : ∀ c, c < w.heap.size → ¬ O c → w'.heap[c]? = w.heap[c]? := fun c hc ho => hw.block c (fun e => e.elim (fun e => Nat.lt_irrefl _ (Nat.lt_of_lt_of_le hc e)) ho)
  have hOX : ∀ b, O b → XS s a.tmps b := fun b hb => let ⟨x, _, h2, h3⟩ := hO b hb; ⟨x, h2, h3⟩
  have hne : ∀ t, rget (rputs s (ks.map fun u => (u, Reg.dead))) t = rget s t → excl (rget s t) = true → ∀ b, blockOf (a.tmps.getD t Go.undef) = some b → ¬ O b := by
    intro t hk he b hbt ho
    obtain ⟨x, h1, h2, h3⟩ := hO b ho
    have e := hinj t x b he h2 hbt h3
    subst e
    rw [rget_killed ks s t h1] at hk
    rw [← hk] at he
    cases he
  -- the slots of the new state
  have key : ∀ t, rget (rput (rputs s (ks.map fun u => (u, Reg.dead))) (some d) r) t = (if d = t ∧ d < s.length then r else rget (rputs s (ks.map fun u => (u, Reg.dead))) t) := by
    intro t
    simp only [rput]
    rw [rget_set, length_rputs]
  have kv : ∀ t, (a.put (some d) v).tmps.getD t Go.undef = if d = t ∧ d < s.length then v else a.tmps.getD t Go.undef := by
    intro t
    simp only [Act.put]
    rw [getD_put, hs]
  have hXnew : ∀ b, XS (rput (rputs s (ks.map fun u => (u, Reg.dead))) (some d) r) (a.put (some d) v).tmps b → XS s a.tmps b ∨ (excl r = true ∧ w.heap.size ≤ b ∧ blockOf v = some b) := by
    rintro b ⟨t, h1, h2⟩
    rw [key] at h1
    rw [kv] at h2
    by_cases hc : d = t ∧ d < s.length
    · rw [if_pos hc] at h1 h2
      rcases hfresh h1 b h2 with h3 | h3
      · exact .inr ⟨h1, h3, h2⟩
      · exact .inl (hOX b h3)
    · rw [if_neg hc] at h1 h2
      rcases rget_kill ks s t with hk | hk
      · rw [hk] at h1; exact .inl ⟨t, h1, h2⟩
      · rw [hk] at h1; cases h1
  generalize hXd : (fun b => X0 b ∨ XS (rput (rputs s (ks.map fun u => (u, Reg.dead))) (some d) r) (a.put (some d) v).tmps b) = X
  have hX1 : ∀ b, X b → (X0 b ∨ XS s a.tmps b) ∨ w.heap.size ≤ b := by
    intro b hXb
    rw [← hXd] at hXb
    rcases hXb with h | h
    · exact .inl (.inl h)
    · rcases hXnew b h with h | h
      · exact .inl (.inr h)
      · exact .inr h.2.1
  have hX1' : ∀ b, X b → (X0 b ∨ XS s a.tmps b) ∨ (w.heap.size ≤ b ∧ blockOf v = some b) := by
    intro b hXb
    rw [← hXd] at hXb
    rcases hXb with h | h
    · exact .inl (.inl h)
    · rcases hXnew b h with h | h
      · exact .inl (.inr h)
      · exact .inr h.2
  have hX2 : excl r = false → ∀ b, X b → X0 b ∨ XS s a.tmps b := by
    intro he b hXb
    rw [← hXd] at hXb
    rcases hXb with h | h
    · exact .inl h
    · rcases hXnew b h with h | h
      · exact .inr h
      · rw [he] at h; cases h.1
  have hX3 : ∀ c, X c → O c → excl r = true ∧ blockOf v = some c := by
    intro c hc ho
    rw [← hXd] at hc
    rcases hc with hc | ⟨t, h1, h2⟩
    · obtain ⟨x, _, h2, h3⟩ := hO c ho
      exact absurd (exclMine (hreg x) h2 h3) (hl c hc)
    · rw [key] at h1
      rw [kv] at h2
      by_cases hc : d = t ∧ d < s.length
      · rw [if_pos hc] at h1 h2
        exact ⟨h1, h2⟩
      · rw [if_neg hc] at h1 h2
        rcases rget_kill ks s t with hk | hk
        · rw [hk] at h1
          exact absurd ho (hne t hk h1 c h2)
        · rw [hk] at h1; cases h1
  have hext : ∀ c, ¬ (X c ∨ (X0 c ∨ XS s a.tmps c)) → c < w.heap.size → w'.heap[c]? = w.heap[c]? := fun c hc hl => hblk c hl fun ho => hc (.inr (.inr (hOX c ho)))
  have hXu : ∀ c, (X c ∨ (X0 c ∨ XS s a.tmps c)) → (X0 c ∨ XS s a.tmps c) ∨ w.heap.size ≤ c := fun c hc => hc.elim (hX1 c) .inl
  have hXv : ∀ c, X c → (X c ∨ (X0 c ∨ XS s a.tmps c)) ∨ w'.heap.size ≤ c := fun c hc => .inl (.inl hc)
  refine ⟨hd, by simp only [Act.put, Array.size_setIfInBounds, rput, List.length_set, length_rputs]; exact hs, ?_, hl, hly, ?_, ?_⟩
  · refine ⟨hw.os.trans hb.os, hw.tape.trans hb.tape, hw.output.trans hb.output, Nat.le_trans hsz hw.size, fun c hc => ?_⟩
    have hlt : c < w.heap.size := Nat.lt_of_lt_of_le (Nat.lt_of_not_le fun e => hc (.inl e)) hsz
    refine (hblk c hlt fun ho => ?_).trans (hb.block c hc)
    obtain ⟨x, _, h2, h3⟩ := hO c ho
    exact hc (exclMine (hreg x) h2 h3)
  · intro t
    rw [hXd, key, kv]
    by_cases hc : d = t ∧ d < s.length
    · rw [if_pos hc, if_pos hc]
      obtain ⟨rfl, _⟩ := hc
      exact hr X hX1' hX3 hX2
    · rw [if_neg hc, if_neg hc]
      rcases rget_kill ks s t with hk | hk
      · rw [hk]
        have h0 := hreg t
        cases hrt : rget s t with
        | val x => rw [hrt] at h0; exact ((Rd.mono h0 hXu).world hext).mono hXv
        | box cs =>
          rw [hrt] at h0
          obtain ⟨b, e1, e2, e3⟩ := h0
          exact ⟨b, e1, e2, ((e3.mono hXu).world hext (hblk b e3.lt (hne t hk (by rw [hrt]; rfl) b (by rw [e1]; rfl)))).mono hXv⟩
        | own k n cs =>
          rw [hrt] at h0
          exact ((OwnRd.mono h0 hXu).world hext (fun b h1 hb => hblk b hb (hne t hk (by rw [hrt]; rfl) b h1))).mono hXv
        | agn bb k n cs =>
          rw [hrt] at h0
          exact ((AgnRd.mono h0 hXu).world hext (fun b h1 hb => hblk b hb (hne t hk (by rw [hrt]; rfl) b h1))).mono hXv
        | mem cs =>
          rw [hrt] at h0
          obtain ⟨b, off, e1, e2, e3⟩ := h0
          refine ⟨b, off, e1, fun hne hXb => ?_, ?_⟩
          rotate_left
          · by_cases hnil : cs = []
            · subst hnil; exact ⟨fun x hx => (by cases hx), fun i hi => (by simp at hi)⟩
            · exact ((e3.mono hXu).world hext (fun hb => hblk b hb fun ho => e2 hnil (.inr (hOX b ho)))).mono hXv
          rcases hX1 b hXb with h | h
          · exact e2 hne h
          · have h0 : 0 < cs.length := List.length_pos_iff.2 hne
            obtain ⟨u, hu, _⟩ := e3.2 0 h0
            have := block_lt hu
            simp only at this
            omega
        | ptr d' off =>
          rw [hrt] at h0
          obtain ⟨e1, p, e2, e3, e4⟩ := h0
          refine ⟨e1, p, ?_, e3, e4⟩
          rw [kv, if_neg]
          · exact e2
          · rintro ⟨rfl, hlt⟩
            rcases hks t e1 with hh | hh
            · have := rget_killed ks s t hh
              rw [hk, hrt] at this
              cases this
            · rw [hrt] at hh; cases hh
        | dup d' =>
          rw [hrt] at h0
          obtain ⟨e1, e2⟩ := h0
          refine ⟨e1, ?_⟩
          rw [kv, if_neg]
          · exact e2
          · rintro ⟨rfl, hlt⟩
            rcases hks t e1 with hh | hh
            · have := rget_killed ks s t hh
              rw [hk, hrt] at this
              cases this
            · rw [hrt] at hh; cases hh
        | sub d' _ _ _ =>
          rw [hrt] at h0
          obtain ⟨e1, e2⟩ := h0
          refine ⟨e1, ?_⟩
          rw [kv, if_neg]
          · exact e2
          · rintro ⟨rfl, hlt⟩
            rcases hks t e1 with hh | hh
            · have := rget_killed ks s t hh
              rw [hk, hrt] at this
              cases this
            · rw [hrt] at hh; cases hh
        | bxl d' =>
          rw [hrt] at h0
          obtain ⟨e1, b, e2, e3, e4, e5⟩ := h0
          refine ⟨e1, b, e2, e3, Nat.lt_of_lt_of_le e4 hw.size, fun i hi => ?_⟩
          rw [kv, if_neg]
          · rw [← e5 i hi]
            exact cell?_of_heap (hblk b e4 (hne t hk (by rw [hrt]; rfl) b (by rw [e2]; rfl)))
          · rintro ⟨rfl, hlt⟩
            rcases hks t e1 with hh | hh
            · have := rget_killed ks s t hh
              rw [hk, hrt] at this
              cases this
            · rw [hrt] at hh; cases hh
        | dead => trivial
      · rw [hk]; trivial
  · intro t t' b h1 h2 h3 h4
    rw [key] at h1 h2
    rw [kv] at h3 h4
    have old : ∀ u, (¬ (d = u ∧ d < s.length)) → excl (rget (rputs s (ks.map fun u => (u, Reg.dead))) u) = true → excl (rget s u) = true := by
      intro u _ hu
      rcases rget_kill ks s u with hk | hk
      · rw [hk] at hu; exact hu
      · rw [hk] at hu; cases hu
    have lt : ∀ u, excl (rget s u) = true → blockOf (a.tmps.getD u Go.undef) = some b → b < w.heap.size := by
      intro u hu hv
      have h0 := hreg u
      cases hrt : rget s u with
      | box cs =>
        rw [hrt] at h0
        obtain ⟨b', e1, _, e3⟩ := h0
        rw [e1] at hv
        simp only [blockOf, rootOf, Option.map_some, Option.some.injEq] at hv
        exact hv ▸ e3.lt
      | own k n cs =>
        rw [hrt] at h0
        exact (OwnRd.block h0 hv).2
      | agn bb k n cs =>
        rw [hrt] at h0
        exact (AgnRd.block h0 hv).2
      | bxl d' =>
        rw [hrt] at h0
        obtain ⟨_, b', e1, _, e3, _⟩ := h0
        rw [e1] at hv
        simp only [blockOf, rootOf, Option.map_some, Option.some.injEq] at hv
        exact hv ▸ e3
      | val x => rw [hrt] at hu; cases hu
      | ptr d off => rw [hrt] at hu; cases hu
      | mem cs => rw [hrt] at hu; cases hu
      | dup d => rw [hrt] at hu; cases hu
      | sub _ _ _ _ => rw [hrt] at hu; cases hu
      | dead => rw [hrt] at hu; cases hu
    by_cases c1 : d = t ∧ d < s.length <;> by_cases c2 : d = t' ∧ d < s.length
    · exact c1.1.symm.trans c2.1
    · rw [if_pos c1] at h1 h3
      rw [if_neg c2] at h2 h4
      have := lt t' (old t' c2 h2) h4
      rcases hfresh h1 b h3 with e2 | e2
      · omega
      · rcases rget_kill ks s t' with hk | hk
        · exact absurd e2 (hne t' hk (old t' c2 h2) b h4)
        · rw [hk] at h2; cases h2
    · rw [if_neg c1] at h1 h3
      rw [if_pos c2] at h2 h4
      have := lt t (old t c1 h1) h3
      rcases hfresh h2 b h4 with e2 | e2
      · omega
      · rcases rget_kill ks s t with hk | hk
        · exact absurd e2 (hne t hk (old t c1 h1) b h3)
        · rw [hk] at h1; cases h1
    · rw [if_neg c1] at h1 h3
      rw [if_neg c2] at h2 h4
      exact hinj t t' b (old t c1 h1) (old t' c2 h2) h3 h4

theorem grown_of {w w' : World} (h : Below w.heap.size w w') : Grown ⟨w, fun _ => False⟩ w' :=
  ⟨h.os, h.tape, h.output, h.size, fun b hb => h.block b (Nat.lt_of_not_le fun e => hb (.inl e))⟩
/-- **A slot gets a value; the world has grown by new blocks at most.** -/
theorem Rel.write {Y X0 : Nat → Prop} {roots : List (Nat × Nat)} {w0 : Base} {w w' : World} {s : State} {a : Act} (h : Rel Y X0 roots w0 s a w) (hw : Below w.heap.size w w')
    {d : Nat} {v : Value} {r : Reg} {ks : List Nat} (hks : ∀ t, (t, d) ∈ roots → t ∈ ks ∨ isLink (rget s t) = false)
    (hfresh : excl r = true → ∀ b, blockOf v = some b → w.heap.size ≤ b)
    (hr : ∀ X : Nat → Prop, (∀ b, X b → (X0 b ∨ XS s a.tmps b) ∨ (w.heap.size ≤ b ∧ blockOf v = some b)) → (excl r = false → ∀ b, X b → X0 b ∨ XS s a.tmps b) →
      RegOk Y X w0.mine roots (a.tmps.setIfInBounds d v) w' d v r) :
    Rel Y X0 roots w0 (rput (rputs s (ks.map fun u => (u, Reg.dead))) (some d) r) (a.put (some d) v) w' :=
  h.give (grown_of hw) (fun _ hb => False.elim hb) hks (fun he b hb => .inl (hfresh he b hb)) fun X h1 _ h2 => hr X h1 h2

theorem XS_set {s : State} {tm : Array Value} {d : Nat} {r r' : Reg} (h : rget s d = r) (he : excl r = excl r') (b : Nat) : XS (s.set d r') tm b ↔ XS s tm b := by
  have key : ∀ t, excl (rget (s.set d r') t) = excl (rget s t) := by
    intro t
    rw [rget_set]
    split
    · rename_i hc
      obtain ⟨rfl, _⟩ := hc
      rw [h, he]
    · rfl
  constructor
  · rintro ⟨t, h1, h2⟩
    exact ⟨t, by rw [← key]; exact h1, h2⟩
  · rintro ⟨t, h1, h2⟩
    exact ⟨t, by rw [key]; exact h1, h2⟩

/-- **What slot d's own variable holds has turned; nothing else has.** -/
theorem Rel.store {Y X0 : Nat → Prop} {roots : List (Nat × Nat)} {w0 : Base} {w w' : World} {s : State} {a : Act} (h : Rel Y X0 roots w0 s a w) {d : Nat} {r r' : Reg} {b : Nat}
    (hd : rget s d = r) (he : excl r = true) (he' : excl r' = true) (hv : blockOf (a.tmps.getD d Go.undef) = some b) (hbB : w0.mine b) (hos : w'.os = w.os) (htape : w'.tape = w.tape) (hout : w'.output = w.output)
    (hsize : w'.heap.size = w.heap.size) (hoth : ∀ c, c ≠ b → w'.heap[c]? = w.heap[c]?)
    (hnew : ∀ X : Nat → Prop, (∀ c, X c ↔ (X0 c ∨ XS s a.tmps c)) → RegOk Y X w0.mine roots a.tmps w' d (a.tmps.getD d Go.undef) r') :
    Rel Y X0 roots w0 (s.set d r') a w' := by
  obtain ⟨hdf, hs, hb, hl, hly, hreg, hinj⟩ := h
  have hXb : XS s a.tmps b := ⟨d, by rw [hd]; exact he, hv⟩
  have hXeq : ∀ c, (X0 c ∨ XS (s.set d r') a.tmps c) ↔ (X0 c ∨ XS s a.tmps c) := fun c => by rw [XS_set (r' := r') hd (by rw [he, he'])]
  have hmono : ∀ c, (X0 c ∨ XS (s.set d r') a.tmps c) → (X0 c ∨ XS s a.tmps c) ∨ w.heap.size ≤ c := fun c hc => .inl ((hXeq c).1 hc)
  have hext : ∀ c, ¬ (X0 c ∨ XS (s.set d r') a.tmps c) → c < w.heap.size → w'.heap[c]? = w.heap[c]? := by
    intro c hc _
    refine hoth c ?_
    rintro rfl
    exact hc ((hXeq _).2 (.inr hXb))
  have hex : ∀ t, excl (rget (s.set d r') t) = true → excl (rget s t) = true := by
    intro t ht
    rw [rget_set] at ht
    split at ht
    · rename_i hc
      rw [← hc.1, hd]; exact he
    · exact ht
  refine ⟨hdf, by rw [List.length_set]; exact hs, ?_, hl, hly, ?_, ?_⟩
  · exact ⟨hos.trans hb.os, htape.trans hb.tape, hout.trans hb.output, by rw [hsize]; exact hb.size, fun k hk => (hoth k (fun e => hk (e ▸ hbB))).trans (hb.block k hk)⟩
  · intro t
    rw [rget_set]
    split
    · rename_i hc
      obtain ⟨rfl, _⟩ := hc
      exact hnew _ hXeq
    · rename_i hc
      have h0 := hreg t
      have hne : excl (rget s t) = true → blockOf (a.tmps.getD t Go.undef) ≠ some b := by
        intro h1 h2
        have := hinj d t b (by rw [hd]; exact he) h1 hv h2
        subst this
        refine hc ⟨rfl, ?_⟩
        rcases Nat.lt_or_ge d s.length with hlt | hge
        · exact hlt
        · simp only [rget, List.getD_eq_getElem?_getD, List.getElem?_eq_none hge] at hd
          subst hd; cases he
      cases hrt : rget s t with
      | val x => rw [hrt] at h0; exact (Rd.mono h0 hmono).world hext
      | box cs =>
        rw [hrt] at h0 hne
        obtain ⟨b', e1, e2, e3⟩ := h0
        refine ⟨b', e1, e2, (e3.mono hmono).world hext (hoth b' ?_)⟩
        rintro rfl
        exact hne rfl (by rw [e1]; rfl)
      | own k n cs =>
        rw [hrt] at h0 hne
        refine (OwnRd.mono h0 hmono).world hext (fun b' hb' _ => hoth b' ?_)
        rintro rfl
        exact hne rfl hb'
      | agn bb k n cs =>
        rw [hrt] at h0 hne
        refine (AgnRd.mono h0 hmono).world hext (fun b' hb' _ => hoth b' ?_)
        rintro rfl
        exact hne rfl hb'
      | bxl d' =>
        rw [hrt] at h0 hne
        obtain ⟨e1, b', e2, e3, e4, e5⟩ := h0
        refine ⟨e1, b', e2, e3, by rw [hsize]; exact e4, fun i hi => ?_⟩
        rw [← e5 i hi]
        refine cell?_of_heap (hoth b' ?_)
        rintro rfl
        exact hne rfl (by rw [e2]; rfl)
      | mem cs =>
        rw [hrt] at h0
        obtain ⟨b', off, e1, e2, e3⟩ := h0
        refine ⟨b', off, e1, fun hne hx => e2 hne ((hXeq _).1 hx), ?_⟩
        by_cases hnil : cs = []
        · subst hnil; exact ⟨fun x hx => (by cases hx), fun i hi => (by simp at hi)⟩
        · refine (e3.mono hmono).world hext (fun _ => hoth b' ?_)
          rintro rfl
          exact e2 hnil (.inr hXb)
      | ptr d' off => rw [hrt] at h0; exact h0
      | dup d' => rw [hrt] at h0; exact h0
      | sub _ _ _ _ => rw [hrt] at h0; exact h0
      | dead => trivial
  · intro t t' c h1 h2 h3 h4
    exact hinj t t' c (hex t h1) (hex t' h2) h3 h4

/-- Slots may be forgotten. -/
theorem Rel.kill {Y X0 : Nat → Prop} {roots : List (Nat × Nat)} {w0 : Base} {w : World} {s : State} {a : Act} (h : Rel Y X0 roots w0 s a w) (ks : List Nat) : Rel Y X0 roots w0 (Go.Ai.kill s ks) a w := by
  obtain ⟨hdf, hs, hb, hl, hly, hreg, hinj⟩ := h
  have hXS : ∀ b, XS (Go.Ai.kill s ks) a.tmps b → XS s a.tmps b := by
    rintro b ⟨t, h1, h2⟩
    rw [rget_killAll] at h1
    split at h1
    · cases h1
    · exact ⟨t, h1, h2⟩
  have hmono : ∀ c, (X0 c ∨ XS (Go.Ai.kill s ks) a.tmps c) → (X0 c ∨ XS s a.tmps c) ∨ w.heap.size ≤ c := fun c hc => .inl (hc.imp id (hXS c))
  refine ⟨hdf, by rw [Go.Ai.kill, length_rputs]; exact hs, hb, hl, hly, fun t => ?_, fun t t' b h1 h2 h3 h4 => ?_⟩
  · rw [rget_killAll]
    split
    · trivial
    · have h0 := hreg t
      cases hrt : rget s t with
      | val x => rw [hrt] at h0; exact Rd.mono h0 hmono
      | box cs => rw [hrt] at h0; obtain ⟨b, e1, e2, e3⟩ := h0; exact ⟨b, e1, e2, e3.mono hmono⟩
      | own k n cs => rw [hrt] at h0; exact OwnRd.mono h0 hmono
      | agn bb k n cs => rw [hrt] at h0; exact AgnRd.mono h0 hmono
      | bxl d' => rw [hrt] at h0; exact h0
      | mem cs => rw [hrt] at h0; obtain ⟨b, off, e1, e2, e3⟩ := h0; exact ⟨b, off, e1, fun hne hx => e2 hne (hx.imp id (hXS b)), e3.mono hmono⟩
      | ptr d off => rw [hrt] at h0; exact h0
      | dup d => rw [hrt] at h0; exact h0
      | sub _ _ _ _ => rw [hrt] at h0; exact h0
      | dead => trivial
  · rw [rget_killAll] at h1 h2
    split at h1
    · cases h1
    · split at h2
      · cases h2
      · exact hinj t t' b h1 h2 h3 h4

theorem Rel.ownLow {Y X0 : Nat → Prop} {roots : List (Nat × Nat)} {w0 : Base} {w : World} {s : State} {a : Act} (h : Rel Y X0 roots w0 s a w) {x k n : Nat} {cs : List AV} (hx : rget s x = .own k n cs) :
    (a.tmps.getD x Go.undef = .slice none 0 0 ∧ n = 0 ∧ cs = []) ∨
    ∃ b cap, a.tmps.getD x Go.undef = .slice (some ⟨b, 0, none⟩) n cap ∧ n ≤ cap ∧ cs.length = n * k ∧ w0.mine b ∧ BlockRd Y (fun b => X0 b ∨ XS s a.tmps b) w b 0 cs ∧ Room w b (cap * k) ∧ XS s a.tmps b := by
  have h0 := h.reg x
  rw [hx] at h0
  rcases h0 with h0 | ⟨b, cap, e1, e2, e3, e4, e5, e6⟩
  · exact .inl h0
  · exact .inr ⟨b, cap, e1, e2, e3, e4, e5, e6, x, by rw [hx]; rfl, by rw [e1]; rfl⟩

/-- A slot's own block is one of the call's own. -/
theorem Rel.exclLow {Y X0 : Nat → Prop} {roots : List (Nat × Nat)} {w0 : Base} {w : World} {s : State} {a : Act} (h : Rel Y X0 roots w0 s a w) {x b : Nat} (hx : excl (rget s x) = true) (hb : blockOf (a.tmps.getD x Go.undef) = some b) : w0.mine b ∧ b < w.heap.size := by
  have h0 := h.reg x
  cases hrt : rget s x with
  | box cs =>
    rw [hrt] at h0
    obtain ⟨b', e1, e2, e3⟩ := h0
    rw [e1] at hb
    simp only [blockOf, rootOf, Option.map_some, Option.some.injEq] at hb
    exact hb ▸ ⟨e2, e3.lt⟩
  | own k n cs => rw [hrt] at h0; exact OwnRd.block h0 hb
  | agn bb k n cs => rw [hrt] at h0; exact AgnRd.block h0 hb
  | bxl d' =>
    rw [hrt] at h0
    obtain ⟨_, b', e1, e2, e3, _⟩ := h0
    rw [e1] at hb
    simp only [blockOf, rootOf, Option.map_some, Option.some.injEq] at hb
    exact hb ▸ ⟨e2, e3⟩
  | val x => rw [hrt] at hx; cases hx
  | ptr d off => rw [hrt] at hx; cases hx
  | mem cs => rw [hrt] at hx; cases hx
  | dup d => rw [hrt] at hx; cases hx
  | sub _ _ _ _ => rw [hrt] at hx; cases hx
  | dead => rw [hrt] at hx; cases hx

/-- **What slot x owned goes over to slot d, or is frozen there; its block may have turned.** -/
theorem Rel.shift' {Y X0 : Nat → Prop} {roots : List (Nat × Nat)} {w0 : Base} {w w' : World} {s : State} {a : Act} (h : Rel Y X0 roots w0 s a w) {x d : Nat} {r : Reg} {v : Value} {b' : Nat}
    (hx : excl (rget s x) = true) (hb : blockOf (a.tmps.getD x Go.undef) = some b') (hks : ∀ t, (t, d) ∈ roots → isLink (rget s t) = false)
    (hos : w'.os = w.os) (htape : w'.tape = w.tape) (hout : w'.output = w.output) (hsize : w'.heap.size = w.heap.size) (hoth : ∀ c, c ≠ b' → w'.heap[c]? = w.heap[c]?) (hrb : excl r = true → blockOf v = some b')
    (hnew : ∀ X : Nat → Prop, (∀ c, X c → (X0 c ∨ XS s a.tmps c)) → (excl r = false → ¬ X b') → RegOk Y X w0.mine roots (a.tmps.setIfInBounds d v) w' d v r) :
    Rel Y X0 roots w0 (rput (rputs s [(x, Reg.dead)]) (some d) r) (a.put (some d) v) w' := by
  have hbB := (h.exclLow hx hb).1
  have hXb : XS s a.tmps b' := ⟨x, hx, hb⟩
  obtain ⟨hdf, hs, hbel, hl, hly, hreg, hinj⟩ := h
  have hown : ∀ t, excl (rget s t) = true → blockOf (a.tmps.getD t Go.undef) = some b' → t = x := fun t h1 h2 => hinj t x b' h1 hx h2 hb
  have key : ∀ t, rget (rput (rputs s [(x, Reg.dead)]) (some d) r) t = (if d = t ∧ d < s.length then r else if x = t then .dead else rget s t) := by
    intro t
    simp only [rput, rputs]
    rw [rget_set, List.length_set, rget_kill1]
  have kv : ∀ t, (a.put (some d) v).tmps.getD t Go.undef = if d = t ∧ d < s.length then v else a.tmps.getD t Go.undef := by
    intro t
    simp only [Act.put]
    rw [getD_put, hs]
  have hXold : ∀ c, XS (rput (rputs s [(x, Reg.dead)]) (some d) r) (a.put (some d) v).tmps c → XS s a.tmps c := by
    rintro c ⟨t, h1, h2⟩
    rw [key] at h1
    rw [kv] at h2
    by_cases hc : d = t ∧ d < s.length
    · rw [if_pos hc] at h1 h2
      rw [hrb h1] at h2
      cases h2
      exact hXb
    · rw [if_neg hc] at h1 h2
      split at h1
      · cases h1
      · exact ⟨t, h1, h2⟩
  have hnb : excl r = false → ¬ (X0 b' ∨ XS (rput (rputs s [(x, Reg.dead)]) (some d) r) (a.put (some d) v).tmps b') := by
    rintro he (hx0 | ⟨t, h1, h2⟩)
    · exact hl b' hx0 hbB
    · rw [key] at h1
      rw [kv] at h2
      by_cases hc : d = t ∧ d < s.length
      · rw [if_pos hc, he] at h1; cases h1
      · rw [if_neg hc] at h1 h2
        split at h1
        · cases h1
        · rename_i hxt
          exact hxt (hown t h1 h2).symm
  generalize hXd : (fun c => X0 c ∨ XS (rput (rputs s [(x, Reg.dead)]) (some d) r) (a.put (some d) v).tmps c) = X
  have hX1 : ∀ c, X c → (X0 c ∨ XS s a.tmps c) := by
    intro c hc
    rw [← hXd] at hc
    exact hc.imp id (hXold c)
  have hX2 : ∀ c, X c → (X0 c ∨ XS s a.tmps c) ∨ w'.heap.size ≤ c := fun c hc => .inl (hX1 c hc)
  have hext : ∀ c, ¬ (X0 c ∨ XS s a.tmps c) → c < w.heap.size → w'.heap[c]? = w.heap[c]? := by
    intro c hc _
    refine hoth c ?_
    rintro rfl
    exact hc (.inr hXb)
  refine ⟨hdf, by simp only [Act.put, Array.size_setIfInBounds, rput, List.length_set, length_rputs]; exact hs, ?_, hl, hly, ?_, ?_⟩
  · exact ⟨hos.trans hbel.os, htape.trans hbel.tape, hout.trans hbel.output, by rw [hsize]; exact hbel.size, fun c hc => (hoth c (fun e => hc (e ▸ hbB))).trans (hbel.block c hc)⟩
  · intro t
    rw [hXd, key, kv]
    by_cases hc : d = t ∧ d < s.length
    · rw [if_pos hc, if_pos hc]
      obtain ⟨rfl, _⟩ := hc
      exact hnew X hX1 (fun he => by rw [← hXd]; exact hnb he)
    · rw [if_neg hc, if_neg hc]
      by_cases hxt : x = t
      · rw [if_pos hxt]; trivial
      · rw [if_neg hxt]
        have h0 := hreg t
        have hne : excl (rget s t) = true → ∀ c, blockOf (a.tmps.getD t Go.undef) = some c → c ≠ b' := by
          intro h1 c h2 e
          subst e
          exact hxt (hown t h1 h2).symm
        cases hrt : rget s t with
        | val y => rw [hrt] at h0; exact (Rd.world h0 hext).mono hX2
        | box cs =>
          rw [hrt] at h0 hne
          obtain ⟨c, e1, e2, e3⟩ := h0
          exact ⟨c, e1, e2, (e3.world hext (hoth c (hne rfl c (by rw [e1]; rfl)))).mono hX2⟩
        | own k n cs =>
          rw [hrt] at h0 hne
          exact (OwnRd.world h0 hext (fun c hc _ => hoth c (hne rfl c hc))).mono hX2
        | agn bb k n cs =>
          rw [hrt] at h0 hne
          exact (AgnRd.world h0 hext (fun c hc _ => hoth c (hne rfl c hc))).mono hX2
        | bxl d' =>
          rw [hrt] at h0 hne
          obtain ⟨e1, b, e2, e3, e4, e5⟩ := h0
          refine ⟨e1, b, e2, e3, by rw [hsize]; exact e4, fun i hi => ?_⟩
          rw [kv, if_neg]
          · rw [← e5 i hi]
            exact cell?_of_heap (hoth b (hne rfl b (by rw [e2]; rfl)))
          · rintro ⟨rfl, _⟩
            have := hks t e1
            rw [hrt] at this; cases this
        | mem cs =>
          rw [hrt] at h0
          obtain ⟨c, off, e1, e2, e3⟩ := h0
          refine ⟨c, off, e1, fun hn hx => e2 hn (hX1 c hx), ?_⟩
          by_cases hnil : cs = []
          · subst hnil; exact ⟨fun x hx => (by cases hx), fun i hi => (by simp at hi)⟩
          · refine (e3.world hext (fun _ => hoth c ?_)).mono hX2
            rintro rfl
            exact e2 hnil (.inr hXb)
        | ptr d' off =>
          rw [hrt] at h0
          obtain ⟨e1, p, e2, e3, e4⟩ := h0
          refine ⟨e1, p, ?_, e3, e4⟩
          rw [kv, if_neg]
          · exact e2
          · rintro ⟨rfl, _⟩
            have := hks t e1
            rw [hrt] at this; cases this
        | dup d' =>
          rw [hrt] at h0
          obtain ⟨e1, e2⟩ := h0
          refine ⟨e1, ?_⟩
          rw [kv, if_neg]
          · exact e2
          · rintro ⟨rfl, _⟩
            have := hks t e1
            rw [hrt] at this; cases this
        | sub d' _ _ _ =>
          rw [hrt] at h0
          obtain ⟨e1, e2⟩ := h0
          refine ⟨e1, ?_⟩
          rw [kv, if_neg]
          · exact e2
          · rintro ⟨rfl, _⟩
            have := hks t e1
            rw [hrt] at this; cases this
        | dead => trivial
  · intro t t' c h1 h2 h3 h4
    rw [key] at h1 h2
    rw [kv] at h3 h4
    by_cases c1 : d = t ∧ d < s.length <;> by_cases c2 : d = t' ∧ d < s.length
    · exact c1.1.symm.trans c2.1
    · rw [if_pos c1] at h1 h3
      rw [if_neg c2] at h2 h4
      split at h2
      · cases h2
      · rename_i hxt
        rw [hrb h1] at h3
        cases h3
        exact absurd (hown t' h2 h4).symm hxt
    · rw [if_neg c1] at h1 h3
      rw [if_pos c2] at h2 h4
      split at h1
      · cases h1
      · rename_i hxt
        rw [hrb h2] at h4
        cases h4
        exact absurd (hown t h1 h3).symm hxt
    · rw [if_neg c1] at h1 h3
      rw [if_neg c2] at h2 h4
      split at h1
      · cases h1
      · split at h2
        · cases h2
        · exact hinj t t' c h1 h2 h3 h4

theorem Rel.shift {Y X0 : Nat → Prop} {roots : List (Nat × Nat)} {w0 : Base} {w w' : World} {s : State} {a : Act} (h : Rel Y X0 roots w0 s a w) {x d k n : Nat} {cs : List AV} {r : Reg} {v : Value} {b : Nat}
    (hx : rget s x = .own k n cs) (hb : blockOf (a.tmps.getD x Go.undef) = some b) (hks : ∀ t, (t, d) ∈ roots → isLink (rget s t) = false)
    (hos : w'.os = w.os) (htape : w'.tape = w.tape) (hout : w'.output = w.output) (hsize : w'.heap.size = w.heap.size) (hoth : ∀ c, c ≠ b → w'.heap[c]? = w.heap[c]?) (hrb : excl r = true → blockOf v = some b)
    (hnew : ∀ X : Nat → Prop, (∀ c, X c → (X0 c ∨ XS s a.tmps c)) → (excl r = false → ¬ X b) → RegOk Y X w0.mine roots (a.tmps.setIfInBounds d v) w' d v r) :
    Rel Y X0 roots w0 (rput (rputs s [(x, Reg.dead)]) (some d) r) (a.put (some d) v) w' :=
  h.shift' (by rw [hx]; rfl) hb hks hos htape hout hsize hoth hrb hnew

/-- What slot x owns goes over to slot d as it is. -/
theorem Rel.pass {Y X0 : Nat → Prop} {roots : List (Nat × Nat)} {w0 : Base} {w : World} {s : State} {a : Act} (h : Rel Y X0 roots w0 s a w) {x d : Nat} {r : Reg} {v : Value} (hx : excl (rget s x) = true) (hv : blockOf v = blockOf (a.tmps.getD x Go.undef))
    (hks : ∀ t, (t, d) ∈ roots → isLink (rget s t) = false) (hnew : ∀ X : Nat → Prop, (∀ c, X c → (X0 c ∨ XS s a.tmps c)) → RegOk Y X w0.mine roots (a.tmps.setIfInBounds d v) w d v r) :
    Rel Y X0 roots w0 (rput (rputs s [(x, Reg.dead)]) (some d) r) (a.put (some d) v) w := by
  cases hb : blockOf (a.tmps.getD x Go.undef) with
  | none =>
    rw [hb] at hv
    refine Rel.write (ks := [x]) h (Below.refl _ _) (fun t ht => .inr (hks t ht)) (fun _ b hb => by rw [hv] at hb; cases hb) (fun X h1 _ => hnew X fun c hc => ?_)
    rcases h1 c hc with h2 | ⟨_, h2⟩
    · exact h2
    · rw [hv] at h2; cases h2
  | some b => exact h.shift' hx hb hks rfl rfl rfl rfl (fun _ _ => rfl) (fun _ => by rw [hv, hb]) (fun X h1 _ => hnew X h1)

/-- Of a slot of which nothing was known something is known again. -/
theorem Rel.wake {Y X0 : Nat → Prop} {roots : List (Nat × Nat)} {w0 : Base} {w : World} {s : State} {a : Act} (h : Rel Y X0 roots w0 s a w) {x : Nat} {y : AV} (hx : rget s x = .dead)
    (hr : Rd Y (fun b => X0 b ∨ XS s a.tmps b) w (a.tmps.getD x Go.undef) y) : Rel Y X0 roots w0 (s.set x (.val y)) a w := by
  obtain ⟨hdf, hs, hbel, hl, hly, hreg, hinj⟩ := h
  have hex : ∀ t, excl (rget (s.set x (.val y)) t) = excl (rget s t) := by
    intro t
    rw [rget_set]
    split
    · rename_i g
      rw [← g.1, hx]; rfl
    · rfl
  have hXS : XS (s.set x (.val y)) a.tmps = XS s a.tmps := by
    funext b
    unfold XS
    simp only [hex]
  refine ⟨hdf, by rw [List.length_set]; exact hs, hbel, hl, hly, fun t => ?_, fun t t' b h1 h2 h3 h4 => hinj t t' b (by rw [← hex]; exact h1) (by rw [← hex]; exact h2) h3 h4⟩
  rw [hXS, rget_set]
  split
  · rename_i g
    rw [← g.1]
    exact hr
  · exact hreg t

/-- What slot x owns is written no more. -/
theorem Rel.unown {Y X0 : Nat → Prop} {roots : List (Nat × Nat)} {w0 : Base} {w : World} {s : State} {a : Act} (h : Rel Y X0 roots w0 s a w) {x : Nat} {r : Reg} (hx : excl (rget s x) = true) (he : excl r = false)
    (hnew : ∀ X : Nat → Prop, (∀ c, X c → (X0 c ∨ XS s a.tmps c) ∨ w.heap.size ≤ c) → (∀ b, blockOf (a.tmps.getD x Go.undef) = some b → ¬ X b) → RegOk Y X w0.mine roots a.tmps w x (a.tmps.getD x Go.undef) r) : Rel Y X0 roots w0 (s.set x r) a w := by
  have hlow := fun b hb => (h.exclLow (b := b) hx hb).1
  obtain ⟨hdf, hs, hbel, hl, hly, hreg, hinj⟩ := h
  have hlt : x < s.length := by
    rcases Nat.lt_or_ge x s.length with hlt | hge
    · exact hlt
    · simp only [rget, List.getD_eq_getElem?_getD, List.getElem?_eq_none hge] at hx; cases hx
  have key : ∀ t, rget (s.set x r) t = if x = t then r else rget s t := by
    intro t
    rw [rget_set]
    by_cases hxt : x = t
    · rw [if_pos ⟨hxt, hlt⟩, if_pos hxt]
    · rw [if_neg (fun e => hxt e.1), if_neg hxt]
  have hXold : ∀ c, XS (s.set x r) a.tmps c → XS s a.tmps c := by
    rintro c ⟨t, h1, h2⟩
    rw [key] at h1
    split at h1
    · rw [he] at h1; cases h1
    · exact ⟨t, h1, h2⟩
  have hnb : ∀ b, blockOf (a.tmps.getD x Go.undef) = some b → ¬ (X0 b ∨ XS (s.set x r) a.tmps b) := by
    rintro b hb (hx0 | ⟨t, h1, h2⟩)
    · exact hl b hx0 (hlow b hb)
    · rw [key] at h1
      split at h1
      · rw [he] at h1; cases h1
      · rename_i hxt
        exact hxt (hinj t x b h1 hx h2 hb).symm
  have hmono : ∀ c, (X0 c ∨ XS (s.set x r) a.tmps c) → (X0 c ∨ XS s a.tmps c) ∨ w.heap.size ≤ c := fun c hc => .inl (hc.imp id (hXold c))
  refine ⟨hdf, by rw [List.length_set]; exact hs, hbel, hl, hly, fun t => ?_, fun t t' b h1 h2 h3 h4 => ?_⟩
  · rw [key]
    by_cases hxt : x = t
    · subst hxt
      rw [if_pos rfl]
      exact hnew _ hmono hnb
    · rw [if_neg hxt]
      have h0 := hreg t
      cases hrt : rget s t with
      | val x => rw [hrt] at h0; exact Rd.mono h0 hmono
      | box cs => rw [hrt] at h0; obtain ⟨b, e1, e2, e3⟩ := h0; exact ⟨b, e1, e2, e3.mono hmono⟩
      | own k n cs => rw [hrt] at h0; exact OwnRd.mono h0 hmono
      | agn bb k n cs => rw [hrt] at h0; exact AgnRd.mono h0 hmono
      | bxl d' => rw [hrt] at h0; exact h0
      | mem cs => rw [hrt] at h0; obtain ⟨b, off, e1, e2, e3⟩ := h0; exact ⟨b, off, e1, fun hne hx => e2 hne (hx.imp id (hXold b)), e3.mono hmono⟩
      | ptr d off => rw [hrt] at h0; exact h0
      | dup d => rw [hrt] at h0; exact h0
      | sub _ _ _ _ => rw [hrt] at h0; exact h0
      | dead => trivial
  · rw [key] at h1 h2
    split at h1
    · rw [he] at h1; cases h1
    · split at h2
      · rw [he] at h2; cases h2
      · exact hinj t t' b h1 h2 h3 h4
theorem Rel.freeze {Y X0 : Nat → Prop} {roots : List (Nat × Nat)} {w0 : Base} {w : World} {s : State} {a : Act} (h : Rel Y X0 roots w0 s a w) {x k n : Nat} {cs : List AV} (hx : rget s x = .own k n cs) : Rel Y X0 roots w0 (s.set x (.val (.sl n cs))) a w := by
  refine h.unown (by rw [hx]; rfl) rfl fun X h1 h2 => ?_
  have h0 := h.reg x
  rw [hx] at h0
  exact OwnRd.frozen h0 h1 h2 h.lowY
theorem Rel.freezeBox {Y X0 : Nat → Prop} {roots : List (Nat × Nat)} {w0 : Base} {w : World} {s : State} {a : Act} (h : Rel Y X0 roots w0 s a w) {x : Nat} {cs : List AV} (hx : rget s x = .box cs) : Rel Y X0 roots w0 (s.set x (.mem cs)) a w := by
  refine h.unown (by rw [hx]; rfl) rfl fun X h1 h2 => ?_
  have h0 := h.reg x
  rw [hx] at h0
  obtain ⟨b, e1, e2, e3⟩ := h0
  exact ⟨b, 0, e1, fun _ => h2 b (by rw [e1]; rfl), (e3.mono h1).mem⟩

/-- A pointer to memory that nobody writes, as a value. -/
theorem MemRd.pt {Y X : Nat → Prop} {w : World} {b off : Nat} {cs : List AV} (hX : cs ≠ [] → ¬ X b) (h : MemRd Y X w b off cs) : Rd Y X w (.pointer (some ⟨b, off, none⟩)) (.pt cs) := by
  obtain ⟨hd, hm⟩ := h
  refine .pt b off cs (fun i => (w.cell? ⟨b, off + i, none⟩).getD Go.undef) hd hX (fun i hi => ?_) (fun i hi => ?_)
  · obtain ⟨u, h1, _⟩ := hm i hi
    rw [h1]; rfl
  · obtain ⟨u, h1, h2⟩ := hm i hi
    rw [h1]; exact h2
theorem Rd.ofPt {Y X : Nat → Prop} {w : World} {v : Value} {cs : List AV} (h : Rd Y X w v (.pt cs)) : ∃ b off, v = .pointer (some ⟨b, off, none⟩) ∧ (cs ≠ [] → ¬ X b) ∧ MemRd Y X w b off cs := by
  cases h with
  | pt b off _ f hd hX hcell hr => exact ⟨b, off, rfl, hX, hd, fun i hi => ⟨f i, hcell i hi, hr i hi⟩⟩

end Go.Ai
