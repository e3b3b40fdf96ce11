/- How abstract data lie in memory: the relation between the abstract machine's slots and the model's frame and world. -/
import Derived.Test.YthnnfemologhfaaAbs2
namespace Go.Ai
open Go.RowKit

/-- Each is the content of one cell. -/
def Dat (cs : List AV) : Prop := ∀ x ∈ cs, isData x = true

/-- In the world w the value v reads as x; no block of X is read, and none of Y by a slice with numbers in it. -/
inductive Rd (Y X : Nat → Prop) (w : World) : Value → AV → Prop where
  | int (k : IntKind) (n : Int) : Rd Y X w (.int k n) (.int k n)
  | bool (b : Bool) : Rd Y X w (.bool b) (.bool b)
  | str (s : ByteArray) : Rd Y X w (.string s) (.str s)
  | undef : Rd Y X w Go.undef .undef
  | agg (vs : Array Value) (cs : List AV) (hd : Dat cs) (h : vs.size = cs.length) (hc : ∀ (i : Nat) (h1 : i < vs.size) (h2 : i < cs.length), Rd Y X w vs[i] cs[i]) : Rd Y X w (.agg vs) (.agg cs)
  | tup (vs : Array Value) (cs : List AV) (h : vs.size = cs.length) (hc : ∀ (i : Nat) (h1 : i < vs.size) (h2 : i < cs.length), Rd Y X w vs[i] cs[i]) : Rd Y X w (.tuple vs) (.tup cs)
  | nil : Rd Y X w (.slice none 0 0) .nil
  | nil0 : Rd Y X w (.slice none 0 0) (.sl 0 [])
  | e0 (a : Addr) (c : Nat) : Rd Y X w (.slice (some a) 0 c) (.sl 0 [])
  | sl (b off n cap : Nat) (cs : List AV) (f : Nat → Value) (hd : Dat cs) (hn : n ≤ cap) (hX : cs ≠ [] → ¬ X b) (hY : (∃ c ∈ cs, isI c = true) → ¬ Y b) (hcell : ∀ i, i < cs.length → w.cell? ⟨b, off + i, none⟩ = some (f i))
      (hr : ∀ (i : Nat) (h : i < cs.length), Rd Y X w (f i) cs[i]) : Rd Y X w (.slice (some ⟨b, off, none⟩) n cap) (.sl n cs)

theorem cell?_of_heap {w w' : World} {p : Addr} (h : w'.heap[p.block]? = w.heap[p.block]?) : w'.cell? p = w.cell? p := by
  simp only [World.cell?, h]

theorem block_lt {w : World} {p : Addr} {v : Value} (h : w.cell? p = some v) : p.block < w.heap.size := by
  rcases Nat.lt_or_ge p.block w.heap.size with h1 | h1
  · exact h1
  · simp [World.cell?, Array.getElem?_eq_none h1] at h

theorem Rd.world {Y X : Nat → Prop} {w w' : World} {v : Value} {x : AV} (h : Rd Y X w v x) (hw : ∀ b, ¬ X b → b < w.heap.size → w'.heap[b]? = w.heap[b]?) : Rd Y X w' v x := by
  induction h with
  | int k n => exact .int k n
  | bool b => exact .bool b
  | str s => exact .str s
  | undef => exact .undef
  | agg vs cs hd h hc ih => exact .agg vs cs hd h ih
  | tup vs cs h hc ih => exact .tup vs cs h ih
  | nil => exact .nil
  | nil0 => exact .nil0
  | e0 a c => exact .e0 a c
  | sl b off n cap cs f hd hn hX hY hcell hr ih =>
    refine .sl b off n cap cs f hd hn hX hY (fun i hi => ?_) ih
    have h1 := hcell i hi
    rw [cell?_of_heap (hw b (hX (by intro e; subst e; simp at hi)) (block_lt h1))]
    exact h1

theorem Rd.mono {Y X X' : Nat → Prop} {w : World} {v : Value} {x : AV} (h : Rd Y X w v x) (hX : ∀ b, X' b → X b ∨ w.heap.size ≤ b) : Rd Y X' w v x := by
  induction h with
  | int k n => exact .int k n
  | bool b => exact .bool b
  | str s => exact .str s
  | undef => exact .undef
  | agg vs cs hd h hc ih => exact .agg vs cs hd h ih
  | tup vs cs h hc ih => exact .tup vs cs h ih
  | nil => exact .nil
  | nil0 => exact .nil0
  | e0 a c => exact .e0 a c
  | sl b off n cap cs f hd hn hXb hY hcell hr ih =>
    refine .sl b off n cap cs f hd hn (fun hne hb => ?_) hY hcell ih
    rcases hX b hb with h1 | h1
    · exact hXb hne h1
    · have h0 : 0 < cs.length := List.length_pos_iff.2 hne
      have := block_lt (hcell 0 h0)
      simp only at this
      omega

/-- Another set of blocks is left unread. -/
theorem Rd.lend {Y X Y' X' : Nat → Prop} {w : World} {v : Value} {x : AV} (h : Rd Y X w v x) (hX : ∀ b, X' b → X b) (hY : ∀ b, Y' b → Y b ∨ X b) : Rd Y' X' w v x := by
  induction h with
  | int k n => exact .int k n
  | bool b => exact .bool b
  | str s => exact .str s
  | undef => exact .undef
  | agg vs cs hd h hc ih => exact .agg vs cs hd h ih
  | tup vs cs h hc ih => exact .tup vs cs h ih
  | nil => exact .nil
  | nil0 => exact .nil0
  | e0 a c => exact .e0 a c
  | sl b off n cap cs f hd hn hXb hYb hcell hr ih =>
    refine .sl b off n cap cs f hd hn (fun hne hb => hXb hne (hX b hb)) (fun hi hb => ?_) hcell ih
    rcases hY b hb with h1 | h1
    · exact hYb hi h1
    · obtain ⟨c, hc, _⟩ := hi
      exact hXb (List.ne_nil_of_mem hc) h1

theorem Rd.back1 {Y X Y' X' : Nat → Prop} {w : World} {v : Value} {x : AV} (h : Rd Y' X' w v x) (hx : flatInts x = true) (hX : ∀ b, X b → X' b ∨ Y' b) (hY : ∀ b, Y b → Y' b) : Rd Y X w v x := by
  cases h with
  | int k n => exact .int k n
  | bool b => exact .bool b
  | str s => exact .str s
  | undef => exact .undef
  | agg vs cs hd h hc => cases hx
  | tup vs cs h hc => cases hx
  | nil => cases hx
  | nil0 => exact .nil0
  | e0 a c => exact .e0 a c
  | sl b off n cap cs f hd hn hXb hYb hcell hr =>
    simp only [flatInts, List.all_eq_true] at hx
    have hall : ∀ c ∈ cs, ¬ Y' b := fun c hc => hYb ⟨c, hc, hx c hc⟩
    refine .sl b off n cap cs f hd hn (fun hne hb => ?_) (fun ⟨c, hc, _⟩ hb => hall c hc (hY b hb)) hcell (fun i hi => ?_)
    · obtain ⟨c, hc⟩ := List.exists_mem_of_ne_nil cs hne
      rcases hX b hb with h1 | h1
      · exact hXb hne h1
      · exact hall c hc h1
    · have h1 := hx _ (List.getElem_mem hi)
      have h2 := hr i hi
      generalize cs[i] = c at h1 h2 ⊢
      generalize f i = u at h2 ⊢
      cases c <;> first | (cases h1; done) | (cases h2; exact .int _ _)

/-- What came back from one that was lent a block: it holds numbers only, so it does not read that block. -/
theorem Rd.back {Y X Y' X' : Nat → Prop} {w : World} {v : Value} {x : AV} (h : Rd Y' X' w v x) (hx : intsOnly x = true) (hX : ∀ b, X b → X' b ∨ Y' b) (hY : ∀ b, Y b → Y' b) : Rd Y X w v x := by
  cases h with
  | agg vs cs hd h hc =>
    simp only [intsOnly, List.all_eq_true] at hx
    exact .agg vs cs hd h fun i h1 h2 => (hc i h1 h2).back1 (hx _ (List.getElem_mem h2)) hX hY
  | int k n => exact .int k n
  | bool b => exact .bool b
  | str s => exact .str s
  | undef => exact .undef
  | tup vs cs h hc => cases hx
  | nil => cases hx
  | nil0 => exact .nil0
  | e0 a c => exact .e0 a c
  | sl b off n cap cs f hd hn hXb hYb hcell hr => exact Rd.back1 (.sl b off n cap cs f hd hn hXb hYb hcell hr) hx hX hY

/-- Cells that lie from a place on. -/
def MemRd (Y X : Nat → Prop) (w : World) (b off : Nat) (cs : List AV) : Prop :=
  Dat cs ∧ ∀ (i : Nat) (h : i < cs.length), ∃ v, w.cell? ⟨b, off + i, none⟩ = some v ∧ Rd Y X w v cs[i]

theorem MemRd.drop {Y X : Nat → Prop} {w : World} {b off : Nat} {cs : List AV} (h : MemRd Y X w b off cs) (k : Nat) : MemRd Y X w b (off + k) (cs.drop k) := by
  obtain ⟨hd, h⟩ := h
  refine ⟨fun x hx => hd x (List.mem_of_mem_drop hx), ?_⟩
  intro i hi
  have hi' : k + i < cs.length := by simp at hi; omega
  obtain ⟨v, h1, h2⟩ := h (k + i) hi'
  refine ⟨v, by rw [Nat.add_assoc]; exact h1, ?_⟩
  simpa using h2

theorem MemRd.world {Y X : Nat → Prop} {w w' : World} {b off : Nat} {cs : List AV} (h : MemRd Y X w b off cs) (hw : ∀ c, ¬ X c → c < w.heap.size → w'.heap[c]? = w.heap[c]?)
    (hb : b < w.heap.size → w'.heap[b]? = w.heap[b]?) : MemRd Y X w' b off cs := by
  obtain ⟨hd, h⟩ := h
  refine ⟨hd, ?_⟩
  intro i hi
  obtain ⟨v, h1, h2⟩ := h i hi
  exact ⟨v, by rw [cell?_of_heap (hb (block_lt h1))]; exact h1, h2.world hw⟩

theorem MemRd.mono {Y X X' : Nat → Prop} {w : World} {b off : Nat} {cs : List AV} (h : MemRd Y X w b off cs) (hX : ∀ b, X' b → X b ∨ w.heap.size ≤ b) : MemRd Y X' w b off cs := by
  obtain ⟨hd, h⟩ := h
  refine ⟨hd, ?_⟩
  intro i hi
  obtain ⟨v, h1, h2⟩ := h i hi
  exact ⟨v, h1, h2.mono hX⟩

/-- Where a slot's own variable or array lies. -/
def rootOf : Value → Option Addr
  | .pointer (some p) => some p
  | .slice (some p) _ _ => some p
  | _ => none
def blockOf (v : Value) : Option Nat := (rootOf v).map (·.block)

def excl : Reg → Bool
  | .box _ => true
  | .own _ _ _ => true
  | _ => false

/-- The block of a variable or of an owned array, all of it. -/
def BlockRd (Y X : Nat → Prop) (w : World) (b off : Nat) (cs : List AV) : Prop :=
  Dat cs ∧ ∃ (vs : Array Value) (T : TypeId), w.heap[b]? = some (.cells vs T (0, 0)) ∧ off + cs.length ≤ vs.size ∧ ∀ (i : Nat) (h : i < cs.length), ∃ v, vs[off + i]? = some v ∧ Rd Y X w v cs[i]

theorem BlockRd.mem {Y X : Nat → Prop} {w : World} {b off : Nat} {cs : List AV} (h : BlockRd Y X w b off cs) : MemRd Y X w b off cs := by
  obtain ⟨hd, vs, T, hb, _, hc⟩ := h
  refine ⟨hd, ?_⟩
  intro i hi
  obtain ⟨v, h1, h2⟩ := hc i hi
  exact ⟨v, by simp [World.cell?, hb, h1], h2⟩

theorem BlockRd.lt {Y X : Nat → Prop} {w : World} {b off : Nat} {cs : List AV} (h : BlockRd Y X w b off cs) : b < w.heap.size := by
  obtain ⟨_, vs, T, hb, _⟩ := h
  exact (Array.getElem?_eq_some_iff.1 hb).1

theorem BlockRd.world {Y X : Nat → Prop} {w w' : World} {b off : Nat} {cs : List AV} (h : BlockRd Y X w b off cs) (hw : ∀ c, ¬ X c → c < w.heap.size → w'.heap[c]? = w.heap[c]?)
    (hb : w'.heap[b]? = w.heap[b]?) : BlockRd Y X w' b off cs := by
  obtain ⟨hd, vs, T, h1, h2, h3⟩ := h
  exact ⟨hd, vs, T, by rw [hb]; exact h1, h2, fun i hi => let ⟨v, h4, h5⟩ := h3 i hi; ⟨v, h4, h5.world hw⟩⟩

theorem BlockRd.mono {Y X X' : Nat → Prop} {w : World} {b off : Nat} {cs : List AV} (h : BlockRd Y X w b off cs) (hX : ∀ b, X' b → X b ∨ w.heap.size ≤ b) : BlockRd Y X' w b off cs := by
  obtain ⟨hd, vs, T, h1, h2, h3⟩ := h
  exact ⟨hd, vs, T, h1, h2, fun i hi => let ⟨v, h4, h5⟩ := h3 i hi; ⟨v, h4, h5.mono hX⟩⟩

/-- The block has room for m cells. -/
def Room (w : World) (b m : Nat) : Prop := ∃ (vs : Array Value) (T : TypeId), w.heap[b]? = some (.cells vs T (0, 0)) ∧ m ≤ vs.size

theorem Room.world {w w' : World} {b m : Nat} (h : Room w b m) (hb : w'.heap[b]? = w.heap[b]?) : Room w' b m := by
  obtain ⟨vs, T, h1, h2⟩ := h
  exact ⟨vs, T, by rw [hb]; exact h1, h2⟩

/-- A slice that owns its array, or none: k cells an element, n elements. -/
def OwnRd (Y X : Nat → Prop) (B : Nat) (w : World) (v : Value) (k n : Nat) (cs : List AV) : Prop :=
  (v = .slice none 0 0 ∧ n = 0 ∧ cs = []) ∨
  ∃ b cap, v = .slice (some ⟨b, 0, none⟩) n cap ∧ n ≤ cap ∧ cs.length = n * k ∧ B ≤ b ∧ BlockRd Y X w b 0 cs ∧ Room w b (cap * k)

theorem OwnRd.world {Y X : Nat → Prop} {B : Nat} {w w' : World} {v : Value} {k n : Nat} {cs : List AV} (h : OwnRd Y X B w v k n cs) (hw : ∀ c, ¬ X c → c < w.heap.size → w'.heap[c]? = w.heap[c]?)
    (hb : ∀ b, blockOf v = some b → b < w.heap.size → w'.heap[b]? = w.heap[b]?) : OwnRd Y X B w' v k n cs := by
  rcases h with h | ⟨b, cap, e1, e2, e3, e4, e5, e6⟩
  · exact .inl h
  · have hbb : w'.heap[b]? = w.heap[b]? := hb b (by rw [e1]; rfl) e5.lt
    exact .inr ⟨b, cap, e1, e2, e3, e4, e5.world hw hbb, e6.world hbb⟩
theorem OwnRd.mono {Y X X' : Nat → Prop} {B : Nat} {w : World} {v : Value} {k n : Nat} {cs : List AV} (h : OwnRd Y X B w v k n cs) (hX : ∀ b, X' b → X b ∨ w.heap.size ≤ b) : OwnRd Y X' B w v k n cs := by
  rcases h with h | ⟨b, cap, e1, e2, e3, e4, e5, e6⟩
  · exact .inl h
  · exact .inr ⟨b, cap, e1, e2, e3, e4, e5.mono hX, e6⟩
theorem OwnRd.lower {Y X : Nat → Prop} {B B' : Nat} {w : World} {v : Value} {k n : Nat} {cs : List AV} (h : OwnRd Y X B w v k n cs) (hB : B' ≤ B) : OwnRd Y X B' w v k n cs := by
  rcases h with h | ⟨b, cap, e1, e2, e3, e4, e5, e6⟩
  · exact .inl h
  · exact .inr ⟨b, cap, e1, e2, e3, by omega, e5, e6⟩
theorem OwnRd.block {Y X : Nat → Prop} {B : Nat} {w : World} {v : Value} {k n : Nat} {cs : List AV} (h : OwnRd Y X B w v k n cs) {b : Nat} (hb : blockOf v = some b) : B ≤ b ∧ b < w.heap.size := by
  rcases h with ⟨rfl, _⟩ | ⟨b', cap, e1, e2, e3, e4, e5, e6⟩
  · cases hb
  · rw [e1] at hb
    simp only [blockOf, rootOf, Option.map_some, Option.some.injEq] at hb
    subst hb
    exact ⟨e4, e5.lt⟩
/-- As a value that nobody will write any more. -/
theorem OwnRd.frozen {Y X X' : Nat → Prop} {B : Nat} {w : World} {v : Value} {k n : Nat} {cs : List AV} (h : OwnRd Y X B w v k n cs) (hX : ∀ b, X' b → X b ∨ w.heap.size ≤ b) (hb : ∀ b, blockOf v = some b → ¬ X' b) (hY : ∀ b, Y b → b < B) : Rd Y X' w v (.sl n cs) := by
  rcases h with ⟨rfl, rfl, rfl⟩ | ⟨b, cap, e1, e2, e3, e4, e5, e6⟩
  · exact .nil0
  have hbb : ¬ X' b := hb b (by rw [e1]; rfl)
  obtain ⟨hd, hm⟩ := (e5.mono hX).mem
  subst e1
  refine .sl b 0 n cap cs (fun i => (w.cell? ⟨b, 0 + i, none⟩).getD Go.undef) hd e2 (fun _ => hbb) (fun _ h => by have := hY b h; omega) (fun i hi => ?_) (fun i hi => ?_)
  · obtain ⟨u, h1, _⟩ := hm i hi
    rw [h1]; rfl
  · obtain ⟨u, h1, h2⟩ := hm i hi
    rw [h1]; exact h2

/-- Lent: as a value that is read for a while. -/
theorem OwnRd.lent {Y X Y' X' : Nat → Prop} {B : Nat} {w : World} {v : Value} {k n : Nat} {cs : List AV} (h : OwnRd Y X B w v k n cs) (hX : ∀ b, X' b → X b) (hY : ∀ b, Y' b → Y b ∨ X b) (hb : ∀ b, blockOf v = some b → ¬ X' b) (hi : cs.all (fun c => !isI c) = true) : Rd Y' X' w v (.sl n cs) := by
  rcases h with ⟨rfl, rfl, rfl⟩ | ⟨b, cap, e1, e2, e3, e4, e5, e6⟩
  · exact .nil0
  have hbb : ¬ X' b := hb b (by rw [e1]; rfl)
  obtain ⟨hd, hm⟩ := e5.mem
  subst e1
  refine .sl b 0 n cap cs (fun i => (w.cell? ⟨b, 0 + i, none⟩).getD Go.undef) hd e2 (fun _ => hbb) (fun ⟨c, hc, h1⟩ _ => ?_) (fun i hi => ?_) (fun i hi => ?_)
  · have := List.all_eq_true.1 hi c hc
    rw [h1] at this
    cases this
  · obtain ⟨u, h1, _⟩ := hm i hi
    rw [h1]; rfl
  · obtain ⟨u, h1, h2⟩ := hm i hi
    rw [h1]; exact h2.lend hX hY

/-- The slot's value v (of the frame 'tm') is as the register says. 'B': the blocks from B on are the call's own. -/
def RegOk (Y X : Nat → Prop) (B : Nat) (roots : List (Nat × Nat)) (tm : Array Value) (w : World) (t : Nat) (v : Value) : Reg → Prop
  | .val x => Rd Y X w v x
  | .box cs => ∃ b, v = .pointer (some ⟨b, 0, none⟩) ∧ B ≤ b ∧ BlockRd Y X w b 0 cs
  | .ptr d off => (t, d) ∈ roots ∧ ∃ p, rootOf (tm.getD d Go.undef) = some p ∧ p.spot = none ∧ v = .pointer (some ⟨p.block, p.off + off, none⟩)
  | .mem cs => ∃ b off, v = .pointer (some ⟨b, off, none⟩) ∧ (cs ≠ [] → ¬ X b) ∧ MemRd Y X w b off cs
  | .own k n cs => OwnRd Y X B w v k n cs
  | .dup d => (t, d) ∈ roots ∧ v = tm.getD d Go.undef
  | .dead => True

/-- The blocks that belong to slots. -/
def XS (s : State) (tm : Array Value) (b : Nat) : Prop := ∃ t, excl (rget s t) = true ∧ blockOf (tm.getD t Go.undef) = some b

structure Rel (Y X0 : Nat → Prop) (roots : List (Nat × Nat)) (w0 : World) (s : State) (a : Act) (w : World) : Prop where
  dfr : a.defers = []
  size : a.tmps.size = s.length
  below : Below w0.heap.size w0 w
  low : ∀ b, X0 b → b < w0.heap.size
  lowY : ∀ b, Y b → b < w0.heap.size
  reg : ∀ t, RegOk Y (fun b => X0 b ∨ XS s a.tmps b) w0.heap.size roots a.tmps w t (a.tmps.getD t Go.undef) (rget s t)
  inj : ∀ t t' b, excl (rget s t) = true → excl (rget s t') = true → blockOf (a.tmps.getD t Go.undef) = some b → blockOf (a.tmps.getD t' Go.undef) = some b → t = t'

theorem Below.ext {w w' : World} (h : Below w.heap.size w w') : ∀ b, b < w.heap.size → w'.heap[b]? = w.heap[b]? := h.block

theorem getD_put (tm : Array Value) (d : Nat) (v : Value) (t : Nat) : (tm.setIfInBounds d v).getD t Go.undef = if d = t ∧ d < tm.size then v else tm.getD t Go.undef := by
  simp only [Array.getD_eq_getD_getElem?, Array.getElem?_setIfInBounds]
  by_cases h : d = t
  · subst h
    by_cases h2 : d < tm.size
    · simp [h2]
    · simp [h2]
  · simp [h]

theorem rget_kill (ks : List Nat) : ∀ (s : State) (t : Nat), rget (rputs s (ks.map fun u => (u, Reg.dead))) t = rget s t ∨ rget (rputs s (ks.map fun u => (u, Reg.dead))) t = .dead := by
  induction ks with
  | nil => exact fun s t => .inl rfl
  | cons k ks ih =>
    intro s t
    simp only [List.map_cons, rputs]
    rcases ih (s.set k .dead) t with h | h
    · rw [h, rget_set]
      split
      · exact .inr rfl
      · exact .inl rfl
    · exact .inr h

theorem rget_killed (ks : List Nat) : ∀ (s : State) (t : Nat), t ∈ ks → rget (rputs s (ks.map fun u => (u, Reg.dead))) t = .dead := by
  induction ks with
  | nil => intro s t h; cases h
  | cons k ks ih =>
    intro s t h
    simp only [List.map_cons, rputs]
    by_cases hk : t ∈ ks
    · exact ih _ t hk
    · have e : t = k := by
        cases h with
        | head => rfl
        | tail _ h => exact absurd h hk
      subst e
      rcases rget_kill ks (s.set t .dead) t with h1 | h1
      · rw [h1, rget_set]
        split
        · rfl
        · rename_i hn
          simp only [rget, List.getD_eq_getElem?_getD]
          have : s.length ≤ t := by simp at hn; exact hn
          rw [List.getElem?_eq_none this]; rfl
      · exact h1

theorem length_rputs (l : List (Nat × Reg)) : ∀ s : State, (rputs s l).length = s.length := by
  induction l with
  | nil => intro s; rfl
  | cons p l ih => intro s; obtain ⟨t, r⟩ := p; simp only [rputs, ih, List.length_set]

/-- **A slot gets a value; the world has grown by new blocks at most.** -/
theorem Rel.write {Y X0 : Nat → Prop} {roots : List (Nat × Nat)} {w0 w w' : World} {s : State} {a : Act} (h : Rel Y X0 roots w0 s a w) (hw : Below w.heap.size w w')
    {d : Nat} {v : Value} {r : Reg} {ks : List Nat} (hks : ∀ t, (t, d) ∈ roots → t ∈ ks ∨ rget s t = .dead)
    (hfresh : excl r = true → ∀ b, blockOf v = some b → w.heap.size ≤ b)
    (hr : ∀ X : Nat → Prop, (∀ b, X b → (X0 b ∨ XS s a.tmps b) ∨ (w.heap.size ≤ b ∧ blockOf v = some b)) → (excl r = false → ∀ b, X b → X0 b ∨ XS s a.tmps b) →
      RegOk Y X w0.heap.size roots (a.tmps.setIfInBounds d v) w' d v r) :
    Rel Y X0 roots w0 (rput (rputs s (ks.map fun u => (u, Reg.dead))) (some d) r) (a.put (some d) v) w' := by
  obtain ⟨hd, hs, hb, hl, hly, hreg, hinj⟩ := h
  have hsz : w0.heap.size ≤ w.heap.size := hb.size
  -- the slots of the new state
  have key : ∀ t, rget (rput (rputs s (ks.map fun u => (u, Reg.dead))) (some d) r) t = (if d = t ∧ d < s.length then r else rget (rputs s (ks.map fun u => (u, Reg.dead))) t) := by
    intro t
    simp only [rput]
    rw [rget_set, length_rputs]
  have kv : ∀ t, (a.put (some d) v).tmps.getD t Go.undef = if d = t ∧ d < s.length then v else a.tmps.getD t Go.undef := by
    intro t
    simp only [Act.put]
    rw [getD_put, hs]
  have hXnew : ∀ b, XS (rput (rputs s (ks.map fun u => (u, Reg.dead))) (some d) r) (a.put (some d) v).tmps b → XS s a.tmps b ∨ (excl r = true ∧ w.heap.size ≤ b ∧ blockOf v = some b) := by
    rintro b ⟨t, h1, h2⟩
    rw [key] at h1
    rw [kv] at h2
    by_cases hc : d = t ∧ d < s.length
    · rw [if_pos hc] at h1 h2
      exact .inr ⟨h1, hfresh h1 b h2, h2⟩
    · rw [if_neg hc] at h1 h2
      rcases rget_kill ks s t with hk | hk
      · rw [hk] at h1; exact .inl ⟨t, h1, h2⟩
      · rw [hk] at h1; cases h1
  generalize hXd : (fun b => X0 b ∨ XS (rput (rputs s (ks.map fun u => (u, Reg.dead))) (some d) r) (a.put (some d) v).tmps b) = X
  have hX1 : ∀ b, X b → (X0 b ∨ XS s a.tmps b) ∨ w.heap.size ≤ b := by
    intro b hXb
    rw [← hXd] at hXb
    rcases hXb with h | h
    · exact .inl (.inl h)
    · rcases hXnew b h with h | h
      · exact .inl (.inr h)
      · exact .inr h.2.1
  have hX1' : ∀ b, X b → (X0 b ∨ XS s a.tmps b) ∨ (w.heap.size ≤ b ∧ blockOf v = some b) := by
    intro b hXb
    rw [← hXd] at hXb
    rcases hXb with h | h
    · exact .inl (.inl h)
    · rcases hXnew b h with h | h
      · exact .inl (.inr h)
      · exact .inr h.2
  have hX2 : excl r = false → ∀ b, X b → X0 b ∨ XS s a.tmps b := by
    intro he b hXb
    rw [← hXd] at hXb
    rcases hXb with h | h
    · exact .inl h
    · rcases hXnew b h with h | h
      · exact .inr h
      · rw [he] at h; cases h.1
  have hext : ∀ (Y : Nat → Prop) (c : Nat), ¬ Y c → c < w.heap.size → w'.heap[c]? = w.heap[c]? := fun _ c _ hc => hw.block c hc
  refine ⟨hd, by simp only [Act.put, Array.size_setIfInBounds, rput, List.length_set, length_rputs]; exact hs, ?_, hl, hly, ?_, ?_⟩
  · exact hb.trans (hw.mono hsz)
  · intro t
    rw [hXd, key, kv]
    by_cases hc : d = t ∧ d < s.length
    · rw [if_pos hc, if_pos hc]
      obtain ⟨rfl, _⟩ := hc
      exact hr X hX1' hX2
    · rw [if_neg hc, if_neg hc]
      rcases rget_kill ks s t with hk | hk
      · rw [hk]
        have h0 := hreg t
        cases hrt : rget s t with
        | val x => rw [hrt] at h0; exact (Rd.mono h0 hX1).world (hext _)
        | box cs =>
          rw [hrt] at h0
          obtain ⟨b, e1, e2, e3⟩ := h0
          exact ⟨b, e1, e2, (e3.mono hX1).world (hext _) (hw.block b e3.lt)⟩
        | own k n cs =>
          rw [hrt] at h0
          exact (OwnRd.mono h0 hX1).world (hext _) (fun b _ hb => hw.block b hb)
        | mem cs =>
          rw [hrt] at h0
          obtain ⟨b, off, e1, e2, e3⟩ := h0
          refine ⟨b, off, e1, fun hne hXb => ?_, (e3.mono hX1).world (hext _) (fun hb => hw.block b hb)⟩
          rcases hX1 b hXb with h | h
          · exact e2 hne h
          · have h0 : 0 < cs.length := List.length_pos_iff.2 hne
            obtain ⟨u, hu, _⟩ := e3.2 0 h0
            have := block_lt hu
            simp only at this
            omega
        | ptr d' off =>
          rw [hrt] at h0
          obtain ⟨e1, p, e2, e3, e4⟩ := h0
          refine ⟨e1, p, ?_, e3, e4⟩
          rw [kv, if_neg]
          · exact e2
          · rintro ⟨rfl, hlt⟩
            rcases hks t e1 with hh | hh
            · have := rget_killed ks s t hh
              rw [hk, hrt] at this
              cases this
            · rw [hrt] at hh; cases hh
        | dup d' =>
          rw [hrt] at h0
          obtain ⟨e1, e2⟩ := h0
          refine ⟨e1, ?_⟩
          rw [kv, if_neg]
          · exact e2
          · rintro ⟨rfl, hlt⟩
            rcases hks t e1 with hh | hh
            · have := rget_killed ks s t hh
              rw [hk, hrt] at this
              cases this
            · rw [hrt] at hh; cases hh
        | dead => trivial
      · rw [hk]; trivial
  · intro t t' b h1 h2 h3 h4
    rw [key] at h1 h2
    rw [kv] at h3 h4
    have old : ∀ u, (¬ (d = u ∧ d < s.length)) → excl (rget (rputs s (ks.map fun u => (u, Reg.dead))) u) = true → excl (rget s u) = true := by
      intro u _ hu
      rcases rget_kill ks s u with hk | hk
      · rw [hk] at hu; exact hu
      · rw [hk] at hu; cases hu
    have lt : ∀ u, excl (rget s u) = true → blockOf (a.tmps.getD u Go.undef) = some b → b < w.heap.size := by
      intro u hu hv
      have h0 := hreg u
      cases hrt : rget s u with
      | box cs =>
        rw [hrt] at h0
        obtain ⟨b', e1, _, e3⟩ := h0
        rw [e1] at hv
        simp only [blockOf, rootOf, Option.map_some, Option.some.injEq] at hv
        exact hv ▸ e3.lt
      | own k n cs =>
        rw [hrt] at h0
        exact (OwnRd.block h0 hv).2
      | val x => rw [hrt] at hu; cases hu
      | ptr d off => rw [hrt] at hu; cases hu
      | mem cs => rw [hrt] at hu; cases hu
      | dup d => rw [hrt] at hu; cases hu
      | dead => rw [hrt] at hu; cases hu
    by_cases c1 : d = t ∧ d < s.length <;> by_cases c2 : d = t' ∧ d < s.length
    · exact c1.1.symm.trans c2.1
    · rw [if_pos c1] at h1 h3
      rw [if_neg c2] at h2 h4
      have e2 := hfresh h1 b h3
      have := lt t' (old t' c2 h2) h4
      omega
    · rw [if_neg c1] at h1 h3
      rw [if_pos c2] at h2 h4
      have e2 := hfresh h2 b h4
      have := lt t (old t c1 h1) h3
      omega
    · rw [if_neg c1] at h1 h3
      rw [if_neg c2] at h2 h4
      exact hinj t t' b (old t c1 h1) (old t' c2 h2) h3 h4

theorem XS_set {s : State} {tm : Array Value} {d : Nat} {r r' : Reg} (h : rget s d = r) (he : excl r = excl r') (b : Nat) : XS (s.set d r') tm b ↔ XS s tm b := by
  have key : ∀ t, excl (rget (s.set d r') t) = excl (rget s t) := by
    intro t
    rw [rget_set]
    split
    · rename_i hc
      obtain ⟨rfl, _⟩ := hc
      rw [h, he]
    · rfl
  constructor
  · rintro ⟨t, h1, h2⟩
    exact ⟨t, by rw [← key]; exact h1, h2⟩
  · rintro ⟨t, h1, h2⟩
    exact ⟨t, by rw [key]; exact h1, h2⟩

/-- **What slot d's own variable holds has turned; nothing else has.** -/
theorem Rel.store {Y X0 : Nat → Prop} {roots : List (Nat × Nat)} {w0 w w' : World} {s : State} {a : Act} (h : Rel Y X0 roots w0 s a w) {d : Nat} {r r' : Reg} {b : Nat}
    (hd : rget s d = r) (he : excl r = true) (he' : excl r' = true) (hv : blockOf (a.tmps.getD d Go.undef) = some b) (hbB : w0.heap.size ≤ b) (hos : w'.os = w.os) (htape : w'.tape = w.tape) (hout : w'.output = w.output)
    (hsize : w'.heap.size = w.heap.size) (hoth : ∀ c, c ≠ b → w'.heap[c]? = w.heap[c]?)
    (hnew : ∀ X : Nat → Prop, (∀ c, X c ↔ (X0 c ∨ XS s a.tmps c)) → RegOk Y X w0.heap.size roots a.tmps w' d (a.tmps.getD d Go.undef) r') :
    Rel Y X0 roots w0 (s.set d r') a w' := by
  obtain ⟨hdf, hs, hb, hl, hly, hreg, hinj⟩ := h
  have hXb : XS s a.tmps b := ⟨d, by rw [hd]; exact he, hv⟩
  have hXeq : ∀ c, (X0 c ∨ XS (s.set d r') a.tmps c) ↔ (X0 c ∨ XS s a.tmps c) := fun c => by rw [XS_set (r' := r') hd (by rw [he, he'])]
  have hmono : ∀ c, (X0 c ∨ XS (s.set d r') a.tmps c) → (X0 c ∨ XS s a.tmps c) ∨ w.heap.size ≤ c := fun c hc => .inl ((hXeq c).1 hc)
  have hext : ∀ c, ¬ (X0 c ∨ XS (s.set d r') a.tmps c) → c < w.heap.size → w'.heap[c]? = w.heap[c]? := by
    intro c hc _
    refine hoth c ?_
    rintro rfl
    exact hc ((hXeq _).2 (.inr hXb))
  have hex : ∀ t, excl (rget (s.set d r') t) = true → excl (rget s t) = true := by
    intro t ht
    rw [rget_set] at ht
    split at ht
    · rename_i hc
      rw [← hc.1, hd]; exact he
    · exact ht
  refine ⟨hdf, by rw [List.length_set]; exact hs, ?_, hl, hly, ?_, ?_⟩
  · exact ⟨hos.trans hb.os, htape.trans hb.tape, hout.trans hb.output, by rw [hsize]; exact hb.size, fun k hk => (hoth k (by omega)).trans (hb.block k hk)⟩
  · intro t
    rw [rget_set]
    split
    · rename_i hc
      obtain ⟨rfl, _⟩ := hc
      exact hnew _ hXeq
    · rename_i hc
      have h0 := hreg t
      have hne : excl (rget s t) = true → blockOf (a.tmps.getD t Go.undef) ≠ some b := by
        intro h1 h2
        have := hinj d t b (by rw [hd]; exact he) h1 hv h2
        subst this
        refine hc ⟨rfl, ?_⟩
        rcases Nat.lt_or_ge d s.length with hlt | hge
        · exact hlt
        · simp only [rget, List.getD_eq_getElem?_getD, List.getElem?_eq_none hge] at hd
          subst hd; cases he
      cases hrt : rget s t with
      | val x => rw [hrt] at h0; exact (Rd.mono h0 hmono).world hext
      | box cs =>
        rw [hrt] at h0 hne
        obtain ⟨b', e1, e2, e3⟩ := h0
        refine ⟨b', e1, e2, (e3.mono hmono).world hext (hoth b' ?_)⟩
        rintro rfl
        exact hne rfl (by rw [e1]; rfl)
      | own k n cs =>
        rw [hrt] at h0 hne
        refine (OwnRd.mono h0 hmono).world hext (fun b' hb' _ => hoth b' ?_)
        rintro rfl
        exact hne rfl hb'
      | mem cs =>
        rw [hrt] at h0
        obtain ⟨b', off, e1, e2, e3⟩ := h0
        refine ⟨b', off, e1, fun hne hx => e2 hne ((hXeq _).1 hx), ?_⟩
        by_cases hnil : cs = []
        · subst hnil; exact ⟨fun x hx => (by cases hx), fun i hi => (by simp at hi)⟩
        · refine (e3.mono hmono).world hext (fun _ => hoth b' ?_)
          rintro rfl
          exact e2 hnil (.inr hXb)
      | ptr d' off => rw [hrt] at h0; exact h0
      | dup d' => rw [hrt] at h0; exact h0
      | dead => trivial
  · intro t t' c h1 h2 h3 h4
    exact hinj t t' c (hex t h1) (hex t' h2) h3 h4

/-- Slots may be forgotten. -/
theorem Rel.kill {Y X0 : Nat → Prop} {roots : List (Nat × Nat)} {w0 w : World} {s : State} {a : Act} (h : Rel Y X0 roots w0 s a w) (ks : List Nat) : Rel Y X0 roots w0 (Go.Ai.kill s ks) a w := by
  obtain ⟨hdf, hs, hb, hl, hly, hreg, hinj⟩ := h
  have hXS : ∀ b, XS (Go.Ai.kill s ks) a.tmps b → XS s a.tmps b := by
    rintro b ⟨t, h1, h2⟩
    rw [rget_killAll] at h1
    split at h1
    · cases h1
    · exact ⟨t, h1, h2⟩
  have hmono : ∀ c, (X0 c ∨ XS (Go.Ai.kill s ks) a.tmps c) → (X0 c ∨ XS s a.tmps c) ∨ w.heap.size ≤ c := fun c hc => .inl (hc.imp id (hXS c))
  refine ⟨hdf, by rw [Go.Ai.kill, length_rputs]; exact hs, hb, hl, hly, fun t => ?_, fun t t' b h1 h2 h3 h4 => ?_⟩
  · rw [rget_killAll]
    split
    · trivial
    · have h0 := hreg t
      cases hrt : rget s t with
      | val x => rw [hrt] at h0; exact Rd.mono h0 hmono
      | box cs => rw [hrt] at h0; obtain ⟨b, e1, e2, e3⟩ := h0; exact ⟨b, e1, e2, e3.mono hmono⟩
      | own k n cs => rw [hrt] at h0; exact OwnRd.mono h0 hmono
      | mem cs => rw [hrt] at h0; obtain ⟨b, off, e1, e2, e3⟩ := h0; exact ⟨b, off, e1, fun hne hx => e2 hne (hx.imp id (hXS b)), e3.mono hmono⟩
      | ptr d off => rw [hrt] at h0; exact h0
      | dup d => rw [hrt] at h0; exact h0
      | dead => trivial
  · rw [rget_killAll] at h1 h2
    split at h1
    · cases h1
    · split at h2
      · cases h2
      · exact hinj t t' b h1 h2 h3 h4

theorem Rel.ownLow {Y X0 : Nat → Prop} {roots : List (Nat × Nat)} {w0 w : World} {s : State} {a : Act} (h : Rel Y X0 roots w0 s a w) {x k n : Nat} {cs : List AV} (hx : rget s x = .own k n cs) :
    (a.tmps.getD x Go.undef = .slice none 0 0 ∧ n = 0 ∧ cs = []) ∨
    ∃ b cap, a.tmps.getD x Go.undef = .slice (some ⟨b, 0, none⟩) n cap ∧ n ≤ cap ∧ cs.length = n * k ∧ w0.heap.size ≤ b ∧ BlockRd Y (fun b => X0 b ∨ XS s a.tmps b) w b 0 cs ∧ Room w b (cap * k) ∧ XS s a.tmps b := by
  have h0 := h.reg x
  rw [hx] at h0
  rcases h0 with h0 | ⟨b, cap, e1, e2, e3, e4, e5, e6⟩
  · exact .inl h0
  · exact .inr ⟨b, cap, e1, e2, e3, e4, e5, e6, x, by rw [hx]; rfl, by rw [e1]; rfl⟩

/-- **What slot x owned goes over to slot d, or is frozen there; its block may have turned.** -/
theorem Rel.shift {Y X0 : Nat → Prop} {roots : List (Nat × Nat)} {w0 w w' : World} {s : State} {a : Act} (h : Rel Y X0 roots w0 s a w) {x d k n : Nat} {cs : List AV} {r : Reg} {v : Value} {b : Nat}
    (hx : rget s x = .own k n cs) (hb : blockOf (a.tmps.getD x Go.undef) = some b) (hks : ∀ t, (t, d) ∈ roots → rget s t = .dead)
    (hos : w'.os = w.os) (htape : w'.tape = w.tape) (hout : w'.output = w.output) (hsize : w'.heap.size = w.heap.size) (hoth : ∀ c, c ≠ b → w'.heap[c]? = w.heap[c]?) (hrb : excl r = true → blockOf v = some b)
    (hnew : ∀ X : Nat → Prop, (∀ c, X c → (X0 c ∨ XS s a.tmps c)) → (excl r = false → ¬ X b) → RegOk Y X w0.heap.size roots (a.tmps.setIfInBounds d v) w' d v r) :
    Rel Y X0 roots w0 (rput (rputs s [(x, Reg.dead)]) (some d) r) (a.put (some d) v) w' := by
  obtain ⟨b', hbb, hbB, hXb⟩ : ∃ b', b' = b ∧ w0.heap.size ≤ b' ∧ XS s a.tmps b' := by
    rcases h.ownLow hx with ⟨hv, _⟩ | ⟨b', cap, hv, _, _, hbB, _, _, hXb⟩
    · rw [hv] at hb; cases hb
    · exact ⟨b', by rw [hv] at hb; simpa [blockOf, rootOf] using hb, hbB, hXb⟩
  subst hbb
  obtain ⟨hdf, hs, hbel, hl, hly, hreg, hinj⟩ := h
  have hown : ∀ t, excl (rget s t) = true → blockOf (a.tmps.getD t Go.undef) = some b' → t = x := fun t h1 h2 => hinj t x b' h1 (by rw [hx]; rfl) h2 hb
  have key : ∀ t, rget (rput (rputs s [(x, Reg.dead)]) (some d) r) t = (if d = t ∧ d < s.length then r else if x = t then .dead else rget s t) := by
    intro t
    simp only [rput, rputs]
    rw [rget_set, List.length_set, rget_kill1]
  have kv : ∀ t, (a.put (some d) v).tmps.getD t Go.undef = if d = t ∧ d < s.length then v else a.tmps.getD t Go.undef := by
    intro t
    simp only [Act.put]
    rw [getD_put, hs]
  have hXold : ∀ c, XS (rput (rputs s [(x, Reg.dead)]) (some d) r) (a.put (some d) v).tmps c → XS s a.tmps c := by
    rintro c ⟨t, h1, h2⟩
    rw [key] at h1
    rw [kv] at h2
    by_cases hc : d = t ∧ d < s.length
    · rw [if_pos hc] at h1 h2
      rw [hrb h1] at h2
      cases h2
      exact hXb
    · rw [if_neg hc] at h1 h2
      split at h1
      · cases h1
      · exact ⟨t, h1, h2⟩
  have hnb : excl r = false → ¬ (X0 b' ∨ XS (rput (rputs s [(x, Reg.dead)]) (some d) r) (a.put (some d) v).tmps b') := by
    rintro he (hx0 | ⟨t, h1, h2⟩)
    · have := hl b' hx0; omega
    · rw [key] at h1
      rw [kv] at h2
      by_cases hc : d = t ∧ d < s.length
      · rw [if_pos hc, he] at h1; cases h1
      · rw [if_neg hc] at h1 h2
        split at h1
        · cases h1
        · rename_i hxt
          exact hxt (hown t h1 h2).symm
  generalize hXd : (fun c => X0 c ∨ XS (rput (rputs s [(x, Reg.dead)]) (some d) r) (a.put (some d) v).tmps c) = X
  have hX1 : ∀ c, X c → (X0 c ∨ XS s a.tmps c) := by
    intro c hc
    rw [← hXd] at hc
    exact hc.imp id (hXold c)
  have hX2 : ∀ c, X c → (X0 c ∨ XS s a.tmps c) ∨ w'.heap.size ≤ c := fun c hc => .inl (hX1 c hc)
  have hext : ∀ c, ¬ (X0 c ∨ XS s a.tmps c) → c < w.heap.size → w'.heap[c]? = w.heap[c]? := by
    intro c hc _
    refine hoth c ?_
    rintro rfl
    exact hc (.inr hXb)
  refine ⟨hdf, by simp only [Act.put, Array.size_setIfInBounds, rput, List.length_set, length_rputs]; exact hs, ?_, hl, hly, ?_, ?_⟩
  · exact ⟨hos.trans hbel.os, htape.trans hbel.tape, hout.trans hbel.output, by rw [hsize]; exact hbel.size, fun c hc => (hoth c (by omega)).trans (hbel.block c hc)⟩
  · intro t
    rw [hXd, key, kv]
    by_cases hc : d = t ∧ d < s.length
    · rw [if_pos hc, if_pos hc]
      obtain ⟨rfl, _⟩ := hc
      exact hnew X hX1 (fun he => by rw [← hXd]; exact hnb he)
    · rw [if_neg hc, if_neg hc]
      by_cases hxt : x = t
      · rw [if_pos hxt]; trivial
      · rw [if_neg hxt]
        have h0 := hreg t
        have hne : excl (rget s t) = true → ∀ c, blockOf (a.tmps.getD t Go.undef) = some c → c ≠ b' := by
          intro h1 c h2 e
          subst e
          exact hxt (hown t h1 h2).symm
        cases hrt : rget s t with
        | val y => rw [hrt] at h0; exact (Rd.world h0 hext).mono hX2
        | box cs =>
          rw [hrt] at h0 hne
          obtain ⟨c, e1, e2, e3⟩ := h0
          exact ⟨c, e1, e2, (e3.world hext (hoth c (hne rfl c (by rw [e1]; rfl)))).mono hX2⟩
        | own k n cs =>
          rw [hrt] at h0 hne
          exact (OwnRd.world h0 hext (fun c hc _ => hoth c (hne rfl c hc))).mono hX2
        | mem cs =>
          rw [hrt] at h0
          obtain ⟨c, off, e1, e2, e3⟩ := h0
          refine ⟨c, off, e1, fun hn hx => e2 hn (hX1 c hx), ?_⟩
          by_cases hnil : cs = []
          · subst hnil; exact ⟨fun x hx => (by cases hx), fun i hi => (by simp at hi)⟩
          · refine (e3.world hext (fun _ => hoth c ?_)).mono hX2
            rintro rfl
            exact e2 hnil (.inr hXb)
        | ptr d' off =>
          rw [hrt] at h0
          obtain ⟨e1, p, e2, e3, e4⟩ := h0
          refine ⟨e1, p, ?_, e3, e4⟩
          rw [kv, if_neg]
          · exact e2
          · rintro ⟨rfl, _⟩
            have := hks t e1
            rw [hrt] at this; cases this
        | dup d' =>
          rw [hrt] at h0
          obtain ⟨e1, e2⟩ := h0
          refine ⟨e1, ?_⟩
          rw [kv, if_neg]
          · exact e2
          · rintro ⟨rfl, _⟩
            have := hks t e1
            rw [hrt] at this; cases this
        | dead => trivial
  · intro t t' c h1 h2 h3 h4
    rw [key] at h1 h2
    rw [kv] at h3 h4
    by_cases c1 : d = t ∧ d < s.length <;> by_cases c2 : d = t' ∧ d < s.length
    · exact c1.1.symm.trans c2.1
    · rw [if_pos c1] at h1 h3
      rw [if_neg c2] at h2 h4
      split at h2
      · cases h2
      · rename_i hxt
        rw [hrb h1] at h3
        cases h3
        exact absurd (hown t' h2 h4).symm hxt
    · rw [if_neg c1] at h1 h3
      rw [if_pos c2] at h2 h4
      split at h1
      · cases h1
      · rename_i hxt
        rw [hrb h2] at h4
        cases h4
        exact absurd (hown t h1 h3).symm hxt
    · rw [if_neg c1] at h1 h3
      rw [if_neg c2] at h2 h4
      split at h1
      · cases h1
      · split at h2
        · cases h2
        · exact hinj t t' c h1 h2 h3 h4

/-- What slot x owns is written no more. -/
theorem Rel.freeze {Y X0 : Nat → Prop} {roots : List (Nat × Nat)} {w0 w : World} {s : State} {a : Act} (h : Rel Y X0 roots w0 s a w) {x k n : Nat} {cs : List AV} (hx : rget s x = .own k n cs) : Rel Y X0 roots w0 (s.set x (.val (.sl n cs))) a w := by
  obtain ⟨hdf, hs, hbel, hl, hly, hreg, hinj⟩ := h
  have hlt : x < s.length := by
    rcases Nat.lt_or_ge x s.length with hlt | hge
    · exact hlt
    · simp only [rget, List.getD_eq_getElem?_getD, List.getElem?_eq_none hge] at hx; cases hx
  have key : ∀ t, rget (s.set x (.val (.sl n cs))) t = if x = t then .val (.sl n cs) else rget s t := by
    intro t
    rw [rget_set]
    by_cases hxt : x = t
    · rw [if_pos ⟨hxt, hlt⟩, if_pos hxt]
    · rw [if_neg (fun e => hxt e.1), if_neg hxt]
  have hXold : ∀ c, XS (s.set x (.val (.sl n cs))) a.tmps c → XS s a.tmps c := by
    rintro c ⟨t, h1, h2⟩
    rw [key] at h1
    split at h1
    · cases h1
    · exact ⟨t, h1, h2⟩
  have hnb : ∀ b, blockOf (a.tmps.getD x Go.undef) = some b → ¬ (X0 b ∨ XS (s.set x (.val (.sl n cs))) a.tmps b) := by
    rintro b hb (hx0 | ⟨t, h1, h2⟩)
    · have h0 := hreg x
      rw [hx] at h0
      have h1 := (OwnRd.block h0 hb).1
      have := hl b hx0
      omega
    · rw [key] at h1
      split at h1
      · cases h1
      · rename_i hxt
        exact hxt (hinj t x b h1 (by rw [hx]; rfl) h2 hb).symm
  have hmono : ∀ c, (X0 c ∨ XS (s.set x (.val (.sl n cs))) a.tmps c) → (X0 c ∨ XS s a.tmps c) ∨ w.heap.size ≤ c := fun c hc => .inl (hc.imp id (hXold c))
  refine ⟨hdf, by rw [List.length_set]; exact hs, hbel, hl, hly, fun t => ?_, fun t t' c h1 h2 h3 h4 => ?_⟩
  · rw [key]
    by_cases hxt : x = t
    · subst hxt
      rw [if_pos rfl]
      have h0 := hreg x
      rw [hx] at h0
      exact OwnRd.frozen h0 hmono hnb hly
    · rw [if_neg hxt]
      have h0 := hreg t
      cases hrt : rget s t with
      | val x => rw [hrt] at h0; exact Rd.mono h0 hmono
      | box cs => rw [hrt] at h0; obtain ⟨b, e1, e2, e3⟩ := h0; exact ⟨b, e1, e2, e3.mono hmono⟩
      | own k n cs => rw [hrt] at h0; exact OwnRd.mono h0 hmono
      | mem cs => rw [hrt] at h0; obtain ⟨b, off, e1, e2, e3⟩ := h0; exact ⟨b, off, e1, fun hne hx => e2 hne (hx.imp id (hXold b)), e3.mono hmono⟩
      | ptr d off => rw [hrt] at h0; exact h0
      | dup d => rw [hrt] at h0; exact h0
      | dead => trivial
  · rw [key] at h1 h2
    split at h1
    · cases h1
    · split at h2
      · cases h2
      · exact hinj t t' c h1 h2 h3 h4

end Go.Ai
