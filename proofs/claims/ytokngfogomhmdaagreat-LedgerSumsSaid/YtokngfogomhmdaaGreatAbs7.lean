/- One operation: what the model does is what the abstract machine says. -/
import Derived.Test.YtokngfogomhmdaaGreatAbs6
namespace Go.Ai
open Go.RowKit

section
variable {P : Program} {Y X0 : Nat → Prop} {roots : List (Nat × Nat)} {w0 : Base} {w : World} {s : State} {a : Act} {Q : Exit → Act → World → Prop}

theorem opd_reg (h : Rel Y X0 roots w0 s a w) {t : Nat} : RegOk Y (fun b => X0 b ∨ XS s a.tmps b) w0.mine roots a.tmps w t (a.eval (.tmp t)) (rget s t) := h.reg t

theorem opd_rd (h : Rel Y X0 roots w0 s a w) {x : Operand} {o : Opd} {y : AV} (hx : opdOk x o = true) (ho : o.av s = some y) : Rd Y (fun b => X0 b ∨ XS s a.tmps b) w (a.eval x) y := by
  cases o with
  | t n =>
    cases x with
    | tmp m =>
      simp only [opdOk, beq_iff_eq] at hx
      subst hx
      simp only [Opd.av, Opd.reg] at ho
      have h0 := h.reg m
      cases hr : rget s m with
      | val z =>
        rw [hr] at ho h0
        cases ho
        exact h0
      | box _ => rw [hr] at ho; cases ho
      | ptr _ _ => rw [hr] at ho; cases ho
      | mem _ => rw [hr] at ho; cases ho
      | own _ _ _ => rw [hr] at ho; cases ho
      | agn _ _ _ _ => rw [hr] at ho; cases ho
      | bxl _ => rw [hr] at ho; cases ho
      | dup _ => rw [hr] at ho; cases ho
      | sub _ _ _ _ => rw [hr] at ho; cases ho
      | dead => rw [hr] at ho; cases ho
    | const v => cases hx
    | global g => cases hx
    | func f => cases hx
  | c z =>
    cases x with
    | const v =>
      simp only [Opd.av, Opd.reg, Option.some.injEq] at ho
      subst ho
      exact (constOk_rd hx).1
    | tmp m => cases hx
    | global g => cases hx
    | func f => cases hx

theorem opds_rd (h : Rel Y X0 roots w0 s a w) : ∀ {xs : List Operand} {os : List Opd} {ys : List AV}, opdsOk xs os = true → avs s os = some ys →
    xs.length = ys.length ∧ ∀ (i : Nat) (h1 : i < xs.length) (h2 : i < ys.length), Rd Y (fun b => X0 b ∨ XS s a.tmps b) w (a.eval xs[i]) ys[i]
  | [], [], ys, _, hy => by
    simp only [avs, Option.some.injEq] at hy
    subst hy
    exact ⟨rfl, fun i h1 _ => (by simp at h1)⟩
  | x :: xs, o :: os, ys, hx, hy => by
    simp only [opdsOk, Bool.and_eq_true] at hx
    simp only [avs] at hy
    cases h1 : o.av s with
    | none => rw [h1] at hy; cases hy
    | some y =>
      rw [h1] at hy
      cases h2 : avs s os with
      | none => rw [h2] at hy; cases hy
      | some ys' =>
        rw [h2] at hy
        cases hy
        obtain ⟨e1, e2⟩ := opds_rd h hx.2 h2
        refine ⟨by simp [e1], fun i h3 h4 => ?_⟩
        cases i with
        | zero => exact opd_rd h hx.1 h1
        | succ i => exact e2 i (by simpa using h3) (by simpa using h4)
  | [], _ :: _, _, hx, _ => by cases hx
  | _ :: _, [], _, hx, _ => by cases hx

theorem Rel.lowYw (h : Rel Y X0 roots w0 s a w) : ∀ b, Y b → b < w.heap.size := fun b hb => Nat.lt_of_lt_of_le (Nat.lt_of_not_le fun e => h.lowY b hb (.inl e)) h.below.size

theorem Rel.lowX (h : Rel Y X0 roots w0 s a w) : ∀ b, (X0 b ∨ XS s a.tmps b) → b < w.heap.size := by
  rintro b (hb | ⟨t, h1, h2⟩)
  · exact Nat.lt_of_lt_of_le (Nat.lt_of_not_le fun e => h.low b hb (.inl e)) h.below.size
  · exact (h.exclLow h1 h2).2

/-- No pointer into slot d's variable is kept. -/
def Free (s : State) (roots : List (Nat × Nat)) (dst : Option Nat) : Prop := ∀ d, dst = some d → ∀ t, (t, d) ∈ roots → isLink (rget s t) = false

theorem Rel.put (h : Rel Y X0 roots w0 s a w) {dst : Option Nat} {v : Value} {x : AV} (hf : Free s roots dst) (hr : Rd Y (fun b => X0 b ∨ XS s a.tmps b) w v x) : Rel Y X0 roots w0 (rput s dst (.val x)) (a.put dst v) w := by
  cases dst with
  | none => exact h
  | some d =>
    refine Rel.write (ks := []) h (Below.refl _ _) (fun t ht => .inr (hf d rfl t ht)) (fun he => (by cases he)) (fun X _ h2 => ?_)
    exact hr.mono fun b hb => .inl (h2 rfl b hb)

theorem Rel.putMem (h : Rel Y X0 roots w0 s a w) {dst : Option Nat} {b off : Nat} {cs : List AV} (hf : Free s roots dst) (hX : cs ≠ [] → ¬ (X0 b ∨ XS s a.tmps b)) (hr : MemRd Y (fun b => X0 b ∨ XS s a.tmps b) w b off cs) :
    Rel Y X0 roots w0 (rput s dst (.mem cs)) (a.put dst (.pointer (some ⟨b, off, none⟩))) w := by
  cases dst with
  | none => exact h
  | some d =>
    refine Rel.write (ks := []) h (Below.refl _ _) (fun t ht => .inr (hf d rfl t ht)) (fun he => (by cases he)) (fun X _ h2 => ?_)
    exact ⟨b, off, rfl, fun hne hx => hX hne (h2 rfl b hx), hr.mono fun b hb => .inl (h2 rfl b hb)⟩

theorem Rel.putPtr (h : Rel Y X0 roots w0 s a w) {dst : Option Nat} {d off : Nat} {p : Addr} (hf : Free s roots dst) (hroot : ∀ t, dst = some t → (t, d) ∈ roots ∧ t ≠ d) (hd : rootOf (a.tmps.getD d Go.undef) = some p) (hs : p.spot = none) :
    Rel Y X0 roots w0 (rput s dst (.ptr d off)) (a.put dst (.pointer (some ⟨p.block, p.off + off, none⟩))) w := by
  cases dst with
  | none => exact h
  | some t =>
    refine Rel.write (ks := []) h (Below.refl _ _) (fun u hu => .inr (hf t rfl u hu)) (fun he => (by cases he)) (fun X _ _ => ?_)
    refine ⟨(hroot t rfl).1, p, ?_, hs, rfl⟩
    rw [getD_put, if_neg]
    · exact hd
    · rintro ⟨rfl, _⟩
      exact (hroot t rfl).2 rfl

theorem Rel.putDup (h : Rel Y X0 roots w0 s a w) {dst : Option Nat} {d : Nat} (hf : Free s roots dst) (hroot : ∀ t, dst = some t → (t, d) ∈ roots ∧ t ≠ d) :
    Rel Y X0 roots w0 (rput s dst (.dup d)) (a.put dst (a.tmps.getD d Go.undef)) w := by
  cases dst with
  | none => exact h
  | some t =>
    refine Rel.write (ks := []) h (Below.refl _ _) (fun u hu => .inr (hf t rfl u hu)) (fun he => (by cases he)) (fun X _ _ => ?_)
    refine ⟨(hroot t rfl).1, ?_⟩
    rw [getD_put, if_neg]
    rintro ⟨rfl, _⟩
    exact (hroot t rfl).2 rfl

/-- An operation that yields a value and leaves the world as it is. -/
theorem wp_value {o : Oper} {v : Value} {K : Act → World → Prop} (hrun : (execOp a.eval o).run P w = .ok (.value v) w) (h : K (a.put o.dst v) w) : o.wp P a w K Q := by
  simp only [Oper.wp, hrun, Oper.upon]
  exact h

/-- What a call gives: a value, or a slice that belongs to the caller from now on. -/
def ResOk (Y X : Nat → Prop) (B : Nat → Prop) (w' : World) (v : Value) : AV → Prop
  | .fresh k n cs => OwnRd Y (fun c => X c ∨ blockOf v = some c) B w' v k n cs
  | .frs b k n cs => AgnRd Y (fun c => X c ∨ blockOf v = some c) B w' v b k n cs
  | x => Rd Y X w' v x

theorem ResOk.of_rd {Y X : Nat → Prop} {B : Nat → Prop} {w' : World} {v : Value} {x : AV} (h : Rd Y X w' v x) : ResOk Y X B w' v x := by
  cases h <;> simp only [ResOk] <;> first | exact .int _ _ | exact .bool _ | exact .str _ | exact .undef | exact .nil | exact .nil0 | exact .e0 _ _ | (apply Rd.agg <;> assumption) | (apply Rd.tup <;> assumption) | (apply Rd.sl <;> assumption) | (apply Rd.pt <;> assumption) | (apply Rd.fnc <;> assumption)

theorem ResOk.thawed {Y X : Nat → Prop} {B : Nat → Prop} {w' : World} {v : Value} {x : AV} (h : ResOk Y X B w' v x) (hX : ∀ b, X b → ¬ B b) (hY : ∀ b, Y b → ¬ B b) : Rd Y X w' v (thaw x) := by
  cases x
  case fresh k n cs =>
    simp only [ResOk] at h
    exact OwnRd.frozen h (fun b hb => .inl (.inl hb)) (fun b hb hXb => hX b hXb (OwnRd.block h hb).1) hY
  case frs bb k n cs =>
    simp only [ResOk] at h
    obtain ⟨u, rfl, h⟩ := h
    have hu : Rd Y X w' u (.sl n cs) := by
      exact OwnRd.frozen h (fun b hb => .inl (.inl hb)) (fun b hb hXb => hX b hXb (OwnRd.block h hb).1) hY
    cases bb with
    | st b => exact Rd.boolSl hu
    | tp b =>
      refine Rd.tup #[u, .bool b] [.sl n cs, .bool b] rfl fun i h1 h2 => ?_
      match i, h2 with
      | 0, _ => exact hu
      | 1, _ => exact Rd.bool b
  all_goals exact h

theorem ResOk.lower {Y X : Nat → Prop} {B B' : Nat → Prop} {w' : World} {v : Value} {x : AV} (h : ResOk Y X B w' v x) (hB : ∀ b, B b → B' b) : ResOk Y X B' w' v x := by
  cases x
  case fresh k n cs => exact OwnRd.lower h hB
  case frs bb k n cs => exact AgnRd.lower h hB
  all_goals exact h

/-- What an argument reads as: a value, or a slice that the call may write. -/
def ArgRd (Y X O : Nat → Prop) (w : World) (v : Value) : AV → Prop
  | .fresh k n cs => OwnRd Y (fun c => X c ∨ O c) O w v k n cs
  | x => Rd Y (fun c => X c ∨ O c) w v x
/-- The block that a call was given to write: that of its first argument. -/
def Given (args : List AV) (vs : Array Value) (b : Nat) : Prop := (∃ k n cs l, args = .fresh k n cs :: l) ∧ blockOf (vs.getD 0 Go.undef) = some b
def isFresh : AV → Bool
  | .fresh _ _ _ => true
  | _ => false

/-- A call's contract in abstract words. -/
def CallOk (P : Program) (F : Caller) : Prop :=
  ∀ (f : Nat) (args : List AV) (x : AV), F f args = some x → ∀ (Y X : Nat → Prop) (w : World) (vs : Array Value), (∀ b, X b → b < w.heap.size ∧ ¬ Given args vs b) → (∀ b, Y b → b < w.heap.size ∧ ¬ Given args vs b) → vs.size = args.length →
    (∀ (i : Nat) (h1 : i < vs.size) (h2 : i < args.length), ArgRd Y X (Given args vs) w vs[i] args[i]) → (∀ (i : Nat) (h : i < args.length), isFresh args[i] = true → i = 0) →
    Calls P f vs w fun e w' => ∃ v, e = .returned v ∧ Grown ⟨w, Given args vs⟩ w' ∧ ResOk Y X (Base.mine ⟨w, Given args vs⟩) w' v x

/-- The blocks from a number on. -/
def From (n b : Nat) : Prop := n ≤ b

/-- A call that is given nothing to write. -/
theorem CallOk.plain {F : Caller} (h : CallOk P F) (f : Nat) (args : List AV) (x : AV) (hx : F f args = some x) (Y X : Nat → Prop) (w : World) (vs : Array Value) (hX : ∀ b, X b → b < w.heap.size) (hY : ∀ b, Y b → b < w.heap.size) (hs : vs.size = args.length)
    (hr : ∀ (i : Nat) (h1 : i < vs.size) (h2 : i < args.length), Rd Y X w vs[i] args[i]) :
    Calls P f vs w fun e w' => ∃ v, e = .returned v ∧ Below w.heap.size w w' ∧ ResOk Y X (From w.heap.size) w' v x := by
  have nf : ∀ (i : Nat) (h2 : i < args.length), isFresh args[i] = false := by
    intro i h2
    have h1 := hr i (by omega) h2
    generalize args[i] = y at h1 ⊢
    generalize vs[i]'(by omega) = u at h1
    cases h1 <;> rfl
  have hg : ∀ b, ¬ Given args vs b := by
    rintro b ⟨⟨k, n, cs, l, rfl⟩, _⟩
    cases nf 0 (by simp)
  have hg' : Given args vs = fun _ => False := funext fun b => eq_false (hg b)
  refine (h f args x hx Y X w vs (fun b hb => ⟨hX b hb, hg b⟩) (fun b hb => ⟨hY b hb, hg b⟩) hs (fun i h1 h2 => ?_) (fun i h2 h3 => ?_)).mono ?_
  · have h0 := hr i h1 h2
    have e := nf i h2
    rw [hg']
    generalize args[i] = y at h0 e ⊢
    have h3 : Rd Y (fun c => X c ∨ False) w vs[i] y := h0.mono fun b hb => .inl (hb.elim id False.elim)
    cases y <;> first | exact h3 | cases e
  · rw [nf i h2] at h3; cases h3
  · rintro e w' ⟨v, e1, e2, e3⟩
    exact ⟨v, e1, e2.below hg, e3.lower fun b hb => hb.elim id fun hb => (hg b hb).elim⟩

end
end Go.Ai
