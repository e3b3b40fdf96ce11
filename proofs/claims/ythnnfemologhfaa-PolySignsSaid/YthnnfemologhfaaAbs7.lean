/- One operation: what the model does is what the abstract machine says. -/
import Derived.Test.YthnnfemologhfaaAbs6
namespace Go.Ai
open Go.RowKit

section
variable {P : Program} {Y X0 : Nat → Prop} {roots : List (Nat × Nat)} {w0 w : World} {s : State} {a : Act} {Q : Exit → Act → World → Prop}

theorem opd_reg (h : Rel Y X0 roots w0 s a w) {t : Nat} : RegOk Y (fun b => X0 b ∨ XS s a.tmps b) w0.heap.size roots a.tmps w t (a.eval (.tmp t)) (rget s t) := h.reg t

theorem opd_rd (h : Rel Y X0 roots w0 s a w) {x : Operand} {o : Opd} {y : AV} (hx : opdOk x o = true) (ho : o.av s = some y) : Rd Y (fun b => X0 b ∨ XS s a.tmps b) w (a.eval x) y := by
  cases o with
  | t n =>
    cases x with
    | tmp m =>
      simp only [opdOk, beq_iff_eq] at hx
      subst hx
      simp only [Opd.av, Opd.reg] at ho
      have h0 := h.reg m
      cases hr : rget s m with
      | val z =>
        rw [hr] at ho h0
        cases ho
        exact h0
      | box _ => rw [hr] at ho; cases ho
      | ptr _ _ => rw [hr] at ho; cases ho
      | mem _ => rw [hr] at ho; cases ho
      | own _ _ _ => rw [hr] at ho; cases ho
      | dup _ => rw [hr] at ho; cases ho
      | dead => rw [hr] at ho; cases ho
    | const v => cases hx
    | global g => cases hx
    | func f => cases hx
  | c z =>
    cases x with
    | const v =>
      simp only [Opd.av, Opd.reg, Option.some.injEq] at ho
      subst ho
      exact (constOk_rd hx).1
    | tmp m => cases hx
    | global g => cases hx
    | func f => cases hx

theorem opds_rd (h : Rel Y X0 roots w0 s a w) : ∀ {xs : List Operand} {os : List Opd} {ys : List AV}, opdsOk xs os = true → avs s os = some ys →
    xs.length = ys.length ∧ ∀ (i : Nat) (h1 : i < xs.length) (h2 : i < ys.length), Rd Y (fun b => X0 b ∨ XS s a.tmps b) w (a.eval xs[i]) ys[i]
  | [], [], ys, _, hy => by
    simp only [avs, Option.some.injEq] at hy
    subst hy
    exact ⟨rfl, fun i h1 _ => (by simp at h1)⟩
  | x :: xs, o :: os, ys, hx, hy => by
    simp only [opdsOk, Bool.and_eq_true] at hx
    simp only [avs] at hy
    cases h1 : o.av s with
    | none => rw [h1] at hy; cases hy
    | some y =>
      rw [h1] at hy
      cases h2 : avs s os with
      | none => rw [h2] at hy; cases hy
      | some ys' =>
        rw [h2] at hy
        cases hy
        obtain ⟨e1, e2⟩ := opds_rd h hx.2 h2
        refine ⟨by simp [e1], fun i h3 h4 => ?_⟩
        cases i with
        | zero => exact opd_rd h hx.1 h1
        | succ i => exact e2 i (by simpa using h3) (by simpa using h4)
  | [], _ :: _, _, hx, _ => by cases hx
  | _ :: _, [], _, hx, _ => by cases hx

theorem Rel.lowYw (h : Rel Y X0 roots w0 s a w) : ∀ b, Y b → b < w.heap.size := fun b hb => Nat.lt_of_lt_of_le (h.lowY b hb) h.below.size

theorem Rel.lowX (h : Rel Y X0 roots w0 s a w) : ∀ b, (X0 b ∨ XS s a.tmps b) → b < w.heap.size := by
  rintro b (hb | ⟨t, h1, h2⟩)
  · exact Nat.lt_of_lt_of_le (h.low b hb) h.below.size
  · have h0 := h.reg t
    cases hr : rget s t with
    | box cs =>
      rw [hr] at h0
      obtain ⟨b', e1, _, e3⟩ := h0
      rw [e1] at h2
      simp only [blockOf, rootOf, Option.map_some, Option.some.injEq] at h2
      exact h2 ▸ e3.lt
    | own k n cs =>
      rw [hr] at h0
      exact (OwnRd.block h0 h2).2
    | val x => rw [hr] at h1; cases h1
    | ptr d off => rw [hr] at h1; cases h1
    | mem cs => rw [hr] at h1; cases h1
    | dup d => rw [hr] at h1; cases h1
    | dead => rw [hr] at h1; cases h1

/-- No pointer into slot d's variable is kept. -/
def Free (s : State) (roots : List (Nat × Nat)) (dst : Option Nat) : Prop := ∀ d, dst = some d → ∀ t, (t, d) ∈ roots → rget s t = .dead

theorem Rel.put (h : Rel Y X0 roots w0 s a w) {dst : Option Nat} {v : Value} {x : AV} (hf : Free s roots dst) (hr : Rd Y (fun b => X0 b ∨ XS s a.tmps b) w v x) : Rel Y X0 roots w0 (rput s dst (.val x)) (a.put dst v) w := by
  cases dst with
  | none => exact h
  | some d =>
    refine Rel.write (ks := []) h (Below.refl _ _) (fun t ht => .inr (hf d rfl t ht)) (fun he => (by cases he)) (fun X _ h2 => ?_)
    exact hr.mono fun b hb => .inl (h2 rfl b hb)

theorem Rel.putMem (h : Rel Y X0 roots w0 s a w) {dst : Option Nat} {b off : Nat} {cs : List AV} (hf : Free s roots dst) (hX : cs ≠ [] → ¬ (X0 b ∨ XS s a.tmps b)) (hr : MemRd Y (fun b => X0 b ∨ XS s a.tmps b) w b off cs) :
    Rel Y X0 roots w0 (rput s dst (.mem cs)) (a.put dst (.pointer (some ⟨b, off, none⟩))) w := by
  cases dst with
  | none => exact h
  | some d =>
    refine Rel.write (ks := []) h (Below.refl _ _) (fun t ht => .inr (hf d rfl t ht)) (fun he => (by cases he)) (fun X _ h2 => ?_)
    exact ⟨b, off, rfl, fun hne hx => hX hne (h2 rfl b hx), hr.mono fun b hb => .inl (h2 rfl b hb)⟩

theorem Rel.putPtr (h : Rel Y X0 roots w0 s a w) {dst : Option Nat} {d off : Nat} {p : Addr} (hf : Free s roots dst) (hroot : ∀ t, dst = some t → (t, d) ∈ roots ∧ t ≠ d) (hd : rootOf (a.tmps.getD d Go.undef) = some p) (hs : p.spot = none) :
    Rel Y X0 roots w0 (rput s dst (.ptr d off)) (a.put dst (.pointer (some ⟨p.block, p.off + off, none⟩))) w := by
  cases dst with
  | none => exact h
  | some t =>
    refine Rel.write (ks := []) h (Below.refl _ _) (fun u hu => .inr (hf t rfl u hu)) (fun he => (by cases he)) (fun X _ _ => ?_)
    refine ⟨(hroot t rfl).1, p, ?_, hs, rfl⟩
    rw [getD_put, if_neg]
    · exact hd
    · rintro ⟨rfl, _⟩
      exact (hroot t rfl).2 rfl

theorem Rel.putDup (h : Rel Y X0 roots w0 s a w) {dst : Option Nat} {d : Nat} (hf : Free s roots dst) (hroot : ∀ t, dst = some t → (t, d) ∈ roots ∧ t ≠ d) :
    Rel Y X0 roots w0 (rput s dst (.dup d)) (a.put dst (a.tmps.getD d Go.undef)) w := by
  cases dst with
  | none => exact h
  | some t =>
    refine Rel.write (ks := []) h (Below.refl _ _) (fun u hu => .inr (hf t rfl u hu)) (fun he => (by cases he)) (fun X _ _ => ?_)
    refine ⟨(hroot t rfl).1, ?_⟩
    rw [getD_put, if_neg]
    rintro ⟨rfl, _⟩
    exact (hroot t rfl).2 rfl

/-- An operation that yields a value and leaves the world as it is. -/
theorem wp_value {o : Oper} {v : Value} {K : Act → World → Prop} (hrun : (execOp a.eval o).run P w = .ok (.value v) w) (h : K (a.put o.dst v) w) : o.wp P a w K Q := by
  simp only [Oper.wp, hrun, Oper.upon]
  exact h

/-- What a call gives: a value, or a slice that belongs to the caller from now on. -/
def ResOk (Y X : Nat → Prop) (B : Nat) (w' : World) (v : Value) : AV → Prop
  | .fresh k n cs => OwnRd Y (fun c => X c ∨ blockOf v = some c) B w' v k n cs
  | x => Rd Y X w' v x

theorem ResOk.of_rd {Y X : Nat → Prop} {B : Nat} {w' : World} {v : Value} {x : AV} (h : Rd Y X w' v x) : ResOk Y X B w' v x := by
  cases h <;> simp only [ResOk] <;> first | exact .int _ _ | exact .bool _ | exact .str _ | exact .undef | exact .nil | exact .nil0 | exact .e0 _ _ | (apply Rd.agg <;> assumption) | (apply Rd.tup <;> assumption) | (apply Rd.sl <;> assumption)

theorem ResOk.thawed {Y X : Nat → Prop} {B : Nat} {w' : World} {v : Value} {x : AV} (h : ResOk Y X B w' v x) (hX : ∀ b, X b → b < B) (hY : ∀ b, Y b → b < B) : Rd Y X w' v (thaw x) := by
  cases x
  case fresh k n cs =>
    simp only [ResOk] at h
    refine OwnRd.frozen h (fun b hb => .inl (.inl hb)) (fun b hb hXb => ?_) hY
    have h1 := (OwnRd.block h hb).1
    have := hX b hXb
    omega
  all_goals exact h

/-- A call's contract in abstract words. -/
def CallOk (P : Program) (F : Caller) : Prop :=
  ∀ (f : Nat) (args : List AV) (x : AV), F f args = some x → ∀ (Y X : Nat → Prop) (w : World) (vs : Array Value), (∀ b, X b → b < w.heap.size) → (∀ b, Y b → b < w.heap.size) → vs.size = args.length →
    (∀ (i : Nat) (h1 : i < vs.size) (h2 : i < args.length), Rd Y X w vs[i] args[i]) →
    Calls P f vs w fun e w' => ∃ v, e = .returned v ∧ Below w.heap.size w w' ∧ ResOk Y X w.heap.size w' v x

end
end Go.Ai
