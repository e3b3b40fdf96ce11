/- Texts of the proof of PolyFree, packed by pack.py: part 6 of 19. -/
import Derived.Test.YthnnfemologhfaaProg
import Derived.KernelRfl
import Derived.Test.YthnnfemologhfaaPfr5
namespace Go.Proofs.Ythnnfemologhfaa
open Go.Ai
set_option maxRecDepth 100000
def Try.i154 : IFunc := ⟨1, 6, [.tmp 2],
  .seq (.region false [o1 2 (.mov (.c (.int .i64 0)))])
  (.seq (.region false [oM 3 0,
   oC 4 123 [3],
   o1 5 (.bin .sub (.c (.int .i64 32)) (.t 4)),
   oM 2 5])
  (.ret))⟩
def Try.r154 : List (Nat × Nat) := []
theorem Try.i154_ok : fnOk Try.prog Try.r154 Try.f154 Try.i154 = true := by kernel_rfl
def Try.i155 : IFunc := ⟨2, 42, [.tmp 4],
  .seq (.region false [o1 4 (.nlo 1)])
  (.seq (.region false [oM 9 0,
   o1 10 (.len (.t 9)),
   o1 11 (.bin .add (.t 10) (.c (.int .i64 1))),
   o1 12 (.mks [.int .u32 0] (.t 11)),
   ⟨some 5, .tra 12, none, [25, 27, 32, 33, 39]⟩])
  (.seq (.seq (.region false [oM 13 0,
   o1 14 (.len (.t 13)),
   o1 15 (.mov (.c (.int .i64 0)))])
  (.block 0 (.loop (.seq (.region false [oB 16 .lss 15 14])
  (.seq (.cond (.t 16) (.skip)
  (.exit 0))
  (.seq (.block 1 (.seq (.region false [oM 17 15,
   o1 18 (.ixa 13 (.t 15) 1),
   o1 19 (.ld 18 18 1 true),
   oM 6 17,
   oM 7 19])
  (.seq (.region false [oM 20 7,
   o1 21 (.cv .u64 (.t 20)),
   oM 22 1,
   o1 23 (.cv .u64 (.t 22)),
   oB 24 .shl 21 23,
   oM 8 24])
  (.seq (.region false [o1 25 (.cpy 5),
   oM 26 6,
   o1 27 (.ixo 25 5 (.t 26) 1),
   o1 28 (.ld 27 5 1 true),
   oM 29 8,
   o1 30 (.cv .u32 (.t 29)),
   oB 31 .or 28 30,
   o1 32 (.ixo 25 5 (.t 26) 1),
   oN (.st 32 5 1 (.t 31))])
  (.region false [o1 33 (.cpy 5),
   oM 34 6,
   o1 35 (.bin .add (.t 34) (.c (.int .i64 1))),
   oM 36 8,
   o1 37 (.bin .shr (.t 36) (.c (.int .u64 32))),
   o1 38 (.cv .u32 (.t 37)),
   o1 39 (.ixo 33 5 (.t 35) 1),
   oN (.st 39 5 1 (.t 38))])))))
  (.region false [o1 40 (.bin .add (.t 15) (.c (.int .i64 1))),
   oM 15 40])))))))
  (.seq (.region false [o1 41 (.tra 5),
   o1 4 (.tra 41)])
  (.ret))))⟩
def Try.r155 : List (Nat × Nat) := [(25, 5), (27, 5), (32, 5), (33, 5), (39, 5)]
theorem Try.i155_ok : fnOk Try.prog Try.r155 Try.f155 Try.i155 = true := by kernel_rfl
def Try.i156 : IFunc := ⟨2, 58, [.tmp 4],
  .seq (.region false [o1 4 (.nlo 1)])
  (.seq (.seq (.region false [oM 9 0,
   o1 10 (.len (.t 9)),
   oM 11 1,
   o1 12 (.len (.t 11)),
   oB 13 .lss 10 12])
  (.cond (.t 13) (.region false [oM 14 1,
   oM 15 0,
   oM 0 14,
   oM 1 15])
  (.skip)))
  (.seq (.region false [oM 16 0,
   o1 17 (.len (.t 16)),
   o1 18 (.bin .add (.t 17) (.c (.int .i64 1))),
   o1 19 (.mks [.int .u32 0] (.t 18)),
   ⟨some 5, .tra 19, none, [43, 49, 51, 56]⟩])
  (.seq (.region false [o1 6 (.mov (.c (.int .u64 0)))])
  (.seq (.seq (.region false [oM 20 0,
   o1 21 (.len (.t 20)),
   o1 22 (.mov (.c (.int .i64 0)))])
  (.block 0 (.loop (.seq (.region false [oB 23 .lss 22 21])
  (.seq (.cond (.t 23) (.skip)
  (.exit 0))
  (.seq (.block 1 (.seq (.region false [oM 24 22,
   oM 7 24])
  (.seq (.region false [oM 25 0,
   oM 26 7,
   o1 27 (.ixa 25 (.t 26) 1),
   o1 28 (.ld 27 27 1 true),
   o1 29 (.cv .u64 (.t 28)),
   oM 30 6,
   oB 31 .add 29 30,
   oM 8 31])
  (.seq (.seq (.region false [oM 32 7,
   oM 33 1,
   o1 34 (.len (.t 33)),
   oB 35 .lss 32 34])
  (.cond (.t 35) (.region false [oM 36 8,
   oM 37 1,
   oM 38 7,
   o1 39 (.ixa 37 (.t 38) 1),
   o1 40 (.ld 39 39 1 true),
   o1 41 (.cv .u64 (.t 40)),
   oB 42 .add 36 41,
   oM 8 42])
  (.skip)))
  (.region false [o1 43 (.cpy 5),
   oM 44 7,
   oM 45 8,
   o1 46 (.cv .u32 (.t 45)),
   oM 47 8,
   o1 48 (.bin .shr (.t 47) (.c (.int .u64 32))),
   o1 49 (.ixo 43 5 (.t 44) 1),
   oN (.st 49 5 1 (.t 46)),
   oM 6 48])))))
  (.region false [o1 50 (.bin .add (.t 22) (.c (.int .i64 1))),
   oM 22 50])))))))
  (.seq (.region false [o1 51 (.cpy 5),
   oM 52 0,
   o1 53 (.len (.t 52)),
   oM 54 6,
   o1 55 (.cv .u32 (.t 54)),
   o1 56 (.ixo 51 5 (.t 53) 1),
   oN (.st 56 5 1 (.t 55))])
  (.seq (.region false [o1 57 (.tra 5),
   o1 4 (.tra 57)])
  (.ret)))))))⟩
def Try.r156 : List (Nat × Nat) := [(43, 5), (49, 5), (51, 5), (56, 5)]
theorem Try.i156_ok : fnOk Try.prog Try.r156 Try.f156 Try.i156 = true := by kernel_rfl
def Try.i157 : IFunc := ⟨2, 44, [.tmp 4],
  .seq (.region false [o1 4 (.nlo 1)])
  (.seq (.region false [oM 9 0,
   o1 10 (.len (.t 9)),
   o1 11 (.mks [.int .u32 0] (.t 10)),
   ⟨some 5, .tra 11, none, [35, 41]⟩])
  (.seq (.region false [o1 6 (.mov (.c (.int .u64 0)))])
  (.seq (.seq (.region false [oM 12 0,
   o1 13 (.len (.t 12)),
   o1 14 (.mov (.c (.int .i64 0)))])
  (.block 0 (.loop (.seq (.region false [oB 15 .lss 14 13])
  (.seq (.cond (.t 15) (.skip)
  (.exit 0))
  (.seq (.block 1 (.seq (.region false [oM 16 14,
   oM 7 16])
  (.seq (.region false [oM 17 0,
   oM 18 7,
   o1 19 (.ixa 17 (.t 18) 1),
   o1 20 (.ld 19 19 1 true),
   o1 21 (.cv .u64 (.t 20)),
   oM 22 6,
   oB 23 .sub 21 22,
   oM 8 23])
  (.seq (.seq (.region false [oM 24 7,
   oM 25 1,
   o1 26 (.len (.t 25)),
   oB 27 .lss 24 26])
  (.cond (.t 27) (.region false [oM 28 8,
   oM 29 1,
   oM 30 7,
   o1 31 (.ixa 29 (.t 30) 1),
   o1 32 (.ld 31 31 1 true),
   o1 33 (.cv .u64 (.t 32)),
   oB 34 .sub 28 33,
   oM 8 34])
  (.skip)))
  (.region false [o1 35 (.cpy 5),
   oM 36 7,
   oM 37 8,
   o1 38 (.cv .u32 (.t 37)),
   oM 39 8,
   o1 40 (.bin .shr (.t 39) (.c (.int .u64 63))),
   o1 41 (.ixo 35 5 (.t 36) 1),
   oN (.st 41 5 1 (.t 38)),
   oM 6 40])))))
  (.region false [o1 42 (.bin .add (.t 14) (.c (.int .i64 1))),
   oM 14 42])))))))
  (.seq (.region false [o1 43 (.tra 5),
   o1 4 (.tra 43)])
  (.ret)))))⟩
def Try.r157 : List (Nat × Nat) := [(35, 5), (41, 5)]
theorem Try.i157_ok : fnOk Try.prog Try.r157 Try.f157 Try.i157 = true := by kernel_rfl
def Try.i158 : IFunc := ⟨1, 21, [.tmp 2],
  .seq (.region false [o1 2 (.nlo 1)])
  (.seq (.region false [oM 4 0,
   o1 5 (.len (.t 4)),
   oM 3 5])
  (.seq (.block 0 (.loop (.seq (.seq (.region false [oM 6 3,
   o1 7 (.bin .gtr (.t 6) (.c (.int .i64 0))),
   oM 8 7,
   oG 9 (.mov (.t 0)) 8 true,
   oG 10 (.mov (.t 3)) 8 true,
   oG 11 (.bin .sub (.t 10) (.c (.int .i64 1))) 8 true,
   oG 12 (.ixa 9 (.t 11) 1) 8 true,
   oG 13 (.ld 12 12 1 true) 8 true,
   oG 14 (.bin .eql (.t 13) (.c (.int .u32 0))) 8 true,
   o1 15 (.pick (.t 8) (.t 14) (.c (.bool false)))])
  (.cond (.t 15) (.skip)
  (.exit 0)))
  (.block 1 (.region false [oM 16 3,
   o1 17 (.bin .sub (.t 16) (.c (.int .i64 1))),
   oM 3 17])))))
  (.seq (.region false [oM 18 0,
   oM 19 3,
   o1 20 (.sli (.t 18) none (some (.t 19)) none 1),
   o1 2 (.tra 20)])
  (.ret))))⟩
def Try.r158 : List (Nat × Nat) := []
theorem Try.i158_ok : fnOk Try.prog Try.r158 Try.f158 Try.i158 = true := by kernel_rfl
end Go.Proofs.Ythnnfemologhfaa

namespace Go.Ai
open Go.RowKit
def SLe (s s' : State) : Prop := s.length = s'.length ∧ ∀ t, rget s t = .dead ∨ rget s t = rget s' t
theorem SLe.refl (s : State) : SLe s s := ⟨rfl, fun _ => .inr rfl⟩
theorem SLe.trans {a b c : State} (h : SLe a b) (k : SLe b c) : SLe a c := by
  refine ⟨h.1.trans k.1, fun t => ?_⟩
  rcases h.2 t with h1 | h1
  · exact .inl h1
  · rcases k.2 t with k1 | k1
    · exact .inl (h1.trans k1)
    · exact .inr (h1.trans k1)
theorem SLe.get {s s' : State} (h : SLe s s') {t : Nat} {r : Reg} (hr : rget s t = r) (hd : r ≠ .dead) : rget s' t = r := by
  rcases h.2 t with h1 | h1
  · exact absurd (hr.symm.trans h1) hd
  · rw [← h1, hr]
theorem SLe.av {s s' : State} (h : SLe s s') {o : Opd} {x : AV} (hx : o.av s = some x) : o.av s' = some x := by
  cases o with
  | c y => exact hx
  | t n =>
    simp only [Opd.av, Opd.reg] at hx ⊢
    split at hx
    · rename_i y hy
      cases hx
      rw [h.get hy (by intro e; cases e)]
    · cases hx
theorem SLe.avs {s s' : State} (h : SLe s s') : ∀ {l : List Opd} {xs : List AV}, avs s l = some xs → avs s' l = some xs
  | [], xs, hx => hx
  | o :: l, xs, hx => by
    simp only [Go.Ai.avs] at hx ⊢
    cases h1 : o.av s with
    | none => rw [h1] at hx; cases hx
    | some x =>
      rw [h1] at hx
      rw [h.av h1]
      cases h2 : Go.Ai.avs s l with
      | none => rw [h2] at hx; cases hx
      | some ys =>
        rw [h2] at hx
        rw [h.avs h2]
        exact hx
theorem SLe.fill {s s' : State} (h : SLe s s') : ∀ {ps : List (Nat × Nat × Opd)} {cs cs' : List AV}, fillA s cs ps = some cs' → fillA s' cs ps = some cs'
  | [], _, _, hx => hx
  | (off, n, o) :: ps, cs, cs', hx => by
    simp only [fillA] at hx ⊢
    cases h1 : o.av s with
    | none => rw [h1] at hx; cases hx
    | some x =>
      rw [h1] at hx
      rw [h.av h1]
      dsimp only at hx ⊢
      cases h2 : cellsA x n with
      | none => rw [h2] at hx; cases hx
      | some ys =>
        rw [h2] at hx
        dsimp only at hx ⊢
        cases h3 : layA cs off ys with
        | none => rw [h3] at hx; cases hx
        | some cs1 =>
          rw [h3] at hx
          dsimp only at hx ⊢
          exact h.fill hx
theorem SLe.reg {s s' : State} (h : SLe s s') {o : Opd} {r : Reg} (hx : o.reg s = r) (hd : r ≠ .dead) : o.reg s' = r := by
  cases o with
  | c y => exact hx
  | t n => exact h.get hx hd
theorem SLe.bnd {s s' : State} (h : SLe s s') {o : Option Opd} {d n : Nat} (hx : bndA s d o = some n) : bndA s' d o = some n := by
  cases o with
  | none => exact hx
  | some o =>
    simp only [bndA] at hx ⊢
    split at hx
    · rename_i k i hi
      rw [h.av hi]
      exact hx
    · cases hx
theorem evK_mono {F : Caller} {s s' : State} (h : SLe s s') {k : K} {p : Reg × List (Nat × Reg)} (hk : evK F s k = some p) : evK F s' k = some p := by
  cases k <;> simp only [evK] at hk ⊢
  case mov x =>
    simp only [Option.map_eq_some_iff] at hk ⊢
    obtain ⟨v, hv, e⟩ := hk
    exact ⟨v, h.av hv, e⟩
  case pick c a b =>
    split at hk
    · rename_i hc
      rw [h.av hc]
      simp only [Option.map_eq_some_iff] at hk ⊢
      obtain ⟨v, hv, e⟩ := hk
      exact ⟨v, h.av hv, e⟩
    · rename_i hc
      rw [h.av hc]
      simp only [Option.map_eq_some_iff] at hk ⊢
      obtain ⟨v, hv, e⟩ := hk
      exact ⟨v, h.av hv, e⟩
    · cases hk
  case bin op x y =>
    split at hk
    · rename_i hx hy; rw [h.av hx, h.av hy]; exact hk
    · cases hk
  case eqb neg x y =>
    split at hk
    · rename_i hx hy; rw [h.av hx, h.av hy]; exact hk
    · cases hk
  case eqv neg n x y =>
    split at hk
    · rename_i hx hy; rw [h.av hx, h.av hy]; exact hk
    · cases hk
  case un op x =>
    split at hk
    · rename_i hx; rw [h.av hx]; exact hk
    · cases hk
  case cv k x =>
    split at hk
    · rename_i hx; rw [h.av hx]; exact hk
    · cases hk
  case new z ks => exact hk
  case box x ks =>
    split at hk
    · rename_i hx; rw [h.av hx]; exact hk
    · rename_i y hne hx
      rw [h.av hx]
      split at hk
      · rename_i hd
        cases hk
        cases y <;> first | (cases hd; done) | simp only [isData, if_true]
      · cases hk
    · cases hk
  case bld z ps =>
    simp only [Option.map_eq_some_iff] at hk ⊢
    obtain ⟨v, hv, e⟩ := hk
    exact ⟨v, h.fill hv, e⟩
  case bls n z ps =>
    simp only [Option.map_eq_some_iff] at hk ⊢
    obtain ⟨v, hv, e⟩ := hk
    exact ⟨v, h.fill hv, e⟩
  case adr x d off =>
    cases hr : rget s x <;> rw [hr] at hk <;> first | (cases hk; done) | (rw [h.get hr (by intro e; cases e)]; exact hk)
  case ld x d n one =>
    cases hr : rget s x with
    | box cs => rw [hr] at hk; rw [h.get hr (by intro e; cases e)]; exact hk
    | mem cs => rw [hr] at hk; rw [h.get hr (by intro e; cases e)]; exact hk
    | ptr d' off =>
      rw [hr] at hk
      rw [h.get hr (by intro e; cases e)]
      dsimp only at hk ⊢
      split at hk
      · rename_i hd
        rw [if_pos hd]
        cases hr2 : rget s d <;> rw [hr2] at hk <;> first | (cases hk; done) | (rw [h.get hr2 (by intro e; cases e)]; exact hk)
      · cases hk
    | val x => rw [hr] at hk; cases hk
    | own _ _ _ => rw [hr] at hk; cases hk
    | dup d => rw [hr] at hk; cases hk
    | dead => rw [hr] at hk; cases hk
  case st x d n v =>
    split at hk
    · cases hk
    · rename_i a ha
      rw [h.av ha]
      dsimp only at hk ⊢
      split at hk
      · cases hk
      · rename_i ys hys
        cases hr : rget s x with
        | box cs => rw [hr] at hk; rw [h.get hr (by intro e; cases e)]; exact hk
        | ptr d' off =>
          rw [hr] at hk
          rw [h.get hr (by intro e; cases e)]
          dsimp only at hk ⊢
          split at hk
          · rename_i hd
            rw [if_pos hd]
            cases hr2 : rget s d <;> rw [hr2] at hk <;> first | (cases hk; done) | (rw [h.get hr2 (by intro e; cases e)]; exact hk)
          · cases hk
        | mem cs => rw [hr] at hk; cases hk
        | val x => rw [hr] at hk; cases hk
        | own _ _ _ => rw [hr] at hk; cases hk
        | dup d => rw [hr] at hk; cases hk
        | dead => rw [hr] at hk; cases hk
  case fld x off n one =>
    split at hk
    · rename_i hx; rw [h.av hx]; exact hk
    · cases hk
  case ixa x i k =>
    split at hk
    · rename_i k1 iv hi
      rw [h.av hi]
      dsimp only at hk ⊢
      split at hk
      · rename_i n cs hr; rw [h.get hr (by intro e; cases e)]; exact hk
      · cases hk
    · cases hk
  case ixb x i len k =>
    split at hk
    · rename_i k1 iv hi
      rw [h.av hi]
      dsimp only at hk ⊢
      split at hk
      · rename_i cs hr; rw [h.get hr (by intro e; cases e)]; exact hk
      · cases hk
    · cases hk
  case idx x i len n one =>
    split at hk
    · rename_i hx hi; rw [h.av hx, h.av hi]; exact hk
    · cases hk
  case six x i =>
    split at hk
    · rename_i hx hi; rw [h.av hx, h.av hi]; exact hk
    · cases hk
  case ext x i =>
    split at hk
    · rename_i hx; rw [h.av hx]; exact hk
    · cases hk
  case len x =>
    split at hk
    · rename_i hx; rw [h.av hx]; exact hk
    · rename_i hx; rw [h.av hx]; exact hk
    · cases hk
  case mx xs =>
    split at hk
    · rename_i hx; rw [h.avs hx]; exact hk
    · cases hk
  case mn xs =>
    split at hk
    · rename_i hx; rw [h.avs hx]; exact hk
    · cases hk
  case call f xs =>
    split at hk
    · rename_i hx; rw [h.avs hx]; exact hk
    · cases hk
  case clo f xs =>
    split at hk
    · rename_i hx; rw [h.avs hx]; exact hk
    · cases hk
  case brw f x d =>
    cases hr : rget s x <;> rw [hr] at hk <;> first | (cases hk; done) | skip
    rename_i d'
    rw [h.get hr (by intro e; cases e)]
    simp only at hk ⊢
    by_cases hd : d' = d
    · rw [if_pos hd] at hk ⊢
      cases hr2 : rget s d <;> rw [hr2] at hk <;> first | (cases hk; done) | skip
      rw [h.get hr2 (by intro e; cases e)]
      exact hk
    · rw [if_neg hd] at hk; cases hk
  case cpy x =>
    cases hr : rget s x <;> rw [hr] at hk <;> first | (cases hk; done) | (rw [h.get hr (by intro e; cases e)]; exact hk)
  case tra x =>
    cases hr : rget s x <;> rw [hr] at hk <;> first | (cases hk; done) | (rw [h.get hr (by intro e; cases e)]; exact hk)
  case frz x =>
    cases hr : rget s x <;> rw [hr] at hk <;> first | (cases hk; done) | (rw [h.get hr (by intro e; cases e)]; exact hk)
  case mks z n =>
    split at hk
    · rename_i hx; rw [h.av hx]; exact hk
    · cases hk
  case blo k n z ps =>
    simp only [Option.map_eq_some_iff] at hk ⊢
    obtain ⟨v, hv, e⟩ := hk
    exact ⟨v, h.fill hv, e⟩
  case apd ow x y k =>
    split at hk
    · rename_i hy
      rw [h.av hy]
      dsimp only
      cases hr : x.reg s <;> rw [hr] at hk <;> first | (cases hk; done) | (rw [h.reg hr (by intro e; cases e)]; exact hk)
    · rename_i m ys hy
      rw [h.av hy]
      dsimp only
      split at hk
      · rename_i hl
        rw [if_pos hl]
        cases hr : x.reg s <;> rw [hr] at hk <;> first | (cases hk; done) | (rw [h.reg hr (by intro e; cases e)]; exact hk)
      · cases hk
    · cases hk
  case sli x lo hi mx k =>
    split at hk
    · rename_i hx
      rw [h.av hx]
      dsimp only
      split at hk
      · rename_i b1 b2 b3
        rw [h.bnd b1, h.bnd b2, h.bnd b3]
        exact hk
      · cases hk
    · rename_i n cs hx
      rw [h.av hx]
      dsimp only
      split at hk
      · rename_i m hh l b1 b2 b3
        rw [h.bnd b1, h.bnd b2, h.bnd b3]
        exact hk
      · cases hk
    · cases hk
  case ixo x d i k =>
    split at hk
    · rename_i k1 iv hi
      rw [h.av hi]
      dsimp only at hk ⊢
      split at hk
      · rename_i n cs hr; rw [h.get hr (by intro e; cases e)]; exact hk
      · rename_i d' hr
        rw [h.get hr (by intro e; cases e)]
        dsimp only
        split at hk
        · rename_i hd
          rw [if_pos hd]
          split at hk
          · rename_i k' n cs hr2
            rw [h.get hr2 (by intro e; cases e)]
            exact hk
          · cases hk
        · cases hk
      · cases hk
    · cases hk
  case lno x d =>
    split at hk
    · rename_i hr; rw [h.get hr (by intro e; cases e)]; exact hk
    · rename_i n cs hr; rw [h.get hr (by intro e; cases e)]; exact hk
    · rename_i d' hr
      rw [h.get hr (by intro e; cases e)]
      dsimp only
      split at hk
      · rename_i hd
        rw [if_pos hd]
        split at hk
        · rename_i k' n cs hr2
          rw [h.get hr2 (by intro e; cases e)]
          exact hk
        · cases hk
      · cases hk
    · cases hk
  case isn neg x d =>
    split at hk
    · rename_i hr; rw [h.get hr (by intro e; cases e)]; exact hk
    · rename_i n cs hr; rw [h.get hr (by intro e; cases e)]; exact hk
    · rename_i d' hr
      rw [h.get hr (by intro e; cases e)]
      dsimp only
      split at hk
      · rename_i hd
        rw [if_pos hd]
        split at hk
        · rename_i k' n cs hr2
          rw [h.get hr2 (by intro e; cases e)]
          exact hk
        · cases hk
      · cases hk
    · cases hk
  case nlo k => exact hk
  case bad => cases hk
theorem SLe.set {s s' : State} (h : SLe s s') (d : Nat) (r : Reg) : SLe (s.set d r) (s'.set d r) := by
  refine ⟨by simp [h.1], fun t => ?_⟩
  rw [rget_set, rget_set, h.1]
  split
  · exact .inr rfl
  · exact h.2 t
theorem SLe.puts {s s' : State} (h : SLe s s') : ∀ (l : List (Nat × Reg)), SLe (rputs s l) (rputs s' l) := by
  intro l
  induction l generalizing s s' with
  | nil => exact h
  | cons p l ih => obtain ⟨t, r⟩ := p; exact ih (h.set t r)
theorem SLe.put {s s' : State} (h : SLe s s') (d : Option Nat) (r : Reg) : SLe (rput s d r) (rput s' d r) := by
  cases d with
  | none => exact h
  | some d => exact h.set d r
theorem wantA_mono {s s' : State} (h : SLe s s') {g : Option (Nat × Bool)} {b : Bool} (hw : wantA s g = some b) : wantA s' g = some b := by
  cases g with
  | none => exact hw
  | some p =>
    obtain ⟨t, x⟩ := p
    simp only [wantA] at hw ⊢
    split at hw
    · rename_i hr; rw [h.get hr (by intro e; cases e)]; exact hw
    · rename_i hr; rw [h.get hr (by intro e; cases e)]; exact hw
    · cases hw
theorem evOp_mono {F : Caller} {o : IOp} {s s' t : State} (h : SLe s s') (he : evOp F o s = some t) : ∃ t', evOp F o s' = some t' ∧ SLe t t' := by
  have h : SLe (kill s o.ks) (kill s' o.ks) := h.puts _
  simp only [evOp, evOp0] at he ⊢
  generalize kill s o.ks = s at *
  generalize kill s' o.ks = s' at *
  split at he
  · cases he
  · rename_i hw
    cases he
    rw [wantA_mono h hw]
    exact ⟨_, rfl, h.put _ _⟩
  · rename_i hw
    rw [wantA_mono h hw]
    split at he
    · cases he
    · rename_i r l hk
      cases he
      rw [evK_mono h hk]
      exact ⟨_, rfl, (h.puts l).put _ _⟩
theorem evOps_mono {F : Caller} : ∀ {l : List IOp} {s s' t : State}, SLe s s' → evOps F l s = some t → ∃ t', evOps F l s' = some t' ∧ SLe t t'
  | [], s, s', t, h, he => by
    simp only [evOps, Option.some.injEq] at he
    subst he
    exact ⟨s', rfl, h⟩
  | o :: l, s, s', t, h, he => by
    simp only [evOps] at he ⊢
    cases h1 : evOp F o s with
    | none => rw [h1] at he; cases he
    | some s1 =>
      rw [h1] at he
      obtain ⟨s2, h2, h3⟩ := evOp_mono h h1
      rw [h2]
      exact evOps_mono h3 he
theorem evC_mono {F : Caller} : ∀ (n : Nat) {c : ICode} {s s' t : State} {ex : Ex}, SLe s s' → evC F n c s = some (ex, t) → ∃ t', evC F n c s' = some (ex, t') ∧ SLe t t' := by
  intro n
  induction n with
  | zero => intro c s s' t ex _ he; simp [evC] at he
  | succ n ih =>
    intro c s s' t ex h he
    cases c with
    | skip => simp only [evC, Option.some.injEq, Prod.mk.injEq] at he ⊢; obtain ⟨rfl, rfl⟩ := he; exact ⟨s', ⟨rfl, rfl⟩, h⟩
    | exit id => simp only [evC, Option.some.injEq, Prod.mk.injEq] at he ⊢; obtain ⟨rfl, rfl⟩ := he; exact ⟨s', ⟨rfl, rfl⟩, h⟩
    | ret => simp only [evC, Option.some.injEq, Prod.mk.injEq] at he ⊢; obtain ⟨rfl, rfl⟩ := he; exact ⟨s', ⟨rfl, rfl⟩, h⟩
    | region d ops =>
      simp only [evC, Option.map_eq_some_iff] at he ⊢
      obtain ⟨s1, h1, e⟩ := he
      cases e
      obtain ⟨t', h2, h3⟩ := evOps_mono h h1
      exact ⟨t', ⟨t', h2, rfl⟩, h3⟩
    | seq a b =>
      simp only [evC] at he ⊢
      cases h1 : evC F n a s with
      | none => rw [h1] at he; cases he
      | some p =>
        obtain ⟨e1, s1⟩ := p
        rw [h1] at he
        obtain ⟨s2, h2, h3⟩ := ih h h1
        rw [h2]
        cases e1 with
        | norm => exact ih h3 he
        | exit i => cases he; exact ⟨s2, rfl, h3⟩
        | ret => cases he; exact ⟨s2, rfl, h3⟩
    | cond c a b =>
      simp only [evC] at he ⊢
      have key : ∀ v, condA s c = some v → condA s' c = some v := by
        intro v hv
        unfold condA at hv ⊢
        split at hv
        · rename_i b' hb; rw [h.av hb]; exact hv
        · cases hv
      split at he
      · rename_i hc; rw [key _ hc]; exact ih h he
      · rename_i hc; rw [key _ hc]; exact ih h he
      · cases he
    | block id c =>
      simp only [evC] at he ⊢
      cases h1 : evC F n c s with
      | none => rw [h1] at he; cases he
      | some p =>
        obtain ⟨e1, s1⟩ := p
        rw [h1] at he
        obtain ⟨s2, h2, h3⟩ := ih h h1
        rw [h2]
        cases e1 with
        | norm => cases he; exact ⟨s2, rfl, h3⟩
        | ret => cases he; exact ⟨s2, rfl, h3⟩
        | exit i =>
          dsimp only at he ⊢
          split at he
          · rename_i hi; cases he; exact ⟨s2, by rw [if_pos hi], h3⟩
          · rename_i hi; cases he; exact ⟨s2, by rw [if_neg hi], h3⟩
    | loop c =>
      simp only [evC] at he ⊢
      cases h1 : evC F n c s with
      | none => rw [h1] at he; cases he
      | some p =>
        obtain ⟨e1, s1⟩ := p
        rw [h1] at he
        obtain ⟨s2, h2, h3⟩ := ih h h1
        rw [h2]
        cases e1 with
        | norm => exact ih h3 he
        | exit i => cases he; exact ⟨s2, rfl, h3⟩
        | ret => cases he; exact ⟨s2, rfl, h3⟩
def RunsW (prog : Nat → Option IFunc) (c : ICode) (s : State) (ex : Ex) (t : State) : Prop := ∃ t', RunsC prog c s ex t' ∧ SLe t t'
section
variable {prog : Nat → Option IFunc}
theorem RunsC.w {c : ICode} {s t : State} {ex : Ex} (h : RunsC prog c s ex t) : RunsW prog c s ex t := ⟨t, h, SLe.refl t⟩
theorem RunsC.mono {c : ICode} {s s' t : State} {ex : Ex} (h : RunsC prog c s ex t) (hs : SLe s s') : RunsW prog c s' ex t := by
  obtain ⟨n, h⟩ := h
  obtain ⟨t', h1, h2⟩ := evC_mono n hs h
  exact ⟨t', ⟨n, h1⟩, h2⟩
theorem RunsW.weak {c : ICode} {s s' t t' : State} {ex : Ex} (h : RunsW prog c s ex t) (hs : SLe s s') (ht : SLe t' t) : RunsW prog c s' ex t' := by
  obtain ⟨t1, h1, h2⟩ := h
  obtain ⟨t2, h3, h4⟩ := h1.mono hs
  exact ⟨t2, h3, (ht.trans h2).trans h4⟩
theorem RunsW.seq {a b : ICode} {s s1 t : State} {ex : Ex} (h1 : RunsW prog a s .norm s1) (h2 : RunsW prog b s1 ex t) : RunsW prog (.seq a b) s ex t := by
  obtain ⟨u, k1, k2⟩ := h1
  obtain ⟨v, k3, k4⟩ := h2.weak k2 (SLe.refl t)
  exact ⟨v, RunsC.seq k1 k3, k4⟩
theorem RunsW.seq_out {a b : ICode} {s t : State} {ex : Ex} (h1 : RunsW prog a s ex t) (hex : ex ≠ .norm) : RunsW prog (.seq a b) s ex t := by
  obtain ⟨u, k1, k2⟩ := h1
  exact ⟨u, RunsC.seq_out k1 hex, k2⟩
theorem RunsW.block {id : Nat} {c : ICode} {s t : State} (h : RunsW prog c s (.exit id) t) : RunsW prog (.block id c) s .norm t := by
  obtain ⟨u, k1, k2⟩ := h
  exact ⟨u, RunsC.block k1, k2⟩
theorem RunsW.block_ret {id : Nat} {c : ICode} {s t : State} (h : RunsW prog c s .ret t) : RunsW prog (.block id c) s .ret t := by
  obtain ⟨u, k1, k2⟩ := h
  exact ⟨u, RunsC.block_ret k1, k2⟩
theorem RunsW.block_norm {id : Nat} {c : ICode} {s t : State} (h : RunsW prog c s .norm t) : RunsW prog (.block id c) s .norm t := by
  obtain ⟨u, k1, k2⟩ := h
  exact ⟨u, RunsC.block_norm k1, k2⟩
theorem RunsW.loop {c : ICode} {s s1 t : State} {ex : Ex} (h1 : RunsW prog c s .norm s1) (h2 : RunsW prog (.loop c) s1 ex t) : RunsW prog (.loop c) s ex t := by
  obtain ⟨u, k1, k2⟩ := h1
  obtain ⟨v, k3, k4⟩ := h2.weak k2 (SLe.refl t)
  exact ⟨v, RunsC.loop k1 k3, k4⟩
theorem RunsW.loop_out {c : ICode} {s t : State} {ex : Ex} (h1 : RunsW prog c s ex t) (hex : ex ≠ .norm) : RunsW prog (.loop c) s ex t := by
  obtain ⟨u, k1, k2⟩ := h1
  exact ⟨u, RunsC.loop_out k1 hex, k2⟩
theorem resA_mono {s s' : State} (h : SLe s s') {r : IRes} {x : AV} (hr : resA s r = some x) : resA s' r = some x := by
  cases r with
  | tmp t =>
    simp only [resA] at hr ⊢
    split at hr
    · rename_i y hy; rw [h.get hy (by intro e; cases e)]; exact hr
    · rename_i k n cs hy; rw [h.get hy (by intro e; cases e)]; exact hr
    · cases hr
  | cell t n one =>
    simp only [resA] at hr ⊢
    split at hr
    · rename_i y hy; rw [h.get hy (by intro e; cases e)]; exact hr
    · cases hr
theorem ressA_mono {s s' : State} (h : SLe s s') : ∀ {l : List IRes} {xs : List AV}, ressA s l = some xs → ressA s' l = some xs
  | [], xs, hx => hx
  | r :: l, xs, hx => by
    simp only [ressA] at hx ⊢
    cases h1 : resA s r with
    | none => rw [h1] at hx; cases hx
    | some x =>
      rw [h1] at hx
      rw [resA_mono h h1]
      cases h2 : ressA s l with
      | none => rw [h2] at hx; cases hx
      | some ys =>
        rw [h2] at hx
        rw [ressA_mono h h2]
        exact hx
theorem freshA_mono {s s' : State} (h : SLe s s') {l : List IRes} {x : AV} (hx : freshA s l = some x) : freshA s' l = some x := by
  unfold freshA at hx ⊢
  split at hx
  · rename_i t
    split at hx
    · rename_i k n cs hr
      rw [h.get hr (by intro e; cases e)]
      exact hx
    · cases hx
  · cases hx
theorem freshA_none {s s' : State} (h : SLe s s') {l : List IRes} {xs : List AV} (hf : freshA s l = none) (hx : ressA s l = some xs) : freshA s' l = none := by
  cases l with
  | nil => rfl
  | cons r l =>
    cases r with
    | cell t n one => rfl
    | tmp t =>
      cases l with
      | cons _ _ => rfl
      | nil =>
        simp only [freshA] at hf ⊢
        cases hr : rget s t with
        | val x => rw [h.get hr (by intro e; cases e)]
        | own k n cs => rw [hr] at hf; cases hf
        | box _ => simp only [ressA, resA, hr] at hx; cases hx
        | ptr _ _ => simp only [ressA, resA, hr] at hx; cases hx
        | mem _ => simp only [ressA, resA, hr] at hx; cases hx
        | dup _ => simp only [ressA, resA, hr] at hx; cases hx
        | dead => simp only [ressA, resA, hr] at hx; cases hx
theorem Runs.of_bodyW {f : Nat} {fn : IFunc} {args : List AV} {s : State} {ex : Ex} {r : AV} (hf : prog f = some fn) (hl : args.length = fn.params) (h : RunsW prog fn.body (initA fn args) ex s)
    (hex : ∀ i, ex ≠ .exit i) (hr : resultA s fn.res = some r) : Runs prog f args r := by
  obtain ⟨u, k1, k2⟩ := h
  refine Runs.of_body hf hl k1 hex ?_
  unfold resultA at hr ⊢
  cases hfr : freshA s fn.res with
  | some y => rw [hfr] at hr; rw [freshA_mono k2 hfr]; exact hr
  | none =>
    rw [hfr] at hr
    dsimp only at hr
    split at hr
    · rename_i y hy; cases hr; rw [freshA_none k2 hfr hy, ressA_mono k2 hy]
    · rename_i ys hne hy
      cases hr
      rw [freshA_none k2 hfr hy, ressA_mono k2 hy]
      cases ys with
      | nil => rfl
      | cons y l =>
        cases l with
        | nil => exact (hne y rfl).elim
        | cons _ _ => rfl
    · cases hr
def keepS (ks : List Nat) (s : State) : State := s.zipIdx.map fun p => if ks.contains p.2 then p.1 else .dead
theorem keepS_le (ks : List Nat) (s : State) : SLe (keepS ks s) s := by
  refine ⟨by simp [keepS], fun t => ?_⟩
  simp only [rget, keepS, List.getD_eq_getElem?_getD, List.getElem?_map, List.getElem?_zipIdx]
  cases h : s[t]? with
  | none => simp
  | some r =>
    simp only [Option.map_some, Nat.zero_add, Option.getD_some]
    split
    · exact .inr rfl
    · exact .inl rfl
def evPS (prog : Nat → Option IFunc) (T : Table) (n : Nat) (c : ICode) (s : State) (sc : List Sc) (ks : List Nat) : Option (Ex × State × List Prop) :=
  match evCS prog T n c s sc [] with
  | some ((ex, t), [], ps) => some (ex, keepS ks t, ps)
  | _ => none
theorem RunsW.script {T : Table} (hT : THolds prog T) (n : Nat) {c : ICode} {s t : State} {ex : Ex} (sc : List Sc) (ks : List Nat) {ps : List Prop}
    (h : evPS prog T n c s sc ks = some (ex, t, ps)) (hp : AllP ps) : RunsW prog c s ex t := by
  unfold evPS at h
  split at h
  · rename_i ex' t' ps' h1
    cases h
    exact ⟨_, RunsC.script hT n sc h1 hp, keepS_le ks _⟩
  · cases h
theorem RunsW.go {T : Table} (hT : THolds prog T) (n : Nat) {c : ICode} {s t : State} {ex : Ex} (sc : List Sc) (ks : List Nat) {ps : List Prop}
    (hp : AllP ps) (h : evPS prog T n c s sc ks = some (ex, t, ps)) : RunsW prog c s ex t := RunsW.script hT n sc ks h hp
end
theorem ac {p : Prop} {ps : List Prop} (h : p) (hs : AllP ps) : AllP (p :: ps) := ⟨h, hs⟩
theorem a0 : AllP [] := trivial
theorem Runs.go {prog : Nat → Option IFunc} {T : Table} (hT : THolds prog T) {f : Nat} {fn : IFunc} (hf : prog f = some fn) (n : Nat) {args : List AV} (hl : args.length = fn.params) (sc : List Sc) {r : AV} {ps : List Prop}
    (hp : AllP ps) (h : evFS prog T n fn args sc = some (r, ps)) : Runs prog f args r := Runs.script hT hf n hl sc h hp
end Go.Ai
