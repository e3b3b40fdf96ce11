/- Runs along a script: one way through the code. What decides the way is collected as conditions, so that Lean's kernel can run code over numbers that are variables. -/
import Derived.Test.YtokngfogomhmdaaGreatAbs13
namespace Go.Ai
open Go.RowKit

inductive Sc where
  | b (x : Bool)
  | v (x : AV)
  | l (cs : List AV)
  | r (x : AV)

theorem AllP_append : ∀ {l m : List Prop}, AllP (l ++ m) ↔ AllP l ∧ AllP m
  | [], m => by simp [AllP]
  | p :: l, m => by simp only [List.cons_append, AllP, AllP_append (l := l), and_assoc]

abbrev R3 (α : Type) := Option (α × List Sc × List Prop)

def binS (op : BinOp) (k k' : IntKind) (a b : Int) : Option (AV × List Prop) :=
  match op with
  | .quo => if k = k' then some (.int k (k.wrap (a.tdiv b)), [¬ b = 0]) else none
  | .rem => if k = k' then some (.int k (a.tmod b), [¬ b = 0]) else none
  | .shl => some (.int k (k.wrap (a * 2 ^ (min b.toNat k.bits))), [¬ b < 0])
  | .shr => some (.int k (a.fdiv (2 ^ (min b.toNat k.bits))), [¬ b < 0])
  | op => (binA op (.int k a) (.int k' b)).map fun v => (v, [])

theorem binS_ok {op : BinOp} {k k' : IntKind} {a b : Int} {v : AV} {ps : List Prop} (h : binS op k k' a b = some (v, ps)) (hp : AllP ps) : binA op (.int k a) (.int k' b) = some v := by
  cases op
  case quo =>
    simp only [binS] at h
    split at h
    · rename_i hk
      cases h
      simp only [binA, isShift, hk, intA]
      simp only [Bool.false_eq_true, if_false, if_true, if_neg hp.1]
    · cases h
  case rem =>
    simp only [binS] at h
    split at h
    · rename_i hk
      cases h
      simp only [binA, isShift, hk, intA]
      simp only [Bool.false_eq_true, if_false, if_true, if_neg hp.1]
    · cases h
  case shl =>
    simp only [binS] at h
    cases h
    simp only [binA, isShift, if_true, shiftA, if_neg hp.1]
  case shr =>
    simp only [binS] at h
    cases h
    simp only [binA, isShift, if_true, shiftA, if_neg hp.1]
  all_goals
    simp only [binS, Option.map_eq_some_iff] at h
    obtain ⟨u, hu, e⟩ := h
    cases e
    exact hu

/-- A slot whose truth value has been decided already. -/
abbrev Memo := Option (Nat × Bool)
def Memo.is (m : Memo) (t : Nat) : Option Bool :=
  match m with
  | some (u, x) => if u = t then some x else none
  | none => none
def Memo.opd (m : Memo) : Opd → Option Bool
  | .t n => m.is n
  | .c _ => none
def Memo.Ok (s : State) (m : Memo) : Prop := ∀ t x, m = some (t, x) → rget s t = .val (.bool x)

theorem Memo.opd_ok {s : State} {m : Memo} (h : m.Ok s) {o : Opd} {x : Bool} (ho : m.opd o = some x) : o.av s = some (.bool x) := by
  cases o with
  | c y => cases ho
  | t n =>
    simp only [Memo.opd, Memo.is] at ho
    split at ho
    · rename_i u y
      split at ho
      · rename_i hu
        cases ho
        subst hu
        simp only [Opd.av, Opd.reg, h _ _ rfl]
      · cases ho
    · cases ho

/-- One bound of a slice expression, with what must hold. -/
def bndS (s : State) (d : Nat) : Option Opd → Option (Nat × List Prop)
  | none => some (d, [])
  | some o => match o.av s with
    | some (.int _ i) => some (i.toNat, [0 ≤ i])
    | _ => none

theorem bndS_ok {s : State} {d : Nat} {o : Option Opd} {n : Nat} {ps : List Prop} (h : bndS s d o = some (n, ps)) (hp : AllP ps) : bndA s d o = some n := by
  cases o with
  | none => simp only [bndS, Option.some.injEq, Prod.mk.injEq] at h; rw [← h.1]; rfl
  | some o =>
    simp only [bndS] at h
    simp only [bndA]
    split at h
    · rename_i k i hi
      cases h
      rw [hi]
      simp only [if_pos hp.1]
    · cases h

def evKS (prog : Nat → Option IFunc) (T : Table) (s : State) (m : Memo) (k : K) (sc : List Sc) : R3 (Reg × List (Nat × Reg)) :=
  match k with
  | .pick c a b =>
    match m.opd c with
    | some true => (a.av s).map fun v => ((.val v, []), sc, [])
    | some false => (b.av s).map fun v => ((.val v, []), sc, [])
    | none => match c.av s, sc with
    | some (.bool c), .b t :: sc => (match t with | true => (a.av s) | false => (b.av s)).map fun v => ((.val v, []), sc, [c = t])
    | _, _ => none
  | .bin op x y =>
    match x.av s, y.av s with
    | some (.int k a), some (.int k' b) => (binS op k k' a b).map fun p => ((.val p.1, []), sc, p.2)
    | _, _ => none
  | .ixa x i k =>
    match i.av s, rget s x with
    | some (.int _ i), .val (.sl n cs) => some ((.mem (cs.drop (i.toNat * k)), []), sc, [0 ≤ i ∧ i < n])
    | _, _ => none
  | .ixb x i len k =>
    match i.av s, rget s x with
    | some (.int _ i), .box _ => some ((.ptr x (i.toNat * k), []), sc, [0 ≤ i ∧ i < len])
    | _, _ => none
  | .ld x d n one =>
    match rget s x, sc with
    | .mem cs, .v u :: sc => some ((.val u, []), sc, [takeA cs 0 n one = some u])
    | .ptr d' off, sc => if d' = d then (match rget s d, sc with
      | .own _ _ cs, .v u :: sc => some ((.val u, []), sc, [takeA cs off n one = some u])
      | .box cs, sc => (takeA cs off n one).map fun v => ((.val v, []), sc, [])
      | _, _ => none) else none
    | _, sc => (evK (fun _ _ => none) s (.ld x d n one)).map fun p => (p, sc, [])
  | .six x i =>
    match x.av s, i.av s, sc with
    | some (.str b), some (.int _ i), .v (.int .u8 n) :: sc => some ((.val (.int .u8 n), []), sc, [((if 0 ≤ i then b[i.toNat]? else none).map fun c => ((c.toNat : Nat) : Int)) = some n])
    | _, _, _ => none
  | .call f xs =>
    match avs s xs with
    | some vs => (match tab T f vs with
      | some p => some ((.val (thaw p.1), []), sc, p.2)
      | none => (match sc with
        | .r r :: sc => some ((.val (thaw r), []), sc, [Runs prog f vs r])
        | _ => none))
    | none => none
  | .st x d n v =>
    match v.av s with
    | none => none
    | some a => match cellsA a n with
      | none => none
      | some ys => match rget s x with
        | .box cs => if x = d then (layA cs 0 ys).map fun cs' => ((.dead, [(d, .box cs')]), sc, []) else none
        | .ptr d' off => if d' = d then (match rget s d, sc with
          | .own k m cs, .l cs' :: sc => some ((.dead, [(d, .own k m cs')]), sc, [layA cs off ys = some cs'])
          | .box cs, sc => (layA cs off ys).map fun cs' => ((.dead, [(d, .box cs')]), sc, [])
          | _, _ => none) else none
        | _ => none
  | .ixo x d i k =>
    match i.av s with
    | some (.int _ i) => (match rget s x with
      | .val (.sl n cs) => some ((.mem (cs.drop (i.toNat * k)), []), sc, [0 ≤ i ∧ i < n])
      | .dup d' => if d' = d then (match rget s d with
        | .own k' n _ => if k' = k then some ((.ptr d (i.toNat * k), []), sc, [0 ≤ i ∧ i < n]) else none
        | _ => none) else none
      | _ => none)
    | _ => none
  | .mks z n =>
    match n.av s with
    | some (.int _ m) => some ((.own z.length m.toNat (replA z m.toNat), []), sc, [0 ≤ m ∧ m ≤ 1048576])
    | _ => none
  | .apd ow x y k B =>
    match y.av s with
    | some (.sl m ys) => (match x.reg s, sc with
      | .val .nil, sc => some ((if ow then .own k m ys else .val (.sl m ys), []), sc, [ys.length = m * k, m ≤ B])
      | .own k' n cs, sc => if k' = k then some ((if ow then .own k (n + m) (cs ++ ys) else .val (.sl (n + m) (cs ++ ys)), killO x), sc, [ys.length = m * k, n + m ≤ B]) else none
      | _, _ => none)
    | _ => (evK (fun _ _ => none) s (.apd ow x y k B)).map fun p => (p, sc, [])
  | .sli x lo hi mx k =>
    match x.av s with
    | some (.sl n cs) => (match bndS s n mx, bndS s n hi, bndS s 0 lo with
      | some (m, p1), some (h, p2), some (l, p3) => some ((.val (.sl (h - l) ((cs.drop (l * k)).take ((h - l) * k))), []), sc, p1 ++ (p2 ++ (p3 ++ [l ≤ h ∧ h ≤ m ∧ m ≤ n ∧ (mx.isSome → hi.isSome)])))
      | _, _, _ => none)
    | _ => (evK (fun _ _ => none) s (.sli x lo hi mx k)).map fun p => (p, sc, [])
  | .clo f xs =>
    match avs s xs with
    | some vs => (match tab T f vs with
      | some p => some ((ownReg p.1, []), sc, p.2)
      | none => (match sc with
        | .r r :: sc => some ((ownReg r, []), sc, [Runs prog f vs r])
        | _ => none))
    | none => none
  | .cln f xs ls =>
    match avs s xs with
    | some vs => if ls.all (fun t => isFirm (rget s t)) then (match tab T f vs with
      | some p => some ((ownReg p.1, []), sc, p.2)
      | none => (match sc with
        | .r r :: sc => some ((ownReg r, []), sc, [Runs prog f vs r])
        | _ => none)) else none
    | none => none
  | .brw f x d =>
    match rget s x with
    | .dup d' => if d' = d then (match rget s d with
      | .own _ n cs => (match tab T f [.sl n cs] with
        | some p => some ((.val (thaw p.1), []), sc, [cs.all (fun c => !isI c) = true, intsOnly (thaw p.1) = true] ++ p.2)
        | none => (match sc with
          | .r r :: sc => some ((.val (thaw r), []), sc, [cs.all (fun c => !isI c) = true, intsOnly (thaw r) = true, Runs prog f [.sl n cs] r])
          | _ => none))
      | _ => none) else none
    | _ => none
  | .slo x hi k =>
    match hi.av s with
    | some (.int _ h) => (match rget s x with
      | .own k' n cs => if k' = k then some ((.own k h.toNat (cs.take (h.toNat * k)), [(x, .dead)]), sc, [0 ≤ h ∧ h ≤ n]) else none
      | _ => none)
    | _ => none
  | .cal f x xs =>
    match x.av s, avs s xs with
    | some (.fnc f' cs), some vs => if f' = f then (match tab T f (vs ++ [.pt cs]) with
      | some p => some ((.val (thaw p.1), []), sc, p.2)
      | none => (match sc with
        | .r r :: sc => some ((.val (thaw r), []), sc, [Runs prog f (vs ++ [.pt cs]) r])
        | _ => none)) else none
    | _, _ => none
  | .cao f k x xs =>
    match avs s xs with
    | some vs => (match x with
      | .t m => (match rget s m with
        | .own k' n cs => (match tab T f (.fresh k' n cs :: vs) with
          | some p => some ((ownReg p.1, [(m, .dead)]), sc, p.2)
          | none => (match sc with
            | .r r :: sc => some ((ownReg r, [(m, .dead)]), sc, [Runs prog f (.fresh k' n cs :: vs) r])
            | _ => none))
        | _ => none)
      | .c (.sl 0 []) => (match tab T f (.fresh k 0 [] :: vs) with
        | some p => some ((ownReg p.1, []), sc, p.2)
        | none => (match sc with
          | .r r :: sc => some ((ownReg r, []), sc, [Runs prog f (.fresh k 0 [] :: vs) r])
          | _ => none))
      | _ => none)
    | none => none
  | .sub x d lo hi k =>
    match rget s x with
    | .dup d' => if d' = d then (match rget s d with
      | .own k' n _ => (match bndS s n hi, bndS s 0 lo with
        | some (h, p1), some (l, p2) => if k' = k then some ((.sub d k l h, []), sc, p1 ++ (p2 ++ [l ≤ h ∧ h ≤ n])) else none
        | _, _ => none)
      | _ => none) else none
    | _ => none
  | .app ow x d y k =>
    match rget s x with
    | .sub d' k' l h => if d' = d ∧ k' = k ∧ l = 0 then (match rget s d with
      | .own k'' n cs => if k'' = k then (match y.av s with
        | some (.sl m ys) => some ((if ow then .own k (h + m) (cs.take (h * k) ++ ys) else .val (.sl (h + m) (cs.take (h * k) ++ ys)), [(d, .dead), (x, .dead)]), sc, [h ≤ n, ys.length = m * k ∧ h + m ≤ 1048576])
        | _ => none) else none
      | _ => none) else none
    | _ => none
  | .apb ow x y d k =>
    match rget s x with
    | .own k0 n cs => (match rget s y with
      | .sub d' k' l h => if d' = d ∧ k' = k ∧ k0 = k then (match rget s d with
        | .own k'' n' cs' => if k'' = k then some ((if ow then .own k (n + (h - l)) (cs ++ (cs'.drop (l * k)).take ((h - l) * k)) else .val (.sl (n + (h - l)) (cs ++ (cs'.drop (l * k)).take ((h - l) * k))), [(x, .dead)]), sc, [h ≤ n' ∧ n + (h - l) ≤ 1048576]) else none
        | _ => none) else none
      | _ => none)
    | _ => none
  | k => (evK (fun _ _ => none) s k).map fun p => (p, sc, [])

theorem evKS_ok {prog : Nat → Option IFunc} {T : Table} (hT : THolds prog T) {s : State} {m : Memo} (hm : m.Ok s) {k : K} {sc sc' : List Sc} {p : Reg × List (Nat × Reg)} {ps : List Prop} (h : evKS prog T s m k sc = some (p, sc', ps)) (hp : AllP ps) : evK (lim prog) s k = some p := by
  cases k
  case pick c a b =>
    simp only [evKS] at h
    split at h
    · rename_i hmo
      simp only [Option.map_eq_some_iff] at h
      obtain ⟨v, hv, e⟩ := h
      cases e
      simp only [evK, Memo.opd_ok hm hmo, hv, Option.map_some]
    · rename_i hmo
      simp only [Option.map_eq_some_iff] at h
      obtain ⟨v, hv, e⟩ := h
      cases e
      simp only [evK, Memo.opd_ok hm hmo, hv, Option.map_some]
    split at h
    · rename_i c' t sc1 hc
      simp only [Option.map_eq_some_iff] at h
      obtain ⟨v, hv, e⟩ := h
      cases e
      have : c' = t := hp.1
      subst this
      cases c' with
      | true => simp only [evK, hc]; simp only at hv; rw [hv]; rfl
      | false => simp only [evK, hc]; simp only at hv; rw [hv]; rfl
    · cases h
  case bin op x y =>
    simp only [evKS] at h
    split at h
    · rename_i k1 a k2 b hx hy
      simp only [Option.map_eq_some_iff] at h
      obtain ⟨⟨v, ps'⟩, hv, e⟩ := h
      cases e
      simp only [evK, hx, hy, binS_ok hv hp, Option.map_some]
    · cases h
  case ixa x i k =>
    simp only [evKS] at h
    split at h
    · rename_i k1 iv n cs hi hx
      cases h
      simp only [evK, hi, hx, if_pos hp.1]
    · cases h
  case ixb x i len k =>
    simp only [evKS] at h
    split at h
    · rename_i k1 iv cs hi hx
      cases h
      simp only [evK, hi, hx, if_pos hp.1]
    · cases h
  case ld x d n one =>
    simp only [evKS] at h
    split at h
    · rename_i cs u sc1 hx
      cases h
      simp only [evK, hx, hp.1, Option.map_some]
    · rename_i d' off hx
      split at h
      · rename_i hd
        split at h
        · rename_i k m cs u sc1 hr
          cases h
          simp only [evK, hx, if_pos hd, hr, hp.1, Option.map_some]
        · rename_i cs hr
          simp only [Option.map_eq_some_iff] at h
          obtain ⟨q, hq, e⟩ := h
          cases e
          simp only [evK, hx, if_pos hd, hr, hq, Option.map_some]
        · cases h
      · cases h
    · simp only [Option.map_eq_some_iff] at h
      obtain ⟨q, hq, e⟩ := h
      cases e
      exact hq
  case st x d n v =>
    simp only [evKS] at h
    split at h
    · cases h
    · rename_i a ha
      split at h
      · cases h
      · rename_i ys hys
        simp only [evK, ha, hys]
        split at h
        · rename_i cs hx
          rw [hx]
          dsimp only
          split at h
          · rename_i hd
            simp only [Option.map_eq_some_iff] at h
            obtain ⟨q, hq, e⟩ := h
            cases e
            simp only [if_pos hd, hq, Option.map_some]
          · cases h
        · rename_i d' off hx
          rw [hx]
          dsimp only
          split at h
          · rename_i hd
            rw [if_pos hd]
            split at h
            · rename_i k m cs cs' sc1 hr
              cases h
              simp only [hr, hp.1, Option.map_some]
            · rename_i cs hr
              simp only [Option.map_eq_some_iff] at h
              obtain ⟨q, hq, e⟩ := h
              cases e
              simp only [hr, hq, Option.map_some]
            · cases h
          · cases h
        · cases h
  case ixo x d i k =>
    simp only [evKS] at h
    split at h
    · rename_i k1 iv hi
      split at h
      · rename_i n cs hx
        cases h
        simp only [evK, hi, hx, if_pos hp.1]
      · rename_i d' hx
        split at h
        · rename_i hd
          split at h
          · rename_i k' n cs hr
            split at h
            · rename_i hk
              cases h
              simp only [evK, hi, hx, if_pos hd, hr, if_pos (show k' = k ∧ 0 ≤ iv ∧ iv < (n : Int) from ⟨hk, hp.1⟩)]
            · cases h
          · cases h
        · cases h
      · cases h
    · cases h
  case mks z n =>
    simp only [evKS] at h
    split at h
    · rename_i k1 m hn
      cases h
      simp only [evK, hn, if_pos hp.1]
    · cases h
  case apd ow x y k B =>
    simp only [evKS] at h
    split at h
    · rename_i m ys hy
      split at h
      · rename_i hx
        cases h
        simp only [evK, hy, if_pos hp.1, hx, if_pos hp.2.1]
      · rename_i k' n cs hx
        split at h
        · rename_i hk
          cases h
          simp only [evK, hy, if_pos hp.1, hx, if_pos (show k' = k ∧ n + m ≤ B from ⟨hk, hp.2.1⟩)]
        · cases h
      · cases h
    · simp only [Option.map_eq_some_iff] at h
      obtain ⟨q, hq, e⟩ := h
      cases e
      exact hq
  case sli x lo hi mx k =>
    simp only [evKS] at h
    split at h
    · rename_i n cs hx
      split at h
      · rename_i m1 p1 h1 p2 l1 p3 b1 b2 b3
        cases h
        rw [AllP_append, AllP_append, AllP_append] at hp
        simp only [evK, hx, bndS_ok b1 hp.1, bndS_ok b2 hp.2.1, bndS_ok b3 hp.2.2.1, if_pos hp.2.2.2.1]
      · cases h
    · simp only [Option.map_eq_some_iff] at h
      obtain ⟨q, hq, e⟩ := h
      cases e
      exact hq
  case six x i =>
    simp only [evKS] at h
    split at h
    · rename_i b k1 iv n sc1 hx hi
      cases h
      have := hp.1
      simp only [Option.map_eq_some_iff] at this
      obtain ⟨c, hc, rfl⟩ := this
      simp only [evK, hx, hi, hc, Option.map_some]
    · cases h
  case call f xs =>
    simp only [evKS] at h
    split at h
    · rename_i vs hvs
      split at h
      · rename_i q hv
        cases h
        simp only [evK, hvs, lim_eq (hT f vs q.1 q.2 hv hp), Option.map_some]
      · split at h
        · rename_i r sc1
          cases h
          simp only [evK, hvs, lim_eq hp.1, Option.map_some]
        · cases h
    · cases h
  case clo f xs =>
    simp only [evKS] at h
    split at h
    · rename_i vs hvs
      split at h
      · rename_i q hv
        cases h
        simp only [evK, hvs, lim_eq (hT f vs q.1 q.2 hv hp), Option.map_some]
      · split at h
        · rename_i r sc1
          cases h
          simp only [evK, hvs, lim_eq hp.1, Option.map_some]
        · cases h
    · cases h
  case cln f xs ls =>
    simp only [evKS] at h
    split at h
    · rename_i vs hvs
      split at h
      · rename_i hl
        split at h
        · rename_i q hv
          cases h
          simp only [evK, hvs, if_pos hl, lim_eq (hT f vs q.1 q.2 hv hp), Option.map_some]
        · split at h
          · rename_i r sc1
            cases h
            simp only [evK, hvs, if_pos hl, lim_eq hp.1, Option.map_some]
          · cases h
      · cases h
    · cases h
  case brw f x d =>
    simp only [evKS] at h
    split at h
    · rename_i d' hrx
      split at h
      · rename_i hdd
        split at h
        · rename_i k n cs hrd
          split at h
          · rename_i q hv
            cases h
            have h1 := hp.1
            have h2 := hp.2.1
            have h3 := hp.2.2
            simp only [evK, hrx, hdd, hrd, if_true, h1, lim_eq (hT f _ q.1 q.2 hv h3), h2]
          · split at h
            · rename_i r sc1
              cases h
              have h1 := hp.1
              have h2 := hp.2.1
              simp only [evK, hrx, hdd, hrd, if_true, h1, lim_eq hp.2.2.1, h2]
            · cases h
        · cases h
      · cases h
    · cases h
  case slo x hi k =>
    simp only [evKS] at h
    split at h
    · rename_i k1 iv hi
      split at h
      · rename_i k' n cs hx
        split at h
        · rename_i hk
          cases h
          simp only [evK, hi, hx, if_pos (show k' = k ∧ 0 ≤ iv ∧ iv ≤ (n : Int) from ⟨hk, hp.1⟩)]
        · cases h
      · cases h
    · cases h
  case cal f x xs =>
    simp only [evKS] at h
    split at h
    · rename_i f' cs vs hx hvs
      split at h
      · rename_i hf
        split at h
        · rename_i q hv
          cases h
          simp only [evK, hx, hvs, if_pos hf, lim_eq (hT f _ q.1 q.2 hv hp), Option.map_some]
        · split at h
          · rename_i r sc1
            cases h
            simp only [evK, hx, hvs, if_pos hf, lim_eq hp.1, Option.map_some]
          · cases h
      · cases h
    · cases h
  case cao f k x xs =>
    simp only [evKS] at h
    split at h
    · rename_i vs hvs
      split at h
      · split at h
        · rename_i k' n cs hx
          split at h
          · rename_i q hv
            cases h
            simp only [evK, hvs, hx, lim_eq (hT f _ q.1 q.2 hv hp), Option.map_some]
          · split at h
            · rename_i r sc1
              cases h
              simp only [evK, hvs, hx, lim_eq hp.1, Option.map_some]
            · cases h
        · cases h
      · split at h
        · rename_i q hv
          cases h
          simp only [evK, hvs, lim_eq (hT f _ q.1 q.2 hv hp), Option.map_some]
        · split at h
          · rename_i r sc1
            cases h
            simp only [evK, hvs, lim_eq hp.1, Option.map_some]
          · cases h
      · cases h
    · cases h
  case sub x d lo hi k =>
    simp only [evKS] at h
    split at h
    · rename_i d' hx
      split at h
      · rename_i hd
        split at h
        · rename_i k' n cs hr
          split at h
          · rename_i h1 p1 l1 p2 b1 b2
            split at h
            · rename_i hk
              cases h
              rw [AllP_append, AllP_append] at hp
              simp only [evK, hx, if_pos hd, hr, bndS_ok b1 hp.1, bndS_ok b2 hp.2.1, if_pos (show k' = k ∧ l1 ≤ h1 ∧ h1 ≤ n from ⟨hk, hp.2.2.1⟩)]
            · cases h
          · cases h
        · cases h
      · cases h
    · cases h
  case app ow x d y k =>
    simp only [evKS] at h
    split at h
    · rename_i d' k' l1 h1 hx
      split at h
      · rename_i hd
        split at h
        · rename_i k2 n cs hr
          split at h
          · rename_i hk
            split at h
            · rename_i m ys hy
              cases h
              simp only [evK, hx, if_pos hd, hr, if_pos (show k2 = k ∧ h1 ≤ n from ⟨hk, hp.1⟩), hy, if_pos hp.2.1]
            · cases h
          · cases h
        · cases h
      · cases h
    · cases h
  case apb ow x y d k =>
    simp only [evKS] at h
    split at h
    · rename_i k0 n cs hx
      split at h
      · rename_i d' k' l1 h1 hy
        split at h
        · rename_i hd
          split at h
          · rename_i k2 n2 cs2 hr
            split at h
            · rename_i hk
              cases h
              simp only [evK, hx, hy, if_pos hd, hr, if_pos (show k2 = k ∧ h1 ≤ n2 ∧ n + (h1 - l1) ≤ 1048576 from ⟨hk, hp.1⟩)]
            · cases h
          · cases h
        · cases h
      · cases h
    · cases h
  all_goals
    simp only [evKS, Option.map_eq_some_iff] at h
    obtain ⟨q, hq, e⟩ := h
    cases e
    exact hq

def wantS (s : State) (m : Memo) (g : Option (Nat × Bool)) (sc : List Sc) : R3 (Bool × Memo) :=
  match g with
  | none => some ((true, m), sc, [])
  | some (t, b) =>
    match m.is t with
    | some x => some ((x == b, m), sc, [])
    | none => match rget s t, sc with
      | .val (.bool c), .b x :: sc => some ((x == b, some (t, x)), sc, [c = x])
      | .val .undef, sc => some ((false, m), sc, [])
      | _, _ => none

theorem wantS_ok {s : State} {m m' : Memo} (hm : m.Ok s) {g : Option (Nat × Bool)} {sc sc' : List Sc} {r : Bool} {ps : List Prop} (h : wantS s m g sc = some ((r, m'), sc', ps)) (hp : AllP ps) : wantA s g = some r ∧ m'.Ok s := by
  unfold wantS at h
  split at h
  · cases h; exact ⟨rfl, hm⟩
  · rename_i t b
    split at h
    · rename_i x hx
      cases h
      refine ⟨?_, hm⟩
      have := Memo.opd_ok hm (o := .t t) hx
      simp only [Opd.av, Opd.reg] at this
      simp only [wantA]
      split at this
      · rename_i y hy
        cases this
        rw [hy]
      · cases this
    · split at h
      · rename_i c x sc1 hr
        cases h
        have : c = x := hp.1
        subst this
        refine ⟨by simp only [wantA, hr], fun u y e => ?_⟩
        cases e
        exact hr
      · rename_i hr
        cases h
        exact ⟨by simp only [wantA, hr], hm⟩
      · cases h

/-- What is still known once an operation has written. -/
def Memo.after (m : Memo) (wr : List Nat) : Memo :=
  match m with
  | some (t, x) => if wr.contains t then none else some (t, x)
  | none => none

def evOpS0 (prog : Nat → Option IFunc) (T : Table) (o : IOp) (s : State) (m : Memo) (sc : List Sc) : R3 (State × Memo) :=
  match wantS s m o.g sc with
  | none => none
  | some ((false, m), sc, ps) => some ((rput s o.dst (.val .undef), m.after o.wr), sc, ps)
  | some ((true, m), sc, ps) => match evKS prog T s m o.k sc with
    | none => none
    | some ((r, l), sc, qs) => some ((rput (rputs s l) o.dst r, m.after o.wr), sc, ps ++ qs)

def evOpS (prog : Nat → Option IFunc) (T : Table) (o : IOp) (s : State) (m : Memo) (sc : List Sc) : R3 (State × Memo) := evOpS0 prog T o (kill s o.ks) (m.after o.ks) sc

theorem Memo.kill_ok {s : State} {m : Memo} (hm : m.Ok s) (ks : List Nat) : (m.after ks).Ok (kill s ks) := by
  intro t x e
  unfold Memo.after at e
  split at e
  · rename_i t' x'
    split at e
    · cases e
    · rename_i hn
      cases e
      rw [rget_killAll, if_neg (by simpa using hn)]
      exact hm _ _ rfl
  · cases e

theorem Memo.after_ok {F : Caller} {o : IOp} {s s' : State} {m : Memo} (hm : m.Ok s) (h : evOp0 F o s = some s') : (m.after o.wr).Ok s' := by
  intro t x e
  unfold Memo.after at e
  split at e
  · rename_i t' x'
    split at e
    · cases e
    · rename_i hn
      cases e
      rw [evOp0_eq] at h
      simp only [Option.map_eq_some_iff] at h
      obtain ⟨l, hl, rfl⟩ := h
      have hk := evW0_keys hl
      rw [rget_rputs (fun p hp e => ?_)]
      · exact hm _ _ rfl
      · subst e
        have := hk p hp
        simp only [List.contains_eq_mem, this, decide_true, not_true_eq_false] at hn
  · cases e

theorem evOpS0_ok {prog : Nat → Option IFunc} {T : Table} (hT : THolds prog T) {o : IOp} {s s' : State} {m m' : Memo} (hm : m.Ok s) {sc sc' : List Sc} {ps : List Prop} (h : evOpS0 prog T o s m sc = some ((s', m'), sc', ps)) (hp : AllP ps) : evOp0 (lim prog) o s = some s' ∧ m'.Ok s' := by
  unfold evOpS0 at h
  split at h
  · cases h
  · rename_i m1 sc1 ps1 hw
    cases h
    obtain ⟨h1, h2⟩ := wantS_ok hm hw hp
    have h3 : evOp0 (lim prog) o s = some (rput s o.dst (.val .undef)) := by simp only [evOp0, h1]
    exact ⟨h3, Memo.after_ok h2 h3⟩
  · rename_i m1 sc1 ps1 hw
    split at h
    · cases h
    · rename_i r l sc2 qs hk
      cases h
      rw [AllP_append] at hp
      obtain ⟨h1, h2⟩ := wantS_ok hm hw hp.1
      have h3 : evOp0 (lim prog) o s = some (rput (rputs s l) o.dst r) := by simp only [evOp0, h1, evKS_ok hT h2 hk hp.2]
      exact ⟨h3, Memo.after_ok h2 h3⟩

theorem evOpS_ok {prog : Nat → Option IFunc} {T : Table} (hT : THolds prog T) {o : IOp} {s s' : State} {m m' : Memo} (hm : m.Ok s) {sc sc' : List Sc} {ps : List Prop} (h : evOpS prog T o s m sc = some ((s', m'), sc', ps)) (hp : AllP ps) : evOp (lim prog) o s = some s' ∧ m'.Ok s' :=
  evOpS0_ok hT (Memo.kill_ok hm o.ks) h hp

def evOpsS (prog : Nat → Option IFunc) (T : Table) : List IOp → State → Memo → List Sc → List Prop → R3 State
  | [], s, _, sc, ps => some (s, sc, ps)
  | o :: l, s, m, sc, ps => match evOpS prog T o s m sc with
    | none => none
    | some ((s', m'), sc', qs) => evOpsS prog T l s' m' sc' (ps ++ qs)

theorem evOpsS_ok {prog : Nat → Option IFunc} {T : Table} (hT : THolds prog T) : ∀ {l : List IOp} {s s' : State} {m : Memo} {sc sc' : List Sc} {ps ps' : List Prop}, evOpsS prog T l s m sc ps = some (s', sc', ps') → AllP ps' → AllP ps ∧ (m.Ok s → evOps (lim prog) l s = some s')
  | [], s, s', m, sc, sc', ps, ps', h, hp => by
    simp only [evOpsS, Option.some.injEq, Prod.mk.injEq] at h
    obtain ⟨rfl, _, rfl⟩ := h
    exact ⟨hp, fun _ => rfl⟩
  | o :: l, s, s', m, sc, sc', ps, ps', h, hp => by
    simp only [evOpsS] at h
    cases h1 : evOpS prog T o s m sc with
    | none => rw [h1] at h; cases h
    | some q =>
      obtain ⟨⟨s1, m1⟩, sc1, qs⟩ := q
      rw [h1] at h
      obtain ⟨h2, h3⟩ := evOpsS_ok hT h hp
      rw [AllP_append] at h2
      refine ⟨h2.1, fun hm => ?_⟩
      obtain ⟨h4, h5⟩ := evOpS_ok hT hm h1 h2.2
      simp only [evOps, h4]
      exact h3 h5

def evCS (prog : Nat → Option IFunc) (T : Table) : Nat → ICode → State → List Sc → List Prop → R3 (Ex × State)
  | 0, _, _, _, _ => none
  | _ + 1, .skip, s, sc, ps => some ((.norm, s), sc, ps)
  | _ + 1, .region _ ops, s, sc, ps => match evOpsS prog T ops s none sc ps with
    | none => none
    | some (s', sc', ps') => some ((.norm, s'), sc', ps')
  | n + 1, .seq a b, s, sc, ps => match evCS prog T n a s sc ps with
    | none => none
    | some ((.norm, s'), sc', ps') => evCS prog T n b s' sc' ps'
    | some ((.exit i, s'), sc', ps') => some ((.exit i, s'), sc', ps')
    | some ((.ret, s'), sc', ps') => some ((.ret, s'), sc', ps')
  | n + 1, .cond c a b, s, sc, ps => match c.av s, sc with
    | some (.bool v), .b true :: sc => evCS prog T n a s sc (ps ++ [v = true])
    | some (.bool v), .b false :: sc => evCS prog T n b s sc (ps ++ [v = false])
    | _, _ => none
  | n + 1, .block id c, s, sc, ps => match evCS prog T n c s sc ps with
    | none => none
    | some ((.exit i, s'), sc', ps') => if i = id then some ((.norm, s'), sc', ps') else some ((.exit i, s'), sc', ps')
    | some ((.norm, s'), sc', ps') => some ((.norm, s'), sc', ps')
    | some ((.ret, s'), sc', ps') => some ((.ret, s'), sc', ps')
  | n + 1, .loop c, s, sc, ps => match evCS prog T n c s sc ps with
    | none => none
    | some ((.norm, s'), sc', ps') => evCS prog T n (.loop c) s' sc' ps'
    | some ((.exit i, s'), sc', ps') => some ((.exit i, s'), sc', ps')
    | some ((.ret, s'), sc', ps') => some ((.ret, s'), sc', ps')
  | n + 1, .scope c, s, sc, ps => evCS prog T n c s sc ps
  | _ + 1, .exit id, s, sc, ps => some ((.exit id, s), sc, ps)
  | _ + 1, .ret, s, sc, ps => some ((.ret, s), sc, ps)

theorem evCS_ok {prog : Nat → Option IFunc} {T : Table} (hT : THolds prog T) : ∀ (n : Nat) {c : ICode} {s s' : State} {ex : Ex} {sc sc' : List Sc} {ps ps' : List Prop}, evCS prog T n c s sc ps = some ((ex, s'), sc', ps') → AllP ps' → AllP ps ∧ evC (lim prog) n c s = some (ex, s') := by
  intro n
  induction n with
  | zero => intro c s s' ex sc sc' ps ps' h; simp [evCS] at h
  | succ n ih =>
    intro c s s' ex sc sc' ps ps' h hp
    cases c with
    | skip => simp only [evCS, Option.some.injEq, Prod.mk.injEq] at h; obtain ⟨⟨rfl, rfl⟩, _, rfl⟩ := h; exact ⟨hp, rfl⟩
    | region d ops =>
      simp only [evCS] at h
      split at h
      · cases h
      · rename_i s1 sc1 ps1 h1
        cases h
        obtain ⟨h2, h3⟩ := evOpsS_ok hT h1 hp
        have h4 := h3 (fun t x e => (by cases e))
        exact ⟨h2, by simp only [evC, h4, Option.map_some]⟩
    | seq a b =>
      simp only [evCS] at h
      split at h
      · cases h
      · rename_i s1 sc1 ps1 h1
        obtain ⟨h2, h3⟩ := ih h hp
        obtain ⟨h4, h5⟩ := ih h1 h2
        exact ⟨h4, by simp only [evC, h5]; exact h3⟩
      · rename_i i s1 sc1 ps1 h1
        cases h
        obtain ⟨h4, h5⟩ := ih h1 hp
        exact ⟨h4, by simp only [evC, h5]⟩
      · rename_i s1 sc1 ps1 h1
        cases h
        obtain ⟨h4, h5⟩ := ih h1 hp
        exact ⟨h4, by simp only [evC, h5]⟩
    | cond c a b =>
      simp only [evCS] at h
      split at h
      · rename_i v sc1 hc
        obtain ⟨h2, h3⟩ := ih h hp
        rw [AllP_append] at h2
        have hv : v = true := h2.2.1
        exact ⟨h2.1, by simp only [evC, condA, hc, hv]; exact h3⟩
      · rename_i v sc1 hc
        obtain ⟨h2, h3⟩ := ih h hp
        rw [AllP_append] at h2
        have hv : v = false := h2.2.1
        exact ⟨h2.1, by simp only [evC, condA, hc, hv]; exact h3⟩
      · cases h
    | block id c =>
      simp only [evCS] at h
      split at h
      · cases h
      · rename_i i s1 sc1 ps1 h1
        split at h
        · rename_i hi
          cases h
          obtain ⟨h4, h5⟩ := ih h1 hp
          exact ⟨h4, by simp only [evC, h5, if_pos hi]⟩
        · rename_i hi
          cases h
          obtain ⟨h4, h5⟩ := ih h1 hp
          exact ⟨h4, by simp only [evC, h5, if_neg hi]⟩
      · rename_i s1 sc1 ps1 h1
        cases h
        obtain ⟨h4, h5⟩ := ih h1 hp
        exact ⟨h4, by simp only [evC, h5]⟩
      · rename_i s1 sc1 ps1 h1
        cases h
        obtain ⟨h4, h5⟩ := ih h1 hp
        exact ⟨h4, by simp only [evC, h5]⟩
    | scope c =>
      simp only [evCS] at h
      obtain ⟨h4, h5⟩ := ih h hp
      exact ⟨h4, by simp only [evC]; exact h5⟩
    | loop c =>
      simp only [evCS] at h
      split at h
      · cases h
      · rename_i s1 sc1 ps1 h1
        obtain ⟨h2, h3⟩ := ih h hp
        obtain ⟨h4, h5⟩ := ih h1 h2
        exact ⟨h4, by simp only [evC, h5]; exact h3⟩
      · rename_i i s1 sc1 ps1 h1
        cases h
        obtain ⟨h4, h5⟩ := ih h1 hp
        exact ⟨h4, by simp only [evC, h5]⟩
      · rename_i s1 sc1 ps1 h1
        cases h
        obtain ⟨h4, h5⟩ := ih h1 hp
        exact ⟨h4, by simp only [evC, h5]⟩
    | exit id => simp only [evCS, Option.some.injEq, Prod.mk.injEq] at h; obtain ⟨⟨rfl, rfl⟩, _, rfl⟩ := h; exact ⟨hp, rfl⟩
    | ret => simp only [evCS, Option.some.injEq, Prod.mk.injEq] at h; obtain ⟨⟨rfl, rfl⟩, _, rfl⟩ := h; exact ⟨hp, rfl⟩

/-- A piece of code, one way through it. -/
theorem RunsC.script {prog : Nat → Option IFunc} {T : Table} (hT : THolds prog T) (n : Nat) {c : ICode} {s s' : State} {ex : Ex} (sc : List Sc) {ps : List Prop}
    (h : evCS prog T n c s sc [] = some ((ex, s'), [], ps)) (hp : AllP ps) : RunsC prog c s ex s' := evC_holds (lim_holds prog) n (evCS_ok hT n h hp).2

/-- A whole function, one way through it. -/
def evFS (prog : Nat → Option IFunc) (T : Table) (n : Nat) (fn : IFunc) (args : List AV) (sc : List Sc) : Option (AV × List Prop) :=
  match evCS prog T n fn.body (initA fn args) sc [] with
  | some ((.ret, s), [], ps) => (resultA s fn.res).map fun r => (r, ps)
  | some ((.norm, s), [], ps) => (resultA s fn.res).map fun r => (r, ps)
  | _ => none

theorem Runs.script {prog : Nat → Option IFunc} {T : Table} (hT : THolds prog T) {f : Nat} {fn : IFunc} (hf : prog f = some fn) (n : Nat) {args : List AV} (hl : args.length = fn.params) (sc : List Sc) {r : AV} {ps : List Prop}
    (h : evFS prog T n fn args sc = some (r, ps)) (hp : AllP ps) : Runs prog f args r := by
  unfold evFS at h
  split at h
  · rename_i s ps1 h1
    simp only [Option.map_eq_some_iff] at h
    obtain ⟨r', hr, e⟩ := h
    cases e
    exact Runs.of_body hf hl (RunsC.script hT n sc h1 hp) (fun i => (by intro e; cases e)) hr
  · rename_i s ps1 h1
    simp only [Option.map_eq_some_iff] at h
    obtain ⟨r', hr, e⟩ := h
    cases e
    exact Runs.of_body hf hl (RunsC.script hT n sc h1 hp) (fun i => (by intro e; cases e)) hr
  · cases h

end Go.Ai
