/- Contracts of pinballref06 (vectors) and pinballref11 (places and normals). -/
import Derived.Test.YthakfjlnhldehaaGreatWallTools
import Derived.Test.YthakfjlnhldehaaGreatBigC
namespace Go.Proofs.YthakfjlnhldehaaGreat
open Go.Ai
set_option maxRecDepth 100000

def Tryz.sh62 (x y : Int) : AV :=
  match decide (x ≥ (-1073741824)) with
  | true => (match decide (x ≤ 1073741824) with
  | true => (match decide (y ≥ (-1073741824)) with
  | true => (.bool (decide (y ≤ 1073741824)))
  | false => (.bool false))
  | false => (.bool false))
  | false => (.bool false)
theorem Tryz.run62 (x y : Int)  : Runs Tryz.ir 62 [.agg [.int .i64 x, .int .i64 y]] (Tryz.sh62 x y) := by
  unfold Tryz.sh62
  cases c1 : (decide (x ≥ (-1073741824)))
  · exact Runs.script (r := .bool false) (ps := [(decide (x ≥ (-1073741824))) = false, false = false, false = false]) TWall_holds rfl 300 rfl [.b false, .b false, .b false] (by kernel_rfl) ⟨c1, rfl, rfl, trivial⟩
  · cases c2 : (decide (x ≤ 1073741824))
    · exact Runs.script (r := .bool false) (ps := [(decide (x ≥ (-1073741824))) = true, (decide (x ≤ 1073741824)) = false, false = false]) TWall_holds rfl 300 rfl [.b true, .b false, .b false] (by kernel_rfl) ⟨c1, c2, rfl, trivial⟩
    · cases c3 : (decide (y ≥ (-1073741824)))
      · exact Runs.script (r := .bool false) (ps := [(decide (x ≥ (-1073741824))) = true, (decide (x ≤ 1073741824)) = true, (decide (y ≥ (-1073741824))) = false]) TWall_holds rfl 300 rfl [.b true, .b true, .b false] (by kernel_rfl) ⟨c1, c2, c3, trivial⟩
      · exact Runs.script (r := .bool (decide (y ≤ 1073741824))) (ps := [(decide (x ≥ (-1073741824))) = true, (decide (x ≤ 1073741824)) = true, (decide (y ≥ (-1073741824))) = true]) TWall_holds rfl 300 rfl [.b true, .b true, .b true] (by kernel_rfl) ⟨c1, c2, c3, trivial⟩
theorem e62 (x y : Int) : Tryz.sh62 x y = .bool (smallB x y) := by
  unfold Tryz.sh62 smallB
  repeat' split
  all_goals (simp_all <;> omega)

def g62 : List AV → Option (AV × List Prop)
  | [.agg [.int .i64 x, .int .i64 y]] => some (.bool (smallB x y), [])
  | _ => none
def TR1 : Table := (62, g62) :: TWall
theorem TR1_holds : THolds Tryz.ir TR1 := THolds.cons TWall_holds (by
  intro args r ps h hp
  unfold g62 at h
  split at h
  · cases h; exact e62 _ _ ▸ Tryz.run62 _ _
  · cases h)

def Tryz.sh63 (x y : Int) : AV :=
  match smallB x y with
  | true => (.agg [.int .i64 x, .int .i64 y])
  | false => (.agg [.int .i64 0, .int .i64 0])
theorem Tryz.run63 (x y : Int)  : Runs Tryz.ir 63 [.agg [.int .i64 x, .int .i64 y]] (Tryz.sh63 x y) := by
  unfold Tryz.sh63
  cases c1 : (smallB x y)
  · exact Runs.script (r := .agg [.int .i64 0, .int .i64 0]) (ps := [(smallB x y) = false]) TR1_holds rfl 300 rfl [.b false] (by kernel_rfl) ⟨c1, trivial⟩
  · exact Runs.script (r := .agg [.int .i64 x, .int .i64 y]) (ps := [(smallB x y) = true]) TR1_holds rfl 300 rfl [.b true] (by kernel_rfl) ⟨c1, trivial⟩
theorem e63 (x y : Int) : Tryz.sh63 x y = .agg [.int .i64 (keptV x y).1, .int .i64 (keptV x y).2] := by
  unfold Tryz.sh63 keptV
  cases h : smallB x y <;> rfl

def g63 : List AV → Option (AV × List Prop)
  | [.agg [.int .i64 x, .int .i64 y]] => some (.agg [.int .i64 (keptV x y).1, .int .i64 (keptV x y).2], [])
  | _ => none
def TR2 : Table := (63, g63) :: TR1
theorem TR2_holds : THolds Tryz.ir TR2 := THolds.cons TR1_holds (by
  intro args r ps h hp
  unfold g63 at h
  split at h
  · cases h; exact e63 _ _ ▸ Tryz.run63 _ _
  · cases h)

def Tryz.sh30 (a b c d : Int) : AV :=
  match smallB a b with
  | true => (match smallB c d with
  | true => (.agg [.int .i64 ((keptV (IntKind.i64.wrap (a - c)) (IntKind.i64.wrap (b - d))).1), .int .i64 ((keptV (IntKind.i64.wrap (a - c)) (IntKind.i64.wrap (b - d))).2)])
  | false => (.agg [.int .i64 0, .int .i64 0]))
  | false => (.agg [.int .i64 0, .int .i64 0])
theorem Tryz.run30 (a b c d : Int)  : Runs Tryz.ir 30 [.agg [.int .i64 a, .int .i64 b], .agg [.int .i64 c, .int .i64 d]] (Tryz.sh30 a b c d) := by
  unfold Tryz.sh30
  cases c1 : (smallB a b)
  · exact Runs.script (r := .agg [.int .i64 0, .int .i64 0]) (ps := [(!(smallB a b)) = true, true = true]) TR2_holds rfl 300 rfl [.b true, .b true] (by kernel_rfl) ⟨(by rw [c1]; rfl), rfl, trivial⟩
  · cases c2 : (smallB c d)
    · exact Runs.script (r := .agg [.int .i64 0, .int .i64 0]) (ps := [(!(smallB a b)) = false, (!(smallB c d)) = true]) TR2_holds rfl 300 rfl [.b false, .b true] (by kernel_rfl) ⟨(by rw [c1]; rfl), (by rw [c2]; rfl), trivial⟩
    · exact Runs.script (r := .agg [.int .i64 ((keptV (IntKind.i64.wrap (a - c)) (IntKind.i64.wrap (b - d))).1), .int .i64 ((keptV (IntKind.i64.wrap (a - c)) (IntKind.i64.wrap (b - d))).2)]) (ps := [(!(smallB a b)) = false, (!(smallB c d)) = false]) TR2_holds rfl 300 rfl [.b false, .b false] (by kernel_rfl) ⟨(by rw [c1]; rfl), (by rw [c2]; rfl), trivial⟩
theorem e30 (a b c d : Int) : Tryz.sh30 a b c d = .agg [.int .i64 (subV a b c d).1, .int .i64 (subV a b c d).2] := by
  unfold Tryz.sh30 subV
  cases h1 : smallB a b
  · rfl
  · cases h2 : smallB c d
    · rfl
    · have g1 := smallB_yes h1
      have g2 := smallB_yes h2
      simp only [Bool.and_self, if_true, w64 (n := a - c) (by omega) (by omega), w64 (n := b - d) (by omega) (by omega)]

def g30 : List AV → Option (AV × List Prop)
  | [.agg [.int .i64 a, .int .i64 b], .agg [.int .i64 c, .int .i64 d]] => some (.agg [.int .i64 (subV a b c d).1, .int .i64 (subV a b c d).2], [])
  | _ => none
def TR3 : Table := (30, g30) :: TR2
theorem TR3_holds : THolds Tryz.ir TR3 := THolds.cons TR2_holds (by
  intro args r ps h hp
  unfold g30 at h
  split at h
  · cases h; exact e30 _ _ _ _ ▸ Tryz.run30 _ _ _ _
  · cases h)

def Tryz.sh31 (a b c d : Int) : AV :=
  match smallB a b with
  | true => (match smallB c d with
  | true => (.int .i64 (IntKind.i64.wrap ((IntKind.i64.wrap (a * c)) + (IntKind.i64.wrap (b * d)))))
  | false => (.int .i64 0))
  | false => (.int .i64 0)
theorem Tryz.run31 (a b c d : Int)  : Runs Tryz.ir 31 [.agg [.int .i64 a, .int .i64 b], .agg [.int .i64 c, .int .i64 d]] (Tryz.sh31 a b c d) := by
  unfold Tryz.sh31
  cases c1 : (smallB a b)
  · exact Runs.script (r := .int .i64 0) (ps := [(!(smallB a b)) = true, true = true]) TR3_holds rfl 300 rfl [.b true, .b true] (by kernel_rfl) ⟨(by rw [c1]; rfl), rfl, trivial⟩
  · cases c2 : (smallB c d)
    · exact Runs.script (r := .int .i64 0) (ps := [(!(smallB a b)) = false, (!(smallB c d)) = true]) TR3_holds rfl 300 rfl [.b false, .b true] (by kernel_rfl) ⟨(by rw [c1]; rfl), (by rw [c2]; rfl), trivial⟩
    · exact Runs.script (r := .int .i64 (IntKind.i64.wrap ((IntKind.i64.wrap (a * c)) + (IntKind.i64.wrap (b * d))))) (ps := [(!(smallB a b)) = false, (!(smallB c d)) = false]) TR3_holds rfl 300 rfl [.b false, .b false] (by kernel_rfl) ⟨(by rw [c1]; rfl), (by rw [c2]; rfl), trivial⟩
theorem e31 (a b c d : Int) : Tryz.sh31 a b c d = .int .i64 (dotI a b c d) := by
  unfold Tryz.sh31 dotI
  cases h1 : smallB a b
  · rfl
  · cases h2 : smallB c d
    · rfl
    · have g1 := smallB_yes h1
      have g2 := smallB_yes h2
      have m1 := small_mul (x := a) (y := c) (by omega) (by omega) (by omega) (by omega)
      have m2 := small_mul (x := b) (y := d) (by omega) (by omega) (by omega) (by omega)
      simp only [Bool.and_self, if_true, w64 (n := a * c) (by omega) (by omega), w64 (n := b * d) (by omega) (by omega), w64 (n := a * c + b * d) (by omega) (by omega)]

def g31 : List AV → Option (AV × List Prop)
  | [.agg [.int .i64 a, .int .i64 b], .agg [.int .i64 c, .int .i64 d]] => some (.int .i64 (dotI a b c d), [])
  | _ => none
def TR4 : Table := (31, g31) :: TR3
theorem TR4_holds : THolds Tryz.ir TR4 := THolds.cons TR3_holds (by
  intro args r ps h hp
  unfold g31 at h
  split at h
  · cases h; exact e31 _ _ _ _ ▸ Tryz.run31 _ _ _ _
  · cases h)

def Tryz.sh35 (a b c d : Int) : AV :=
  match smallB a b with
  | true => (match smallB c d with
  | true => (.int .i64 (IntKind.i64.wrap ((IntKind.i64.wrap (a * d)) - (IntKind.i64.wrap (b * c)))))
  | false => (.int .i64 0))
  | false => (.int .i64 0)
theorem Tryz.run35 (a b c d : Int)  : Runs Tryz.ir 35 [.agg [.int .i64 a, .int .i64 b], .agg [.int .i64 c, .int .i64 d]] (Tryz.sh35 a b c d) := by
  unfold Tryz.sh35
  cases c1 : (smallB a b)
  · exact Runs.script (r := .int .i64 0) (ps := [(!(smallB a b)) = true, true = true]) TR4_holds rfl 300 rfl [.b true, .b true] (by kernel_rfl) ⟨(by rw [c1]; rfl), rfl, trivial⟩
  · cases c2 : (smallB c d)
    · exact Runs.script (r := .int .i64 0) (ps := [(!(smallB a b)) = false, (!(smallB c d)) = true]) TR4_holds rfl 300 rfl [.b false, .b true] (by kernel_rfl) ⟨(by rw [c1]; rfl), (by rw [c2]; rfl), trivial⟩
    · exact Runs.script (r := .int .i64 (IntKind.i64.wrap ((IntKind.i64.wrap (a * d)) - (IntKind.i64.wrap (b * c))))) (ps := [(!(smallB a b)) = false, (!(smallB c d)) = false]) TR4_holds rfl 300 rfl [.b false, .b false] (by kernel_rfl) ⟨(by rw [c1]; rfl), (by rw [c2]; rfl), trivial⟩
theorem e35 (a b c d : Int) : Tryz.sh35 a b c d = .int .i64 (crossI a b c d) := by
  unfold Tryz.sh35 crossI
  cases h1 : smallB a b
  · rfl
  · cases h2 : smallB c d
    · rfl
    · have g1 := smallB_yes h1
      have g2 := smallB_yes h2
      have m1 := small_mul (x := a) (y := d) (by omega) (by omega) (by omega) (by omega)
      have m2 := small_mul (x := b) (y := c) (by omega) (by omega) (by omega) (by omega)
      simp only [Bool.and_self, if_true, w64 (n := a * d) (by omega) (by omega), w64 (n := b * c) (by omega) (by omega), w64 (n := a * d - b * c) (by omega) (by omega)]

def g35 : List AV → Option (AV × List Prop)
  | [.agg [.int .i64 a, .int .i64 b], .agg [.int .i64 c, .int .i64 d]] => some (.int .i64 (crossI a b c d), [])
  | _ => none
def TR5 : Table := (35, g35) :: TR4
theorem TR5_holds : THolds Tryz.ir TR5 := THolds.cons TR4_holds (by
  intro args r ps h hp
  unfold g35 at h
  split at h
  · cases h; exact e35 _ _ _ _ ▸ Tryz.run35 _ _ _ _
  · cases h)

def Tryz.sh44 (x y : Int) : AV :=
  match smallB x y with
  | true => (.agg [.int .i64 (IntKind.i64.wrap (0 - y)), .int .i64 x])
  | false => (.agg [.int .i64 0, .int .i64 0])
theorem Tryz.run44 (x y : Int)  : Runs Tryz.ir 44 [.agg [.int .i64 x, .int .i64 y]] (Tryz.sh44 x y) := by
  unfold Tryz.sh44
  cases c1 : (smallB x y)
  · exact Runs.script (r := .agg [.int .i64 0, .int .i64 0]) (ps := [(!(smallB x y)) = true]) TR5_holds rfl 300 rfl [.b true] (by kernel_rfl) ⟨(by rw [c1]; rfl), trivial⟩
  · exact Runs.script (r := .agg [.int .i64 (IntKind.i64.wrap (0 - y)), .int .i64 x]) (ps := [(!(smallB x y)) = false]) TR5_holds rfl 300 rfl [.b false] (by kernel_rfl) ⟨(by rw [c1]; rfl), trivial⟩
theorem e44 (x y : Int) : Tryz.sh44 x y = .agg [.int .i64 (perpV x y).1, .int .i64 (perpV x y).2] := by
  unfold Tryz.sh44 perpV
  cases h : smallB x y
  · rfl
  · have g := smallB_yes h
    simp only [if_true, Int.zero_sub, w64 (n := -y) (by omega) (by omega)]

def g44 : List AV → Option (AV × List Prop)
  | [.agg [.int .i64 x, .int .i64 y]] => some (.agg [.int .i64 (perpV x y).1, .int .i64 (perpV x y).2], [])
  | _ => none
def TR6 : Table := (44, g44) :: TR5
theorem TR6_holds : THolds Tryz.ir TR6 := THolds.cons TR5_holds (by
  intro args r ps h hp
  unfold g44 at h
  split at h
  · cases h; exact e44 _ _ ▸ Tryz.run44 _ _
  · cases h)

def scaleR (a b n : Int) : Int × Int :=
  match smallB a b with
  | true => (match a == 0 && (b == 0 && true) with
  | true => ((0, 0))
  | false => (match decide (n > 2147483648) with
  | true => ((0, 0))
  | false => (match decide (n < (-2147483648)) with
  | true => ((0, 0))
  | false => (((keptV (IntKind.i64.wrap (a * n)) (IntKind.i64.wrap (b * n))).1, (keptV (IntKind.i64.wrap (a * n)) (IntKind.i64.wrap (b * n))).2)))))
  | false => ((0, 0))
theorem Tryz.run41 (a b n : Int)  : Runs Tryz.ir 41 [.agg [.int .i64 a, .int .i64 b], .int .i64 n] (.agg [.int .i64 ((scaleR a b n).1), .int .i64 ((scaleR a b n).2)]) := by
  unfold scaleR
  cases c1 : (smallB a b)
  · exact Runs.script (r := .agg [.int .i64 0, .int .i64 0]) (ps := [(!(smallB a b)) = true, true = true, true = true, true = true]) TR6_holds rfl 300 rfl [.b true, .b true, .b true, .b true] (by kernel_rfl) ⟨(by rw [c1]; rfl), rfl, rfl, rfl, trivial⟩
  · cases c2 : (a == 0 && (b == 0 && true))
    · cases c3 : (decide (n > 2147483648))
      · cases c4 : (decide (n < (-2147483648)))
        · exact Runs.script (r := .agg [.int .i64 ((keptV (IntKind.i64.wrap (a * n)) (IntKind.i64.wrap (b * n))).1), .int .i64 ((keptV (IntKind.i64.wrap (a * n)) (IntKind.i64.wrap (b * n))).2)]) (ps := [(!(smallB a b)) = false, (a == 0 && (b == 0 && true)) = false, (decide (n > 2147483648)) = false, (decide (n < (-2147483648))) = false]) TR6_holds rfl 300 rfl [.b false, .b false, .b false, .b false] (by kernel_rfl) ⟨(by rw [c1]; rfl), c2, c3, c4, trivial⟩
        · exact Runs.script (r := .agg [.int .i64 0, .int .i64 0]) (ps := [(!(smallB a b)) = false, (a == 0 && (b == 0 && true)) = false, (decide (n > 2147483648)) = false, (decide (n < (-2147483648))) = true]) TR6_holds rfl 300 rfl [.b false, .b false, .b false, .b true] (by kernel_rfl) ⟨(by rw [c1]; rfl), c2, c3, c4, trivial⟩
      · exact Runs.script (r := .agg [.int .i64 0, .int .i64 0]) (ps := [(!(smallB a b)) = false, (a == 0 && (b == 0 && true)) = false, (decide (n > 2147483648)) = true, true = true]) TR6_holds rfl 300 rfl [.b false, .b false, .b true, .b true] (by kernel_rfl) ⟨(by rw [c1]; rfl), c2, c3, rfl, trivial⟩
    · exact Runs.script (r := .agg [.int .i64 0, .int .i64 0]) (ps := [(!(smallB a b)) = false, (a == 0 && (b == 0 && true)) = true, true = true, true = true]) TR6_holds rfl 300 rfl [.b false, .b true, .b true, .b true] (by kernel_rfl) ⟨(by rw [c1]; rfl), c2, rfl, rfl, trivial⟩

def g41 : List AV → Option (AV × List Prop)
  | [.agg [.int .i64 a, .int .i64 b], .int .i64 n] => some (.agg [.int .i64 ((scaleR a b n).1), .int .i64 ((scaleR a b n).2)], [])
  | _ => none
def TR7 : Table := (41, g41) :: TR6
theorem TR7_holds : THolds Tryz.ir TR7 := THolds.cons TR6_holds (by
  intro args r ps h hp
  unfold g41 at h
  split at h
  · cases h; exact Tryz.run41 _ _ _ 
  · cases h)

def Tryz.c45 : ICode := .seq (.seq (.region false [⟨some 26, .mov (.t 4), none, []⟩,
   ⟨some 27, .bin .gtr (.t 26) (.c (.int .i64 0)), none, []⟩])
  (.cond (.t 27) (.skip)
  (.exit 0)))
  (.block 1 (.region true [⟨some 28, .mov (.t 4), none, []⟩,
   ⟨some 29, .mov (.t 3), none, []⟩,
   ⟨some 30, .mov (.t 4), none, []⟩,
   ⟨some 31, .bin .rem (.t 29) (.t 30), none, []⟩,
   ⟨some 3, .mov (.t 28), none, []⟩,
   ⟨some 4, .mov (.t 31), none, []⟩]))
def Tryz.s45 (x y g h : Int) : State := (.dead :: .box [.int .i64 x, .int .i64 y] :: .box [.int .i64 0, .int .i64 0] :: .val (.int .i64 g) :: .val (.int .i64 h) :: .dead :: .dead :: .dead :: .dead :: .dead :: .dead :: .dead :: .dead :: .dead :: .dead :: .dead :: .dead :: .dead :: .dead :: .dead :: .dead :: .dead :: .dead :: .dead :: .dead :: .dead :: .dead :: .dead :: .dead :: .dead :: .dead :: .dead :: .dead :: .dead :: .dead :: .dead :: .dead :: .dead :: .dead :: .dead :: .dead :: [])
theorem Tryz.k45_1 (x y g h : Int) (c1 : (decide (h > 0)) = true) (n1 : ¬ h = 0) : RunsW Tryz.ir Tryz.c45 (Tryz.s45 x y g h) .norm (Tryz.s45 x y h (Int.tmod g h)) :=
  RunsW.script (ps := [(decide (h > 0)) = true, ¬ h = 0]) TR7_holds 300 [.b true] [1, 2, 3, 4] (by kernel_rfl) ⟨c1, n1, trivial⟩
theorem Tryz.k45_2 (x y g h : Int) (c1 : (decide (h > 0)) = false) : RunsW Tryz.ir Tryz.c45 (Tryz.s45 x y g h) (.exit 0) (Tryz.s45 x y g h) :=
  RunsW.script (ps := [(decide (h > 0)) = false]) TR7_holds 300 [.b false] [1, 2, 3, 4] (by kernel_rfl) ⟨c1, trivial⟩

theorem Tryz.loop45 (x y : Int) : ∀ (h g : Nat), RunsW Tryz.ir (.loop Tryz.c45) (Tryz.s45 x y g h) (.exit 0) (Tryz.s45 x y ((Nat.gcd g h : Nat) : Int) 0) := by
  intro h
  induction h using Nat.strongRecOn with
  | _ h ih =>
    intro g
    cases h with
    | zero =>
      rw [Nat.gcd_zero_right]
      exact RunsW.loop_out (Tryz.k45_2 x y g 0 (by simp)) (by intro e; cases e)
    | succ h =>
      have h1 := Tryz.k45_1 x y g ((h + 1 : Nat) : Int) (by simp) (by omega)
      have e : Int.tmod (g : Int) ((h + 1 : Nat) : Int) = ((g % (h + 1) : Nat) : Int) := by
        rw [Int.tmod_eq_emod_of_nonneg (by omega), Int.natCast_emod]
      rw [e] at h1
      have h2 := ih (g % (h + 1)) (Nat.mod_lt _ (by omega)) (h + 1)
      have e2 : Nat.gcd (h + 1) (g % (h + 1)) = Nat.gcd g (h + 1) := by
        rw [Nat.gcd_comm g (h + 1), Nat.gcd_rec (h + 1) g, Nat.gcd_comm]
      rw [e2] at h2
      exact RunsW.loop h1 h2


theorem Tryz.run45_no (x y : Int) (h : smallB x y = false) : Runs Tryz.ir 45 [.agg [.int .i64 x, .int .i64 y]] (.agg [.int .i64 0, .int .i64 0]) :=
  Runs.script (ps := [(!(smallB x y)) = true, true = true]) TR7_holds rfl 300 rfl [.b true, .b true] (by kernel_rfl) ⟨(by rw [h]; rfl), rfl, trivial⟩
theorem Tryz.run45_zz (x y : Int) (h : smallB x y = true) (h0 : (x == 0 && (y == 0 && true)) = true) : Runs Tryz.ir 45 [.agg [.int .i64 x, .int .i64 y]] (.agg [.int .i64 0, .int .i64 0]) :=
  Runs.script (ps := [(!(smallB x y)) = false, (x == 0 && (y == 0 && true)) = true]) TR7_holds rfl 300 rfl [.b false, .b true] (by kernel_rfl) ⟨(by rw [h]; rfl), h0, trivial⟩
theorem Tryz.run45_yes (x y : Int) (h : smallB x y = true) (h0 : (x == 0 && (y == 0 && true)) = false) (hnz : ¬ ((Nat.gcd x.natAbs y.natAbs : Nat) : Int) = 0) : Runs Tryz.ir 45 [.agg [.int .i64 x, .int .i64 y]] (.agg [.int .i64 (IntKind.i64.wrap (Int.tdiv x ((Nat.gcd x.natAbs y.natAbs : Nat) : Int))), .int .i64 (IntKind.i64.wrap (Int.tdiv y ((Nat.gcd x.natAbs y.natAbs : Nat) : Int)))]) := by
  have g := smallB_yes h
  have hl : RunsW Tryz.ir (.loop Tryz.c45) (Tryz.s45 x y (if (IntKind.i64.wrap (0 - x)) > x then (IntKind.i64.wrap (0 - x)) else x) (if (IntKind.i64.wrap (0 - y)) > y then (IntKind.i64.wrap (0 - y)) else y)) (.exit 0) (Tryz.s45 x y ((Nat.gcd x.natAbs y.natAbs : Nat) : Int) 0) := by
    rw [abs_max (x := x) (by omega), abs_max (x := y) (by omega)]
    exact Tryz.loop45 x y _ _
  exact Runs.of_bodyW (fn := Tryz.i45) (s := (.dead :: .box [.int .i64 x, .int .i64 y] :: .box [.int .i64 (IntKind.i64.wrap (Int.tdiv x ((Nat.gcd x.natAbs y.natAbs : Nat) : Int))), .int .i64 (IntKind.i64.wrap (Int.tdiv y ((Nat.gcd x.natAbs y.natAbs : Nat) : Int)))] :: .val (.int .i64 ((Nat.gcd x.natAbs y.natAbs : Nat) : Int)) :: .val (.int .i64 0) :: .dead :: .dead :: .dead :: .dead :: .dead :: .dead :: .dead :: .dead :: .dead :: .dead :: .dead :: .dead :: .dead :: .dead :: .dead :: .dead :: .dead :: .dead :: .dead :: .dead :: .dead :: .dead :: .dead :: .dead :: .dead :: .dead :: .dead :: .ptr 1 0 :: .val (.int .i64 x) :: .val (.int .i64 ((Nat.gcd x.natAbs y.natAbs : Nat) : Int)) :: .val (.int .i64 (IntKind.i64.wrap (Int.tdiv x ((Nat.gcd x.natAbs y.natAbs : Nat) : Int)))) :: .ptr 1 1 :: .val (.int .i64 y) :: .val (.int .i64 ((Nat.gcd x.natAbs y.natAbs : Nat) : Int)) :: .val (.int .i64 (IntKind.i64.wrap (Int.tdiv y ((Nat.gcd x.natAbs y.natAbs : Nat) : Int)))) :: .val (.agg [.int .i64 (IntKind.i64.wrap (Int.tdiv x ((Nat.gcd x.natAbs y.natAbs : Nat) : Int))), .int .i64 (IntKind.i64.wrap (Int.tdiv y ((Nat.gcd x.natAbs y.natAbs : Nat) : Int)))]) :: [])) (ex := .ret) rfl rfl
    (RunsW.seq (RunsW.script (c := .region false [⟨some 1, .box (.t 0) [14, 16, 20, 22, 32, 36], none, []⟩, ⟨some 2, .new [.int .i64 0, .int .i64 0] [], none, []⟩]) (s := (.val (.agg [.int .i64 x, .int .i64 y]) :: .dead :: .dead :: .dead :: .dead :: .dead :: .dead :: .dead :: .dead :: .dead :: .dead :: .dead :: .dead :: .dead :: .dead :: .dead :: .dead :: .dead :: .dead :: .dead :: .dead :: .dead :: .dead :: .dead :: .dead :: .dead :: .dead :: .dead :: .dead :: .dead :: .dead :: .dead :: .dead :: .dead :: .dead :: .dead :: .dead :: .dead :: .dead :: .dead :: .dead :: [])) (t := (.val (.agg [.int .i64 x, .int .i64 y]) :: .box [.int .i64 x, .int .i64 y] :: .box [.int .i64 0, .int .i64 0] :: .dead :: .dead :: .dead :: .dead :: .dead :: .dead :: .dead :: .dead :: .dead :: .dead :: .dead :: .dead :: .dead :: .dead :: .dead :: .dead :: .dead :: .dead :: .dead :: .dead :: .dead :: .dead :: .dead :: .dead :: .dead :: .dead :: .dead :: .dead :: .dead :: .dead :: .dead :: .dead :: .dead :: .dead :: .dead :: .dead :: .dead :: .dead :: [])) (ex := .norm) (ps := []) TR7_holds 300 [] [0, 1, 2] (by kernel_rfl) trivial)
    (RunsW.seq (RunsW.script (c := .seq (.region false [⟨some 5, .ld 1 1 2 false, none, []⟩, ⟨some 6, .call 62 [.t 5], none, []⟩, ⟨some 7, .un .not (.t 6), none, []⟩, ⟨some 8, .mov (.t 7), none, []⟩, ⟨some 9, .ld 1 1 2 false, some (8, false), []⟩, ⟨some 10, .bld [.int .i64 0, .int .i64 0] [], some (8, false), []⟩, ⟨some 11, .eqv false 2 (.t 9) (.t 10), some (8, false), []⟩, ⟨some 12, .pick (.t 8) (.c (.bool true)) (.t 11), none, []⟩]) (.cond (.t 12) (.seq (.region false [⟨some 13, .bld [.int .i64 0, .int .i64 0] [], none, []⟩, ⟨none, .st 2 2 2 (.t 13), none, []⟩]) (.ret)) (.skip))) (s := (.val (.agg [.int .i64 x, .int .i64 y]) :: .box [.int .i64 x, .int .i64 y] :: .box [.int .i64 0, .int .i64 0] :: .dead :: .dead :: .dead :: .dead :: .dead :: .dead :: .dead :: .dead :: .dead :: .dead :: .dead :: .dead :: .dead :: .dead :: .dead :: .dead :: .dead :: .dead :: .dead :: .dead :: .dead :: .dead :: .dead :: .dead :: .dead :: .dead :: .dead :: .dead :: .dead :: .dead :: .dead :: .dead :: .dead :: .dead :: .dead :: .dead :: .dead :: .dead :: [])) (t := (.val (.agg [.int .i64 x, .int .i64 y]) :: .box [.int .i64 x, .int .i64 y] :: .box [.int .i64 0, .int .i64 0] :: .dead :: .dead :: .val (.agg [.int .i64 x, .int .i64 y]) :: .val (.bool (smallB x y)) :: .val (.bool (!(smallB x y))) :: .val (.bool (!(smallB x y))) :: .val (.agg [.int .i64 x, .int .i64 y]) :: .val (.agg [.int .i64 0, .int .i64 0]) :: .val (.bool (x == 0 && (y == 0 && true))) :: .val (.bool (x == 0 && (y == 0 && true))) :: .dead :: .dead :: .dead :: .dead :: .dead :: .dead :: .dead :: .dead :: .dead :: .dead :: .dead :: .dead :: .dead :: .dead :: .dead :: .dead :: .dead :: .dead :: .dead :: .dead :: .dead :: .dead :: .dead :: .dead :: .dead :: .dead :: .dead :: .dead :: [])) (ex := .norm) (ps := [(!(smallB x y)) = false, (x == 0 && (y == 0 && true)) = false]) TR7_holds 300 [.b false, .b false] [0, 1, 2, 5, 6, 7, 8, 9, 10, 11, 12] (by kernel_rfl) ⟨(by rw [h]; rfl), h0, trivial⟩)
    (RunsW.seq (RunsW.script (c := .region true [⟨some 14, .adr 1 1 0, none, []⟩, ⟨some 15, .ld 14 1 1 true, none, []⟩, ⟨some 16, .adr 1 1 0, none, []⟩, ⟨some 17, .ld 16 1 1 true, none, []⟩, ⟨some 18, .un .neg (.t 17), none, []⟩, ⟨some 19, .mx [.t 15, .t 18], none, []⟩, ⟨some 20, .adr 1 1 1, none, []⟩, ⟨some 21, .ld 20 1 1 true, none, []⟩, ⟨some 22, .adr 1 1 1, none, []⟩, ⟨some 23, .ld 22 1 1 true, none, []⟩, ⟨some 24, .un .neg (.t 23), none, []⟩, ⟨some 25, .mx [.t 21, .t 24], none, []⟩, ⟨some 3, .mov (.t 19), none, []⟩, ⟨some 4, .mov (.t 25), none, []⟩]) (s := (.val (.agg [.int .i64 x, .int .i64 y]) :: .box [.int .i64 x, .int .i64 y] :: .box [.int .i64 0, .int .i64 0] :: .dead :: .dead :: .val (.agg [.int .i64 x, .int .i64 y]) :: .val (.bool (smallB x y)) :: .val (.bool (!(smallB x y))) :: .val (.bool (!(smallB x y))) :: .val (.agg [.int .i64 x, .int .i64 y]) :: .val (.agg [.int .i64 0, .int .i64 0]) :: .val (.bool (x == 0 && (y == 0 && true))) :: .val (.bool (x == 0 && (y == 0 && true))) :: .dead :: .dead :: .dead :: .dead :: .dead :: .dead :: .dead :: .dead :: .dead :: .dead :: .dead :: .dead :: .dead :: .dead :: .dead :: .dead :: .dead :: .dead :: .dead :: .dead :: .dead :: .dead :: .dead :: .dead :: .dead :: .dead :: .dead :: .dead :: [])) (t := (.dead :: .box [.int .i64 x, .int .i64 y] :: .box [.int .i64 0, .int .i64 0] :: .val (.int .i64 (if (IntKind.i64.wrap (0 - x)) > x then (IntKind.i64.wrap (0 - x)) else x)) :: .val (.int .i64 (if (IntKind.i64.wrap (0 - y)) > y then (IntKind.i64.wrap (0 - y)) else y)) :: .dead :: .dead :: .dead :: .dead :: .dead :: .dead :: .dead :: .dead :: .dead :: .dead :: .dead :: .dead :: .dead :: .dead :: .dead :: .dead :: .dead :: .dead :: .dead :: .dead :: .dead :: .dead :: .dead :: .dead :: .dead :: .dead :: .dead :: .dead :: .dead :: .dead :: .dead :: .dead :: .dead :: .dead :: .dead :: .dead :: [])) (ex := .norm) (ps := []) TR7_holds 300 [] [1, 2, 3, 4] (by kernel_rfl) trivial)
    (RunsW.seq (RunsW.block hl)
    (RunsW.script (c := .seq (.region true [⟨some 32, .adr 1 1 0, none, []⟩, ⟨some 33, .ld 32 1 1 true, none, []⟩, ⟨some 34, .mov (.t 3), none, []⟩, ⟨some 35, .bin .quo (.t 33) (.t 34), none, []⟩, ⟨some 36, .adr 1 1 1, none, []⟩, ⟨some 37, .ld 36 1 1 true, none, []⟩, ⟨some 38, .mov (.t 3), none, []⟩, ⟨some 39, .bin .quo (.t 37) (.t 38), none, []⟩, ⟨some 40, .bld [.int .i64 0, .int .i64 0] [(0, 1, .t 35), (1, 1, .t 39)], none, []⟩, ⟨none, .st 2 2 2 (.t 40), none, []⟩]) (.ret)) (s := (.dead :: .box [.int .i64 x, .int .i64 y] :: .box [.int .i64 0, .int .i64 0] :: .val (.int .i64 ((Nat.gcd x.natAbs y.natAbs : Nat) : Int)) :: .val (.int .i64 0) :: .dead :: .dead :: .dead :: .dead :: .dead :: .dead :: .dead :: .dead :: .dead :: .dead :: .dead :: .dead :: .dead :: .dead :: .dead :: .dead :: .dead :: .dead :: .dead :: .dead :: .dead :: .dead :: .dead :: .dead :: .dead :: .dead :: .dead :: .dead :: .dead :: .dead :: .dead :: .dead :: .dead :: .dead :: .dead :: .dead :: [])) (t := (.dead :: .box [.int .i64 x, .int .i64 y] :: .box [.int .i64 (IntKind.i64.wrap (Int.tdiv x ((Nat.gcd x.natAbs y.natAbs : Nat) : Int))), .int .i64 (IntKind.i64.wrap (Int.tdiv y ((Nat.gcd x.natAbs y.natAbs : Nat) : Int)))] :: .val (.int .i64 ((Nat.gcd x.natAbs y.natAbs : Nat) : Int)) :: .val (.int .i64 0) :: .dead :: .dead :: .dead :: .dead :: .dead :: .dead :: .dead :: .dead :: .dead :: .dead :: .dead :: .dead :: .dead :: .dead :: .dead :: .dead :: .dead :: .dead :: .dead :: .dead :: .dead :: .dead :: .dead :: .dead :: .dead :: .dead :: .dead :: .ptr 1 0 :: .val (.int .i64 x) :: .val (.int .i64 ((Nat.gcd x.natAbs y.natAbs : Nat) : Int)) :: .val (.int .i64 (IntKind.i64.wrap (Int.tdiv x ((Nat.gcd x.natAbs y.natAbs : Nat) : Int)))) :: .ptr 1 1 :: .val (.int .i64 y) :: .val (.int .i64 ((Nat.gcd x.natAbs y.natAbs : Nat) : Int)) :: .val (.int .i64 (IntKind.i64.wrap (Int.tdiv y ((Nat.gcd x.natAbs y.natAbs : Nat) : Int)))) :: .val (.agg [.int .i64 (IntKind.i64.wrap (Int.tdiv x ((Nat.gcd x.natAbs y.natAbs : Nat) : Int))), .int .i64 (IntKind.i64.wrap (Int.tdiv y ((Nat.gcd x.natAbs y.natAbs : Nat) : Int)))]) :: [])) (ex := .ret) (ps := [¬ ((Nat.gcd x.natAbs y.natAbs : Nat) : Int) = 0, ¬ ((Nat.gcd x.natAbs y.natAbs : Nat) : Int) = 0]) TR7_holds 300 [] [1, 2, 3, 4, 32, 33, 34, 35, 36, 37, 38, 39, 40] (by kernel_rfl) ⟨hnz, hnz, trivial⟩))))) (by intro i e; cases e) rfl
theorem Tryz.run45 (x y : Int) : Runs Tryz.ir 45 [.agg [.int .i64 x, .int .i64 y]] (.agg [.int .i64 (reduceV x y).1, .int .i64 (reduceV x y).2]) := by
  unfold reduceV
  cases h : smallB x y
  · exact Tryz.run45_no x y h
  by_cases h0 : x = 0 ∧ y = 0
  · obtain ⟨rfl, rfl⟩ := h0
    exact Tryz.run45_zz 0 0 h rfl
  · have g := smallB_yes h
    have e1 : (x == 0 && (y == 0 && true)) = false := by simp; omega
    have e2 : (x == 0 && y == 0) = false := by simp; omega
    have hpos : 0 < Nat.gcd x.natAbs y.natAbs := by
      rcases Nat.eq_zero_or_pos (Nat.gcd x.natAbs y.natAbs) with hz | hz
      · have := Nat.eq_zero_of_gcd_eq_zero_left hz
        have := Nat.eq_zero_of_gcd_eq_zero_right hz
        omega
      · exact hz
    have := Tryz.run45_yes x y h e1 (by omega)
    have b1 := tdiv_small (x := x) (d := ((Nat.gcd x.natAbs y.natAbs : Nat) : Int)) (by omega) (by omega)
    have b2 := tdiv_small (x := y) (d := ((Nat.gcd x.natAbs y.natAbs : Nat) : Int)) (by omega) (by omega)
    rw [w64 (by omega) (by omega), w64 (by omega) (by omega)] at this
    rw [e2]
    exact this

def g45 : List AV → Option (AV × List Prop)
  | [.agg [.int .i64 x, .int .i64 y]] => some (.agg [.int .i64 (reduceV x y).1, .int .i64 (reduceV x y).2], [])
  | _ => none
def TR8 : Table := (45, g45) :: TR7
theorem TR8_holds : THolds Tryz.ir TR8 := THolds.cons TR7_holds (by
  intro args r ps h hp
  unfold g45 at h
  split at h
  · cases h; exact Tryz.run45 _ _
  · cases h)

def Tryz.c40 : ICode := .seq (.seq (.region false [⟨some 7, .adr 1 1 0, none, []⟩,
   ⟨some 8, .ld 7 1 1 true, none, []⟩,
   ⟨some 9, .adr 1 1 0, none, []⟩,
   ⟨some 10, .ld 9 1 1 true, none, []⟩,
   ⟨some 11, .un .neg (.t 10), none, []⟩,
   ⟨some 12, .mx [.t 8, .t 11], none, []⟩,
   ⟨some 13, .bin .gtr (.t 12) (.c (.int .i64 2097152)), none, []⟩,
   ⟨some 14, .mov (.t 13), none, []⟩,
   ⟨some 15, .adr 1 1 1, some (14, false), []⟩,
   ⟨some 16, .ld 15 1 1 true, some (14, false), []⟩,
   ⟨some 17, .adr 1 1 1, some (14, false), []⟩,
   ⟨some 18, .ld 17 1 1 true, some (14, false), []⟩,
   ⟨some 19, .un .neg (.t 18), some (14, false), []⟩,
   ⟨some 20, .mx [.t 16, .t 19], some (14, false), []⟩,
   ⟨some 21, .bin .gtr (.t 20) (.c (.int .i64 2097152)), some (14, false), []⟩,
   ⟨some 22, .pick (.t 14) (.c (.bool true)) (.t 21), none, []⟩])
  (.cond (.t 22) (.skip)
  (.exit 0)))
  (.block 1 (.region false [⟨some 23, .adr 1 1 0, none, []⟩,
   ⟨some 24, .ld 23 1 1 true, none, []⟩,
   ⟨some 25, .bin .quo (.t 24) (.c (.int .i64 2)), none, []⟩,
   ⟨some 26, .adr 1 1 1, none, []⟩,
   ⟨some 27, .ld 26 1 1 true, none, []⟩,
   ⟨some 28, .bin .quo (.t 27) (.c (.int .i64 2)), none, []⟩,
   ⟨some 29, .bld [.int .i64 0, .int .i64 0] [(0, 1, .t 25), (1, 1, .t 28)], none, []⟩,
   ⟨none, .st 1 1 2 (.t 29), none, []⟩]))
def Tryz.s40 (x y : Int) : State := [.dead, .box [.int .i64 x, .int .i64 y], .box [.int .i64 0, .int .i64 0], .dead, .dead, .dead, .dead, .dead, .dead, .dead, .dead, .dead, .dead, .dead, .dead, .dead, .dead, .dead, .dead, .dead, .dead, .dead, .dead, .dead, .dead, .dead, .dead, .dead, .dead, .dead, .dead]
theorem Tryz.k40_1 (x y : Int) (c1 : (decide ((if (IntKind.i64.wrap (0 - x)) > x then (IntKind.i64.wrap (0 - x)) else x) > 2097152)) = true) : RunsW Tryz.ir Tryz.c40 (Tryz.s40 x y) .norm (Tryz.s40 (IntKind.i64.wrap (Int.tdiv x 2)) (IntKind.i64.wrap (Int.tdiv y 2))) :=
  RunsW.script (ps := [(decide ((if (IntKind.i64.wrap (0 - x)) > x then (IntKind.i64.wrap (0 - x)) else x) > 2097152)) = true, true = true, ¬ (2 : Int) = 0, ¬ (2 : Int) = 0]) TR8_holds 300 [.b true, .b true] [1, 2] (by kernel_rfl) ⟨c1, rfl, (by decide), (by decide), trivial⟩
theorem Tryz.k40_2 (x y : Int) (c1 : (decide ((if (IntKind.i64.wrap (0 - x)) > x then (IntKind.i64.wrap (0 - x)) else x) > 2097152)) = false) (c2 : (decide ((if (IntKind.i64.wrap (0 - y)) > y then (IntKind.i64.wrap (0 - y)) else y) > 2097152)) = true) : RunsW Tryz.ir Tryz.c40 (Tryz.s40 x y) .norm (Tryz.s40 (IntKind.i64.wrap (Int.tdiv x 2)) (IntKind.i64.wrap (Int.tdiv y 2))) :=
  RunsW.script (ps := [(decide ((if (IntKind.i64.wrap (0 - x)) > x then (IntKind.i64.wrap (0 - x)) else x) > 2097152)) = false, (decide ((if (IntKind.i64.wrap (0 - y)) > y then (IntKind.i64.wrap (0 - y)) else y) > 2097152)) = true, ¬ (2 : Int) = 0, ¬ (2 : Int) = 0]) TR8_holds 300 [.b false, .b true] [1, 2] (by kernel_rfl) ⟨c1, c2, (by decide), (by decide), trivial⟩
theorem Tryz.k40_3 (x y : Int) (c1 : (decide ((if (IntKind.i64.wrap (0 - x)) > x then (IntKind.i64.wrap (0 - x)) else x) > 2097152)) = false) (c2 : (decide ((if (IntKind.i64.wrap (0 - y)) > y then (IntKind.i64.wrap (0 - y)) else y) > 2097152)) = false) : RunsW Tryz.ir Tryz.c40 (Tryz.s40 x y) (.exit 0) (Tryz.s40 x y) :=
  RunsW.script (ps := [(decide ((if (IntKind.i64.wrap (0 - x)) > x then (IntKind.i64.wrap (0 - x)) else x) > 2097152)) = false, (decide ((if (IntKind.i64.wrap (0 - y)) > y then (IntKind.i64.wrap (0 - y)) else y) > 2097152)) = false]) TR8_holds 300 [.b false, .b false] [1, 2] (by kernel_rfl) ⟨c1, c2, trivial⟩
theorem half_cond (x : Int) (h1 : -1073741824 ≤ x ∧ x ≤ 1073741824) : (decide ((if IntKind.i64.wrap (0 - x) > x then IntKind.i64.wrap (0 - x) else x) > 2097152)) = (decide (2097152 < x) || decide (2097152 < -x)) := by
  simp only [Int.zero_sub, w64 (n := -x) (by omega) (by omega)]
  rw [Bool.eq_iff_iff]
  simp only [decide_eq_true_eq, Bool.or_eq_true]
  split <;> omega
theorem Tryz.out40 (x y : Int) (h1 : -1073741824 ≤ x ∧ x ≤ 1073741824) (h2 : -1073741824 ≤ y ∧ y ≤ 1073741824) (hb : bigB x y = false) : RunsW Tryz.ir (.loop Tryz.c40) (Tryz.s40 x y) (.exit 0) (Tryz.s40 x y) := by
  simp [bigB] at hb
  exact RunsW.loop_out (Tryz.k40_3 x y ((half_cond x h1).trans (by simp; omega)) ((half_cond y h2).trans (by simp; omega))) (by intro e; cases e)
theorem Tryz.go40 (x y : Int) (h1 : -1073741824 ≤ x ∧ x ≤ 1073741824) (h2 : -1073741824 ≤ y ∧ y ≤ 1073741824) (hb : bigB x y = true) : RunsW Tryz.ir Tryz.c40 (Tryz.s40 x y) .norm (Tryz.s40 (IntKind.i64.wrap (Int.tdiv x 2)) (IntKind.i64.wrap (Int.tdiv y 2))) := by
  cases g : (decide (2097152 < x) || decide (2097152 < -x))
  · refine Tryz.k40_2 x y ((half_cond x h1).trans g) ((half_cond y h2).trans ?_)
    simp only [bigB, g, Bool.false_or] at hb
    exact hb
  · exact Tryz.k40_1 x y ((half_cond x h1).trans g)
theorem Tryz.loop40 : ∀ (k : Nat) (x y : Int), k ≤ 9 → -(2097152 * 2 ^ k) ≤ x → x ≤ 2097152 * 2 ^ k → -(2097152 * 2 ^ k) ≤ y → y ≤ 2097152 * 2 ^ k →
    ∀ j, k ≤ j → RunsW Tryz.ir (.loop Tryz.c40) (Tryz.s40 x y) (.exit 0) (Tryz.s40 (halveGo j x y).1 (halveGo j x y).2) := by
  intro k
  induction k with
  | zero =>
    intro x y _ h1 h2 h3 h4 j _
    simp only [Int.pow_zero, Int.mul_one] at h1 h2 h3 h4
    have hb : bigB x y = false := by simp [bigB]; omega
    have hg : halveGo j x y = (x, y) := by
      cases j with
      | zero => rfl
      | succ j => simp only [halveGo, hb]; rfl
    rw [hg]
    exact Tryz.out40 x y (by omega) (by omega) hb
  | succ k ih =>
    intro x y hk h1 h2 h3 h4 j hj
    have hp : (2 : Int) ^ (k + 1) = 2 ^ k * 2 := Int.pow_succ ..
    have hle : (2 : Int) ^ k ≤ 256 := by
      have : k ≤ 8 := by omega
      have h9 : k = 0 ∨ k = 1 ∨ k = 2 ∨ k = 3 ∨ k = 4 ∨ k = 5 ∨ k = 6 ∨ k = 7 ∨ k = 8 := by omega
      rcases h9 with rfl | rfl | rfl | rfl | rfl | rfl | rfl | rfl | rfl <;> decide
    have hpos : (0 : Int) < 2 ^ k := Int.pow_pos (by omega)
    rw [hp] at h1 h2 h3 h4
    generalize (2 : Int) ^ k = p at *
    have hx : -1073741824 ≤ x ∧ x ≤ 1073741824 := by omega
    have hy : -1073741824 ≤ y ∧ y ≤ 1073741824 := by omega
    cases hb : bigB x y
    · have hg : halveGo j x y = (x, y) := by
        cases j with
        | zero => rfl
        | succ j => simp only [halveGo, hb]; rfl
      rw [hg]
      exact Tryz.out40 x y hx hy hb
    · obtain ⟨j, rfl⟩ : ∃ j', j = j' + 1 := ⟨j - 1, by omega⟩
      have hg : halveGo (j + 1) x y = halveGo j (Int.tdiv x 2) (Int.tdiv y 2) := by simp only [halveGo, hb]; rfl
      rw [hg]
      have h5 := Tryz.go40 x y hx hy hb
      have tx : -(2097152 * p) ≤ Int.tdiv x 2 ∧ Int.tdiv x 2 ≤ 2097152 * p := by
        rcases Int.le_total 0 x with h | h
        · rw [Int.tdiv_eq_ediv_of_nonneg h]; omega
        · have := Int.neg_tdiv (a := x) (b := 2)
          have e : Int.tdiv x 2 = -((-x) / 2) := by rw [← Int.tdiv_eq_ediv_of_nonneg (by omega : 0 ≤ -x), this]; omega
          rw [e]; omega
      have ty : -(2097152 * p) ≤ Int.tdiv y 2 ∧ Int.tdiv y 2 ≤ 2097152 * p := by
        rcases Int.le_total 0 y with h | h
        · rw [Int.tdiv_eq_ediv_of_nonneg h]; omega
        · have := Int.neg_tdiv (a := y) (b := 2)
          have e : Int.tdiv y 2 = -((-y) / 2) := by rw [← Int.tdiv_eq_ediv_of_nonneg (by omega : 0 ≤ -y), this]; omega
          rw [e]; omega
      rw [w64 (n := Int.tdiv x 2) (by omega) (by omega), w64 (n := Int.tdiv y 2) (by omega) (by omega)] at h5
      exact RunsW.loop h5 (ih _ _ (by omega) tx.1 tx.2 ty.1 ty.2 j (by omega))

theorem Tryz.run40_no (x y : Int) (h : smallB x y = false) : Runs Tryz.ir 40 [.agg [.int .i64 x, .int .i64 y]] (.agg [.int .i64 0, .int .i64 0]) :=
  Runs.script (ps := [(!(smallB x y)) = true]) TR8_holds rfl 300 rfl [.b true] (by kernel_rfl) ⟨(by rw [h]; rfl), trivial⟩
theorem Tryz.run40_yes (x y : Int) (h : smallB x y = true) : Runs Tryz.ir 40 [.agg [.int .i64 x, .int .i64 y]] (.agg [.int .i64 (halveGo 10 x y).1, .int .i64 (halveGo 10 x y).2]) := by
  have g := smallB_yes h
  have hl := Tryz.loop40 9 x y (by omega) (by simp; omega) (by simp; omega) (by simp; omega) (by simp; omega) 10 (by omega)
  exact Runs.of_bodyW (fn := Tryz.i40) (s := [.dead, .box [.int .i64 ((halveGo 10 x y).1), .int .i64 ((halveGo 10 x y).2)], .box [.int .i64 ((halveGo 10 x y).1), .int .i64 ((halveGo 10 x y).2)], .dead, .dead, .dead, .dead, .dead, .dead, .dead, .dead, .dead, .dead, .dead, .dead, .dead, .dead, .dead, .dead, .dead, .dead, .dead, .dead, .dead, .dead, .dead, .dead, .dead, .dead, .dead, .val (.agg [.int .i64 ((halveGo 10 x y).1), .int .i64 ((halveGo 10 x y).2)])]) (ex := .ret) rfl rfl
    (RunsW.seq (RunsW.script (c := .region false [⟨some 1, .box (.t 0) [7, 9, 15, 17, 23, 26], none, []⟩, ⟨some 2, .new [.int .i64 0, .int .i64 0] [], none, []⟩]) (s := [.val (.agg [.int .i64 x, .int .i64 y]), .dead, .dead, .dead, .dead, .dead, .dead, .dead, .dead, .dead, .dead, .dead, .dead, .dead, .dead, .dead, .dead, .dead, .dead, .dead, .dead, .dead, .dead, .dead, .dead, .dead, .dead, .dead, .dead, .dead, .dead]) (t := [.val (.agg [.int .i64 x, .int .i64 y]), .box [.int .i64 x, .int .i64 y], .box [.int .i64 0, .int .i64 0], .dead, .dead, .dead, .dead, .dead, .dead, .dead, .dead, .dead, .dead, .dead, .dead, .dead, .dead, .dead, .dead, .dead, .dead, .dead, .dead, .dead, .dead, .dead, .dead, .dead, .dead, .dead, .dead]) (ex := .norm) (ps := []) TR8_holds 300 [] [0, 1, 2] (by kernel_rfl) trivial)
    (RunsW.seq (RunsW.script (c := .seq (.region false [⟨some 3, .ld 1 1 2 false, none, []⟩, ⟨some 4, .call 62 [.t 3], none, []⟩, ⟨some 5, .un .not (.t 4), none, []⟩]) (.cond (.t 5) (.seq (.region false [⟨some 6, .bld [.int .i64 0, .int .i64 0] [], none, []⟩, ⟨none, .st 2 2 2 (.t 6), none, []⟩]) (.ret)) (.skip))) (s := [.val (.agg [.int .i64 x, .int .i64 y]), .box [.int .i64 x, .int .i64 y], .box [.int .i64 0, .int .i64 0], .dead, .dead, .dead, .dead, .dead, .dead, .dead, .dead, .dead, .dead, .dead, .dead, .dead, .dead, .dead, .dead, .dead, .dead, .dead, .dead, .dead, .dead, .dead, .dead, .dead, .dead, .dead, .dead]) (t := [.dead, .box [.int .i64 x, .int .i64 y], .box [.int .i64 0, .int .i64 0], .dead, .dead, .dead, .dead, .dead, .dead, .dead, .dead, .dead, .dead, .dead, .dead, .dead, .dead, .dead, .dead, .dead, .dead, .dead, .dead, .dead, .dead, .dead, .dead, .dead, .dead, .dead, .dead]) (ex := .norm) (ps := [(!(smallB x y)) = false]) TR8_holds 300 [.b false] [1, 2] (by kernel_rfl) ⟨(by rw [h]; rfl), trivial⟩)
    (RunsW.seq (RunsW.block hl)
    (RunsW.script (c := .seq (.region false [⟨some 30, .ld 1 1 2 false, none, []⟩, ⟨none, .st 2 2 2 (.t 30), none, []⟩]) (.ret)) (s := [.dead, .box [.int .i64 ((halveGo 10 x y).1), .int .i64 ((halveGo 10 x y).2)], .box [.int .i64 0, .int .i64 0], .dead, .dead, .dead, .dead, .dead, .dead, .dead, .dead, .dead, .dead, .dead, .dead, .dead, .dead, .dead, .dead, .dead, .dead, .dead, .dead, .dead, .dead, .dead, .dead, .dead, .dead, .dead, .dead]) (t := [.dead, .box [.int .i64 ((halveGo 10 x y).1), .int .i64 ((halveGo 10 x y).2)], .box [.int .i64 ((halveGo 10 x y).1), .int .i64 ((halveGo 10 x y).2)], .dead, .dead, .dead, .dead, .dead, .dead, .dead, .dead, .dead, .dead, .dead, .dead, .dead, .dead, .dead, .dead, .dead, .dead, .dead, .dead, .dead, .dead, .dead, .dead, .dead, .dead, .dead, .val (.agg [.int .i64 ((halveGo 10 x y).1), .int .i64 ((halveGo 10 x y).2)])]) (ex := .ret) (ps := []) TR8_holds 300 [] [1, 2, 30] (by kernel_rfl) trivial)))) (by intro i e; cases e) rfl
theorem Tryz.run40 (x y : Int) : Runs Tryz.ir 40 [.agg [.int .i64 x, .int .i64 y]] (.agg [.int .i64 (halveV x y).1, .int .i64 (halveV x y).2]) := by
  unfold halveV
  cases h : smallB x y
  · exact Tryz.run40_no x y h
  · exact Tryz.run40_yes x y h

def g40 : List AV → Option (AV × List Prop)
  | [.agg [.int .i64 x, .int .i64 y]] => some (.agg [.int .i64 (halveV x y).1, .int .i64 (halveV x y).2], [])
  | _ => none
def TR9 : Table := (40, g40) :: TR8
theorem TR9_holds : THolds Tryz.ir TR9 := THolds.cons TR8_holds (by
  intro args r ps h hp
  unfold g40 at h
  split at h
  · cases h; exact Tryz.run40 _ _
  · cases h)

def nearR (x y m : Int) : Bool :=
  match decide (x ≥ (IntKind.i64.wrap (0 - m))) with
  | true => (match decide (x ≤ m) with
  | true => (match decide (y ≥ (IntKind.i64.wrap (0 - m))) with
  | true => ((decide (y ≤ m)))
  | false => (false))
  | false => (false))
  | false => (false)
theorem Tryz.run29 (x y m : Int)  : Runs Tryz.ir 29 [.agg [.int .i64 x, .int .i64 y], .int .i64 m] (.bool (nearR x y m)) := by
  unfold nearR
  cases c1 : (decide (x ≥ (IntKind.i64.wrap (0 - m))))
  · exact Runs.script (r := .bool false) (ps := [(decide (x ≥ (IntKind.i64.wrap (0 - m)))) = false, false = false, false = false]) TR9_holds rfl 300 rfl [.b false, .b false, .b false] (by kernel_rfl) ⟨c1, rfl, rfl, trivial⟩
  · cases c2 : (decide (x ≤ m))
    · exact Runs.script (r := .bool false) (ps := [(decide (x ≥ (IntKind.i64.wrap (0 - m)))) = true, (decide (x ≤ m)) = false, false = false]) TR9_holds rfl 300 rfl [.b true, .b false, .b false] (by kernel_rfl) ⟨c1, c2, rfl, trivial⟩
    · cases c3 : (decide (y ≥ (IntKind.i64.wrap (0 - m))))
      · exact Runs.script (r := .bool false) (ps := [(decide (x ≥ (IntKind.i64.wrap (0 - m)))) = true, (decide (x ≤ m)) = true, (decide (y ≥ (IntKind.i64.wrap (0 - m)))) = false]) TR9_holds rfl 300 rfl [.b true, .b true, .b false] (by kernel_rfl) ⟨c1, c2, c3, trivial⟩
      · exact Runs.script (r := .bool (decide (y ≤ m))) (ps := [(decide (x ≥ (IntKind.i64.wrap (0 - m)))) = true, (decide (x ≤ m)) = true, (decide (y ≥ (IntKind.i64.wrap (0 - m)))) = true]) TR9_holds rfl 300 rfl [.b true, .b true, .b true] (by kernel_rfl) ⟨c1, c2, c3, trivial⟩

def g29 : List AV → Option (AV × List Prop)
  | [.agg [.int .i64 x, .int .i64 y], .int .i64 m] => some (.bool (nearR x y m), [])
  | _ => none
def TR10 : Table := (29, g29) :: TR9
theorem TR10_holds : THolds Tryz.ir TR10 := THolds.cons TR9_holds (by
  intro args r ps h hp
  unfold g29 at h
  split at h
  · cases h; exact Tryz.run29 _ _ _ 
  · cases h)

def inDiscR (p1 p2 z1 z2 reach : Int) : Bool :=
  match nearR p1 p2 2097152 with
  | true => (match nearR z1 z2 1048576 with
  | true => (match decide (reach < 1) with
  | true => (false)
  | false => (match decide (reach > 524288) with
  | true => (false)
  | false => ((decide ((dotI ((subV p1 p2 z1 z2).1) ((subV p1 p2 z1 z2).2) ((subV p1 p2 z1 z2).1) ((subV p1 p2 z1 z2).2)) < (IntKind.i64.wrap (reach * reach)))))))
  | false => (false))
  | false => (false)
theorem Tryz.run9 (p1 p2 z1 z2 reach : Int)  : Runs Tryz.ir 9 [.agg [.int .i64 p1, .int .i64 p2], .agg [.int .i64 z1, .int .i64 z2], .int .i64 reach] (.bool (inDiscR p1 p2 z1 z2 reach)) := by
  unfold inDiscR
  cases c1 : (nearR p1 p2 2097152)
  · exact Runs.script (r := .bool false) (ps := [(!(nearR p1 p2 2097152)) = true, true = true, true = true, true = true]) TR10_holds rfl 300 rfl [.b true, .b true, .b true, .b true] (by kernel_rfl) ⟨(by rw [c1]; rfl), rfl, rfl, rfl, trivial⟩
  · cases c2 : (nearR z1 z2 1048576)
    · exact Runs.script (r := .bool false) (ps := [(!(nearR p1 p2 2097152)) = false, (!(nearR z1 z2 1048576)) = true, true = true, true = true]) TR10_holds rfl 300 rfl [.b false, .b true, .b true, .b true] (by kernel_rfl) ⟨(by rw [c1]; rfl), (by rw [c2]; rfl), rfl, rfl, trivial⟩
    · cases c3 : (decide (reach < 1))
      · cases c4 : (decide (reach > 524288))
        · exact Runs.script (r := .bool (decide ((dotI ((subV p1 p2 z1 z2).1) ((subV p1 p2 z1 z2).2) ((subV p1 p2 z1 z2).1) ((subV p1 p2 z1 z2).2)) < (IntKind.i64.wrap (reach * reach))))) (ps := [(!(nearR p1 p2 2097152)) = false, (!(nearR z1 z2 1048576)) = false, (decide (reach < 1)) = false, (decide (reach > 524288)) = false]) TR10_holds rfl 300 rfl [.b false, .b false, .b false, .b false] (by kernel_rfl) ⟨(by rw [c1]; rfl), (by rw [c2]; rfl), c3, c4, trivial⟩
        · exact Runs.script (r := .bool false) (ps := [(!(nearR p1 p2 2097152)) = false, (!(nearR z1 z2 1048576)) = false, (decide (reach < 1)) = false, (decide (reach > 524288)) = true]) TR10_holds rfl 300 rfl [.b false, .b false, .b false, .b true] (by kernel_rfl) ⟨(by rw [c1]; rfl), (by rw [c2]; rfl), c3, c4, trivial⟩
      · exact Runs.script (r := .bool false) (ps := [(!(nearR p1 p2 2097152)) = false, (!(nearR z1 z2 1048576)) = false, (decide (reach < 1)) = true, true = true]) TR10_holds rfl 300 rfl [.b false, .b false, .b true, .b true] (by kernel_rfl) ⟨(by rw [c1]; rfl), (by rw [c2]; rfl), c3, rfl, trivial⟩

def g9 : List AV → Option (AV × List Prop)
  | [.agg [.int .i64 p1, .int .i64 p2], .agg [.int .i64 z1, .int .i64 z2], .int .i64 reach] => some (.bool (inDiscR p1 p2 z1 z2 reach), [])
  | _ => none
def TR11 : Table := (9, g9) :: TR10
theorem TR11_holds : THolds Tryz.ir TR11 := THolds.cons TR10_holds (by
  intro args r ps h hp
  unfold g9 at h
  split at h
  · cases h; exact Tryz.run9 _ _ _ _ _ 
  · cases h)

def discNR (q1 q2 z1 z2 : Int) : Int × Int :=
  match nearR z1 z2 1048576 with
  | true => (((halveV ((subV q1 q2 ((scaleR z1 z2 256).1) ((scaleR z1 z2 256).2)).1) ((subV q1 q2 ((scaleR z1 z2 256).1) ((scaleR z1 z2 256).2)).2)).1, (halveV ((subV q1 q2 ((scaleR z1 z2 256).1) ((scaleR z1 z2 256).2)).1) ((subV q1 q2 ((scaleR z1 z2 256).1) ((scaleR z1 z2 256).2)).2)).2))
  | false => ((0, 0))
theorem Tryz.run13 (q1 q2 z1 z2 : Int)  : Runs Tryz.ir 13 [.agg [.int .i64 q1, .int .i64 q2], .agg [.int .i64 z1, .int .i64 z2]] (.agg [.int .i64 ((discNR q1 q2 z1 z2).1), .int .i64 ((discNR q1 q2 z1 z2).2)]) := by
  unfold discNR
  cases c1 : (nearR z1 z2 1048576)
  · exact Runs.script (r := .agg [.int .i64 0, .int .i64 0]) (ps := [(!(nearR z1 z2 1048576)) = true]) TR11_holds rfl 300 rfl [.b true] (by kernel_rfl) ⟨(by rw [c1]; rfl), trivial⟩
  · exact Runs.script (r := .agg [.int .i64 ((halveV ((subV q1 q2 ((scaleR z1 z2 256).1) ((scaleR z1 z2 256).2)).1) ((subV q1 q2 ((scaleR z1 z2 256).1) ((scaleR z1 z2 256).2)).2)).1), .int .i64 ((halveV ((subV q1 q2 ((scaleR z1 z2 256).1) ((scaleR z1 z2 256).2)).1) ((subV q1 q2 ((scaleR z1 z2 256).1) ((scaleR z1 z2 256).2)).2)).2)]) (ps := [(!(nearR z1 z2 1048576)) = false]) TR11_holds rfl 300 rfl [.b false] (by kernel_rfl) ⟨(by rw [c1]; rfl), trivial⟩

def g13 : List AV → Option (AV × List Prop)
  | [.agg [.int .i64 q1, .int .i64 q2], .agg [.int .i64 z1, .int .i64 z2]] => some (.agg [.int .i64 ((discNR q1 q2 z1 z2).1), .int .i64 ((discNR q1 q2 z1 z2).2)], [])
  | _ => none
def TR12 : Table := (13, g13) :: TR11
theorem TR12_holds : THolds Tryz.ir TR12 := THolds.cons TR11_holds (by
  intro args r ps h hp
  unfold g13 at h
  split at h
  · cases h; exact Tryz.run13 _ _ _ _ 
  · cases h)

def capNR (q1 q2 a1 a2 b1 b2 : Int) : Int × Int :=
  match nearR a1 a2 1048576 with
  | true => (match nearR b1 b2 1048576 with
  | true => (match decide ((dotI ((subV q1 q2 ((scaleR a1 a2 256).1) ((scaleR a1 a2 256).2)).1) ((subV q1 q2 ((scaleR a1 a2 256).1) ((scaleR a1 a2 256).2)).2) ((subV b1 b2 a1 a2).1) ((subV b1 b2 a1 a2).2)) ≤ 0) with
  | true => (((discNR q1 q2 a1 a2).1, (discNR q1 q2 a1 a2).2))
  | false => (match decide ((dotI ((subV q1 q2 ((scaleR a1 a2 256).1) ((scaleR a1 a2 256).2)).1) ((subV q1 q2 ((scaleR a1 a2 256).1) ((scaleR a1 a2 256).2)).2) ((subV b1 b2 a1 a2).1) ((subV b1 b2 a1 a2).2)) ≥ (IntKind.i64.wrap (256 * (dotI ((subV b1 b2 a1 a2).1) ((subV b1 b2 a1 a2).2) ((subV b1 b2 a1 a2).1) ((subV b1 b2 a1 a2).2))))) with
  | true => (((discNR q1 q2 b1 b2).1, (discNR q1 q2 b1 b2).2))
  | false => (match decide ((crossI ((subV b1 b2 a1 a2).1) ((subV b1 b2 a1 a2).2) ((subV q1 q2 ((scaleR a1 a2 256).1) ((scaleR a1 a2 256).2)).1) ((subV q1 q2 ((scaleR a1 a2 256).1) ((scaleR a1 a2 256).2)).2)) > 0) with
  | true => (((reduceV ((perpV ((subV b1 b2 a1 a2).1) ((subV b1 b2 a1 a2).2)).1) ((perpV ((subV b1 b2 a1 a2).1) ((subV b1 b2 a1 a2).2)).2)).1, (reduceV ((perpV ((subV b1 b2 a1 a2).1) ((subV b1 b2 a1 a2).2)).1) ((perpV ((subV b1 b2 a1 a2).1) ((subV b1 b2 a1 a2).2)).2)).2))
  | false => (match decide ((crossI ((subV b1 b2 a1 a2).1) ((subV b1 b2 a1 a2).2) ((subV q1 q2 ((scaleR a1 a2 256).1) ((scaleR a1 a2 256).2)).1) ((subV q1 q2 ((scaleR a1 a2 256).1) ((scaleR a1 a2 256).2)).2)) < 0) with
  | true => (((reduceV ((scaleR ((perpV ((subV b1 b2 a1 a2).1) ((subV b1 b2 a1 a2).2)).1) ((perpV ((subV b1 b2 a1 a2).1) ((subV b1 b2 a1 a2).2)).2) (-1)).1) ((scaleR ((perpV ((subV b1 b2 a1 a2).1) ((subV b1 b2 a1 a2).2)).1) ((perpV ((subV b1 b2 a1 a2).1) ((subV b1 b2 a1 a2).2)).2) (-1)).2)).1, (reduceV ((scaleR ((perpV ((subV b1 b2 a1 a2).1) ((subV b1 b2 a1 a2).2)).1) ((perpV ((subV b1 b2 a1 a2).1) ((subV b1 b2 a1 a2).2)).2) (-1)).1) ((scaleR ((perpV ((subV b1 b2 a1 a2).1) ((subV b1 b2 a1 a2).2)).1) ((perpV ((subV b1 b2 a1 a2).1) ((subV b1 b2 a1 a2).2)).2) (-1)).2)).2))
  | false => ((0, 0))))))
  | false => ((0, 0)))
  | false => ((0, 0))
theorem Tryz.run15 (q1 q2 a1 a2 b1 b2 : Int)  : Runs Tryz.ir 15 [.agg [.int .i64 q1, .int .i64 q2], .agg [.int .i64 a1, .int .i64 a2], .agg [.int .i64 b1, .int .i64 b2]] (.agg [.int .i64 ((capNR q1 q2 a1 a2 b1 b2).1), .int .i64 ((capNR q1 q2 a1 a2 b1 b2).2)]) := by
  unfold capNR
  cases c1 : (nearR a1 a2 1048576)
  · exact Runs.script (r := .agg [.int .i64 0, .int .i64 0]) (ps := [(!(nearR a1 a2 1048576)) = true, true = true]) TR12_holds rfl 300 rfl [.b true, .b true] (by kernel_rfl) ⟨(by rw [c1]; rfl), rfl, trivial⟩
  · cases c2 : (nearR b1 b2 1048576)
    · exact Runs.script (r := .agg [.int .i64 0, .int .i64 0]) (ps := [(!(nearR a1 a2 1048576)) = false, (!(nearR b1 b2 1048576)) = true]) TR12_holds rfl 300 rfl [.b false, .b true] (by kernel_rfl) ⟨(by rw [c1]; rfl), (by rw [c2]; rfl), trivial⟩
    · cases c3 : (decide ((dotI ((subV q1 q2 ((scaleR a1 a2 256).1) ((scaleR a1 a2 256).2)).1) ((subV q1 q2 ((scaleR a1 a2 256).1) ((scaleR a1 a2 256).2)).2) ((subV b1 b2 a1 a2).1) ((subV b1 b2 a1 a2).2)) ≤ 0))
      · cases c4 : (decide ((dotI ((subV q1 q2 ((scaleR a1 a2 256).1) ((scaleR a1 a2 256).2)).1) ((subV q1 q2 ((scaleR a1 a2 256).1) ((scaleR a1 a2 256).2)).2) ((subV b1 b2 a1 a2).1) ((subV b1 b2 a1 a2).2)) ≥ (IntKind.i64.wrap (256 * (dotI ((subV b1 b2 a1 a2).1) ((subV b1 b2 a1 a2).2) ((subV b1 b2 a1 a2).1) ((subV b1 b2 a1 a2).2))))))
        · cases c5 : (decide ((crossI ((subV b1 b2 a1 a2).1) ((subV b1 b2 a1 a2).2) ((subV q1 q2 ((scaleR a1 a2 256).1) ((scaleR a1 a2 256).2)).1) ((subV q1 q2 ((scaleR a1 a2 256).1) ((scaleR a1 a2 256).2)).2)) > 0))
          · cases c6 : (decide ((crossI ((subV b1 b2 a1 a2).1) ((subV b1 b2 a1 a2).2) ((subV q1 q2 ((scaleR a1 a2 256).1) ((scaleR a1 a2 256).2)).1) ((subV q1 q2 ((scaleR a1 a2 256).1) ((scaleR a1 a2 256).2)).2)) < 0))
            · exact Runs.script (r := .agg [.int .i64 0, .int .i64 0]) (ps := [(!(nearR a1 a2 1048576)) = false, (!(nearR b1 b2 1048576)) = false, (decide ((dotI ((subV q1 q2 ((scaleR a1 a2 256).1) ((scaleR a1 a2 256).2)).1) ((subV q1 q2 ((scaleR a1 a2 256).1) ((scaleR a1 a2 256).2)).2) ((subV b1 b2 a1 a2).1) ((subV b1 b2 a1 a2).2)) ≤ 0)) = false, (decide ((dotI ((subV q1 q2 ((scaleR a1 a2 256).1) ((scaleR a1 a2 256).2)).1) ((subV q1 q2 ((scaleR a1 a2 256).1) ((scaleR a1 a2 256).2)).2) ((subV b1 b2 a1 a2).1) ((subV b1 b2 a1 a2).2)) ≥ (IntKind.i64.wrap (256 * (dotI ((subV b1 b2 a1 a2).1) ((subV b1 b2 a1 a2).2) ((subV b1 b2 a1 a2).1) ((subV b1 b2 a1 a2).2)))))) = false, (decide ((crossI ((subV b1 b2 a1 a2).1) ((subV b1 b2 a1 a2).2) ((subV q1 q2 ((scaleR a1 a2 256).1) ((scaleR a1 a2 256).2)).1) ((subV q1 q2 ((scaleR a1 a2 256).1) ((scaleR a1 a2 256).2)).2)) > 0)) = false, (decide ((crossI ((subV b1 b2 a1 a2).1) ((subV b1 b2 a1 a2).2) ((subV q1 q2 ((scaleR a1 a2 256).1) ((scaleR a1 a2 256).2)).1) ((subV q1 q2 ((scaleR a1 a2 256).1) ((scaleR a1 a2 256).2)).2)) < 0)) = false]) TR12_holds rfl 300 rfl [.b false, .b false, .b false, .b false, .b false, .b false] (by kernel_rfl) ⟨(by rw [c1]; rfl), (by rw [c2]; rfl), c3, c4, c5, c6, trivial⟩
            · exact Runs.script (r := .agg [.int .i64 ((reduceV ((scaleR ((perpV ((subV b1 b2 a1 a2).1) ((subV b1 b2 a1 a2).2)).1) ((perpV ((subV b1 b2 a1 a2).1) ((subV b1 b2 a1 a2).2)).2) (-1)).1) ((scaleR ((perpV ((subV b1 b2 a1 a2).1) ((subV b1 b2 a1 a2).2)).1) ((perpV ((subV b1 b2 a1 a2).1) ((subV b1 b2 a1 a2).2)).2) (-1)).2)).1), .int .i64 ((reduceV ((scaleR ((perpV ((subV b1 b2 a1 a2).1) ((subV b1 b2 a1 a2).2)).1) ((perpV ((subV b1 b2 a1 a2).1) ((subV b1 b2 a1 a2).2)).2) (-1)).1) ((scaleR ((perpV ((subV b1 b2 a1 a2).1) ((subV b1 b2 a1 a2).2)).1) ((perpV ((subV b1 b2 a1 a2).1) ((subV b1 b2 a1 a2).2)).2) (-1)).2)).2)]) (ps := [(!(nearR a1 a2 1048576)) = false, (!(nearR b1 b2 1048576)) = false, (decide ((dotI ((subV q1 q2 ((scaleR a1 a2 256).1) ((scaleR a1 a2 256).2)).1) ((subV q1 q2 ((scaleR a1 a2 256).1) ((scaleR a1 a2 256).2)).2) ((subV b1 b2 a1 a2).1) ((subV b1 b2 a1 a2).2)) ≤ 0)) = false, (decide ((dotI ((subV q1 q2 ((scaleR a1 a2 256).1) ((scaleR a1 a2 256).2)).1) ((subV q1 q2 ((scaleR a1 a2 256).1) ((scaleR a1 a2 256).2)).2) ((subV b1 b2 a1 a2).1) ((subV b1 b2 a1 a2).2)) ≥ (IntKind.i64.wrap (256 * (dotI ((subV b1 b2 a1 a2).1) ((subV b1 b2 a1 a2).2) ((subV b1 b2 a1 a2).1) ((subV b1 b2 a1 a2).2)))))) = false, (decide ((crossI ((subV b1 b2 a1 a2).1) ((subV b1 b2 a1 a2).2) ((subV q1 q2 ((scaleR a1 a2 256).1) ((scaleR a1 a2 256).2)).1) ((subV q1 q2 ((scaleR a1 a2 256).1) ((scaleR a1 a2 256).2)).2)) > 0)) = false, (decide ((crossI ((subV b1 b2 a1 a2).1) ((subV b1 b2 a1 a2).2) ((subV q1 q2 ((scaleR a1 a2 256).1) ((scaleR a1 a2 256).2)).1) ((subV q1 q2 ((scaleR a1 a2 256).1) ((scaleR a1 a2 256).2)).2)) < 0)) = true]) TR12_holds rfl 300 rfl [.b false, .b false, .b false, .b false, .b false, .b true] (by kernel_rfl) ⟨(by rw [c1]; rfl), (by rw [c2]; rfl), c3, c4, c5, c6, trivial⟩
          · exact Runs.script (r := .agg [.int .i64 ((reduceV ((perpV ((subV b1 b2 a1 a2).1) ((subV b1 b2 a1 a2).2)).1) ((perpV ((subV b1 b2 a1 a2).1) ((subV b1 b2 a1 a2).2)).2)).1), .int .i64 ((reduceV ((perpV ((subV b1 b2 a1 a2).1) ((subV b1 b2 a1 a2).2)).1) ((perpV ((subV b1 b2 a1 a2).1) ((subV b1 b2 a1 a2).2)).2)).2)]) (ps := [(!(nearR a1 a2 1048576)) = false, (!(nearR b1 b2 1048576)) = false, (decide ((dotI ((subV q1 q2 ((scaleR a1 a2 256).1) ((scaleR a1 a2 256).2)).1) ((subV q1 q2 ((scaleR a1 a2 256).1) ((scaleR a1 a2 256).2)).2) ((subV b1 b2 a1 a2).1) ((subV b1 b2 a1 a2).2)) ≤ 0)) = false, (decide ((dotI ((subV q1 q2 ((scaleR a1 a2 256).1) ((scaleR a1 a2 256).2)).1) ((subV q1 q2 ((scaleR a1 a2 256).1) ((scaleR a1 a2 256).2)).2) ((subV b1 b2 a1 a2).1) ((subV b1 b2 a1 a2).2)) ≥ (IntKind.i64.wrap (256 * (dotI ((subV b1 b2 a1 a2).1) ((subV b1 b2 a1 a2).2) ((subV b1 b2 a1 a2).1) ((subV b1 b2 a1 a2).2)))))) = false, (decide ((crossI ((subV b1 b2 a1 a2).1) ((subV b1 b2 a1 a2).2) ((subV q1 q2 ((scaleR a1 a2 256).1) ((scaleR a1 a2 256).2)).1) ((subV q1 q2 ((scaleR a1 a2 256).1) ((scaleR a1 a2 256).2)).2)) > 0)) = true]) TR12_holds rfl 300 rfl [.b false, .b false, .b false, .b false, .b true] (by kernel_rfl) ⟨(by rw [c1]; rfl), (by rw [c2]; rfl), c3, c4, c5, trivial⟩
        · exact Runs.script (r := .agg [.int .i64 ((discNR q1 q2 b1 b2).1), .int .i64 ((discNR q1 q2 b1 b2).2)]) (ps := [(!(nearR a1 a2 1048576)) = false, (!(nearR b1 b2 1048576)) = false, (decide ((dotI ((subV q1 q2 ((scaleR a1 a2 256).1) ((scaleR a1 a2 256).2)).1) ((subV q1 q2 ((scaleR a1 a2 256).1) ((scaleR a1 a2 256).2)).2) ((subV b1 b2 a1 a2).1) ((subV b1 b2 a1 a2).2)) ≤ 0)) = false, (decide ((dotI ((subV q1 q2 ((scaleR a1 a2 256).1) ((scaleR a1 a2 256).2)).1) ((subV q1 q2 ((scaleR a1 a2 256).1) ((scaleR a1 a2 256).2)).2) ((subV b1 b2 a1 a2).1) ((subV b1 b2 a1 a2).2)) ≥ (IntKind.i64.wrap (256 * (dotI ((subV b1 b2 a1 a2).1) ((subV b1 b2 a1 a2).2) ((subV b1 b2 a1 a2).1) ((subV b1 b2 a1 a2).2)))))) = true]) TR12_holds rfl 300 rfl [.b false, .b false, .b false, .b true] (by kernel_rfl) ⟨(by rw [c1]; rfl), (by rw [c2]; rfl), c3, c4, trivial⟩
      · exact Runs.script (r := .agg [.int .i64 ((discNR q1 q2 a1 a2).1), .int .i64 ((discNR q1 q2 a1 a2).2)]) (ps := [(!(nearR a1 a2 1048576)) = false, (!(nearR b1 b2 1048576)) = false, (decide ((dotI ((subV q1 q2 ((scaleR a1 a2 256).1) ((scaleR a1 a2 256).2)).1) ((subV q1 q2 ((scaleR a1 a2 256).1) ((scaleR a1 a2 256).2)).2) ((subV b1 b2 a1 a2).1) ((subV b1 b2 a1 a2).2)) ≤ 0)) = true]) TR12_holds rfl 300 rfl [.b false, .b false, .b true] (by kernel_rfl) ⟨(by rw [c1]; rfl), (by rw [c2]; rfl), c3, trivial⟩

def g15 : List AV → Option (AV × List Prop)
  | [.agg [.int .i64 q1, .int .i64 q2], .agg [.int .i64 a1, .int .i64 a2], .agg [.int .i64 b1, .int .i64 b2]] => some (.agg [.int .i64 ((capNR q1 q2 a1 a2 b1 b2).1), .int .i64 ((capNR q1 q2 a1 a2 b1 b2).2)], [])
  | _ => none
def TR13 : Table := (15, g15) :: TR12
theorem TR13_holds : THolds Tryz.ir TR13 := THolds.cons TR12_holds (by
  intro args r ps h hp
  unfold g15 at h
  split at h
  · cases h; exact Tryz.run15 _ _ _ _ _ _ 
  · cases h)

theorem dotI_bd (a b c d : Int) : -2305843009213693952 ≤ dotI a b c d ∧ dotI a b c d ≤ 2305843009213693952 := by
  unfold dotI
  cases h1 : smallB a b
  · simp
  cases h2 : smallB c d
  · simp
  have g1 := smallB_yes h1
  have g2 := smallB_yes h2
  have m1 := small_mul (x := a) (y := c) (by omega) (by omega) (by omega) (by omega)
  have m2 := small_mul (x := b) (y := d) (by omega) (by omega) (by omega) (by omega)
  simp
  omega
theorem crossI_bd (a b c d : Int) : -2305843009213693952 ≤ crossI a b c d ∧ crossI a b c d ≤ 2305843009213693952 := by
  unfold crossI
  cases h1 : smallB a b
  · simp
  cases h2 : smallB c d
  · simp
  have g1 := smallB_yes h1
  have g2 := smallB_yes h2
  have m1 := small_mul (x := a) (y := d) (by omega) (by omega) (by omega) (by omega)
  have m2 := small_mul (x := b) (y := c) (by omega) (by omega) (by omega) (by omega)
  simp
  omega
theorem reach_bd {n : Int} (h1 : (decide (n < 1)) = false) (h2 : (decide (n > 524288)) = false) : -9223372036854775808 ≤ n ∧ n ≤ 9223372036854775807 := by
  simp at h1 h2; omega

theorem i64_dot (a b c d : Int) : -9223372036854775808 ≤ dotI a b c d ∧ dotI a b c d ≤ 9223372036854775807 := by
  have := dotI_bd a b c d; omega
theorem i64_cross (a b c d : Int) : -9223372036854775808 ≤ crossI a b c d ∧ crossI a b c d ≤ 9223372036854775807 := by
  have := crossI_bd a b c d; omega

def inCapR (p1 p2 a1 a2 b1 b2 reach : Int) : Bool :=
  match nearR p1 p2 2097152 with
  | true => (match nearR a1 a2 1048576 with
  | true => (match nearR b1 b2 1048576 with
  | true => (match decide (reach < 1) with
  | true => (false)
  | false => (match decide (reach > 524288) with
  | true => (false)
  | false => (match inDiscR p1 p2 a1 a2 reach with
  | true => (true)
  | false => (match inDiscR p1 p2 b1 b2 reach with
  | true => (true)
  | false => (match decide ((dotI ((subV p1 p2 a1 a2).1) ((subV p1 p2 a1 a2).2) ((subV b1 b2 a1 a2).1) ((subV b1 b2 a1 a2).2)) > 0) with
  | true => (match decide ((dotI ((subV p1 p2 a1 a2).1) ((subV p1 p2 a1 a2).2) ((subV b1 b2 a1 a2).1) ((subV b1 b2 a1 a2).2)) < (dotI ((subV b1 b2 a1 a2).1) ((subV b1 b2 a1 a2).2) ((subV b1 b2 a1 a2).1) ((subV b1 b2 a1 a2).2))) with
  | true => ((decide ((cmpI ((crossI ((subV b1 b2 a1 a2).1) ((subV b1 b2 a1 a2).2) ((subV p1 p2 a1 a2).1) ((subV p1 p2 a1 a2).2)) * (crossI ((subV b1 b2 a1 a2).1) ((subV b1 b2 a1 a2).2) ((subV p1 p2 a1 a2).1) ((subV p1 p2 a1 a2).2))) ((reach * reach) * (dotI ((subV b1 b2 a1 a2).1) ((subV b1 b2 a1 a2).2) ((subV b1 b2 a1 a2).1) ((subV b1 b2 a1 a2).2)))) < 0)))
  | false => (false))
  | false => (false))))))
  | false => (false))
  | false => (false))
  | false => (false)
theorem Tryz.run11 (p1 p2 a1 a2 b1 b2 reach : Int)  : Runs Tryz.ir 11 [.agg [.int .i64 p1, .int .i64 p2], .agg [.int .i64 a1, .int .i64 a2], .agg [.int .i64 b1, .int .i64 b2], .int .i64 reach] (.bool (inCapR p1 p2 a1 a2 b1 b2 reach)) := by
  unfold inCapR
  cases c1 : (nearR p1 p2 2097152)
  · exact Runs.script (r := .bool false) (ps := [(!(nearR p1 p2 2097152)) = true, true = true, true = true, true = true, true = true]) TR13_holds rfl 300 rfl [.b true, .b true, .b true, .b true, .b true] (by kernel_rfl) ⟨(by rw [c1]; rfl), rfl, rfl, rfl, rfl, trivial⟩
  · cases c2 : (nearR a1 a2 1048576)
    · exact Runs.script (r := .bool false) (ps := [(!(nearR p1 p2 2097152)) = false, (!(nearR a1 a2 1048576)) = true, true = true, true = true, true = true]) TR13_holds rfl 300 rfl [.b false, .b true, .b true, .b true, .b true] (by kernel_rfl) ⟨(by rw [c1]; rfl), (by rw [c2]; rfl), rfl, rfl, rfl, trivial⟩
    · cases c3 : (nearR b1 b2 1048576)
      · exact Runs.script (r := .bool false) (ps := [(!(nearR p1 p2 2097152)) = false, (!(nearR a1 a2 1048576)) = false, (!(nearR b1 b2 1048576)) = true, true = true, true = true]) TR13_holds rfl 300 rfl [.b false, .b false, .b true, .b true, .b true] (by kernel_rfl) ⟨(by rw [c1]; rfl), (by rw [c2]; rfl), (by rw [c3]; rfl), rfl, rfl, trivial⟩
      · cases c4 : (decide (reach < 1))
        · cases c5 : (decide (reach > 524288))
          · cases c6 : (inDiscR p1 p2 a1 a2 reach)
            · cases c7 : (inDiscR p1 p2 b1 b2 reach)
              · cases c8 : (decide ((dotI ((subV p1 p2 a1 a2).1) ((subV p1 p2 a1 a2).2) ((subV b1 b2 a1 a2).1) ((subV b1 b2 a1 a2).2)) > 0))
                · exact Runs.script (r := .bool false) (ps := [(!(nearR p1 p2 2097152)) = false, (!(nearR a1 a2 1048576)) = false, (!(nearR b1 b2 1048576)) = false, (decide (reach < 1)) = false, (decide (reach > 524288)) = false, (inDiscR p1 p2 a1 a2 reach) = false, (inDiscR p1 p2 b1 b2 reach) = false, Runs Tryz.ir 34 [.int .i64 (crossI ((subV b1 b2 a1 a2).1) ((subV b1 b2 a1 a2).2) ((subV p1 p2 a1 a2).1) ((subV p1 p2 a1 a2).2))] (.agg [.bool (decide ((crossI ((subV b1 b2 a1 a2).1) ((subV b1 b2 a1 a2).2) ((subV p1 p2 a1 a2).1) ((subV p1 p2 a1 a2).2)) < 0)), .sl ((limbs (Int.natAbs (crossI ((subV b1 b2 a1 a2).1) ((subV b1 b2 a1 a2).2) ((subV p1 p2 a1 a2).1) ((subV p1 p2 a1 a2).2)))).length) (lm (limbs (Int.natAbs (crossI ((subV b1 b2 a1 a2).1) ((subV b1 b2 a1 a2).2) ((subV p1 p2 a1 a2).1) ((subV p1 p2 a1 a2).2)))))]), Runs Tryz.ir 34 [.int .i64 reach] (.agg [.bool (decide (reach < 0)), .sl ((limbs (Int.natAbs reach)).length) (lm (limbs (Int.natAbs reach)))]), (decide ((dotI ((subV p1 p2 a1 a2).1) ((subV p1 p2 a1 a2).2) ((subV b1 b2 a1 a2).1) ((subV b1 b2 a1 a2).2)) > 0)) = false, false = false]) TR13_holds rfl 300 rfl [.b false, .b false, .b false, .b false, .b false, .b false, .b false, .r (.agg [.bool (decide ((crossI ((subV b1 b2 a1 a2).1) ((subV b1 b2 a1 a2).2) ((subV p1 p2 a1 a2).1) ((subV p1 p2 a1 a2).2)) < 0)), .sl ((limbs (Int.natAbs (crossI ((subV b1 b2 a1 a2).1) ((subV b1 b2 a1 a2).2) ((subV p1 p2 a1 a2).1) ((subV p1 p2 a1 a2).2)))).length) (lm (limbs (Int.natAbs (crossI ((subV b1 b2 a1 a2).1) ((subV b1 b2 a1 a2).2) ((subV p1 p2 a1 a2).1) ((subV p1 p2 a1 a2).2)))))]), .r (.agg [.bool (decide (reach < 0)), .sl ((limbs (Int.natAbs reach)).length) (lm (limbs (Int.natAbs reach)))]), .b false, .b false] (by kernel_rfl) ⟨(by rw [c1]; rfl), (by rw [c2]; rfl), (by rw [c3]; rfl), c4, c5, c6, c7, (of_run (i64_cross _ _ _ _)), (of_run (reach_bd c4 c5)), c8, rfl, trivial⟩
                · cases c9 : (decide ((dotI ((subV p1 p2 a1 a2).1) ((subV p1 p2 a1 a2).2) ((subV b1 b2 a1 a2).1) ((subV b1 b2 a1 a2).2)) < (dotI ((subV b1 b2 a1 a2).1) ((subV b1 b2 a1 a2).2) ((subV b1 b2 a1 a2).1) ((subV b1 b2 a1 a2).2))))
                  · exact Runs.script (r := .bool false) (ps := [(!(nearR p1 p2 2097152)) = false, (!(nearR a1 a2 1048576)) = false, (!(nearR b1 b2 1048576)) = false, (decide (reach < 1)) = false, (decide (reach > 524288)) = false, (inDiscR p1 p2 a1 a2 reach) = false, (inDiscR p1 p2 b1 b2 reach) = false, Runs Tryz.ir 34 [.int .i64 (crossI ((subV b1 b2 a1 a2).1) ((subV b1 b2 a1 a2).2) ((subV p1 p2 a1 a2).1) ((subV p1 p2 a1 a2).2))] (.agg [.bool (decide ((crossI ((subV b1 b2 a1 a2).1) ((subV b1 b2 a1 a2).2) ((subV p1 p2 a1 a2).1) ((subV p1 p2 a1 a2).2)) < 0)), .sl ((limbs (Int.natAbs (crossI ((subV b1 b2 a1 a2).1) ((subV b1 b2 a1 a2).2) ((subV p1 p2 a1 a2).1) ((subV p1 p2 a1 a2).2)))).length) (lm (limbs (Int.natAbs (crossI ((subV b1 b2 a1 a2).1) ((subV b1 b2 a1 a2).2) ((subV p1 p2 a1 a2).1) ((subV p1 p2 a1 a2).2)))))]), Runs Tryz.ir 34 [.int .i64 reach] (.agg [.bool (decide (reach < 0)), .sl ((limbs (Int.natAbs reach)).length) (lm (limbs (Int.natAbs reach)))]), (decide ((dotI ((subV p1 p2 a1 a2).1) ((subV p1 p2 a1 a2).2) ((subV b1 b2 a1 a2).1) ((subV b1 b2 a1 a2).2)) > 0)) = true, (decide ((dotI ((subV p1 p2 a1 a2).1) ((subV p1 p2 a1 a2).2) ((subV b1 b2 a1 a2).1) ((subV b1 b2 a1 a2).2)) < (dotI ((subV b1 b2 a1 a2).1) ((subV b1 b2 a1 a2).2) ((subV b1 b2 a1 a2).1) ((subV b1 b2 a1 a2).2)))) = false]) TR13_holds rfl 300 rfl [.b false, .b false, .b false, .b false, .b false, .b false, .b false, .r (.agg [.bool (decide ((crossI ((subV b1 b2 a1 a2).1) ((subV b1 b2 a1 a2).2) ((subV p1 p2 a1 a2).1) ((subV p1 p2 a1 a2).2)) < 0)), .sl ((limbs (Int.natAbs (crossI ((subV b1 b2 a1 a2).1) ((subV b1 b2 a1 a2).2) ((subV p1 p2 a1 a2).1) ((subV p1 p2 a1 a2).2)))).length) (lm (limbs (Int.natAbs (crossI ((subV b1 b2 a1 a2).1) ((subV b1 b2 a1 a2).2) ((subV p1 p2 a1 a2).1) ((subV p1 p2 a1 a2).2)))))]), .r (.agg [.bool (decide (reach < 0)), .sl ((limbs (Int.natAbs reach)).length) (lm (limbs (Int.natAbs reach)))]), .b true, .b false] (by kernel_rfl) ⟨(by rw [c1]; rfl), (by rw [c2]; rfl), (by rw [c3]; rfl), c4, c5, c6, c7, (of_run (i64_cross _ _ _ _)), (of_run (reach_bd c4 c5)), c8, c9, trivial⟩
                  · exact Runs.script (r := .bool (decide ((cmpI ((crossI ((subV b1 b2 a1 a2).1) ((subV b1 b2 a1 a2).2) ((subV p1 p2 a1 a2).1) ((subV p1 p2 a1 a2).2)) * (crossI ((subV b1 b2 a1 a2).1) ((subV b1 b2 a1 a2).2) ((subV p1 p2 a1 a2).1) ((subV p1 p2 a1 a2).2))) ((reach * reach) * (dotI ((subV b1 b2 a1 a2).1) ((subV b1 b2 a1 a2).2) ((subV b1 b2 a1 a2).1) ((subV b1 b2 a1 a2).2)))) < 0))) (ps := [(!(nearR p1 p2 2097152)) = false, (!(nearR a1 a2 1048576)) = false, (!(nearR b1 b2 1048576)) = false, (decide (reach < 1)) = false, (decide (reach > 524288)) = false, (inDiscR p1 p2 a1 a2 reach) = false, (inDiscR p1 p2 b1 b2 reach) = false, Runs Tryz.ir 34 [.int .i64 (crossI ((subV b1 b2 a1 a2).1) ((subV b1 b2 a1 a2).2) ((subV p1 p2 a1 a2).1) ((subV p1 p2 a1 a2).2))] (.agg [.bool (decide ((crossI ((subV b1 b2 a1 a2).1) ((subV b1 b2 a1 a2).2) ((subV p1 p2 a1 a2).1) ((subV p1 p2 a1 a2).2)) < 0)), .sl ((limbs (Int.natAbs (crossI ((subV b1 b2 a1 a2).1) ((subV b1 b2 a1 a2).2) ((subV p1 p2 a1 a2).1) ((subV p1 p2 a1 a2).2)))).length) (lm (limbs (Int.natAbs (crossI ((subV b1 b2 a1 a2).1) ((subV b1 b2 a1 a2).2) ((subV p1 p2 a1 a2).1) ((subV p1 p2 a1 a2).2)))))]), Runs Tryz.ir 34 [.int .i64 reach] (.agg [.bool (decide (reach < 0)), .sl ((limbs (Int.natAbs reach)).length) (lm (limbs (Int.natAbs reach)))]), (decide ((dotI ((subV p1 p2 a1 a2).1) ((subV p1 p2 a1 a2).2) ((subV b1 b2 a1 a2).1) ((subV b1 b2 a1 a2).2)) > 0)) = true, (decide ((dotI ((subV p1 p2 a1 a2).1) ((subV p1 p2 a1 a2).2) ((subV b1 b2 a1 a2).1) ((subV b1 b2 a1 a2).2)) < (dotI ((subV b1 b2 a1 a2).1) ((subV b1 b2 a1 a2).2) ((subV b1 b2 a1 a2).1) ((subV b1 b2 a1 a2).2)))) = true, Runs Tryz.ir 37 [.agg [.bool (decide ((crossI ((subV b1 b2 a1 a2).1) ((subV b1 b2 a1 a2).2) ((subV p1 p2 a1 a2).1) ((subV p1 p2 a1 a2).2)) < 0)), .sl ((limbs (Int.natAbs (crossI ((subV b1 b2 a1 a2).1) ((subV b1 b2 a1 a2).2) ((subV p1 p2 a1 a2).1) ((subV p1 p2 a1 a2).2)))).length) (lm (limbs (Int.natAbs (crossI ((subV b1 b2 a1 a2).1) ((subV b1 b2 a1 a2).2) ((subV p1 p2 a1 a2).1) ((subV p1 p2 a1 a2).2)))))], .agg [.bool (decide ((crossI ((subV b1 b2 a1 a2).1) ((subV b1 b2 a1 a2).2) ((subV p1 p2 a1 a2).1) ((subV p1 p2 a1 a2).2)) < 0)), .sl ((limbs (Int.natAbs (crossI ((subV b1 b2 a1 a2).1) ((subV b1 b2 a1 a2).2) ((subV p1 p2 a1 a2).1) ((subV p1 p2 a1 a2).2)))).length) (lm (limbs (Int.natAbs (crossI ((subV b1 b2 a1 a2).1) ((subV b1 b2 a1 a2).2) ((subV p1 p2 a1 a2).1) ((subV p1 p2 a1 a2).2)))))]] (.agg [.bool (decide (((crossI ((subV b1 b2 a1 a2).1) ((subV b1 b2 a1 a2).2) ((subV p1 p2 a1 a2).1) ((subV p1 p2 a1 a2).2)) * (crossI ((subV b1 b2 a1 a2).1) ((subV b1 b2 a1 a2).2) ((subV p1 p2 a1 a2).1) ((subV p1 p2 a1 a2).2))) < 0)), .sl ((limbs (Int.natAbs ((crossI ((subV b1 b2 a1 a2).1) ((subV b1 b2 a1 a2).2) ((subV p1 p2 a1 a2).1) ((subV p1 p2 a1 a2).2)) * (crossI ((subV b1 b2 a1 a2).1) ((subV b1 b2 a1 a2).2) ((subV p1 p2 a1 a2).1) ((subV p1 p2 a1 a2).2))))).length) (lm (limbs (Int.natAbs ((crossI ((subV b1 b2 a1 a2).1) ((subV b1 b2 a1 a2).2) ((subV p1 p2 a1 a2).1) ((subV p1 p2 a1 a2).2)) * (crossI ((subV b1 b2 a1 a2).1) ((subV b1 b2 a1 a2).2) ((subV p1 p2 a1 a2).1) ((subV p1 p2 a1 a2).2))))))]), Runs Tryz.ir 37 [.agg [.bool (decide (reach < 0)), .sl ((limbs (Int.natAbs reach)).length) (lm (limbs (Int.natAbs reach)))], .agg [.bool (decide (reach < 0)), .sl ((limbs (Int.natAbs reach)).length) (lm (limbs (Int.natAbs reach)))]] (.agg [.bool (decide ((reach * reach) < 0)), .sl ((limbs (Int.natAbs (reach * reach))).length) (lm (limbs (Int.natAbs (reach * reach))))]), Runs Tryz.ir 34 [.int .i64 (dotI ((subV b1 b2 a1 a2).1) ((subV b1 b2 a1 a2).2) ((subV b1 b2 a1 a2).1) ((subV b1 b2 a1 a2).2))] (.agg [.bool (decide ((dotI ((subV b1 b2 a1 a2).1) ((subV b1 b2 a1 a2).2) ((subV b1 b2 a1 a2).1) ((subV b1 b2 a1 a2).2)) < 0)), .sl ((limbs (Int.natAbs (dotI ((subV b1 b2 a1 a2).1) ((subV b1 b2 a1 a2).2) ((subV b1 b2 a1 a2).1) ((subV b1 b2 a1 a2).2)))).length) (lm (limbs (Int.natAbs (dotI ((subV b1 b2 a1 a2).1) ((subV b1 b2 a1 a2).2) ((subV b1 b2 a1 a2).1) ((subV b1 b2 a1 a2).2)))))]), Runs Tryz.ir 37 [.agg [.bool (decide ((reach * reach) < 0)), .sl ((limbs (Int.natAbs (reach * reach))).length) (lm (limbs (Int.natAbs (reach * reach))))], .agg [.bool (decide ((dotI ((subV b1 b2 a1 a2).1) ((subV b1 b2 a1 a2).2) ((subV b1 b2 a1 a2).1) ((subV b1 b2 a1 a2).2)) < 0)), .sl ((limbs (Int.natAbs (dotI ((subV b1 b2 a1 a2).1) ((subV b1 b2 a1 a2).2) ((subV b1 b2 a1 a2).1) ((subV b1 b2 a1 a2).2)))).length) (lm (limbs (Int.natAbs (dotI ((subV b1 b2 a1 a2).1) ((subV b1 b2 a1 a2).2) ((subV b1 b2 a1 a2).1) ((subV b1 b2 a1 a2).2)))))]] (.agg [.bool (decide (((reach * reach) * (dotI ((subV b1 b2 a1 a2).1) ((subV b1 b2 a1 a2).2) ((subV b1 b2 a1 a2).1) ((subV b1 b2 a1 a2).2))) < 0)), .sl ((limbs (Int.natAbs ((reach * reach) * (dotI ((subV b1 b2 a1 a2).1) ((subV b1 b2 a1 a2).2) ((subV b1 b2 a1 a2).1) ((subV b1 b2 a1 a2).2))))).length) (lm (limbs (Int.natAbs ((reach * reach) * (dotI ((subV b1 b2 a1 a2).1) ((subV b1 b2 a1 a2).2) ((subV b1 b2 a1 a2).1) ((subV b1 b2 a1 a2).2))))))]), Runs Tryz.ir 36 [.agg [.bool (decide (((crossI ((subV b1 b2 a1 a2).1) ((subV b1 b2 a1 a2).2) ((subV p1 p2 a1 a2).1) ((subV p1 p2 a1 a2).2)) * (crossI ((subV b1 b2 a1 a2).1) ((subV b1 b2 a1 a2).2) ((subV p1 p2 a1 a2).1) ((subV p1 p2 a1 a2).2))) < 0)), .sl ((limbs (Int.natAbs ((crossI ((subV b1 b2 a1 a2).1) ((subV b1 b2 a1 a2).2) ((subV p1 p2 a1 a2).1) ((subV p1 p2 a1 a2).2)) * (crossI ((subV b1 b2 a1 a2).1) ((subV b1 b2 a1 a2).2) ((subV p1 p2 a1 a2).1) ((subV p1 p2 a1 a2).2))))).length) (lm (limbs (Int.natAbs ((crossI ((subV b1 b2 a1 a2).1) ((subV b1 b2 a1 a2).2) ((subV p1 p2 a1 a2).1) ((subV p1 p2 a1 a2).2)) * (crossI ((subV b1 b2 a1 a2).1) ((subV b1 b2 a1 a2).2) ((subV p1 p2 a1 a2).1) ((subV p1 p2 a1 a2).2))))))], .agg [.bool (decide (((reach * reach) * (dotI ((subV b1 b2 a1 a2).1) ((subV b1 b2 a1 a2).2) ((subV b1 b2 a1 a2).1) ((subV b1 b2 a1 a2).2))) < 0)), .sl ((limbs (Int.natAbs ((reach * reach) * (dotI ((subV b1 b2 a1 a2).1) ((subV b1 b2 a1 a2).2) ((subV b1 b2 a1 a2).1) ((subV b1 b2 a1 a2).2))))).length) (lm (limbs (Int.natAbs ((reach * reach) * (dotI ((subV b1 b2 a1 a2).1) ((subV b1 b2 a1 a2).2) ((subV b1 b2 a1 a2).1) ((subV b1 b2 a1 a2).2))))))]] (.int .i64 (cmpI ((crossI ((subV b1 b2 a1 a2).1) ((subV b1 b2 a1 a2).2) ((subV p1 p2 a1 a2).1) ((subV p1 p2 a1 a2).2)) * (crossI ((subV b1 b2 a1 a2).1) ((subV b1 b2 a1 a2).2) ((subV p1 p2 a1 a2).1) ((subV p1 p2 a1 a2).2))) ((reach * reach) * (dotI ((subV b1 b2 a1 a2).1) ((subV b1 b2 a1 a2).2) ((subV b1 b2 a1 a2).1) ((subV b1 b2 a1 a2).2)))))]) TR13_holds rfl 300 rfl [.b false, .b false, .b false, .b false, .b false, .b false, .b false, .r (.agg [.bool (decide ((crossI ((subV b1 b2 a1 a2).1) ((subV b1 b2 a1 a2).2) ((subV p1 p2 a1 a2).1) ((subV p1 p2 a1 a2).2)) < 0)), .sl ((limbs (Int.natAbs (crossI ((subV b1 b2 a1 a2).1) ((subV b1 b2 a1 a2).2) ((subV p1 p2 a1 a2).1) ((subV p1 p2 a1 a2).2)))).length) (lm (limbs (Int.natAbs (crossI ((subV b1 b2 a1 a2).1) ((subV b1 b2 a1 a2).2) ((subV p1 p2 a1 a2).1) ((subV p1 p2 a1 a2).2)))))]), .r (.agg [.bool (decide (reach < 0)), .sl ((limbs (Int.natAbs reach)).length) (lm (limbs (Int.natAbs reach)))]), .b true, .b true, .r (.agg [.bool (decide (((crossI ((subV b1 b2 a1 a2).1) ((subV b1 b2 a1 a2).2) ((subV p1 p2 a1 a2).1) ((subV p1 p2 a1 a2).2)) * (crossI ((subV b1 b2 a1 a2).1) ((subV b1 b2 a1 a2).2) ((subV p1 p2 a1 a2).1) ((subV p1 p2 a1 a2).2))) < 0)), .sl ((limbs (Int.natAbs ((crossI ((subV b1 b2 a1 a2).1) ((subV b1 b2 a1 a2).2) ((subV p1 p2 a1 a2).1) ((subV p1 p2 a1 a2).2)) * (crossI ((subV b1 b2 a1 a2).1) ((subV b1 b2 a1 a2).2) ((subV p1 p2 a1 a2).1) ((subV p1 p2 a1 a2).2))))).length) (lm (limbs (Int.natAbs ((crossI ((subV b1 b2 a1 a2).1) ((subV b1 b2 a1 a2).2) ((subV p1 p2 a1 a2).1) ((subV p1 p2 a1 a2).2)) * (crossI ((subV b1 b2 a1 a2).1) ((subV b1 b2 a1 a2).2) ((subV p1 p2 a1 a2).1) ((subV p1 p2 a1 a2).2))))))]), .r (.agg [.bool (decide ((reach * reach) < 0)), .sl ((limbs (Int.natAbs (reach * reach))).length) (lm (limbs (Int.natAbs (reach * reach))))]), .r (.agg [.bool (decide ((dotI ((subV b1 b2 a1 a2).1) ((subV b1 b2 a1 a2).2) ((subV b1 b2 a1 a2).1) ((subV b1 b2 a1 a2).2)) < 0)), .sl ((limbs (Int.natAbs (dotI ((subV b1 b2 a1 a2).1) ((subV b1 b2 a1 a2).2) ((subV b1 b2 a1 a2).1) ((subV b1 b2 a1 a2).2)))).length) (lm (limbs (Int.natAbs (dotI ((subV b1 b2 a1 a2).1) ((subV b1 b2 a1 a2).2) ((subV b1 b2 a1 a2).1) ((subV b1 b2 a1 a2).2)))))]), .r (.agg [.bool (decide (((reach * reach) * (dotI ((subV b1 b2 a1 a2).1) ((subV b1 b2 a1 a2).2) ((subV b1 b2 a1 a2).1) ((subV b1 b2 a1 a2).2))) < 0)), .sl ((limbs (Int.natAbs ((reach * reach) * (dotI ((subV b1 b2 a1 a2).1) ((subV b1 b2 a1 a2).2) ((subV b1 b2 a1 a2).1) ((subV b1 b2 a1 a2).2))))).length) (lm (limbs (Int.natAbs ((reach * reach) * (dotI ((subV b1 b2 a1 a2).1) ((subV b1 b2 a1 a2).2) ((subV b1 b2 a1 a2).1) ((subV b1 b2 a1 a2).2))))))]), .r (.int .i64 (cmpI ((crossI ((subV b1 b2 a1 a2).1) ((subV b1 b2 a1 a2).2) ((subV p1 p2 a1 a2).1) ((subV p1 p2 a1 a2).2)) * (crossI ((subV b1 b2 a1 a2).1) ((subV b1 b2 a1 a2).2) ((subV p1 p2 a1 a2).1) ((subV p1 p2 a1 a2).2))) ((reach * reach) * (dotI ((subV b1 b2 a1 a2).1) ((subV b1 b2 a1 a2).2) ((subV b1 b2 a1 a2).1) ((subV b1 b2 a1 a2).2)))))] (by kernel_rfl) ⟨(by rw [c1]; rfl), (by rw [c2]; rfl), (by rw [c3]; rfl), c4, c5, c6, c7, (of_run (i64_cross _ _ _ _)), (of_run (reach_bd c4 c5)), c8, c9, (times_run (Nat.le_trans (Nat.add_le_add (fits_i64 (i64_cross _ _ _ _)).len (fits_i64 (i64_cross _ _ _ _)).len) (by decide))), (times_run (Nat.le_trans (Nat.add_le_add (fits_i64 (reach_bd c4 c5)).len (fits_i64 (reach_bd c4 c5)).len) (by decide))), (of_run (i64_dot _ _ _ _)), (times_run (Nat.le_trans (Nat.add_le_add ((fits_i64 (reach_bd c4 c5)).mul (fits_i64 (reach_bd c4 c5))).len (fits_i64 (i64_dot _ _ _ _)).len) (by decide))), (cmp_run (Nat.le_trans ((fits_i64 (i64_cross _ _ _ _)).mul (fits_i64 (i64_cross _ _ _ _))).len (by decide)) (Nat.le_trans (((fits_i64 (reach_bd c4 c5)).mul (fits_i64 (reach_bd c4 c5))).mul (fits_i64 (i64_dot _ _ _ _))).len (by decide))), trivial⟩
              · exact Runs.script (r := .bool true) (ps := [(!(nearR p1 p2 2097152)) = false, (!(nearR a1 a2 1048576)) = false, (!(nearR b1 b2 1048576)) = false, (decide (reach < 1)) = false, (decide (reach > 524288)) = false, (inDiscR p1 p2 a1 a2 reach) = false, (inDiscR p1 p2 b1 b2 reach) = true]) TR13_holds rfl 300 rfl [.b false, .b false, .b false, .b false, .b false, .b false, .b true] (by kernel_rfl) ⟨(by rw [c1]; rfl), (by rw [c2]; rfl), (by rw [c3]; rfl), c4, c5, c6, c7, trivial⟩
            · exact Runs.script (r := .bool true) (ps := [(!(nearR p1 p2 2097152)) = false, (!(nearR a1 a2 1048576)) = false, (!(nearR b1 b2 1048576)) = false, (decide (reach < 1)) = false, (decide (reach > 524288)) = false, (inDiscR p1 p2 a1 a2 reach) = true, true = true]) TR13_holds rfl 300 rfl [.b false, .b false, .b false, .b false, .b false, .b true, .b true] (by kernel_rfl) ⟨(by rw [c1]; rfl), (by rw [c2]; rfl), (by rw [c3]; rfl), c4, c5, c6, rfl, trivial⟩
          · exact Runs.script (r := .bool false) (ps := [(!(nearR p1 p2 2097152)) = false, (!(nearR a1 a2 1048576)) = false, (!(nearR b1 b2 1048576)) = false, (decide (reach < 1)) = false, (decide (reach > 524288)) = true]) TR13_holds rfl 300 rfl [.b false, .b false, .b false, .b false, .b true] (by kernel_rfl) ⟨(by rw [c1]; rfl), (by rw [c2]; rfl), (by rw [c3]; rfl), c4, c5, trivial⟩
        · exact Runs.script (r := .bool false) (ps := [(!(nearR p1 p2 2097152)) = false, (!(nearR a1 a2 1048576)) = false, (!(nearR b1 b2 1048576)) = false, (decide (reach < 1)) = true, true = true]) TR13_holds rfl 300 rfl [.b false, .b false, .b false, .b true, .b true] (by kernel_rfl) ⟨(by rw [c1]; rfl), (by rw [c2]; rfl), (by rw [c3]; rfl), c4, rfl, trivial⟩

def g11 : List AV → Option (AV × List Prop)
  | [.agg [.int .i64 p1, .int .i64 p2], .agg [.int .i64 a1, .int .i64 a2], .agg [.int .i64 b1, .int .i64 b2], .int .i64 reach] => some (.bool (inCapR p1 p2 a1 a2 b1 b2 reach), [])
  | _ => none
def TR14 : Table := (11, g11) :: TR13
theorem TR14_holds : THolds Tryz.ir TR14 := THolds.cons TR13_holds (by
  intro args r ps h hp
  unfold g11 at h
  split at h
  · cases h; exact Tryz.run11 _ _ _ _ _ _ _ 
  · cases h)

def TWRef : Table := TR14
theorem TWRef_holds : THolds Tryz.ir TWRef := TR14_holds
end Go.Proofs.YthakfjlnhldehaaGreat
