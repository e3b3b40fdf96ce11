/- Texts of the proof of PolyFree, packed by pack.py: part 12 of 19. -/
import Derived.Test.YthnnfemologhfaaPfr11
namespace Go.Proofs.Ythnnfemologhfaa
open Go.Ai
set_option maxRecDepth 100000
def Try.c85 : ICode := .seq (.seq (.region false [oM 8 4,
   o1 9 (.bin .geq (.t 8) (.c (.int .i64 0))),
   oM 10 9,
   oG 11 (.ld 3 3 2 false) 10 true,
   oG 12 (.call 77 [.t 11]) 10 true,
   oG 13 (.bin .neq (.t 12) (.c (.int .i64 1))) 10 true,
   o1 14 (.pick (.t 10) (.t 13) (.c (.bool false)))])
  (.cond (.t 14) (.skip)
  (.exit 0)))
  (.seq (.block 1 (.region true [o1 17 (.ld 3 3 2 false),
   oM 18 0,
   oM 19 4,
   o1 20 (.ixa 18 (.t 19) 2),
   o1 21 (.ld 20 20 2 false),
   oC 22 109 [17, 21],
   oN (.st 3 3 2 (.t 22))]))
  (.region false [oM 15 4,
   o1 16 (.bin .sub (.t 15) (.c (.int .i64 1))),
   oM 4 16]))
def Try.s85 (rs : List Rn) (w : Rn) (i : Int) (z : Rn) : State := (.val (.sl rs.length (pc rs)) :: (dds 1 (.box [.bool z.1, .sl z.2.length (lm z.2)] :: (.box [.bool w.1, .sl w.2.length (lm w.2)] :: (.val (.int .i64 i) :: (dds 19 []))))))
theorem Try.k85_1 (rs : List Rn) (w : Rn) (i : Int) (z : Rn) (b g : Int) (c1 : (decide (i ≥ 0)) = true)
    (c2 : (b != 1) = true)
    (n1 : 0 ≤ i ∧ i < ((rs.length : Nat) : Int))
    (n2 : Runs Try.ir 77 [rawAV w] (.int .i64 b))
    (n3 : Runs Try.ir 109 [rawAV w, rawAV (rs.getD (Int.toNat i) z0)] (bigAV g)) : RunsW Try.ir Try.c85 (Try.s85 rs w i z) .norm (Try.s85 rs (cn g) (IntKind.i64.wrap (i - 1)) z) :=
  (RunsW.go TQE_holds 400 [.b true, .r (.int .i64 b), .b true, .v (rawAV (rs.getD (Int.toNat i) z0)), .r (bigAV g)] [0, 2, 3, 4] (ac c1 (ac n2 (ac c2 (ac n1 (ac (show takeA (List.drop (Int.toNat i * 2) (pc rs)) 0 2 false = some (rawAV (rs.getD (Int.toNat i) z0)) from (take_pcI n1)) (ac n3 a0)))))) (by kernel_rfl))
theorem Try.k85_2 (rs : List Rn) (w : Rn) (i : Int) (z : Rn) (b : Int) (c1 : (decide (i ≥ 0)) = true)
    (c2 : (b != 1) = false)
    (n1 : Runs Try.ir 77 [rawAV w] (.int .i64 b)) : RunsW Try.ir Try.c85 (Try.s85 rs w i z) (.exit 0) (Try.s85 rs w i z) :=
  (RunsW.go TQE_holds 400 [.b true, .r (.int .i64 b), .b false] [0, 2, 3, 4] (ac c1 (ac n1 (ac c2 a0))) (by kernel_rfl))
theorem Try.k85_3 (rs : List Rn) (w : Rn) (i : Int) (z : Rn)  (c1 : (decide (i ≥ 0)) = false) : RunsW Try.ir Try.c85 (Try.s85 rs w i z) (.exit 0) (Try.s85 rs w i z) :=
  (RunsW.go TQE_holds 400 [.b false, .b false] [0, 2, 3, 4] (ac c1 (ac (show false = false from rfl) a0)) (by kernel_rfl))
theorem Try.run85 (rs : List Rn) (w z : Rn) (i : Int) (hl1 : RunsW Try.ir (.loop Try.c85) (Try.s85 rs (false, []) (IntKind.i64.wrap (((rs.length : Nat) : Int) - 1)) (false, [])) (.exit 0) (Try.s85 rs w i z)) : Runs Try.ir 85 [.sl rs.length (pc rs)] (rawAV w) :=
  Runs.of_bodyW (fn := Try.i85) (s := (dds 2 (.box [.bool w.1, .sl w.2.length (lm w.2)] :: (dds 21 [])))) (ex := .ret) rfl rfl
    (RunsW.seq (RunsW.go (t := (.val (.sl rs.length (pc rs)) :: (dds 1 (.box [.bool false, .sl 0 []] :: (dds 21 []))))) (ex := .norm) TQE_holds 400 [] [0, 2] a0 (by kernel_rfl))
    (RunsW.seq (RunsW.go (t := (.val (.sl rs.length (pc rs)) :: (dds 1 (.box [.bool false, .sl 0 []] :: (.box [.bool false, .sl 0 []] :: (dds 20 [])))))) (ex := .norm) TQE_holds 400 [] [0, 2, 3] a0 (by kernel_rfl))
    (RunsW.seq (RunsW.seq (RunsW.go TQE_holds 400 [] [0, 2, 3, 4] a0 (by kernel_rfl))
    (RunsW.block hl1))
    (RunsW.go TQE_holds 400 [] [2] a0 (by kernel_rfl))))) (by intro i e; cases e) rfl
def Try.c86 : ICode := .seq (.region false [oB 16 .lss 15 14])
  (.seq (.cond (.t 16) (.skip)
  (.exit 0))
  (.seq (.block 1 (.seq (.region false [oM 17 15,
   oM 5 17])
  (.region true [o1 19 (.cpy 3),
   oM 20 5,
   o1 21 (.cpy 3),
   oM 22 5,
   o1 23 (.ixo 21 3 (.t 22) 2),
   o1 24 (.ld 23 3 2 false),
   o1 25 (.ld 4 4 2 false),
   oC 26 110 [24, 25],
   oM 18 26,
   o1 27 (.ext (.t 18) 0),
   o1 28 (.ext (.t 18) 1),
   o1 29 (.ixo 19 3 (.t 20) 2),
   oN (.st 29 3 2 (.t 27))])))
  (.region false [o1 30 (.bin .add (.t 15) (.c (.int .i64 1))),
   oM 15 30])))
def Try.s86 (k : Nat) (os : List Rn) (w : Rn) (n : Int) (i : Int) : State := (dds 3 (.own 2 k (pc os) :: (.box [.bool w.1, .sl w.2.length (lm w.2)] :: (dds 9 (.val (.int .i64 n) :: (.val (.int .i64 i) :: (dds 16 [])))))))
theorem Try.k86_1 (k : Nat) (os : List Rn) (w : Rn) (n : Int) (i : Int) (q r : Int) (c1 : (decide (i < n)) = true)
    (n1 : 0 ≤ i ∧ i < ((k : Nat) : Int))
    (n2 : os.length = k)
    (n3 : Runs Try.ir 110 [rawAV (os.getD (Int.toNat i) z0), rawAV w] (.tup [bigAV q, bigAV r])) : RunsW Try.ir Try.c86 (Try.s86 k os w n i) .norm (Try.s86 k (os.set (Int.toNat i) (cn q)) w n (IntKind.i64.wrap (i + 1))) :=
  (RunsW.go TQE_holds 400 [.b true, .v (rawAV (os.getD (Int.toNat i) z0)), .r (.tup [bigAV q, bigAV r]), .l (pc (os.set (Int.toNat i) (cn q)))] [3, 4, 14, 15] (ac c1 (ac n1 (ac (own_pcI n2 n1) (ac n3 (ac n1 (ac (lay_pcI (r := cn q) n2 n1) a0)))))) (by kernel_rfl))
theorem Try.k86_2 (k : Nat) (os : List Rn) (w : Rn) (n : Int) (i : Int)  (c1 : (decide (i < n)) = false) : RunsW Try.ir Try.c86 (Try.s86 k os w n i) (.exit 0) (Try.s86 k os w n i) :=
  (RunsW.go TQE_holds 400 [.b false] [3, 4, 14, 15] (ac c1 a0) (by kernel_rfl))
theorem Try.run86_1 (rs ts os : List Rn) (w : Rn) (g b n i : Int) (k : Nat) (c1 : (decide (b > 1)) = true)
    (n1 : Runs Try.ir 92 [.sl rs.length (pc rs)] (.fresh 2 ts.length (pc ts)))
    (n2 : List.all (pc ts) (fun c => !isI c) = true)
    (n3 : intsOnly (bigAV g) = true)
    (n4 : Runs Try.ir 85 [.sl ts.length (pc ts)] (bigAV g))
    (n5 : Runs Try.ir 77 [bigAV g] (.int .i64 b))
    (hl6 : RunsW Try.ir (.loop Try.c86) (Try.s86 ts.length ts (cn g) ((ts.length : Nat) : Int) 0) (.exit 0) (Try.s86 k os w n i)) : Runs Try.ir 86 [.sl rs.length (pc rs)] (.fresh 2 k (pc os)) :=
  Runs.of_bodyW (fn := Try.i86) (s := (dds 2 (.own 2 k (pc os) :: (dds 29 [])))) (ex := .ret) rfl rfl
    (RunsW.seq (RunsW.go (t := (.val (.sl rs.length (pc rs)) :: (dds 1 (.own 2 0 [] :: (dds 29 []))))) (ex := .norm) TQE_holds 400 [] [0, 2] a0 (by kernel_rfl))
    (RunsW.seq (RunsW.go (t := (.val (.sl rs.length (pc rs)) :: (dds 1 (.own 2 0 [] :: (.own 2 ts.length (pc ts) :: (dds 28 [])))))) (ex := .norm) TQE_holds 400 [.r (.fresh 2 ts.length (pc ts))] [0, 2, 3] (ac n1 a0) (by kernel_rfl))
    (RunsW.seq (RunsW.go (t := (.val (.sl rs.length (pc rs)) :: (dds 1 (.own 2 0 [] :: (.own 2 ts.length (pc ts) :: (.box [.bool (decide (g < 0)), .sl ((limbs (Int.natAbs g)).length) (lm (limbs (Int.natAbs g)))] :: (dds 27 []))))))) (ex := .norm) TQE_holds 400 [.r (bigAV g)] [0, 2, 3, 4] (ac n2 (ac n3 (ac n4 a0))) (by kernel_rfl))
    (RunsW.seq (RunsW.seq (RunsW.go (t := (.val (.sl rs.length (pc rs)) :: (dds 1 (.own 2 0 [] :: (.own 2 ts.length (pc ts) :: (.box [.bool (decide (g < 0)), .sl ((limbs (Int.natAbs g)).length) (lm (limbs (Int.natAbs g)))] :: (dds 7 (.val (.bool (decide (b > 1))) :: (dds 19 []))))))))) (ex := .norm) TQE_holds 400 [.r (.int .i64 b)] [0, 2, 3, 4, 12] (ac n5 a0) (by kernel_rfl))
    (RunsW.cond_t (by rfl) c1 (RunsW.seq (RunsW.go TQE_holds 400 [] [3, 4, 14, 15] a0 (by kernel_rfl))
    (RunsW.block hl6))))
    (RunsW.go TQE_holds 400 [] [2] a0 (by kernel_rfl)))))) (by intro i e; cases e) rfl
theorem Try.run86_2 (rs ts : List Rn) (g b : Int) (c1 : (decide (b > 1)) = false)
    (n1 : Runs Try.ir 92 [.sl rs.length (pc rs)] (.fresh 2 ts.length (pc ts)))
    (n2 : List.all (pc ts) (fun c => !isI c) = true)
    (n3 : intsOnly (bigAV g) = true)
    (n4 : Runs Try.ir 85 [.sl ts.length (pc ts)] (bigAV g))
    (n5 : Runs Try.ir 77 [bigAV g] (.int .i64 b)) : Runs Try.ir 86 [.sl rs.length (pc rs)] (.fresh 2 ts.length (pc ts)) :=
  Runs.of_bodyW (fn := Try.i86) (s := (dds 2 (.own 2 ts.length (pc ts) :: (dds 29 [])))) (ex := .ret) rfl rfl
    (RunsW.seq (RunsW.go (t := (.val (.sl rs.length (pc rs)) :: (dds 1 (.own 2 0 [] :: (dds 29 []))))) (ex := .norm) TQE_holds 400 [] [0, 2] a0 (by kernel_rfl))
    (RunsW.seq (RunsW.go (t := (.val (.sl rs.length (pc rs)) :: (dds 1 (.own 2 0 [] :: (.own 2 ts.length (pc ts) :: (dds 28 [])))))) (ex := .norm) TQE_holds 400 [.r (.fresh 2 ts.length (pc ts))] [0, 2, 3] (ac n1 a0) (by kernel_rfl))
    (RunsW.seq (RunsW.go (t := (.val (.sl rs.length (pc rs)) :: (dds 1 (.own 2 0 [] :: (.own 2 ts.length (pc ts) :: (.box [.bool (decide (g < 0)), .sl ((limbs (Int.natAbs g)).length) (lm (limbs (Int.natAbs g)))] :: (dds 27 []))))))) (ex := .norm) TQE_holds 400 [.r (bigAV g)] [0, 2, 3, 4] (ac n2 (ac n3 (ac n4 a0))) (by kernel_rfl))
    (RunsW.seq (RunsW.seq (RunsW.go (t := (.val (.sl rs.length (pc rs)) :: (dds 1 (.own 2 0 [] :: (.own 2 ts.length (pc ts) :: (.box [.bool (decide (g < 0)), .sl ((limbs (Int.natAbs g)).length) (lm (limbs (Int.natAbs g)))] :: (dds 7 (.val (.bool (decide (b > 1))) :: (dds 19 []))))))))) (ex := .norm) TQE_holds 400 [.r (.int .i64 b)] [0, 2, 3, 4, 12] (ac n5 a0) (by kernel_rfl))
    (RunsW.cond_f (by rfl) c1 (RunsW.go (t := (dds 2 (.own 2 0 [] :: (.own 2 ts.length (pc ts) :: (dds 28 []))))) (ex := .norm) TQE_holds 400 [] [2, 3] a0 (by kernel_rfl))))
    (RunsW.go TQE_holds 400 [] [2] a0 (by kernel_rfl)))))) (by intro i e; cases e) rfl
theorem Try.run115_1 (rs ts : List Rn) (s : Int) (c1 : (decide (((rs.length : Nat) : Int) > 0)) = true)
    (c2 : (decide (s < 0)) = true)
    (n1 : 0 ≤ (IntKind.i64.wrap (((rs.length : Nat) : Int) - 1)) ∧ (IntKind.i64.wrap (((rs.length : Nat) : Int) - 1)) < ((rs.length : Nat) : Int))
    (n2 : Runs Try.ir 73 [rawAV (rs.getD (Int.toNat (IntKind.i64.wrap (((rs.length : Nat) : Int) - 1))) z0)] (.int .i64 s))
    (n3 : Runs Try.ir 127 [.sl rs.length (pc rs)] (.fresh 2 ts.length (pc ts))) : Runs Try.ir 115 [.sl rs.length (pc rs)] (.fresh 2 ts.length (pc ts)) :=
  Runs.go (fn := Try.i115) TQE_holds rfl 400 rfl [.b true, .v (rawAV (rs.getD (Int.toNat (IntKind.i64.wrap (((rs.length : Nat) : Int) - 1))) z0)), .r (.int .i64 s), .b true, .r (.fresh 2 ts.length (pc ts))] (ac c1 (ac n1 (ac (show takeA (List.drop (Int.toNat (IntKind.i64.wrap (((rs.length : Nat) : Int) - 1)) * 2) (pc rs)) 0 2 false = some (rawAV (rs.getD (Int.toNat (IntKind.i64.wrap (((rs.length : Nat) : Int) - 1))) z0)) from (take_pcI n1)) (ac n2 (ac c2 (ac n3 a0)))))) (by kernel_rfl)
theorem Try.run115_2 (rs : List Rn) (s : Int) (c1 : (decide (((rs.length : Nat) : Int) > 0)) = true)
    (c2 : (decide (s < 0)) = false)
    (n1 : 0 ≤ (IntKind.i64.wrap (((rs.length : Nat) : Int) - 1)) ∧ (IntKind.i64.wrap (((rs.length : Nat) : Int) - 1)) < ((rs.length : Nat) : Int))
    (n2 : Runs Try.ir 73 [rawAV (rs.getD (Int.toNat (IntKind.i64.wrap (((rs.length : Nat) : Int) - 1))) z0)] (.int .i64 s)) : Runs Try.ir 115 [.sl rs.length (pc rs)] (.sl rs.length (pc rs)) :=
  Runs.go (fn := Try.i115) TQE_holds rfl 400 rfl [.b true, .v (rawAV (rs.getD (Int.toNat (IntKind.i64.wrap (((rs.length : Nat) : Int) - 1))) z0)), .r (.int .i64 s), .b false] (ac c1 (ac n1 (ac (show takeA (List.drop (Int.toNat (IntKind.i64.wrap (((rs.length : Nat) : Int) - 1)) * 2) (pc rs)) 0 2 false = some (rawAV (rs.getD (Int.toNat (IntKind.i64.wrap (((rs.length : Nat) : Int) - 1))) z0)) from (take_pcI n1)) (ac n2 (ac c2 a0))))) (by kernel_rfl)
theorem Try.run115_3 (rs : List Rn) (c1 : (decide (((rs.length : Nat) : Int) > 0)) = false) : Runs Try.ir 115 [.sl rs.length (pc rs)] (.sl rs.length (pc rs)) :=
  Runs.go (fn := Try.i115) TQE_holds rfl 400 rfl [.b false, .b false] (ac c1 (ac (show false = false from rfl) a0)) (by kernel_rfl)
def Try.c75 : ICode := .seq (.seq (.region false [oM 5 4,
   oM 6 0,
   oC 7 62 [6],
   oB 8 .leq 5 7])
  (.cond (.t 8) (.skip)
  (.exit 0)))
  (.seq (.block 1 (.region true [o1 11 (.tra 3),
   oM 12 0,
   oM 13 4,
   o1 14 (.ixa 12 (.t 13) 2),
   o1 15 (.ld 14 14 2 false),
   oM 16 4,
   oC 17 94 [16],
   oC 18 113 [15, 17],
   o1 19 (.bls 1 [.bool false, .sl 0 []] [(0, 2, .t 18)]),
   o1 20 (.apd true (.t 11) (.t 19) 2),
   o1 3 (.tra 20)]))
  (.region false [oM 9 4,
   o1 10 (.bin .add (.t 9) (.c (.int .i64 1))),
   oM 4 10]))
def Try.s75 (rs : List Rn) (k : Nat) (cs : List AV) (i : Int) : State := (.val (.sl rs.length (pc rs)) :: (dds 2 (.own 2 k cs :: (.val (.int .i64 i) :: (dds 18 [])))))
theorem Try.k75_1 (rs : List Rn) (k : Nat) (cs : List AV) (i : Int) (d v : Int) (c1 : (decide (i ≤ d)) = true)
    (n1 : 0 ≤ i ∧ i < ((rs.length : Nat) : Int))
    (n2 : k + 1 ≤ 1048576)
    (n3 : Runs Try.ir 62 [.sl rs.length (pc rs)] (.int .i64 d))
    (n4 : Runs Try.ir 94 [.int .i64 i] (bigAV i))
    (n5 : Runs Try.ir 113 [rawAV (rs.getD (Int.toNat i) z0), bigAV i] (bigAV v)) : RunsW Try.ir Try.c75 (Try.s75 rs k cs i) .norm (Try.s75 rs (k + 1) (cs ++ ([.bool (decide (v < 0)), .sl ((limbs (Int.natAbs v)).length) (lm (limbs (Int.natAbs v)))] : List AV)) (IntKind.i64.wrap (i + 1))) :=
  (RunsW.go TQE_holds 400 [.r (.int .i64 d), .b true, .v (rawAV (rs.getD (Int.toNat i) z0)), .r (bigAV i), .r (bigAV v)] [0, 3, 4] (ac n3 (ac c1 (ac n1 (ac (show takeA (List.drop (Int.toNat i * 2) (pc rs)) 0 2 false = some (rawAV (rs.getD (Int.toNat i) z0)) from (take_pcI n1)) (ac n4 (ac n5 (ac (show List.length ([.bool (decide (v < 0)), .sl ((limbs (Int.natAbs v)).length) (lm (limbs (Int.natAbs v)))] : List AV) = 1 * 2 from rfl) (ac n2 a0)))))))) (by kernel_rfl))
theorem Try.k75_2 (rs : List Rn) (k : Nat) (cs : List AV) (i : Int) (d : Int) (c1 : (decide (i ≤ d)) = false)
    (n1 : Runs Try.ir 62 [.sl rs.length (pc rs)] (.int .i64 d)) : RunsW Try.ir Try.c75 (Try.s75 rs k cs i) (.exit 0) (Try.s75 rs k cs i) :=
  (RunsW.go TQE_holds 400 [.r (.int .i64 d), .b false] [0, 3, 4] (ac n1 (ac c1 a0)) (by kernel_rfl))
theorem Try.run75 (rs os ts : List Rn) (k : Nat) (i : Int) (hl1 : RunsW Try.ir (.loop Try.c75) (Try.s75 rs 0 [] 1) (.exit 0) (Try.s75 rs k (pc os) i))
    (n2 : Runs Try.ir 92 [.sl k (pc os)] (.fresh 2 ts.length (pc ts))) : Runs Try.ir 75 [.sl rs.length (pc rs)] (.fresh 2 ts.length (pc ts)) :=
  Runs.of_bodyW (fn := Try.i75) (s := (dds 2 (.own 2 ts.length (pc ts) :: (dds 20 [])))) (ex := .ret) rfl rfl
    (RunsW.seq (RunsW.go (t := (.val (.sl rs.length (pc rs)) :: (dds 1 (.own 2 0 [] :: (dds 20 []))))) (ex := .norm) TQE_holds 400 [] [0, 2] a0 (by kernel_rfl))
    (RunsW.seq (RunsW.go (t := (.val (.sl rs.length (pc rs)) :: (dds 1 (.own 2 0 [] :: (.own 2 0 [] :: (dds 19 [])))))) (ex := .norm) TQE_holds 400 [] [0, 2, 3] a0 (by kernel_rfl))
    (RunsW.seq (RunsW.seq (RunsW.go TQE_holds 400 [] [0, 3, 4] a0 (by kernel_rfl))
    (RunsW.block hl1))
    (RunsW.go TQE_holds 400 [.r (.fresh 2 ts.length (pc ts))] [2] (ac n2 a0) (by kernel_rfl))))) (by intro i e; cases e) rfl
def TRA : Table := TQE
theorem TRA_holds : THolds Try.ir TRA := TQE_holds
end Go.Proofs.Ythnnfemologhfaa

namespace Go.Ai
theorem peval_set (xs : List Int) (i : Nat) (v x : Int) (h : i < xs.length) : peval (xs.set i v) x = peval xs x + x ^ i * (v - xs.getD i 0) := by
  induction xs generalizing i with
  | nil => simp at h
  | cons p ps ih =>
    cases i with
    | zero => simp only [List.set_cons_zero, peval, Int.pow_zero, List.getD_cons_zero]; omega
    | succ i =>
      simp only [List.set_cons_succ, peval, List.getD_cons_succ]
      rw [ih i (by simpa using h), Int.pow_succ]
      generalize x ^ i = q
      generalize peval ps x = y
      generalize ps.getD i 0 = z
      grind
theorem peval_zeros (n : Nat) (x : Int) : peval (List.replicate n 0) x = 0 := by
  induction n with
  | zero => rfl
  | succ n ih => simp [List.replicate_succ, peval, ih]
theorem pzero : ∀ (d : List Int) (b : Int), (∀ x, b ≤ x → peval d x = 0) → ∀ i, d.getD i 0 = 0
  | [], _, _, i => by simp
  | c :: d, b, h, i => by
    have hc : c = 0 := by
      have h1 := h (max b (c.natAbs + 1)) (by omega)
      simp only [peval] at h1
      have h2 : (max b ((c.natAbs : Int) + 1)) ∣ c := ⟨-(peval d (max b ((c.natAbs : Int) + 1))), by rw [Int.mul_neg]; omega⟩
      rcases Int.lt_trichotomy c 0 with g | g | g
      · have := Int.le_of_dvd (a := max b ((c.natAbs : Int) + 1)) (b := -c) (by omega) ((Int.dvd_neg).2 h2)
        omega
      · exact g
      · have := Int.le_of_dvd (a := max b ((c.natAbs : Int) + 1)) (b := c) (by omega) h2
        omega
    cases i with
    | zero => simpa using hc
    | succ i =>
      have := pzero d (max b 1) (fun x hx => by
        have h1 := h x (by omega)
        simp only [peval, hc, Int.zero_add] at h1
        rcases Int.mul_eq_zero.1 h1 with g | g
        · omega
        · exact g) i
      simpa using this
theorem peval_inj' {p q : List Int} (h : ∀ x, peval p x = peval q x) (i : Nat) : p.getD i 0 = q.getD i 0 := by
  have := pzero (padd p (pneg q)) 0 (fun x _ => by rw [peval_padd, peval_pneg, h x]; omega) i
  rw [getD_padd, getD_pneg] at this
  omega
theorem peval_inj {p q : List Int} (h : ∀ x, peval p x = peval q x) : trimL p = trimL q := trim_ext (peval_inj' h)
def psub (p q : List Int) : List Int := padd p (pneg q)
theorem peval_psub (p q : List Int) (x : Int) : peval (psub p q) x = peval p x - peval q x := by rw [psub, peval_padd, peval_pneg]; omega
theorem getD_psub (p q : List Int) (i : Nat) : (psub p q).getD i 0 = p.getD i 0 - q.getD i 0 := by rw [psub, getD_padd, getD_pneg]; omega
def psmul (a : Int) (q : List Int) : List Int := q.map fun x => a * x
theorem peval_psmul (a : Int) (q : List Int) (x : Int) : peval (psmul a q) x = a * peval q x := by
  induction q with
  | nil => simp [psmul, peval]
  | cons c q ih =>
    have : psmul a (c :: q) = a * c :: psmul a q := rfl
    rw [this]
    simp only [peval, ih]
    generalize peval q x = y
    grind
theorem getD_psmul (a : Int) (q : List Int) (i : Nat) : (psmul a q).getD i 0 = a * q.getD i 0 := by
  unfold psmul
  simp only [List.getD_eq_getElem?_getD, List.getElem?_map]
  cases q[i]? <;> simp
def pmul : List Int → List Int → List Int
  | [], _ => []
  | a :: p, q => padd (psmul a q) (0 :: pmul p q)
theorem peval_pmul (p q : List Int) (x : Int) : peval (pmul p q) x = peval p x * peval q x := by
  induction p with
  | nil => simp [pmul, peval]
  | cons a p ih =>
    simp only [pmul, peval_padd, peval_psmul, peval, ih]
    generalize peval q x = y
    generalize peval p x = z
    grind
theorem pmul_trim (p q : List Int) : trimL (pmul p q) = pmul p q := by
  cases p with
  | nil => rfl
  | cons a p => exact padd_trim _ _
theorem fits_mem_padd {k : Nat} {p q : List Int} (hp : ∀ x ∈ p, Fits k x) (hq : ∀ x ∈ q, Fits k x) : ∀ x ∈ padd p q, Fits (k + 1) x := by
  intro x hx
  have h1 := mem_trim hx
  obtain ⟨i, _, rfl⟩ := List.mem_map.1 h1
  exact (fits_getD hp i).add (fits_getD hq i)
theorem fits_mem_trim {k : Nat} {p : List Int} (hp : ∀ x ∈ p, Fits k x) : ∀ x ∈ trimL p, Fits k x := fun x hx => hp x (mem_trim hx)
theorem fits_mem_pmul {j k : Nat} {p q : List Int} (hp : ∀ x ∈ p, Fits j x) (hq : ∀ x ∈ q, Fits k x) : ∀ x ∈ pmul p q, Fits (j + k + p.length) x := by
  induction p with
  | nil => intro x hx; cases hx
  | cons a p ih =>
    intro x hx
    have h1 : ∀ y ∈ psmul a q, Fits (j + k + p.length) y := by
      intro y hy
      obtain ⟨z, hz, rfl⟩ := List.mem_map.1 hy
      exact ((hp a List.mem_cons_self).mul (hq z hz)).mono (by omega)
    have h2 : ∀ y ∈ (0 :: pmul p q), Fits (j + k + p.length) y := by
      intro y hy
      rcases List.mem_cons.1 hy with rfl | hy
      · exact fits_zero _
      · exact ih (fun z hz => hp z (List.mem_cons_of_mem _ hz)) y hy
    exact (fits_mem_padd h1 h2 x hx).mono (by simp; omega)
theorem padd_len (p q : List Int) : (padd p q).length ≤ max p.length q.length := by
  have := trim_len ((List.range (max p.length q.length)).map fun i => p.getD i 0 + q.getD i 0)
  simpa [padd] using this
theorem pmul_len (p q : List Int) : (pmul p q).length ≤ p.length + q.length := by
  induction p with
  | nil => simp [pmul]
  | cons a p ih =>
    have := padd_len (psmul a q) (0 :: pmul p q)
    have h2 : (psmul a q).length = q.length := by simp [psmul]
    simp only [pmul, List.length_cons] at this ⊢
    omega
theorem pneg_len (p : List Int) : (pneg p).length = p.length := by simp [pneg]
theorem peval_take_succ (xs : List Int) (j : Nat) (x : Int) : peval (xs.take (j + 1)) x = peval (xs.take j) x + x ^ j * xs.getD j 0 := by
  induction xs generalizing j with
  | nil => simp [peval]
  | cons p ps ih =>
    cases j with
    | zero => simp [peval]
    | succ j =>
      simp only [List.take_succ_cons, peval, List.getD_cons_succ, ih j, Int.pow_succ]
      generalize x ^ j = q
      generalize peval (ps.take j) x = y
      generalize ps.getD j 0 = z
      grind
def tIn (rs ss os : List Rn) (i : Nat) : Nat → List Rn
  | 0 => os
  | j + 1 => (tIn rs ss os i j).set (i + j) (cn (rval ((tIn rs ss os i j).getD (i + j) z0) + rval (rs.getD i z0) * rval (ss.getD j z0)))
def tOut (rs ss os : List Rn) (m : Nat) : Nat → List Rn
  | 0 => os
  | i + 1 => tIn rs ss (tOut rs ss os m i) i m
theorem tIn_length (rs ss os : List Rn) (i j : Nat) : (tIn rs ss os i j).length = os.length := by
  induction j with
  | zero => rfl
  | succ j ih => simp only [tIn, List.length_set, ih]
theorem tOut_length (rs ss os : List Rn) (m i : Nat) : (tOut rs ss os m i).length = os.length := by
  induction i with
  | zero => rfl
  | succ i ih => rw [tOut, tIn_length, ih]
theorem tIn_far (rs ss os : List Rn) (i j t : Nat) (h : i + j ≤ t) : (tIn rs ss os i j).getD t z0 = os.getD t z0 := by
  induction j with
  | zero => rfl
  | succ j ih =>
    rw [tIn, List.getD_eq_getElem?_getD, List.getElem?_set_ne (by omega), ← List.getD_eq_getElem?_getD]
    exact ih (by omega)
theorem tIn_good {K B : Nat} {rs ss os : List Rn} (hr : ∀ r ∈ rs, Good K r) (hs : ∀ r ∈ ss, Good K r) (ho : ∀ r ∈ os, Good B r) (hB : 2 * K ≤ B) (i j : Nat) : ∀ r ∈ tIn rs ss os i j, Good (B + 1) r := by
  induction j with
  | zero => exact fun r h => (ho r h).mono (by omega)
  | succ j ih =>
    rw [tIn]
    refine good_set ih ?_
    rw [tIn_far _ _ _ _ _ _ (Nat.le_refl _)]
    exact good_cn ((good_getD ho _).fits.add (((good_getD hr i).fits.mul (good_getD hs j).fits).mono (by omega)))
theorem tOut_good {K : Nat} {rs ss os : List Rn} (hr : ∀ r ∈ rs, Good K r) (hs : ∀ r ∈ ss, Good K r) (ho : ∀ r ∈ os, Good (2 * K) r) (m i : Nat) : ∀ r ∈ tOut rs ss os m i, Good (2 * K + i) r := by
  induction i with
  | zero => exact ho
  | succ i ih => exact tIn_good hr hs ih (by omega) i m
theorem tIn_eval (rs ss os : List Rn) (i : Nat) (x : Int) : ∀ j, i + j ≤ os.length → peval (vals (tIn rs ss os i j)) x = peval (vals os) x + x ^ i * (rval (rs.getD i z0) * peval ((vals ss).take j) x) := by
  intro j
  induction j with
  | zero => intro _; simp [tIn, peval]
  | succ j ih =>
    intro h
    have h1 := ih (by omega)
    rw [tIn, vals_set, peval_set _ _ _ _ (by rw [vals_length, tIn_length]; omega), h1, rval_cn, vals_getD, peval_take_succ, vals_getD, Int.pow_add]
    generalize x ^ i = p
    generalize x ^ j = q
    generalize peval ((vals ss).take j) x = y
    grind
theorem tOut_eval (rs ss : List Rn) (m n : Nat) (x : Int) : ∀ i, i + m ≤ n + 1 → peval (vals (tOut rs ss (List.replicate n z0) m i)) x = peval ((vals rs).take i) x * peval ((vals ss).take m) x := by
  intro i
  induction i with
  | zero => intro _; simp [tOut, vals_zeros, peval_zeros, peval]
  | succ i ih =>
    intro h
    rw [tOut, tIn_eval _ _ _ _ _ _ (by rw [tOut_length]; simp; omega), ih (by omega), peval_take_succ, vals_getD]
    generalize x ^ i = p
    grind
theorem tOut_mul (rs ss : List Rn) (a b n : Nat) (ha : a = topN (vals rs) rs.length) (hb : b = topN (vals ss) ss.length) (hn : a + b ≤ n + 1) : trimL (vals (tOut rs ss (List.replicate n z0) b a)) = pmul (vals rs) (vals ss) := by
  rw [← pmul_trim]
  apply peval_inj
  intro x
  rw [tOut_eval _ _ _ _ _ _ hn, peval_pmul]
  have h1 : (vals rs).take a = trimL (vals rs) := by rw [trimL, vals_length, ha]
  have h2 : (vals ss).take b = trimL (vals ss) := by rw [trimL, vals_length, hb]
  rw [h1, h2, peval_trim, peval_trim]
theorem pmul_zero_left {p q : List Int} (h : topN p p.length = 0) : pmul p q = [] := by
  have h1 : trimL p = [] := by rw [trimL, h]; rfl
  rw [← pmul_trim]
  have : trimL (pmul p q) = trimL [] := peval_inj fun x => by
    rw [peval_pmul, ← peval_trim p, h1]; simp [peval]
  rw [this]; rfl
theorem pmul_zero_right {p q : List Int} (h : topN q q.length = 0) : pmul p q = [] := by
  have h1 : trimL q = [] := by rw [trimL, h]; rfl
  rw [← pmul_trim]
  have : trimL (pmul p q) = trimL [] := peval_inj fun x => by
    rw [peval_pmul, ← peval_trim q, h1]; simp [peval]
  rw [this]; rfl
def hv : List Int → Int → Int → Int
  | [], _, _ => 0
  | t :: ts, x, d => t * d ^ ts.length + x * hv ts x d
end Go.Ai

namespace Go.Ai
def cont : List Int → Nat
  | [] => 0
  | x :: xs => Nat.gcd x.natAbs (cont xs)
theorem dvd_cont (d : Nat) : ∀ xs : List Int, d ∣ cont xs ↔ ∀ i, (d : Int) ∣ xs.getD i 0
  | [] => by simp [cont]
  | x :: xs => by
    have ih := dvd_cont d xs
    simp only [cont, Nat.dvd_gcd_iff, ih]
    constructor
    · rintro ⟨h1, h2⟩ i
      cases i with
      | zero => simpa using Int.ofNat_dvd_left.2 h1
      | succ i => simpa using h2 i
    · intro h
      refine ⟨Int.ofNat_dvd_left.1 (by simpa using h 0), fun i => by simpa using h (i + 1)⟩
theorem cont_dvd (xs : List Int) (i : Nat) : (cont xs : Int) ∣ xs.getD i 0 := (dvd_cont _ xs).1 (Nat.dvd_refl _) i
theorem cont_ext {xs ys : List Int} (h : ∀ i, xs.getD i 0 = ys.getD i 0) : cont xs = cont ys :=
  Nat.dvd_antisymm ((dvd_cont _ _).2 fun i => h i ▸ cont_dvd xs i) ((dvd_cont _ _).2 fun i => h i ▸ cont_dvd ys i)
theorem cont_trim (xs : List Int) : cont (trimL xs) = cont xs := cont_ext (getD_trim xs)
theorem cont_zero {xs : List Int} : cont xs = 0 ↔ ∀ i, xs.getD i 0 = 0 := by
  constructor
  · intro h i
    have := cont_dvd xs i
    rw [h] at this
    exact Int.zero_dvd.1 this
  · intro h
    have : cont xs = cont [] := cont_ext fun i => by rw [h i]; simp
    rw [this]; rfl
theorem cont_psmul (k : Int) : ∀ xs : List Int, cont (psmul k xs) = k.natAbs * cont xs
  | [] => rfl
  | x :: xs => by
    have ih := cont_psmul k xs
    simp only [psmul, List.map_cons, cont] at *
    rw [ih, Int.natAbs_mul, Nat.gcd_mul_left]
theorem trim_nil {xs : List Int} : trimL xs = [] ↔ ∀ i, xs.getD i 0 = 0 := by
  constructor
  · intro h i
    rw [← getD_trim, h]; simp
  · intro h
    have : trimL xs = trimL [] := trim_ext fun i => by rw [h i]; simp
    rw [this]; rfl
theorem cont_pos {xs : List Int} (h : trimL xs ≠ []) : 0 < cont xs := by
  rcases Nat.eq_zero_or_pos (cont xs) with g | g
  · exact absurd (trim_nil.2 (cont_zero.1 g)) h
  · exact g
theorem trim_psmul {k : Int} (hk : k ≠ 0) (xs : List Int) : trimL (psmul k xs) = psmul k (trimL xs) := by
  have e : ∀ n, topN (psmul k xs) n = topN xs n := by
    intro n
    induction n with
    | zero => rfl
    | succ n ih =>
      simp only [topN, ih, getD_psmul]
      by_cases h : xs.getD n 0 = 0
      · rw [h, Int.mul_zero]
      · rw [if_neg h, if_neg (Int.mul_ne_zero hk h)]
  simp only [trimL]
  rw [e, show (psmul k xs).length = xs.length by simp [psmul]]
  simp [psmul, List.map_take]
def prim (xs : List Int) : List Int := (trimL xs).map fun x => x / (cont xs : Int)
theorem getD_prim (xs : List Int) (i : Nat) : (prim xs).getD i 0 = xs.getD i 0 / (cont xs : Int) := by
  rw [← getD_trim xs i]
  simp only [prim, List.getD_eq_getElem?_getD, List.getElem?_map]
  cases (trimL xs)[i]? <;> simp
theorem prim_length (xs : List Int) : (prim xs).length = (trimL xs).length := by simp [prim]
theorem prim_mul (xs : List Int) (i : Nat) : (cont xs : Int) * (prim xs).getD i 0 = xs.getD i 0 := by
  rw [getD_prim]; exact Int.mul_ediv_cancel' (cont_dvd xs i)
theorem prim_ext {xs ys : List Int} (h : ∀ i, xs.getD i 0 = ys.getD i 0) : prim xs = prim ys := by
  simp only [prim]; rw [trim_ext h, cont_ext h]
theorem prim_nil {xs : List Int} : prim xs = [] ↔ ∀ i, xs.getD i 0 = 0 := by
  rw [← trim_nil]; simp [prim]
theorem prim_scale {k : Int} (hk : 0 < k) (xs : List Int) : prim (psmul k xs) = prim xs := by
  simp only [prim]
  rw [trim_psmul (by omega), cont_psmul]
  simp only [psmul, List.map_map]
  apply List.map_congr_left
  intro x _
  simp only [Function.comp]
  rw [Int.natCast_mul, Int.natAbs_of_nonneg (by omega), Int.mul_ediv_mul_of_pos _ _ hk]
theorem prim_scale' {k : Int} (hk : 0 < k) {xs ys : List Int} (h : ∀ i, ys.getD i 0 = k * xs.getD i 0) : prim ys = prim xs := by
  rw [← prim_scale hk xs]
  exact prim_ext fun i => by rw [h, getD_psmul]
theorem topN_last {xs : List Int} (h : topN xs xs.length = xs.length) : trimL xs = xs := by simp [trimL, h]
def Lead (xs : List Int) : Prop := trimL xs = xs
theorem lead_trim (xs : List Int) : Lead (trimL xs) := trim_trim xs
theorem lead_top {xs : List Int} (h : Lead xs) (hn : xs ≠ []) : xs.getD (xs.length - 1) 0 ≠ 0 := by
  have e := congrArg List.length h
  rw [trim_length] at e
  rcases topN_top xs xs.length with g | g
  · rw [g] at e
    exact absurd (List.eq_nil_of_length_eq_zero e.symm) hn
  · rw [e] at g; exact g
theorem lead_of {xs : List Int} (h : xs = [] ∨ xs.getD (xs.length - 1) 0 ≠ 0) : Lead xs := by
  rcases h with rfl | h
  · rfl
  · cases hl : xs.length with
    | zero => rw [List.eq_nil_of_length_eq_zero hl]; rfl
    | succ n =>
      apply topN_last
      rw [hl]
      simp only [topN]
      rw [if_neg (by rw [hl] at h; simpa using h)]
theorem lead_psmul {k : Int} (hk : k ≠ 0) {xs : List Int} (h : Lead xs) : Lead (psmul k xs) := by
  unfold Lead; rw [trim_psmul hk, h]
theorem psmul_prim (xs : List Int) : psmul (cont xs) (prim xs) = trimL xs := by
  apply list_ext
  · simp [psmul, prim_length]
  · intro i
    rw [getD_psmul, prim_mul, getD_trim]
theorem lead_prim (xs : List Int) : Lead (prim xs) := by
  by_cases h : trimL xs = []
  · rw [prim_nil.2 (trim_nil.1 h)]; rfl
  · have hc := cont_pos h
    have h1 := lead_trim xs
    rw [← psmul_prim] at h1
    unfold Lead at h1 ⊢
    rw [trim_psmul (by omega)] at h1
    have hinj : ∀ a b : List Int, psmul (cont xs) a = psmul (cont xs) b → a = b := by
      intro a b hab
      have hl := congrArg List.length hab
      simp only [psmul, List.length_map] at hl
      apply list_ext hl
      intro i
      have := congrArg (fun l : List Int => l.getD i 0) hab
      simp only [getD_psmul] at this
      exact Int.eq_of_mul_eq_mul_left (by omega) this
    exact hinj _ _ h1
theorem cont_prim {xs : List Int} (h : trimL xs ≠ []) : cont (prim xs) = 1 := by
  have hc := cont_pos h
  have h1 := cont_psmul (cont xs) (prim xs)
  rw [psmul_prim, cont_trim, Int.natAbs_natCast] at h1
  have h2 : cont xs * 1 = cont xs * cont (prim xs) := by rw [Nat.mul_one]; exact h1
  exact (Nat.eq_of_mul_eq_mul_left hc h2).symm
theorem prim_one {xs : List Int} (h : cont xs = 1) : prim xs = trimL xs := by
  simp only [prim, h]
  rw [show (fun x : Int => x / ((1 : Nat) : Int)) = id by funext x; simp]
  simp
theorem prim_prim (xs : List Int) : prim (prim xs) = prim xs := by
  by_cases h : trimL xs = []
  · rw [prim_nil.2 (trim_nil.1 h)]; rfl
  · rw [prim_one (cont_prim h)]; exact lead_prim xs
theorem fits_div {K : Nat} {x : Int} (h : Fits K x) (c : Nat) : Fits K (x / (c : Int)) ∨ ¬ (c : Int) ∣ x := by
  by_cases hd : (c : Int) ∣ x
  · left
    obtain ⟨y, rfl⟩ := hd
    rcases Nat.eq_zero_or_pos c with h0 | h0
    · subst h0; simpa using h
    · rw [Int.mul_ediv_cancel_left _ (by omega)]
      unfold Fits at *
      rw [Int.natAbs_mul, Int.natAbs_natCast] at h
      have := Nat.le_mul_of_pos_left y.natAbs h0
      omega
  · exact Or.inr hd
theorem fits_prim {K : Nat} {xs : List Int} (h : ∀ i, Fits K (xs.getD i 0)) (i : Nat) : Fits K ((prim xs).getD i 0) := by
  rw [getD_prim]
  rcases fits_div (h i) (cont xs) with g | g
  · exact g
  · exact absurd (cont_dvd xs i) g
end Go.Ai

namespace Go.Ai
def Kb (K : Nat) (r : List Int) : Prop := ∀ i, Fits K (r.getD i 0)
theorem Kb.mono {J K : Nat} {r : List Int} (h : Kb J r) (hk : J ≤ K) : Kb K r := fun i => (h i).mono hk
theorem Kb.mem {K : Nat} {r : List Int} (h : Kb K r) : ∀ x ∈ r, Fits K x := fun x hx => by
  obtain ⟨i, hi, rfl⟩ := List.mem_iff_getElem.1 hx
  have := h i
  rwa [List.getD_eq_getElem?_getD, List.getElem?_eq_getElem hi] at this
theorem kb_of {K : Nat} {r : List Int} (h : ∀ x ∈ r, Fits K x) : Kb K r := fits_getD h
theorem Kb.prim {K : Nat} {r : List Int} (h : Kb K r) : Kb K (prim r) := fits_prim h
def top (r : List Int) : Int := r.getD (r.length - 1) 0
def estN (r d : List Int) (a b : Int) (n : Nat) : List Int := (List.range n).map fun i => if r.length - d.length ≤ i then a * r.getD i 0 - b * d.getD (i - (r.length - d.length)) 0 else a * r.getD i 0
theorem estN_length (r d : List Int) (a b : Int) (n : Nat) : (estN r d a b n).length = n := by simp [estN]
theorem getD_range (f : Nat → Int) (n i : Nat) : ((List.range n).map f).getD i 0 = if i < n then f i else 0 := by
  rw [List.getD_eq_getElem?_getD, List.getElem?_map]
  by_cases h : i < n
  · rw [List.getElem?_range h, if_pos h]; rfl
  · rw [List.getElem?_eq_none (by simpa using h), if_neg h]; rfl
theorem getD_estN (r d : List Int) (a b : Int) (n i : Nat) : (estN r d a b n).getD i 0 = if i < n then (if r.length - d.length ≤ i then a * r.getD i 0 - b * d.getD (i - (r.length - d.length)) 0 else a * r.getD i 0) else 0 := getD_range _ _ _
theorem kb_estN {J K : Nat} {r d : List Int} {a b : Int} (hr : Kb J r) (hd : Kb K d) (ha : Fits K a) (hb : Fits J b) (n : Nat) : Kb (J + K + 1) (estN r d a b n) := by
  intro i
  rw [getD_estN]
  have h1 := (Fits.mul ha (hr i))
  have h2 := (Fits.mul hb (hd (i - (r.length - d.length))))
  rw [Nat.add_comm] at h1
  split
  · split
    · exact h1.add h2.neg
    · exact h1.mono (by omega)
  · exact fits_zero _
theorem estN_last {r d : List Int} {a b : Int} (hd : d ≠ []) (hl : d.length ≤ r.length) (h : a * top r = b * top d) (i : Nat) : (estN r d a b r.length).getD i 0 = (estN r d a b (r.length - 1)).getD i 0 := by
  have := List.length_pos_iff.2 hd
  rw [getD_estN, getD_estN]
  by_cases h1 : i < r.length - 1
  · rw [if_pos h1, if_pos (by omega)]
  · rw [if_neg h1]
    split
    · have : i = r.length - 1 := by omega
      subst this
      rw [if_pos (by omega), show r.length - 1 - (r.length - d.length) = d.length - 1 by omega]
      unfold top at h
      omega
    · rfl
theorem estN_scale (r d : List Int) (k a b : Int) (n i : Nat) : (estN r d (k * a) (k * b) n).getD i 0 = k * (estN r d a b n).getD i 0 := by
  rw [getD_estN, getD_estN]
  split
  · split
    · rw [Int.mul_sub, Int.mul_assoc, Int.mul_assoc]
    · rw [Int.mul_assoc]
  · simp
theorem estN_psmul (r d : List Int) (c a b : Int) (n : Nat) : estN r (psmul c d) a b n = estN r d a (b * c) n := by
  apply list_ext (by rw [estN_length, estN_length])
  intro i
  rw [getD_estN, getD_estN, getD_psmul, show (psmul c d).length = d.length by simp [psmul]]
  rw [Int.mul_assoc]
def sg (n : Int) : Int := if n < 0 then -1 else 1
theorem sg_mul (n : Int) : sg n * n = (n.natAbs : Int) := by unfold sg; split <;> omega
def pstep (r d : List Int) : List Int := prim (estN r d ((top d).natAbs : Int) (sg (top d) * top r) r.length)
def restN : Nat → List Int → List Int → List Int
  | 0, r, _ => r
  | f + 1, r, d => if d.length ≤ r.length then restN f (pstep r d) d else r
theorem pstep_cancel (r d : List Int) : ((top d).natAbs : Int) * top r = sg (top d) * top r * top d := by
  rw [← sg_mul]; grind
theorem pstep_ref {r d : List Int} (hd : d ≠ []) (hl : d.length ≤ r.length) : pstep r d = prim (estN r d ((top d).natAbs : Int) (sg (top d) * top r) (r.length - 1)) :=
  prim_ext (estN_last hd hl (pstep_cancel r d))
theorem pstep_length {r d : List Int} (hd : d ≠ []) (hl : d.length ≤ r.length) : (pstep r d).length < r.length := by
  have := List.length_pos_iff.2 hd
  rw [pstep_ref hd hl, prim_length]
  have := trim_len (estN r d ((top d).natAbs : Int) (sg (top d) * top r) (r.length - 1))
  rw [estN_length] at this
  omega
theorem top_psmul (c : Int) (d : List Int) : top (psmul c d) = c * top d := by
  unfold top; rw [getD_psmul, show (psmul c d).length = d.length by simp [psmul]]
theorem sg_pos_mul {c : Int} (hc : 0 < c) (n : Int) : sg (c * n) = sg n := by
  unfold sg
  have : c * n < 0 ↔ n < 0 := by
    constructor
    · intro h
      apply Int.not_le.1
      intro hn
      have := Int.mul_nonneg (show 0 ≤ c by omega) hn
      omega
    · intro h; exact Int.mul_neg_of_pos_of_neg hc h
  simp only [this]
theorem pstep_prog {r d : List Int} {c g a b : Int} (hc : 0 < c) (hg : 0 < g) (ha : g * a = ((top d).natAbs : Int)) (hb : g * b = sg (top d) * top r) : pstep r (psmul c d) = prim (estN r d a b r.length) := by
  unfold pstep
  rw [estN_psmul, top_psmul, sg_pos_mul hc, Int.natAbs_mul]
  apply prim_scale' (k := c * g) (Int.mul_pos hc hg)
  intro i
  rw [← estN_scale]
  congr 2
  · rw [Int.mul_assoc, ha, Int.natCast_mul, Int.natAbs_of_nonneg (by omega)]
  · rw [Int.mul_assoc c g b, hb]; grind
theorem lead_pstep (r d : List Int) : Lead (pstep r d) := lead_prim _
theorem kb_top {K : Nat} {d : List Int} (h : Kb K d) : Fits K (top d) := h _
theorem fits_abs {K : Nat} {n : Int} (h : Fits K n) : Fits K (n.natAbs : Int) := by unfold Fits at *; rwa [Int.natAbs_natCast]
theorem fits_sg {K : Nat} {m n : Int} (h : Fits K n) : Fits K (sg m * n) := by
  unfold Fits sg at *; split <;> simpa using h
theorem kb_pstep {J K : Nat} {r d : List Int} (hr : Kb J r) (hd : Kb K d) : Kb (J + K + 1) (pstep r d) :=
  (kb_estN hr hd (fits_abs (kb_top hd)) (fits_sg (kb_top hr)) _).prim
theorem restN_ok {d : List Int} (hd : d ≠ []) {K : Nat} (hK : Kb K d) : ∀ (f : Nat) (r : List Int) (J : Nat), r.length ≤ f → Lead r → Kb J r →
    Lead (restN f r d) ∧ (restN f r d).length < d.length ∧ Kb (J + (r.length + 1 - d.length) * (K + 1)) (restN f r d) := by
  have hd1 := List.length_pos_iff.2 hd
  intro f
  induction f with
  | zero =>
    intro r J h1 h2 h3
    exact ⟨h2, by simp only [restN]; omega, h3.mono (Nat.le_add_right _ _)⟩
  | succ f ih =>
    intro r J h1 h2 h3
    simp only [restN]
    split
    · rename_i hl
      have hp := pstep_length hd hl
      obtain ⟨a1, a2, a3⟩ := ih (pstep r d) (J + K + 1) (by omega) (lead_pstep r d) (kb_pstep h3 hK)
      refine ⟨a1, a2, a3.mono ?_⟩
      have e : ((pstep r d).length + 1 - d.length) + 1 ≤ r.length + 1 - d.length := by omega
      have := Nat.mul_le_mul_right (K + 1) e
      rw [Nat.add_mul, Nat.one_mul] at this
      omega
    · exact ⟨h2, by omega, h3.mono (Nat.le_add_right _ _)⟩
def prest (x y : List Int) : List Int := restN x.length x y
def pcomN : Nat → List Int → List Int → List Int
  | 0, x, _ => x
  | f + 1, x, y => if y = [] then x else pcomN f y (prest x y)
def ppos (x : List Int) : List Int := if top x < 0 then pneg x else x
theorem prim_restN (d : List Int) : ∀ (f : Nat) (r : List Int), prim r = r → prim (restN f r d) = restN f r d := by
  intro f
  induction f with
  | zero => intro r h; exact h
  | succ f ih =>
    intro r h
    simp only [restN]
    split
    · exact ih _ (prim_prim _)
    · exact h
theorem lead_of_prim {r : List Int} (h : prim r = r) : Lead r := h ▸ lead_prim r
theorem three_pow {m l : Nat} (h : l < m) : (m - l + 2) * 3 ^ l ≤ 3 ^ m := by
  obtain ⟨k, rfl⟩ : ∃ k, m = l + 1 + k := ⟨m - l - 1, by omega⟩
  rw [show l + 1 + k - l + 2 = k + 3 by omega, show l + 1 + k = (k + 1) + l by omega, Nat.pow_add]
  apply Nat.mul_le_mul_right
  clear h
  induction k with
  | zero => decide
  | succ k ih => rw [Nat.pow_succ]; omega
def phi (n m : Nat) : Nat := (n - m + 2) * 3 ^ m
theorem prest_ok {x y : List Int} {M : Nat} (hM : 0 < M) (hx : Lead x) (hy : y ≠ []) (kx : Kb (M - 1) x) (ky : Kb (M - 1) y) (hl : y.length ≤ x.length) :
    Lead (prest x y) ∧ (prest x y).length < y.length ∧ Kb (M * (x.length - y.length + 2) - 1) (prest x y) := by
  obtain ⟨a, b, c⟩ := restN_ok hy ky x.length x (M - 1) (Nat.le_refl _) hx kx
  refine ⟨a, b, c.mono ?_⟩
  rw [Nat.sub_add_cancel hM, show x.length + 1 - y.length = x.length - y.length + 1 by omega, Nat.mul_comm _ M]
  have : M * (x.length - y.length + 2) = M * (x.length - y.length + 1) + M := by rw [← Nat.mul_succ]
  omega
theorem phi_next {n m l M T : Nat} (hl : l < m) (h : M * phi n m ≤ T) : M * (n - m + 2) * phi m l ≤ T := by
  refine Nat.le_trans ?_ h
  unfold phi
  rw [Nat.mul_assoc]
  apply Nat.mul_le_mul_left
  apply Nat.mul_le_mul_left
  exact three_pow hl
theorem phi_max {n m c : Nat} (h : m ≤ n) (hn : n ≤ c) : phi n m ≤ 2 * 3 ^ c := by
  have h1 : phi n m ≤ 2 * 3 ^ n := by
    unfold phi
    obtain ⟨k, rfl⟩ : ∃ k, n = m + k := ⟨n - m, by omega⟩
    rw [show m + k - m + 2 = k + 2 by omega, Nat.pow_add, Nat.mul_comm (3 ^ m), ← Nat.mul_assoc]
    apply Nat.mul_le_mul_right
    clear h hn
    induction k with
    | zero => decide
    | succ k ih => rw [Nat.pow_succ]; omega
  exact Nat.le_trans h1 (Nat.mul_le_mul_left _ (Nat.pow_le_pow_right (by decide) hn))
def pder (p : List Int) : List Int := trimL ((List.range (p.length - 1)).map fun j => p.getD (j + 1) 0 * ((j + 1 : Nat) : Int))
theorem getD_pder (p : List Int) (i : Nat) : (pder p).getD i 0 = p.getD (i + 1) 0 * ((i + 1 : Nat) : Int) := by
  unfold pder
  rw [getD_trim, getD_range]
  split
  · rfl
  · rw [getD_end (xs := p) (by omega), Int.zero_mul]
end Go.Ai

namespace Go.Ai
theorem peval_lin {a b : Int} {us bs cs : List Int} (h : ∀ i, cs.getD i 0 = a * us.getD i 0 + b * bs.getD i 0) (x : Int) : peval cs x = a * peval us x + b * peval bs x := by
  have e : peval cs x = peval (padd (psmul a us) (psmul b bs)) x := peval_ext (fun i => by rw [h, getD_padd, getD_psmul, getD_psmul]) x
  rw [e, peval_padd, peval_psmul, peval_psmul]
def shiftP (k : Nat) (q : List Int) : List Int := List.replicate k 0 ++ q
theorem getD_shiftP (k : Nat) (q : List Int) (i : Nat) : (shiftP k q).getD i 0 = if k ≤ i then q.getD (i - k) 0 else 0 := by
  simp only [shiftP, List.getD_eq_getElem?_getD, List.getElem?_append, List.length_replicate]
  split
  · rename_i h
    rw [if_neg (by omega), List.getElem?_replicate_of_lt h]; rfl
  · rename_i h
    rw [if_pos (by omega)]
theorem peval_shiftP (k : Nat) (q : List Int) (x : Int) : peval (shiftP k q) x = x ^ k * peval q x := by
  induction k with
  | zero => simp [shiftP]
  | succ k ih =>
    have : shiftP (k + 1) q = 0 :: shiftP k q := by simp [shiftP, List.replicate_succ]
    rw [this]
    simp only [peval]
    rw [ih, Int.pow_succ]; grind
theorem estN_eval {r d : List Int} (hl : d.length ≤ r.length) (a b x : Int) : peval (estN r d a b r.length) x = a * peval r x - b * (x ^ (r.length - d.length) * peval d x) := by
  rw [← peval_shiftP]
  have := peval_lin (a := a) (b := -b) (us := r) (bs := shiftP (r.length - d.length) d) (cs := estN r d a b r.length) (fun i => by
    rw [getD_estN, getD_shiftP]
    by_cases h : i < r.length
    · rw [if_pos h]; split
      · rw [Int.neg_mul]; omega
      · simp
    · rw [if_neg h, getD_end (show r.length ≤ i by omega)]
      have : d.getD (i - (r.length - d.length)) 0 = 0 := getD_end (by omega)
      split
      · rw [this]; simp
      · simp) x
  rw [this, Int.neg_mul]; omega
theorem getD_pmul_cons (a : Int) (p q : List Int) (i : Nat) : (pmul (a :: p) q).getD i 0 = a * q.getD i 0 + (shiftP 1 (pmul p q)).getD i 0 := by
  simp only [pmul]
  rw [getD_padd, getD_psmul]; rfl
theorem pmul_top : ∀ (p q : List Int), p ≠ [] → q ≠ [] → (pmul p q).getD (p.length + q.length - 2) 0 = top p * top q ∧ ∀ i, p.length + q.length - 1 ≤ i → (pmul p q).getD i 0 = 0
  | [], q, h, _ => absurd rfl h
  | [a], q, _, hq => by
    have hq1 := List.length_pos_iff.2 hq
    refine ⟨?_, fun i hi => ?_⟩
    · rw [getD_pmul_cons, getD_shiftP, show [a].length + q.length - 2 = q.length - 1 by simp; omega]
      simp [pmul, top]
    · rw [getD_pmul_cons, getD_shiftP, getD_end (show q.length ≤ i by simp at hi; omega)]
      simp [pmul]
  | a :: b :: p, q, _, hq => by
    have hq1 := List.length_pos_iff.2 hq
    obtain ⟨h1, h2⟩ := pmul_top (b :: p) q (by simp) hq
    refine ⟨?_, fun i hi => ?_⟩
    · rw [getD_pmul_cons, getD_shiftP, if_pos (by simp; omega)]
      simp only [List.length_cons] at *
      rw [getD_end (show q.length ≤ p.length + 1 + 1 + q.length - 2 by omega), show p.length + 1 + 1 + q.length - 2 - 1 = p.length + 1 + q.length - 2 by omega, h1]
      simp [top]
    · rw [getD_pmul_cons, getD_shiftP]
      simp only [List.length_cons] at *
      rw [getD_end (show q.length ≤ i by omega)]
      split
      · rw [h2 _ (by omega)]; simp
      · simp
theorem peval_zero_of_trim {p : List Int} (h : trimL p = []) (x : Int) : peval p x = 0 := by rw [← peval_trim, h]; rfl
def subAt (r q : List Int) (l : Int) (k : Nat) : List Int := (List.range r.length).map fun i => if k ≤ i then r.getD i 0 - l * q.getD (i - k) 0 else r.getD i 0
theorem getD_subAt (r q : List Int) (l : Int) (k i : Nat) (hk : k + q.length ≤ r.length) : (subAt r q l k).getD i 0 = r.getD i 0 - l * (shiftP k q).getD i 0 := by
  rw [subAt, getD_range, getD_shiftP]
  split
  · split <;> simp
  · rw [getD_end (show r.length ≤ i by omega), getD_end (xs := q) (show q.length ≤ i - k by omega)]; simp
theorem subAt_length (r q : List Int) (l : Int) (k : Nat) : (subAt r q l k).length = r.length := by simp [subAt]
def divN (q : List Int) : Nat → List Int → List Int → List Int
  | 0, _, out => out
  | k + 1, r, out => divN q k (subAt (psmul (top q) r) q (r.getD (k + q.length - 1) 0) k) ((psmul (top q) out).set k (r.getD (k + q.length - 1) 0))
theorem psmul_length (a : Int) (q : List Int) : (psmul a q).length = q.length := by simp [psmul]
theorem divN_ok {p q : List Int} (hq0 : q ≠ []) (ht : 0 < top q) : ∀ (k : Nat) (r out : List Int) (c : Int), 0 < c → k ≤ out.length → out.length + q.length = r.length + 1 → (∀ i, k + q.length - 1 ≤ i → r.getD i 0 = 0) → (∀ i, i < k → out.getD i 0 = 0) →
    (∀ x, c * peval p x = peval q x * peval out x + peval r x) →
    ∃ c' r', 0 < c' ∧ (∀ i, q.length - 1 ≤ i → r'.getD i 0 = 0) ∧ (divN q k r out).length = out.length ∧ ∀ x, c' * peval p x = peval q x * peval (divN q k r out) x + peval r' x := by
  have hql := List.length_pos_iff.2 hq0
  intro k
  induction k with
  | zero =>
    intro r out c hc _ _ hz _ he
    exact ⟨c, r, hc, fun i hi => hz i (by omega), rfl, he⟩
  | succ k ih =>
    intro r out c hc hk hl hz hz2 he
    simp only [divN]
    generalize hlead : r.getD (k + q.length - 1) 0 = l at *
    have hkr : k + q.length ≤ (psmul (top q) r).length := by rw [psmul_length]; omega
    obtain ⟨c', r', a1, a2, a3, a4⟩ := ih (subAt (psmul (top q) r) q l k) ((psmul (top q) out).set k l) (top q * c) (Int.mul_pos ht hc) (by rw [List.length_set, psmul_length]; omega) (by rw [List.length_set, psmul_length, subAt_length, psmul_length]; exact hl)
      (fun i hi => by
        rw [getD_subAt _ _ _ _ _ hkr, getD_psmul, getD_shiftP]
        by_cases h1 : i = k + q.length - 1
        · subst h1
          rw [hlead, if_pos (by omega), show k + q.length - 1 - k = q.length - 1 by omega]
          unfold top; grind
        · rw [hz i (by omega), getD_end (xs := q) (show q.length ≤ i - k by omega)]; simp)
      (fun i hi => by rw [getD_other (by omega), getD_psmul, hz2 i (by omega), Int.mul_zero])
      (fun x => by
        rw [peval_set _ _ _ _ (by rw [psmul_length]; omega), getD_psmul, hz2 k (by omega), peval_psmul]
        have e := peval_lin (a := 1) (b := -l) (us := psmul (top q) r) (bs := shiftP k q) (cs := subAt (psmul (top q) r) q l k) (fun i => by rw [getD_subAt _ _ _ _ _ hkr, Int.neg_mul]; omega) x
        rw [e, peval_psmul, peval_shiftP]
        have := he x
        grind)
    exact ⟨c', r', a1, a2, by rw [a3, List.length_set, psmul_length], a4⟩
theorem divN_start {p q : List Int} (hq0 : q ≠ []) (ht : 0 < top q) (hl : q.length ≤ p.length) : ∃ c' r', 0 < c' ∧ (∀ i, q.length - 1 ≤ i → r'.getD i 0 = 0) ∧ (divN q (p.length - q.length + 1) p (List.replicate (p.length - q.length + 1) 0)).length = p.length - q.length + 1 ∧
    ∀ x, c' * peval p x = peval q x * peval (divN q (p.length - q.length + 1) p (List.replicate (p.length - q.length + 1) 0)) x + peval r' x := by
  have hql := List.length_pos_iff.2 hq0
  have h := divN_ok (p := p) hq0 ht (p.length - q.length + 1) p (List.replicate (p.length - q.length + 1) 0) 1 (by decide) (by simp) (by simp; omega) (fun i hi => getD_end (by omega)) (fun i _ => getD_zeros _ _) (fun x => by rw [peval_zeros]; omega)
  rw [List.length_replicate] at h
  exact h
theorem quot_top {p q o r : List Int} {c : Int} (hc : 0 < c) (hp : 0 < top p) (hq0 : q ≠ []) (ht : 0 < top q) (hl : q.length ≤ p.length) (ho : o.length = p.length - q.length + 1) (h : ∀ x, c * peval p x = peval q x * peval o x + peval r x) (z : ∀ i, q.length - 1 ≤ i → r.getD i 0 = 0) : 0 < top o := by
  have hql := List.length_pos_iff.2 hq0
  have ho0 : o ≠ [] := by intro h0; rw [h0] at ho; simp at ho
  have h3 := (pmul_top q o hq0 ho0).1
  have hev : ∀ x, peval (psmul c p) x = peval (padd (pmul q o) r) x := fun x => by rw [peval_psmul, peval_padd, peval_pmul]; exact h x
  have h4 := peval_inj' hev (p.length - 1)
  rw [getD_psmul, getD_padd, z _ (by omega), show p.length - 1 = q.length + o.length - 2 by omega, h3, Int.add_zero] at h4
  have h5 : 0 < top q * top o := by
    rw [← h4, show q.length + o.length - 2 = p.length - 1 by omega]
    exact Int.mul_pos hc hp
  exact Int.pos_of_mul_pos_right h5 ht |> fun h => h
theorem top_prim_pos {o : List Int} (h : 0 < top o) : 0 < top (prim o) := by
  have hl : Lead o := lead_of (Or.inr (by unfold top at h; omega))
  unfold top
  rw [prim_length, hl, getD_prim]
  have hc : 0 < cont o := cont_pos (by rw [hl]; intro h0; rw [h0] at h; simp [top] at h)
  have hd := prim_mul o (o.length - 1)
  rw [getD_prim] at hd
  unfold top at h
  rw [← hd] at h
  exact Int.pos_of_mul_pos_right h (by omega)
end Go.Ai

namespace Go.Proofs.Ythnnfemologhfaa
open Go.Ai
set_option maxRecDepth 100000
theorem blen_one {n : Nat} : blen n = 1 ↔ n = 1 := by
  unfold blen
  split
  · omega
  · rename_i h
    constructor
    · intro h1
      have h2 : Nat.log2 n = 0 := by omega
      have := (Nat.log2_eq_iff h).1 h2
      omega
    · rintro rfl; decide
theorem blen_gt {n : Nat} : 1 < blen n ↔ 1 < n := by
  have h1 := blen_one (n := n)
  have h0 : blen n = 0 ↔ n = 0 := by unfold blen; split <;> omega
  omega
theorem cn_len (n : Int) : (cn n).2.length = (limbs n.natAbs).length := rfl
theorem drop_vals {rs : List Rn} {n : Nat} (h : n < rs.length) : (vals rs).drop n = rval (rs.getD n z0) :: (vals rs).drop (n + 1) := by
  rw [List.drop_eq_getElem_cons (by rw [vals_length]; exact h)]
  congr 1
  rw [← vals_getD, List.getD_eq_getElem?_getD, List.getElem?_eq_getElem (by rw [vals_length]; exact h)]; rfl
theorem cont_le {K : Nat} {p : List Int} (h : ∀ x ∈ p, Fits K x) : Fits K ((cont p : Nat) : Int) := by
  by_cases h0 : trimL p = []
  · rw [cont_zero.2 (trim_nil.1 h0)]; exact fits_zero K
  · have hc := cont_pos h0
    have : ∃ i, p.getD i 0 ≠ 0 := Classical.byContradiction fun hn => h0 (trim_nil.2 fun i => Classical.byContradiction fun hi => hn ⟨i, hi⟩)
    obtain ⟨i, hi⟩ := this
    have hd := cont_dvd p i
    have hf := fits_getD h i
    unfold Fits at *
    rw [Int.natAbs_natCast]
    have := Nat.le_of_dvd (by omega) (Int.ofNat_dvd_left.1 hd)
    omega
theorem cont_drop {p : List Int} (n : Nat) : cont p ∣ cont (p.drop n) := by
  rw [dvd_cont]
  intro i
  have := cont_dvd p (n + i)
  rw [List.getD_eq_getElem?_getD] at this ⊢
  rwa [List.getElem?_drop]
theorem Try.loop85 {K : Nat} {rs : List Rn} {z : Rn} (hg : ∀ r ∈ rs, Good K r) (hK : K < 1048576) (hN : rs.length ≤ 1048576) : ∀ n, n ≤ rs.length →
    ∃ i', RunsW Try.ir (.loop Try.c85) (Try.s85 rs (cn (cont ((vals rs).drop n) : Nat)) (((n : Nat) : Int) - 1) z) (.exit 0) (Try.s85 rs (cn (cont (vals rs) : Nat)) i' z) := by
  intro n
  induction n with
  | zero =>
    intro _
    rw [List.drop_zero]
    exact ⟨_, RunsW.loop_out (Try.k85_3 rs _ _ z (by simp)) (by intro e; cases e)⟩
  | succ n ih =>
    intro hn
    have e0 : ((n + 1 : Nat) : Int) - 1 = ((n : Nat) : Int) := by omega
    have e1 : IntKind.i64.wrap (((n : Nat) : Int) - 1) = ((n : Nat) : Int) - 1 := w64 (by omega) (by omega)
    have hf : Fits K ((cont ((vals rs).drop (n + 1)) : Nat) : Int) := cont_le fun x hx => fits_vals hg x (List.mem_of_mem_drop hx)
    have hl := hf.len
    have hb := wbits_run (neg := (cn (cont ((vals rs).drop (n + 1)) : Nat)).1) (xs := (cn (cont ((vals rs).drop (n + 1)) : Nat)).2) (big_u32 _) (by rw [cn_len]; omega)
    rw [show rv (cn (cont ((vals rs).drop (n + 1)) : Nat)).1 (cn (cont ((vals rs).drop (n + 1)) : Nat)).2 = (cont ((vals rs).drop (n + 1)) : Nat) from rval_cn _, Int.natAbs_natCast] at hb
    rw [e0]
    by_cases h1 : cont ((vals rs).drop (n + 1)) = 1
    · have hc : cont (vals rs) = 1 := by
        have := cont_drop (p := vals rs) (n + 1)
        rw [h1] at this
        exact Nat.dvd_one.1 this
      rw [h1] at hb ⊢
      rw [hc]
      exact ⟨_, RunsW.loop_out (Try.k85_2 rs _ (n : Nat) z _ (by simp) (by decide) hb) (by intro e; cases e)⟩
    · obtain ⟨g1, g2⟩ := good_getD hg n
      have hgc := wgcd_run (na := (cn (cont ((vals rs).drop (n + 1)) : Nat)).1) (nb := (rs.getD n z0).1) (xs := (cn (cont ((vals rs).drop (n + 1)) : Nat)).2) (ys := (rs.getD n z0).2) (big_u32 _) g1 (by rw [cn_len]; omega) (by omega)
      rw [show rv (cn (cont ((vals rs).drop (n + 1)) : Nat)).1 (cn (cont ((vals rs).drop (n + 1)) : Nat)).2 = (cont ((vals rs).drop (n + 1)) : Nat) from rval_cn _, show rv (rs.getD n z0).1 (rs.getD n z0).2 = rval (rs.getD n z0) from rfl] at hgc
      have hstep : (Int.gcd ((cont ((vals rs).drop (n + 1)) : Nat) : Int) (rval (rs.getD n z0))) = cont ((vals rs).drop n) := by
        rw [drop_vals (n := n) (by omega), cont, Int.gcd, Int.natAbs_natCast, Nat.gcd_comm]
      rw [hstep] at hgc
      have k1 := Try.k85_1 rs (cn (cont ((vals rs).drop (n + 1)) : Nat)) (n : Nat) z _ _ (by simp) (by
        rw [bne_iff_ne]
        have := blen_one (n := cont ((vals rs).drop (n + 1)))
        omega) (by omega) hb (by rw [Int.toNat_natCast]; exact hgc)
      rw [e1] at k1
      obtain ⟨i', h⟩ := ih (by omega)
      exact ⟨i', RunsW.loop k1 h⟩
theorem acontent_run {K : Nat} {rs : List Rn} (hg : ∀ r ∈ rs, Good K r) (hK : K < 1048576) (hN : rs.length ≤ 1048576) : Runs Try.ir 85 [.sl rs.length (pc rs)] (bigAV (cont (vals rs) : Nat)) := by
  obtain ⟨i', h⟩ := Try.loop85 (z := z0) hg hK hN rs.length (Nat.le_refl _)
  rw [show (vals rs).drop rs.length = [] by rw [← vals_length, List.drop_length], show cn ((cont [] : Nat) : Int) = z0 from rfl] at h
  exact Try.run85 rs (cn (cont (vals rs) : Nat)) z0 i' (by rw [w64 (by omega) (by omega)]; exact h)
theorem tdiv_exact {x g : Int} (hg : 0 < g) (h : g ∣ x) : Int.tdiv x g = x / g := by
  obtain ⟨y, rfl⟩ := h
  rw [Int.mul_tdiv_cancel_left _ (by omega), Int.mul_ediv_cancel_left _ (by omega)]
theorem aprimitive_run {K : Nat} {rs : List Rn} (hg : ∀ r ∈ rs, Good K r) (hK : K < 1048576) (hN : rs.length ≤ 1048576) : Runs Try.ir 86 [.sl rs.length (pc rs)] (.fresh 2 (prim (vals rs)).length (pk (prim (vals rs)))) := by
  have ht := atrim_run (fun r h => (hg r h).mono (show K ≤ 1048576 by omega)) hN
  have hfT : ∀ x ∈ trimL (vals rs), Fits K x := fits_mem_trim (fits_vals hg)
  have gts := good_cns hfT
  have hvs := vals_cn (trimL (vals rs))
  have hll := trim_len (vals rs)
  rw [vals_length] at hll
  have hpk : pk (trimL (vals rs)) = pc ((trimL (vals rs)).map cn) := rfl
  rw [hpk, ← List.length_map (f := cn)] at ht
  have hlm : ((trimL (vals rs)).map cn).length = (trimL (vals rs)).length := List.length_map ..
  have hc := acontent_run gts hK (by omega)
  rw [hvs, cont_trim] at hc
  have hfc : Fits K ((cont (vals rs) : Nat) : Int) := cont_le (fits_vals hg)
  have hlc := hfc.len
  have hb := wbits_run (neg := (cn (cont (vals rs) : Nat)).1) (xs := (cn (cont (vals rs) : Nat)).2) (big_u32 _) (by rw [cn_len]; omega)
  rw [show rv (cn (cont (vals rs) : Nat)).1 (cn (cont (vals rs) : Nat)).2 = (cont (vals rs) : Nat) from rval_cn _, Int.natAbs_natCast] at hb
  by_cases h1 : 1 < cont (vals rs)
  · have hgd : ∀ t, rval (((trimL (vals rs)).map cn).getD t z0) = (trimL (vals rs)).getD t 0 := fun t => by rw [← vals_getD, hvs]
    have key : ∀ ts : List Rn, ts.length = (trimL (vals rs)).length → (∀ r ∈ ts, Good K r) → (∀ t, rval (ts.getD t z0) = (trimL (vals rs)).getD t 0) →
        RunsW Try.ir (.loop Try.c86) (Try.s86 ts.length ts (cn (cont (vals rs) : Nat)) (ts.length : Nat) 0) (.exit 0) (Try.s86 ts.length ((prim (vals rs)).map cn) (cn (cont (vals rs) : Nat)) (ts.length : Nat) (ts.length : Nat)) := by
      intro ts hl gt hv
      have hlp : ((prim (vals rs)).map cn).length = ts.length := by rw [List.length_map, prim_length, hl]
      have h := RunsW.up (prog := Try.ir) (c := Try.c86) (ex := .exit 0) (fin := Try.s86 ts.length ((prim (vals rs)).map cn) (cn (cont (vals rs) : Nat)) (ts.length : Nat) (ts.length : Nat))
        (fun i => Try.s86 ts.length (((prim (vals rs)).map cn).take i ++ ts.drop i) (cn (cont (vals rs) : Nat)) (ts.length : Nat) (i : Nat)) ts.length (by intro e; cases e) ?_ ?_ 0 (Nat.zero_le _)
      · exact h
      · intro i hi
        have ei : IntKind.i64.wrap (((i : Nat) : Int) + 1) = ((i + 1 : Nat) : Int) := by rw [w64 (by omega) (by omega)]; omega
        have hlen : (((prim (vals rs)).map cn).take i ++ ts.drop i).length = ts.length := by rw [List.length_append, List.length_take, List.length_drop]; omega
        have hget : (((prim (vals rs)).map cn).take i ++ ts.drop i).getD i z0 = ts.getD i z0 := by
          rw [List.getD_eq_getElem?_getD, List.getD_eq_getElem?_getD, List.getElem?_append_right (by rw [List.length_take]; omega), List.length_take, List.getElem?_drop]
          congr 2; omega
        obtain ⟨g1, g2⟩ := good_getD gt i
        have hq := wquo_run (na := (ts.getD i z0).1) (nb := (cn (cont (vals rs) : Nat)).1) (xs := (ts.getD i z0).2) (ys := (cn (cont (vals rs) : Nat)).2) g1 (big_u32 _) (by rw [show rv (cn (cont (vals rs) : Nat)).1 (cn (cont (vals rs) : Nat)).2 = (cont (vals rs) : Nat) from rval_cn _]; omega) (by omega) (by rw [cn_len]; omega)
        rw [show rv (cn (cont (vals rs) : Nat)).1 (cn (cont (vals rs) : Nat)).2 = (cont (vals rs) : Nat) from rval_cn _, show rv (ts.getD i z0).1 (ts.getD i z0).2 = rval (ts.getD i z0) from rfl, hv, getD_trim] at hq
        have k := Try.k86_1 ts.length (((prim (vals rs)).map cn).take i ++ ts.drop i) (cn (cont (vals rs) : Nat)) (ts.length : Nat) (i : Nat) _ _ (by simp; omega) (by omega) hlen (by rw [Int.toNat_natCast, hget]; exact hq)
        refine k.to rfl ?_
        rw [ei, Int.toNat_natCast, tdiv_exact (by omega) (cont_dvd (vals rs) i), ← getD_prim]
        congr 1
        apply List.ext_getElem?
        intro t
        have hpi : ((prim (vals rs)).map cn)[i]? = some (cn ((prim (vals rs)).getD i 0)) := by
          rw [List.getElem?_map, List.getD_eq_getElem?_getD, List.getElem?_eq_getElem (by rw [List.length_map] at hlp; omega)]; rfl
        rcases Nat.lt_trichotomy t i with g | g | g
        · rw [List.getElem?_set_ne (by omega), List.getElem?_append_left (by rw [List.length_take]; omega), List.getElem?_append_left (by rw [List.length_take]; omega), List.getElem?_take_of_lt g, List.getElem?_take_of_lt (by omega)]
        · subst g
          rw [List.getElem?_set_self (by omega), List.getElem?_append_left (by rw [List.length_take]; omega), List.getElem?_take_of_lt (by omega), hpi]
        · rw [List.getElem?_set_ne (by omega), List.getElem?_append_right (by rw [List.length_take]; omega), List.getElem?_append_right (by rw [List.length_take]; omega), List.length_take, List.length_take, List.getElem?_drop, List.getElem?_drop]
          congr 1; omega
      · rw [List.take_of_length_le (by omega), List.drop_length, List.append_nil]
        exact Try.k86_2 ts.length _ _ (ts.length : Nat) (ts.length : Nat) (by simp)
    have hl := key _ hlm gts hgd
    have h := Try.run86_1 rs ((trimL (vals rs)).map cn) _ _ _ _ _ _ _ (by rw [decide_eq_true_eq]; have := (blen_gt (n := cont (vals rs))).2 h1; omega) ht (pc_noI _) (big_intsOnly _) hc hb hl
    rw [hlm, ← prim_length] at h
    exact h
  · have h := Try.run86_2 rs ((trimL (vals rs)).map cn) _ _ (by rw [decide_eq_false_iff_not]; have := (blen_gt (n := cont (vals rs))).1; omega) ht (pc_noI _) (big_intsOnly _) hc hb
    have hp : prim (vals rs) = trimL (vals rs) := by
      rcases Nat.eq_zero_or_pos (cont (vals rs)) with g | g
      · rw [prim_nil.2 (cont_zero.1 g), trim_nil.2 (cont_zero.1 g)]
      · exact prim_one (by omega)
    rw [hp]
    rw [hlm] at h
    exact h
theorem last_getD (rs : List Rn) : rval (rs.getD (rs.length - 1) z0) = top (vals rs) := by unfold top; rw [vals_getD, vals_length]
theorem apositive_run {rs : List Rn} (hg : ∀ r ∈ rs, Good 1048576 r) (hN : rs.length ≤ 1048576) : 
    (top (vals rs) < 0 → Runs Try.ir 115 [.sl rs.length (pc rs)] (.fresh 2 rs.length (pk (pneg (vals rs))))) ∧ (¬ top (vals rs) < 0 → Runs Try.ir 115 [.sl rs.length (pc rs)] (.sl rs.length (pc rs))) := by
  by_cases h0 : 0 < rs.length
  · have e1 : IntKind.i64.wrap (((rs.length : Nat) : Int) - 1) = ((rs.length - 1 : Nat) : Int) := by rw [w64 (by omega) (by omega)]; omega
    obtain ⟨g1, g2⟩ := good_getD hg (rs.length - 1)
    have hs := wsign_run (neg := (rs.getD (rs.length - 1) z0).1) g1 g2
    rw [show rv (rs.getD (rs.length - 1) z0).1 (rs.getD (rs.length - 1) z0).2 = rval (rs.getD (rs.length - 1) z0) from rfl, last_getD] at hs
    refine ⟨fun h => ?_, fun h => ?_⟩
    · have hn := anegative_run hg hN
      have hpk : pk (pneg (vals rs)) = pc ((pneg (vals rs)).map cn) := rfl
      have hll : ((pneg (vals rs)).map cn).length = rs.length := by rw [List.length_map, pneg_len, vals_length]
      rw [hpk] at hn ⊢
      rw [← hll] at hn ⊢
      have hn' : Runs Try.ir 127 [.sl rs.length (pc rs)] (.fresh 2 ((pneg (vals rs)).map cn).length (pc ((pneg (vals rs)).map cn))) := by
        have := anegative_run hg hN
        rw [hll]; exact this
      rw [hll]
      have k := Try.run115_1 rs ((pneg (vals rs)).map cn) (sgnI (top (vals rs))) (by simp; omega) (by unfold sgnI; rw [if_pos h]; rfl) (by rw [e1]; omega) (by rw [e1, Int.toNat_natCast]; exact hs) hn'
      rw [hll] at k
      exact k
    · exact Try.run115_2 rs (sgnI (top (vals rs))) (by simp; omega) (by unfold sgnI; rw [if_neg h]; split <;> rfl) (by rw [e1]; omega) (by rw [e1, Int.toNat_natCast]; exact hs)
  · have hz : rs = [] := List.eq_nil_of_length_eq_zero (by omega)
    subst hz
    refine ⟨fun h => absurd h (by decide), fun _ => Try.run115_3 [] (by decide)⟩
theorem aderived_run {K : Nat} {rs : List Rn} (hg : ∀ r ∈ rs, Good K r) (hK : K + 2 ≤ 1048576) (hN : rs.length ≤ 1048576) : Runs Try.ir 75 [.sl rs.length (pc rs)] (.fresh 2 (pder (vals rs)).length (pk (pder (vals rs)))) := by
  have hd := degree_run (fun r h => (hg r h).mono (show K ≤ 1048576 by omega)) hN
  have hle := topN_le (vals rs) rs.length
  have hl := RunsW.up (prog := Try.ir) (c := Try.c75) (ex := .exit 0) (fin := Try.s75 rs (topN (vals rs) rs.length - 1) (pc ((List.range (topN (vals rs) rs.length - 1)).map fun j => cn (rval (rs.getD (j + 1) z0) * ((j + 1 : Nat) : Int)))) ((topN (vals rs) rs.length - 1 + 1 : Nat) : Int))
    (fun i => Try.s75 rs i (pc ((List.range i).map fun j => cn (rval (rs.getD (j + 1) z0) * ((j + 1 : Nat) : Int)))) ((i + 1 : Nat) : Int)) (topN (vals rs) rs.length - 1) (by intro e; cases e) ?_ ?_ 0 (Nat.zero_le _)
  · have hfit : ∀ r ∈ (List.range (topN (vals rs) rs.length - 1)).map (fun j => cn (rval (rs.getD (j + 1) z0) * ((j + 1 : Nat) : Int))), Good 1048576 r := by
      intro r hr
      obtain ⟨j, hj, rfl⟩ := List.mem_map.1 hr
      rw [List.mem_range] at hj
      have h2 : Fits 2 ((j + 1 : Nat) : Int) := fits_i64 (by omega)
      exact (good_cn ((good_getD hg (j + 1)).fits.mul h2)).mono (by omega)
    have ht := atrim_run hfit (by rw [List.length_map, List.length_range]; omega)
    have hlen : ((List.range (topN (vals rs) rs.length - 1)).map (fun j => cn (rval (rs.getD (j + 1) z0) * ((j + 1 : Nat) : Int)))).length = topN (vals rs) rs.length - 1 := by rw [List.length_map, List.length_range]
    have e : trimL (vals ((List.range (topN (vals rs) rs.length - 1)).map (fun j => cn (rval (rs.getD (j + 1) z0) * ((j + 1 : Nat) : Int))))) = pder (vals rs) := by
      unfold pder
      apply trim_ext
      intro i
      rw [vals_range, getD_range, rval_cn, vals_getD, vals_length]
      by_cases h1 : i < topN (vals rs) rs.length - 1
      · rw [if_pos h1, if_pos (by omega)]
      · rw [if_neg h1]
        split
        · have : rval (rs.getD (i + 1) z0) = 0 := by rw [← vals_getD]; exact topN_zero (vals rs) rs.length (i + 1) (by omega) (by omega)
          rw [this, Int.zero_mul]
        · rfl
    rw [e, hlen] at ht
    have hpk : pk (pder (vals rs)) = pc ((pder (vals rs)).map cn) := rfl
    rw [hpk, ← List.length_map (f := cn)] at ht ⊢
    exact Try.run75 rs _ _ _ _ hl ht
  · intro i hi
    have ei : IntKind.i64.wrap (((i + 1 : Nat) : Int) + 1) = ((i + 1 + 1 : Nat) : Int) := by rw [w64 (by omega) (by omega)]; omega
    obtain ⟨g1, g2⟩ := good_getD hg (i + 1)
    have ho := wof_run (n := ((i + 1 : Nat) : Int)) (by omega)
    have hfi : Fits 2 ((i + 1 : Nat) : Int) := fits_i64 (by omega)
    have hm := wmul_run (na := (rs.getD (i + 1) z0).1) (nb := decide (((i + 1 : Nat) : Int) < 0)) (xs := (rs.getD (i + 1) z0).2) (ys := limbs ((i + 1 : Nat) : Int).natAbs) g1 (big_u32 _) (by have := hfi.len; omega)
    rw [rv_big] at hm
    have k := Try.k75_1 rs i (pc ((List.range i).map fun j => cn (rval (rs.getD (j + 1) z0) * ((j + 1 : Nat) : Int)))) ((i + 1 : Nat) : Int) (((topN (vals rs) rs.length : Nat) : Int) - 1) (rval (rs.getD (i + 1) z0) * ((i + 1 : Nat) : Int)) (by simp; omega) (by omega) (by omega) hd ho (by rw [Int.toNat_natCast]; exact hm)
    refine k.to rfl ?_
    rw [ei]
    congr 1
    rw [List.range_succ, List.map_append, pc_append]
    rfl
  · exact Try.k75_2 rs _ _ _ _ (by rw [decide_eq_false_iff_not]; omega) hd
def TRB : Table := TRA
theorem TRB_holds : THolds Try.ir TRB := TRA_holds
end Go.Proofs.Ythnnfemologhfaa
