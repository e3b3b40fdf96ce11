/- Texts of the proof of PolyFree, packed by pack.py: part 11 of 19. -/
import Derived.Test.YthnnfemologhfaaPfr10
namespace Go.Proofs.Ythnnfemologhfaa
open Go.Ai
set_option maxRecDepth 100000
theorem Try.run110 (b1 b2 na nb : Bool) (xs ys as1 bs qs rs : List Int) (v w : Int) (n1 : Runs Try.ir 122 [.agg [.bool b1, .sl xs.length (lm xs)]] (.tup [.bool na, .sl as1.length (lm as1)]))
    (n2 : Runs Try.ir 122 [.agg [.bool b2, .sl ys.length (lm ys)]] (.tup [.bool nb, .sl bs.length (lm bs)]))
    (n3 : Runs Try.ir 147 [.sl as1.length (lm as1), .sl bs.length (lm bs)] (.tup [.sl qs.length (lm qs), .sl rs.length (lm rs)]))
    (n4 : Runs Try.ir 133 [.bool (!(na == nb)), .sl qs.length (lm qs)] (bigAV v))
    (n5 : Runs Try.ir 133 [.bool na, .sl rs.length (lm rs)] (bigAV w)) : Runs Try.ir 110 [.agg [.bool b1, .sl xs.length (lm xs)], .agg [.bool b2, .sl ys.length (lm ys)]] (.tup [bigAV v, bigAV w]) :=
  Runs.go (fn := Try.i110) TQB_holds rfl 400 rfl [.r (.tup [.bool na, .sl as1.length (lm as1)]), .r (.tup [.bool nb, .sl bs.length (lm bs)]), .r (.tup [.sl qs.length (lm qs), .sl rs.length (lm rs)]), .r (bigAV v), .r (bigAV w)] (ac n1 (ac n2 (ac n3 (ac n4 (ac n5 a0))))) (by kernel_rfl)
def Try.c146 : ICode := .seq (.region false [oB 10 .lss 9 8])
  (.seq (.cond (.t 10) (.skip)
  (.exit 0))
  (.seq (.block 1 (.seq (.region false [oM 11 9,
   o1 12 (.ixa 7 (.t 9) 1),
   o1 13 (.ld 12 12 1 true),
   oM 4 11,
   oM 5 13])
  (.region false [oM 14 3,
   oM 15 5,
   o1 16 (.cv .u64 (.t 15)),
   oM 17 4,
   o1 18 (.bin .mul (.c (.int .i64 32)) (.t 17)),
   o1 19 (.cv .u64 (.t 18)),
   oB 20 .shl 16 19,
   oB 21 .or 14 20,
   oM 3 21])))
  (.region false [o1 22 (.bin .add (.t 9) (.c (.int .i64 1))),
   oM 9 22])))
def Try.s146 (xs : List Int) (v : Int) (n : Int) (i : Int) : State := (dds 3 (.val (.int .u64 v) :: (dds 3 (.val (.sl xs.length (lm xs)) :: (.val (.int .i64 n) :: (.val (.int .i64 i) :: (dds 14 [])))))))
theorem Try.k146_1 (xs : List Int) (v : Int) (n : Int) (i : Int)  (c1 : (decide (i < n)) = true)
    (n1 : 0 ≤ i ∧ i < ((xs.length : Nat) : Int))
    (n2 : ¬ (IntKind.u64.wrap (IntKind.i64.wrap (32 * i))) < 0) : RunsW Try.ir Try.c146 (Try.s146 xs v n i) .norm (Try.s146 xs (IntKind.u64.wrap ((BitVec.ofInt (IntKind.bits .u64) v ||| BitVec.ofInt (IntKind.bits .u64) (IntKind.u64.wrap ((IntKind.u64.wrap (xs.getD (Int.toNat i) 0)) * 2 ^ (min (Int.toNat (IntKind.u64.wrap (IntKind.i64.wrap (32 * i)))) (IntKind.bits .u64))))).toNat)) n (IntKind.i64.wrap (i + 1))) :=
  (RunsW.go TQB_holds 400 [.b true, .v (.int .u32 (xs.getD (Int.toNat i) 0))] [3, 7, 8, 9] (ac c1 (ac n1 (ac (show takeA (List.drop (Int.toNat i * 1) (lm xs)) 0 1 true = some (.int .u32 (xs.getD (Int.toNat i) 0)) from (take_limI n1)) (ac n2 a0)))) (by kernel_rfl))
theorem Try.k146_2 (xs : List Int) (v : Int) (n : Int) (i : Int)  (c1 : (decide (i < n)) = false) : RunsW Try.ir Try.c146 (Try.s146 xs v n i) (.exit 0) (Try.s146 xs v n i) :=
  (RunsW.go TQB_holds 400 [.b false] [3, 7, 8, 9] (ac c1 a0) (by kernel_rfl))
theorem Try.run146 (n : Bool) (xs : List Int) (v i m : Int) (hl1 : RunsW Try.ir (.loop Try.c146) (Try.s146 xs 0 ((xs.length : Nat) : Int) 0) (.exit 0) (Try.s146 xs v m i)) : Runs Try.ir 146 [.agg [.bool n, .sl xs.length (lm xs)]] (.int .u64 v) :=
  Runs.of_bodyW (fn := Try.i146) (s := (dds 2 (.val (.int .u64 v) :: (dds 21 [])))) (ex := .ret) rfl rfl
    (RunsW.seq (RunsW.go (t := (.val (.agg [.bool n, .sl xs.length (lm xs)]) :: (.box [.bool n, .sl xs.length (lm xs)] :: (.val (.int .u64 0) :: (dds 21 []))))) (ex := .norm) TQB_holds 400 [] [0, 1, 2] a0 (by kernel_rfl))
    (RunsW.seq (RunsW.go (t := (.val (.agg [.bool n, .sl xs.length (lm xs)]) :: (.box [.bool n, .sl xs.length (lm xs)] :: (.val (.int .u64 0) :: (.val (.int .u64 0) :: (dds 20 [])))))) (ex := .norm) TQB_holds 400 [] [0, 1, 2, 3] a0 (by kernel_rfl))
    (RunsW.seq (RunsW.seq (RunsW.go TQB_holds 400 [] [3, 7, 8, 9] a0 (by kernel_rfl))
    (RunsW.block hl1))
    (RunsW.go TQB_holds 400 [] [2] a0 (by kernel_rfl))))) (by intro i e; cases e) rfl
theorem Try.run144 (n v : Int) (n1 : Runs Try.ir 133 [.bool false, .sl 2 [.int .u32 (IntKind.u32.wrap n), .int .u32 (IntKind.u32.wrap (Int.fdiv n (2 ^ (min (Int.toNat 32) (IntKind.bits .u64)))))]] (bigAV v)) : Runs Try.ir 144 [.int .u64 n] (bigAV v) :=
  Runs.go (fn := Try.i144) TQB_holds rfl 400 rfl [.r (bigAV v)] (ac (show ¬ (32 : Int) < 0 from (by decide)) (ac n1 a0)) (by kernel_rfl)
def Try.c145 : ICode := .seq (.seq (.region false [oM 5 1,
   o1 6 (.bin .gtr (.t 5) (.c (.int .u64 0)))])
  (.cond (.t 6) (.skip)
  (.exit 0)))
  (.block 1 (.region true [oM 7 1,
   oM 8 0,
   oM 9 1,
   oB 10 .rem 8 9,
   oM 0 7,
   oM 1 10]))
def Try.s145 (a : Int) (b : Int) : State := (.val (.int .u64 a) :: (.val (.int .u64 b) :: (dds 10 [])))
theorem Try.k145_1 (a : Int) (b : Int)  (c1 : (decide (b > 0)) = true)
    (n1 : ¬ b = 0) : RunsW Try.ir Try.c145 (Try.s145 a b) .norm (Try.s145 b (Int.tmod a b)) :=
  (RunsW.go TQB_holds 400 [.b true] [0, 1] (ac c1 (ac n1 a0)) (by kernel_rfl))
theorem Try.k145_2 (a : Int) (b : Int)  (c1 : (decide (b > 0)) = false) : RunsW Try.ir Try.c145 (Try.s145 a b) (.exit 0) (Try.s145 a b) :=
  (RunsW.go TQB_holds 400 [.b false] [0, 1] (ac c1 a0) (by kernel_rfl))
theorem Try.run145 (a b a1 b1 : Int) (hl1 : RunsW Try.ir (.loop Try.c145) (Try.s145 a b) (.exit 0) (Try.s145 a1 b1)) : Runs Try.ir 145 [.int .u64 a, .int .u64 b] (.int .u64 a1) :=
  Runs.of_bodyW (fn := Try.i145) (s := (dds 4 (.val (.int .u64 a1) :: (dds 7 [])))) (ex := .ret) rfl rfl
    (RunsW.seq (RunsW.go TQB_holds 400 [] [0, 1] a0 (by kernel_rfl))
    (RunsW.seq (RunsW.block hl1)
    (RunsW.go TQB_holds 400 [] [4] a0 (by kernel_rfl)))) (by intro i e; cases e) rfl
def Try.c109 : ICode := .seq (.seq (.region false [o1 13 (.adr 6 6 1),
   o1 14 (.ld 13 6 1 true),
   o1 15 (.len (.t 14)),
   o1 16 (.bin .gtr (.t 15) (.c (.int .i64 0)))])
  (.cond (.t 16) (.skip)
  (.exit 0)))
  (.block 1 (.seq (.seq (.region false [o1 17 (.adr 5 5 1),
   o1 18 (.ld 17 5 1 true),
   o1 19 (.len (.t 18)),
   o1 20 (.bin .leq (.t 19) (.c (.int .i64 2))),
   oM 21 20,
   oG 22 (.adr 6 6 1) 21 true,
   oG 23 (.ld 22 6 1 true) 21 true,
   oG 24 (.len (.t 23)) 21 true,
   oG 25 (.bin .leq (.t 24) (.c (.int .i64 2))) 21 true,
   o1 26 (.pick (.t 21) (.t 25) (.c (.bool false)))])
  (.cond (.t 26) (.seq (.region true [o1 27 (.ld 5 5 2 false),
   oC 28 146 [27],
   o1 29 (.ld 6 6 2 false),
   oC 30 146 [29],
   oC 31 145 [28, 30],
   oC 32 144 [31],
   oN (.st 4 4 2 (.t 32))])
  (.ret))
  (.skip)))
  (.seq (.region false [o1 34 (.ld 5 5 2 false),
   o1 35 (.ld 6 6 2 false),
   oC 36 110 [34, 35],
   oM 33 36,
   o1 37 (.ext (.t 33) 0),
   o1 38 (.ext (.t 33) 1),
   o1 7 (.new [.bool false, .sl 0 []] []),
   o1 8 (.new [.bool false, .sl 0 []] []),
   oN (.st 7 7 2 (.t 37)),
   oN (.st 8 8 2 (.t 38))])
  (.region true [o1 39 (.ld 6 6 2 false),
   o1 40 (.ld 8 8 2 false),
   oN (.st 5 5 2 (.t 39)),
   oN (.st 6 6 2 (.t 40))]))))
def Try.s109 (x : Rn) (y : Rn) (z : Rn) : State := (dds 4 (.box [.bool z.1, .sl z.2.length (lm z.2)] :: (.box [.bool x.1, .sl x.2.length (lm x.2)] :: (.box [.bool y.1, .sl y.2.length (lm y.2)] :: (dds 35 [])))))
theorem Try.k109_1 (x : Rn) (y : Rn) (z : Rn) (ua ub ug g : Int) (c1 : (decide (((y.2.length : Nat) : Int) > 0)) = true)
    (c2 : (decide (((x.2.length : Nat) : Int) ≤ 2)) = true)
    (c3 : (decide (((y.2.length : Nat) : Int) ≤ 2)) = true)
    (n1 : Runs Try.ir 146 [rawAV x] (.int .u64 ua))
    (n2 : Runs Try.ir 146 [rawAV y] (.int .u64 ub))
    (n3 : Runs Try.ir 145 [.int .u64 ua, .int .u64 ub] (.int .u64 ug))
    (n4 : Runs Try.ir 144 [.int .u64 ug] (bigAV g)) : RunsW Try.ir Try.c109 (Try.s109 x y z) .ret (Try.s109 x y (cn g)) :=
  (RunsW.go TQB_holds 400 [.b true, .b true, .b true, .r (.int .u64 ua), .r (.int .u64 ub), .r (.int .u64 ug), .r (bigAV g)] [4, 5, 6] (ac c1 (ac c2 (ac c3 (ac n1 (ac n2 (ac n3 (ac n4 a0))))))) (by kernel_rfl))
theorem Try.k109_2 (x : Rn) (y : Rn) (z : Rn) (q r : Int) (c1 : (decide (((y.2.length : Nat) : Int) > 0)) = true)
    (c2 : (decide (((x.2.length : Nat) : Int) ≤ 2)) = true)
    (c3 : (decide (((y.2.length : Nat) : Int) ≤ 2)) = false)
    (n1 : Runs Try.ir 110 [rawAV x, rawAV y] (.tup [bigAV q, bigAV r])) : RunsW Try.ir Try.c109 (Try.s109 x y z) .norm (Try.s109 y (cn r) z) :=
  (RunsW.go TQB_holds 400 [.b true, .b true, .b false, .r (.tup [bigAV q, bigAV r])] [4, 5, 6] (ac c1 (ac c2 (ac c3 (ac n1 a0)))) (by kernel_rfl))
theorem Try.k109_3 (x : Rn) (y : Rn) (z : Rn) (q r : Int) (c1 : (decide (((y.2.length : Nat) : Int) > 0)) = true)
    (c2 : (decide (((x.2.length : Nat) : Int) ≤ 2)) = false)
    (n1 : Runs Try.ir 110 [rawAV x, rawAV y] (.tup [bigAV q, bigAV r])) : RunsW Try.ir Try.c109 (Try.s109 x y z) .norm (Try.s109 y (cn r) z) :=
  (RunsW.go TQB_holds 400 [.b true, .b false, .b false, .r (.tup [bigAV q, bigAV r])] [4, 5, 6] (ac c1 (ac c2 (ac (show false = false from rfl) (ac n1 a0)))) (by kernel_rfl))
theorem Try.k109_4 (x : Rn) (y : Rn) (z : Rn)  (c1 : (decide (((y.2.length : Nat) : Int) > 0)) = false) : RunsW Try.ir Try.c109 (Try.s109 x y z) (.exit 0) (Try.s109 x y z) :=
  (RunsW.go TQB_holds 400 [.b false] [4, 5, 6] (ac c1 a0) (by kernel_rfl))
theorem Try.run109_n (b1 b2 : Bool) (xs ys : List Int) (v w : Int) (x y z : Rn) (n1 : Runs Try.ir 111 [.agg [.bool b1, .sl xs.length (lm xs)]] (bigAV v))
    (n2 : Runs Try.ir 111 [.agg [.bool b2, .sl ys.length (lm ys)]] (bigAV w))
    (hl3 : RunsW Try.ir (.loop Try.c109) (Try.s109 (cn v) (cn w) (false, [])) (.exit 0) (Try.s109 x y z)) : Runs Try.ir 109 [.agg [.bool b1, .sl xs.length (lm xs)], .agg [.bool b2, .sl ys.length (lm ys)]] (rawAV x) :=
  Runs.of_bodyW (fn := Try.i109) (s := (dds 4 (.box [.bool x.1, .sl x.2.length (lm x.2)] :: (dds 37 [])))) (ex := .ret) rfl rfl
    (RunsW.seq (RunsW.go (t := (.val (.agg [.bool b1, .sl xs.length (lm xs)]) :: (.val (.agg [.bool b2, .sl ys.length (lm ys)]) :: (.box [.bool b1, .sl xs.length (lm xs)] :: (.box [.bool b2, .sl ys.length (lm ys)] :: (.box [.bool false, .sl 0 []] :: (dds 37 []))))))) (ex := .norm) TQB_holds 400 [] [0, 1, 2, 3, 4] a0 (by kernel_rfl))
    (RunsW.seq (RunsW.go TQB_holds 400 [.r (bigAV v), .r (bigAV w)] [4, 5, 6] (ac n1 (ac n2 a0)) (by kernel_rfl))
    (RunsW.seq (RunsW.block hl3)
    (RunsW.go TQB_holds 400 [] [4] a0 (by kernel_rfl))))) (by intro i e; cases e) rfl
theorem Try.run109_r (b1 b2 : Bool) (xs ys : List Int) (v w : Int) (x y z : Rn) (n1 : Runs Try.ir 111 [.agg [.bool b1, .sl xs.length (lm xs)]] (bigAV v))
    (n2 : Runs Try.ir 111 [.agg [.bool b2, .sl ys.length (lm ys)]] (bigAV w))
    (hl3 : RunsW Try.ir (.loop Try.c109) (Try.s109 (cn v) (cn w) (false, [])) .ret (Try.s109 x y z)) : Runs Try.ir 109 [.agg [.bool b1, .sl xs.length (lm xs)], .agg [.bool b2, .sl ys.length (lm ys)]] (rawAV z) :=
  Runs.of_bodyW (fn := Try.i109) (s := (dds 4 (.box [.bool z.1, .sl z.2.length (lm z.2)] :: (.box [.bool x.1, .sl x.2.length (lm x.2)] :: (.box [.bool y.1, .sl y.2.length (lm y.2)] :: (dds 35 [])))))) (ex := .ret) rfl rfl
    (RunsW.seq (RunsW.go (t := (.val (.agg [.bool b1, .sl xs.length (lm xs)]) :: (.val (.agg [.bool b2, .sl ys.length (lm ys)]) :: (.box [.bool b1, .sl xs.length (lm xs)] :: (.box [.bool b2, .sl ys.length (lm ys)] :: (.box [.bool false, .sl 0 []] :: (dds 37 []))))))) (ex := .norm) TQB_holds 400 [] [0, 1, 2, 3, 4] a0 (by kernel_rfl))
    (RunsW.seq (RunsW.go TQB_holds 400 [.r (bigAV v), .r (bigAV w)] [4, 5, 6] (ac n1 (ac n2 a0)) (by kernel_rfl))
    (RunsW.seq_out (RunsW.block_ret hl3) (by intro e; cases e)))) (by intro i e; cases e) rfl
def TQC : Table := TQB
theorem TQC_holds : THolds Try.ir TQC := TQB_holds
end Go.Proofs.Ythnnfemologhfaa

namespace Go.Proofs.Ythnnfemologhfaa
open Go.Ai
set_option maxRecDepth 100000
def fillI (g : Nat → Int) (i r : Nat) : List Int := (List.range i).map g ++ List.replicate r 0
theorem fillI_length (g : Nat → Int) (i r : Nat) : (fillI g i r).length = i + r := by simp [fillI]
theorem fillI_set (g : Nat → Int) (i r : Nat) : (fillI g i (r + 1)).set i (g i) = fillI g (i + 1) r := by
  simp only [fillI, List.range_succ, List.map_append, List.map_cons, List.map_nil]
  rw [List.set_append_right _ _ (by simp)]
  simp [List.replicate_succ]
def rshF (us : List Int) (s : Nat) (i : Nat) : Int := us.getD (i + 1) 0 % 2 ^ s * 2 ^ (32 - s) + us.getD i 0 / 2 ^ s
theorem rshF_bd {us : List Int} (hu : U32 us) {s : Nat} (hs : s < 32) (i : Nat) : (0 ≤ us.getD i 0 / 2 ^ s ∧ us.getD i 0 / 2 ^ s < 2 ^ (32 - s)) ∧ 0 ≤ us.getD (i + 1) 0 % 2 ^ s ∧ us.getD (i + 1) 0 % 2 ^ s * 2 ^ (32 - s) < 4294967296 ∧ (0 ≤ rshF us s i ∧ rshF us s i < 4294967296) := by
  have h0 := getD_u32 hu i
  have h1 := getD_u32 hu (i + 1)
  have hp := pow2_pos s
  have hp2 := pow2_pos (32 - s)
  have e := p32s (show s ≤ 32 by omega)
  have a1 := Int.emod_nonneg (us.getD (i + 1) 0) (show (2 : Int) ^ s ≠ 0 by omega)
  have a2 := Int.emod_lt_of_pos (us.getD (i + 1) 0) hp
  have b0 : 0 ≤ us.getD i 0 / 2 ^ s := Int.ediv_nonneg h0.1 (by omega)
  have b1 : us.getD i 0 / 2 ^ s < 2 ^ (32 - s) := Int.ediv_lt_of_lt_mul hp (by rw [← e]; exact h0.2)
  unfold rshF
  generalize us.getD (i + 1) 0 % 2 ^ s = x at *
  generalize us.getD i 0 / 2 ^ s = y at *
  have c1 := Int.mul_le_mul_of_nonneg_right (show x + 1 ≤ 2 ^ s by omega) (show (0 : Int) ≤ 2 ^ (32 - s) by omega)
  rw [Int.add_mul, Int.one_mul, Int.mul_comm (2 ^ s), ← e] at c1
  have c2 := Int.mul_nonneg a1 (show (0 : Int) ≤ 2 ^ (32 - s) by omega)
  omega
theorem rsh_val {us : List Int} (s : Nat) (hs : s < 32) : ∀ n, n ≤ us.length → 2 ^ s * valL ((List.range n).map (rshF us s)) = valL (us.take n) - us.getD 0 0 % 2 ^ s + 4294967296 ^ n * (us.getD n 0 % 2 ^ s) := by
  intro n
  induction n with
  | zero =>
    intro _
    simp only [List.range_zero, List.map_nil, List.take_zero, valL, Int.pow_zero, Int.mul_zero, Int.one_mul]
    generalize us.getD 0 0 % 2 ^ s = w
    omega
  | succ n ih =>
    intro hn
    have e := p32s (show s ≤ 32 by omega)
    rw [List.range_succ, List.map_append, List.map_cons, List.map_nil, valL_append, List.length_map, List.length_range, Int.mul_add, ih (by omega), take_succ_val us n (by omega), Int.pow_succ]
    have e2 : valL [rshF us s n] = rshF us s n := by simp [valL]
    rw [e2]
    unfold rshF
    have e3 := Int.mul_ediv_add_emod (us.getD n 0) (2 ^ s)
    generalize us.getD (n + 1) 0 % 2 ^ s = x at *
    generalize us.getD n 0 / 2 ^ s = y at *
    generalize us.getD n 0 % 2 ^ s = z at *
    generalize us.getD 0 0 % 2 ^ s = w at *
    generalize us.getD n 0 = u at *
    generalize valL (us.take n) = V at *
    generalize (4294967296 : Int) ^ n = P at *
    rw [e]
    generalize (2 : Int) ^ (32 - s) = T at *
    generalize (2 : Int) ^ s = S at *
    rw [← e3]
    grind
theorem Try.loop147r {us : List Int} {k n kq : Nat} {qs : List Int} {s : Nat} (hu : U32 us) (hl : us.length = k) (hn : n < k) (hk : k ≤ 1048577) (hs : s < 32) :
    RunsW Try.ir (.loop Try.c147r) (Try.s147r k us (n : Nat) kq qs n (List.replicate n 0) (s : Nat) 0) (.exit 8) (Try.s147r k us (n : Nat) kq qs n ((List.range n).map (rshF us s)) (s : Nat) (n : Nat)) := by
  have h := RunsW.up (prog := Try.ir) (c := Try.c147r) (ex := .exit 8) (fin := Try.s147r k us (n : Nat) kq qs n ((List.range n).map (rshF us s)) (s : Nat) (n : Nat))
    (fun i => Try.s147r k us (n : Nat) kq qs n (fillI (rshF us s) i (n - i)) (s : Nat) (i : Nat)) n (by intro e; cases e) ?_ ?_ 0 (Nat.zero_le _)
  · simpa [fillI] using h
  · intro i hi
    obtain ⟨r, hr⟩ : ∃ r, n - i = r + 1 := ⟨n - i - 1, by omega⟩
    have e2 : n - (i + 1) = r := by omega
    have ei : IntKind.i64.wrap (((i : Nat) : Int) + 1) = ((i + 1 : Nat) : Int) := by rw [w64 (by omega) (by omega)]; omega
    have hlen : (fillI (rshF us s) i (r + 1)).length = n := by rw [fillI_length]; omega
    obtain ⟨b1, b2, b3, b4⟩ := rshF_bd hu hs i
    have es : IntKind.u64.wrap ((s : Nat) : Int) = (s : Nat) := wu64 (by omega)
    have em : min (Int.toNat ((s : Nat) : Int)) (IntKind.bits .u32) = s := by rw [Int.toNat_natCast]; show min s 32 = s; omega
    have hp := pow2_pos s
    rw [hr, e2, ← fillI_set]
    have hget : ∀ v : Int, ((fillI (rshF us s) i (r + 1)).set i v).getD i 0 = v := fun v => by simp [List.getD_eq_getElem?_getD, show i < (fillI (rshF us s) i (r + 1)).length by omega]
    have efd : Int.fdiv (us.getD i 0) (2 ^ s) = us.getD i 0 / 2 ^ s := Int.fdiv_eq_ediv_of_nonneg _ (by omega)
    by_cases h0 : s = 0
    · subst h0
      have k2 := Try.k147r_2 k us (n : Nat) kq qs n (fillI (rshF us 0) i (r + 1)) ((0 : Nat) : Int) (i : Nat) (by simp; omega) (by simp) (by omega) hl (by rw [es]; omega) (by omega) hlen
      rw [ei, Int.toNat_natCast, es, em, efd] at k2
      have e5 : rshF us 0 i = us.getD i 0 / 2 ^ 0 := by simp [rshF, Int.emod_one]
      rw [e5]
      exact k2
    · have e32 : IntKind.u64.wrap (IntKind.i64.wrap (32 - ((s : Nat) : Int))) = ((32 - s : Nat) : Int) := by rw [w64 (by omega) (by omega), wu64 (by omega)]; omega
      have em2 : min (Int.toNat ((32 - s : Nat) : Int)) (IntKind.bits .u32) = 32 - s := by rw [Int.toNat_natCast]; show min (32 - s) 32 = 32 - s; omega
      have k1 := Try.k147r_1 k us (n : Nat) kq qs n (fillI (rshF us s) i (r + 1)) ((s : Nat) : Int) (i : Nat) (by simp; omega) (by simp; omega) (by omega) hl (by rw [es]; omega) (by omega) hlen (by simpa using hlen) (by rw [ei]; omega) (by rw [e32]; omega)
      rw [ei, Int.toNat_natCast, Int.toNat_natCast, es, em, e32, em2, efd, hget, List.set_set, wu32 (us.getD (i + 1) 0 * 2 ^ (32 - s))] at k1
      have e6 : us.getD (i + 1) 0 * 2 ^ (32 - s) % 4294967296 = us.getD (i + 1) 0 % 2 ^ s * 2 ^ (32 - s) := by
        rw [p32s (show s ≤ 32 by omega), Int.mul_comm (us.getD (i + 1) 0), Int.mul_emod_mul_of_pos _ _ (pow2_pos (32 - s)), Int.mul_comm]
      rw [e6, or32 b2 b3 (by omega) b1] at k1
      exact k1
  · have k3 := Try.k147r_3 k us (n : Nat) kq qs n ((List.range n).map (rshF us s)) (s : Nat) (n : Nat) (by simp)
    simpa [fillI] using k3
theorem u32_range {g : Nat → Int} {n : Nat} (h : ∀ i, 0 ≤ g i ∧ g i < 4294967296) : U32 ((List.range n).map g) := fun x hx => by
  obtain ⟨i, _, rfl⟩ := List.mem_map.1 hx; exact h i
theorem quoLimbs_run {xs ys : List Int} (hx : Canon xs) (hy : Canon ys) (hy0 : ys ≠ []) (h1 : xs.length < 1048576) (h2 : ys.length < 1048576) : ∃ qs rs, U32 qs ∧ U32 rs ∧ (qs : List Int).length ≤ 1048576 ∧ (rs : List Int).length ≤ 1048576 ∧ valL qs = valL xs / valL ys ∧ valL rs = valL xs % valL ys ∧
    Runs Try.ir 147 [.sl xs.length (lm xs), .sl ys.length (lm ys)] (.tup [.sl qs.length (lm qs), .sl rs.length (lm rs)]) := by
  have hyl := List.length_pos_iff.2 hy0
  have hcmp := cmpLimbs_run hx hy (by omega)
  have hx0 := valL_nonneg hx.1
  have hyp := canon_pos hy hy0
  by_cases hlt : valL xs < valL ys
  · refine ⟨[], xs, fun x h => (nomatch h), hx.1, by simp, by omega, ?_, ?_, ?_⟩
    · rw [Int.ediv_eq_zero_of_lt hx0 hlt]; rfl
    · rw [Int.emod_eq_of_lt hx0 hlt]
    · exact Try.run147_1 xs ys _ (by unfold cmpI; rw [if_pos hlt]; rfl) (lim_al xs) (by omega) hcmp
  have hcm : decide (cmpI (valL xs) (valL ys) < 0) = false := by unfold cmpI; rw [if_neg hlt]; split <;> rfl
  by_cases hone : ys.length = 1
  · obtain ⟨y, rfl⟩ := List.length_eq_one_iff.1 hone
    have e1 : valL [y] = y := by simp [valL]
    rw [e1] at hyp
    have hyb := hy.1 y (by simp)
    obtain ⟨qs, r, q1, q2, q3, q4, q5⟩ := quoSmall_run hx.1 (d := y) ⟨hyp, hyb.2⟩ (by omega)
    have e2 : valL [r] = r := by simp [valL]
    have hd := (Int.ediv_emod_unique hyp (a := valL xs) (r := r) (q := valL qs)).2 ⟨by omega, q3.1, q3.2⟩
    refine ⟨qs, [r], q2, fun x h => by rw [List.mem_singleton.1 h]; omega, by omega, by simp, by rw [e1]; exact hd.1.symm, by rw [e1, e2]; exact hd.2.symm, ?_⟩
    exact Try.run147_2 xs [y] qs _ r hcm (by rfl) hcmp (by simp) q5
  · obtain ⟨m, hm⟩ : ∃ m, ys.length = m + 2 := ⟨ys.length - 2, by omega⟩
    have hxl : ys.length ≤ xs.length := by
      rcases Nat.lt_or_ge xs.length ys.length with g | g
      · exact absurd (canon_lt hx hy g) hlt
      · exact g
    -- the first limb of y
    have hyt : 0 < ys.getD (m + 1) 0 ∧ ys.getD (m + 1) 0 < 4294967296 := by
      have a := getD_u32 hy.1 (m + 1)
      rcases hy.2 with g | g
      · exact absurd g hy0
      · rw [show ys.length - 1 = m + 1 by omega] at g; omega
    obtain ⟨s, hs, s1, s2, hlz⟩ := lz_run hyt
    obtain ⟨us, u1, u2, u3, hus⟩ := shifted_run hx.1 hs h1
    obtain ⟨ws, w1, w2, w3, hws⟩ := shifted_run hy.1 hs h2
    have hp := pow2_pos s
    -- y between powers
    have ysplit := val_split ys (j := m + 1) (by omega)
    have yd := drop_val ys (m + 1)
    rw [drop_end (xs := ys) (i := m + 1 + 1) (by omega), Int.mul_zero, Int.add_zero] at yd
    rw [yd] at ysplit
    have ylo := take_lt hy.1 (m + 1)
    have ylo0 := valL_nonneg (u32_take hy.1 (m + 1))
    have hP := pow32_pos (m + 1)
    have hV1 : 2147483648 * 4294967296 ^ (m + 1) ≤ valL ws := by
      rw [w3, ysplit]
      have a := Int.mul_le_mul_of_nonneg_right s1 (show (0 : Int) ≤ 4294967296 ^ (m + 1) by omega)
      have b := Int.mul_nonneg (show (0 : Int) ≤ 2 ^ s by omega) ylo0
      have e : 2 ^ s * (valL (List.take (m + 1) ys) + 4294967296 ^ (m + 1) * ys.getD (m + 1) 0) = 2 ^ s * valL (List.take (m + 1) ys) + ys.getD (m + 1) 0 * 2 ^ s * 4294967296 ^ (m + 1) := by grind
      omega
    have hV2 : valL ws < 4294967296 ^ (m + 2) := by
      have e9 : (4294967296 : Int) ^ (m + 2) = 4294967296 ^ (m + 1) * 4294967296 := Int.pow_succ _ _
      rw [w3, ysplit]
      have e0 := p32s (show s ≤ 32 by omega)
      have a1 : ys.getD (m + 1) 0 + 1 ≤ 2 ^ (32 - s) := by
        rw [e0] at s2
        have := Int.lt_of_mul_lt_mul_right s2 (by omega)
        omega
      have a2 := Int.mul_le_mul_of_nonneg_right a1 (show (0 : Int) ≤ 2 ^ s * 4294967296 ^ (m + 1) by have := Int.mul_pos hp hP; omega)
      have a3 := Int.mul_lt_mul_of_pos_left ylo hp
      have e1 : (ys.getD (m + 1) 0 + 1) * (2 ^ s * 4294967296 ^ (m + 1)) = 2 ^ s * (4294967296 ^ (m + 1) * ys.getD (m + 1) 0) + 2 ^ s * 4294967296 ^ (m + 1) := by grind
      have e2 : (2 : Int) ^ (32 - s) * (2 ^ s * 4294967296 ^ (m + 1)) = 4294967296 ^ (m + 1) * 4294967296 := by rw [← Int.mul_assoc, ← e0, Int.mul_comm]
      rw [Int.mul_add]
      omega
    have hdz := drop_small w2 (n := m + 2) (V := 4294967296 ^ (m + 2)) (Int.le_refl _) hV2
    have hvs : valL (ws.take (m + 2)) = valL ws := by
      have := val_split ws (j := m + 2) (by omega)
      rw [hdz, Int.mul_zero, Int.add_zero] at this
      exact this.symm
    have hvl : (ws.take (m + 2)).length = m + 2 := by simp; omega
    have hvu := u32_take w2 (m + 2)
    generalize hvv : ws.take (m + 2) = vs at *
    have hvtop : 2147483648 ≤ vs.getD (m + 1) 0 := by
      have a := val_split vs (j := m + 1) (by omega)
      have b := drop_val vs (m + 1)
      rw [drop_end (xs := vs) (i := m + 1 + 1) (by omega), Int.mul_zero, Int.add_zero] at b
      rw [b] at a
      have c := take_lt hvu (m + 1)
      apply Int.not_lt.1
      intro h
      have := Int.mul_le_mul_of_nonneg_left (show vs.getD (m + 1) 0 + 1 ≤ 2147483648 by omega) (show (0 : Int) ≤ 4294967296 ^ (m + 1) by omega)
      rw [Int.mul_add, Int.mul_one, Int.mul_comm _ 2147483648] at this
      omega
    have hini : valL (us.drop (xs.length - ys.length + 1)) < valL vs := by
      have a := val_split us (j := xs.length - ys.length + 1) (by omega)
      have b := valL_nonneg (u32_take u2 (xs.length - ys.length + 1))
      have c := valL_lt hx.1
      have d := Int.mul_lt_mul_of_pos_left c hp
      have e : (4294967296 : Int) ^ xs.length = 4294967296 ^ (xs.length - ys.length + 1) * 4294967296 ^ (m + 1) := by rw [← Int.pow_add]; congr 1; omega
      have hp2 : (2 : Int) ^ s ≤ 2147483648 := by
        have := pow2_le (show s ≤ 31 by omega); rwa [show (2 : Int) ^ 31 = 2147483648 by decide] at this
      have hQ := pow32_pos (xs.length - ys.length + 1)
      rw [hvs]
      apply Int.lt_of_lt_of_le (b := 2 ^ s * 4294967296 ^ (m + 1))
      · apply Int.lt_of_mul_lt_mul_left (a := 4294967296 ^ (xs.length - ys.length + 1)) _ (by omega)
        have e2 : (4294967296 : Int) ^ (xs.length - ys.length + 1) * (2 ^ s * 4294967296 ^ (m + 1)) = 2 ^ s * 4294967296 ^ xs.length := by rw [e]; grind
        omega
      · have := Int.mul_le_mul_of_nonneg_right hp2 (show (0 : Int) ≤ 4294967296 ^ (m + 1) by omega)
        omega
    obtain ⟨us', qs, l1, l2, l3, l4, l5, l6, l7⟩ := Try.loop147 (k := xs.length + 1) (kq := xs.length - ys.length + 1) (s := (s : Nat)) hvu hvl hvtop (by omega) (by omega) (xs.length - ys.length + 1) us (List.replicate (xs.length - ys.length + 1) 0) (Nat.le_refl _) u1 u2 (by simp) (u32_zeros _) (fun t _ => getD_zeros _ _) hini
    have l8 := Try.loop147r (us := us') (k := xs.length + 1) (n := m + 2) (kq := xs.length - ys.length + 1) (qs := qs) l3 l2 (by omega) (by omega) hs
    rw [valL_zeros, Int.sub_zero, u3, hvs, w3] at l7
    rw [hvs] at l6
    -- the remainder
    have hR : valL us' = 2 ^ s * (valL xs - valL ys * valL qs) := by rw [Int.mul_sub]; have : 2 ^ s * valL ys * valL qs = 2 ^ s * (valL ys * valL qs) := by grind
                                                                     omega
    have us0 := valL_nonneg l3
    have hR0 : 0 ≤ valL xs - valL ys * valL qs := by
      apply Int.not_lt.1
      intro h
      have := Int.mul_le_mul_of_nonneg_left (show valL xs - valL ys * valL qs ≤ -1 by omega) (show (0 : Int) ≤ 2 ^ s by omega)
      omega
    have hR1 : valL xs - valL ys * valL qs < valL ys := by
      rw [hR, w3] at l6
      exact Int.lt_of_mul_lt_mul_left l6 (by omega)
    have hrs : valL ((List.range (m + 2)).map (rshF us' s)) = valL xs - valL ys * valL qs := by
      have a := rsh_val (us := us') s hs (m + 2) (by omega)
      have b : us'.getD 0 0 % 2 ^ s = 0 := by
        have c := drop_val us' 0
        rw [List.drop_zero, Nat.zero_add, hR] at c
        have e0 := p32s (show s ≤ 32 by omega)
        have : us'.getD 0 0 = 2 ^ s * (valL xs - valL ys * valL qs - 2 ^ (32 - s) * valL (us'.drop 1)) := by rw [Int.mul_sub, ← Int.mul_assoc, Int.mul_comm (2 ^ s) (2 ^ (32 - s)), ← e0]; omega
        rw [this]
        exact Int.mul_emod_right _ _
      have dz := drop_small l3 (n := m + 2) (V := valL ws) (by omega) l6
      have c2 : us'.getD (m + 2) 0 = 0 := by
        have c := drop_val us' (m + 2)
        rw [dz] at c
        have d1 := valL_nonneg (u32_drop l3 (m + 2 + 1))
        have d2 := getD_u32 l3 (m + 2)
        omega
      have d := val_split us' (j := m + 2) (by omega)
      rw [dz, Int.mul_zero, Int.add_zero] at d
      rw [b, c2, ← d, hR, Int.zero_emod, Int.mul_zero, Int.sub_zero, Int.add_zero] at a
      exact Int.eq_of_mul_eq_mul_left (by omega) a
    have hd := (Int.ediv_emod_unique hyp (a := valL xs) (r := valL xs - valL ys * valL qs) (q := valL qs)).2 ⟨by omega, hR0, hR1⟩
    have e1 : IntKind.i64.wrap (((ys.length : Nat) : Int) - 1) = ((m + 1 : Nat) : Int) := by rw [w64 (by omega) (by omega)]; omega
    have e2 : IntKind.i64.wrap (((ys.length : Nat) : Int) - 2) = ((m : Nat) : Int) := by rw [w64 (by omega) (by omega)]; omega
    have e3 : IntKind.i64.wrap (((xs.length : Nat) : Int) - ((ys.length : Nat) : Int)) = ((xs.length - ys.length : Nat) : Int) := by rw [w64 (by omega) (by omega)]; omega
    have e4 : IntKind.i64.wrap (((xs.length - ys.length : Nat) : Int) + 1) = ((xs.length - ys.length + 1 : Nat) : Int) := by rw [w64 (by omega) (by omega)]; omega
    have hlv : vs.length = ys.length := by omega
    have hvv2 : ws.take ys.length = vs := by rw [hm]; exact hvv
    have v1 := getD_u32 hvu (m + 1)
    have v2 := getD_u32 hvu m
    refine ⟨qs, (List.range (m + 2)).map (rshF us' s), l5, u32_range (fun i => (rshF_bd l3 hs i).2.2.2), by omega, by simp; omega, hd.1.symm, by rw [hrs]; exact hd.2.symm, ?_⟩
    have hl11 : RunsW Try.ir (.loop Try.c147) (Try.s147 us.length us vs (vs.length : Nat) (vs.getD (m + 1) 0) (vs.getD m 0) (xs.length - ys.length + 1) (List.replicate (xs.length - ys.length + 1) 0) (s : Nat) ((xs.length - ys.length : Nat) : Int)) (.exit 0) (Try.s147 us.length us' vs (vs.length : Nat) (vs.getD (m + 1) 0) (vs.getD m 0) (xs.length - ys.length + 1) qs (s : Nat) (-1)) := by
      rw [u1]
      refine l1.to ?_ rfl
      congr 1
      omega
    have h := Try.run147_3 xs ys us ws us' vs qs ((List.range (m + 2)).map (rshF us' s)) _ (s : Nat) (vs.length : Nat) (vs.getD (m + 1) 0) (vs.getD m 0) (-1) us.length (xs.length - ys.length + 1) (m + 2) hcm (by rw [hm, beq_eq_false_iff_ne]; omega) hcmp (by rw [e1]; omega) (by rw [e1, Int.toNat_natCast]; exact hlz) (by omega) (by rw [Int.toNat_natCast]; exact ⟨by omega, by omega, Nat.le_refl _, fun _ => rfl⟩) hus hws (by rw [e3, e4]; omega) (by rw [e1, Int.toNat_natCast]; omega) (by rw [e2, Int.toNat_natCast]; omega)
      (by
        rw [e1, e2, e3, e4, Int.toNat_natCast, Int.toNat_natCast, Int.toNat_natCast, Int.toNat_natCast, repl_lim, lm_slice, List.drop_zero, Nat.sub_zero, hvv2, wu64 (n := vs.getD (m + 1) 0) (by omega), wu64 (n := vs.getD m 0) (by omega)]
        unfold Try.s147 at hl11 ⊢
        rw [hlv] at hl11 ⊢
        exact hl11)
      (by omega) (by
        rw [hvl, Int.toNat_natCast, repl_lim, u1]
        exact l8)
    rw [show qs.length = xs.length - ys.length + 1 from l4, show ((List.range (m + 2)).map (rshF us' s)).length = m + 2 by simp]
    exact h
def TQD : Table := TQC
theorem TQD_holds : THolds Try.ir TQD := TQC_holds
end Go.Proofs.Ythnnfemologhfaa

namespace Go.Proofs.Ythnnfemologhfaa
open Go.Ai
set_option maxRecDepth 100000
theorem tdiv_sign (a b q r : Int) (hq : q = ((a.natAbs : Nat) : Int) / ((b.natAbs : Nat) : Int)) (hr : r = ((a.natAbs : Nat) : Int) % ((b.natAbs : Nat) : Int)) :
    (if (!(decide (a < 0) == decide (b < 0))) = true then -q else q) = Int.tdiv a b ∧ (if decide (a < 0) = true then -r else r) = Int.tmod a b := by
  subst hq hr
  have hA : (0 : Int) ≤ ((a.natAbs : Nat) : Int) := by omega
  by_cases ha : a < 0 <;> by_cases hb : b < 0
  · have ea : a = -((a.natAbs : Nat) : Int) := by omega
    have eb : b = -((b.natAbs : Nat) : Int) := by omega
    have h1 : Int.tdiv a b = ((a.natAbs : Nat) : Int) / ((b.natAbs : Nat) : Int) := by
      rw [← Int.tdiv_eq_ediv_of_nonneg hA]
      conv => lhs; rw [ea, eb, Int.neg_tdiv, Int.tdiv_neg, Int.neg_neg]
    have h2 : Int.tmod a b = -(((a.natAbs : Nat) : Int) % ((b.natAbs : Nat) : Int)) := by
      rw [← Int.tmod_eq_emod_of_nonneg hA]
      conv => lhs; rw [ea, eb, Int.neg_tmod, Int.tmod_neg]
    rw [h1, h2, decide_eq_true ha, decide_eq_true hb]
    simp
  · have ea : a = -((a.natAbs : Nat) : Int) := by omega
    have eb : b = ((b.natAbs : Nat) : Int) := by omega
    have h1 : Int.tdiv a b = -(((a.natAbs : Nat) : Int) / ((b.natAbs : Nat) : Int)) := by
      rw [← Int.tdiv_eq_ediv_of_nonneg hA]
      conv => lhs; rw [ea, eb, Int.neg_tdiv]
    have h2 : Int.tmod a b = -(((a.natAbs : Nat) : Int) % ((b.natAbs : Nat) : Int)) := by
      rw [← Int.tmod_eq_emod_of_nonneg hA]
      conv => lhs; rw [ea, eb, Int.neg_tmod]
    rw [h1, h2, decide_eq_true ha, decide_eq_false hb]
    simp
  · have ea : a = ((a.natAbs : Nat) : Int) := by omega
    have eb : b = -((b.natAbs : Nat) : Int) := by omega
    have h1 : Int.tdiv a b = -(((a.natAbs : Nat) : Int) / ((b.natAbs : Nat) : Int)) := by
      rw [← Int.tdiv_eq_ediv_of_nonneg hA]
      conv => lhs; rw [ea, eb, Int.tdiv_neg]
    have h2 : Int.tmod a b = ((a.natAbs : Nat) : Int) % ((b.natAbs : Nat) : Int) := by
      rw [← Int.tmod_eq_emod_of_nonneg hA]
      conv => lhs; rw [ea, eb, Int.tmod_neg]
    rw [h1, h2, decide_eq_false ha, decide_eq_true hb]
    simp
  · have ea : a = ((a.natAbs : Nat) : Int) := by omega
    have eb : b = ((b.natAbs : Nat) : Int) := by omega
    have h1 : Int.tdiv a b = ((a.natAbs : Nat) : Int) / ((b.natAbs : Nat) : Int) := by
      rw [← Int.tdiv_eq_ediv_of_nonneg hA]
      conv => lhs; rw [ea, eb]
    have h2 : Int.tmod a b = ((a.natAbs : Nat) : Int) % ((b.natAbs : Nat) : Int) := by
      rw [← Int.tmod_eq_emod_of_nonneg hA]
      conv => lhs; rw [ea, eb]
    rw [h1, h2, decide_eq_false ha, decide_eq_false hb]
    simp
theorem wquo_run {na nb : Bool} {xs ys : List Int} (hx : U32 xs) (hy : U32 ys) (h0 : rv nb ys ≠ 0) (h1 : xs.length < 1048576) (h2 : ys.length < 1048576) :
    Runs Try.ir 110 [.agg [.bool na, .sl xs.length (lm xs)], .agg [.bool nb, .sl ys.length (lm ys)]] (.tup [bigAV (Int.tdiv (rv na xs) (rv nb ys)), bigAV (Int.tmod (rv na xs) (rv nb ys))]) := by
  have l1 := rv_len (neg := na) hx
  have l2 := rv_len (neg := nb) hy
  have r1 := limbs_run (neg := na) hx (by omega)
  have r2 := limbs_run (neg := nb) hy (by omega)
  generalize rv na xs = a at *
  generalize rv nb ys = b at *
  have hb0 : limbs b.natAbs ≠ [] := by rw [Ne, limbs_nil]; omega
  obtain ⟨qs, rs, q1, q2, q3, q4, q5, q6, q7⟩ := quoLimbs_run (limbs_canon a.natAbs) (limbs_canon b.natAbs) hb0 (by omega) (by omega)
  rw [limbs_val, limbs_val] at q5 q6
  obtain ⟨e1, e2⟩ := tdiv_sign a b _ _ q5 q6
  have m1 := made_run (neg := !(decide (a < 0) == decide (b < 0))) q1 q3
  have m2 := made_run (neg := decide (a < 0)) q2 q4
  have f1 : rv (!(decide (a < 0) == decide (b < 0))) qs = Int.tdiv a b := e1
  have f2 : rv (decide (a < 0)) rs = Int.tmod a b := e2
  rw [f1] at m1
  rw [f2] at m2
  exact Try.run110 na nb _ _ xs ys _ _ qs rs _ _ r1 r2 q7 m1 m2
theorem asUint_run {n : Nat} {b : Bool} (h : (limbs n).length ≤ 2) : Runs Try.ir 146 [.agg [.bool b, .sl (limbs n).length (lm (limbs n))]] (.int .u64 (n : Nat)) := by
  have hu := big_u32 n
  have hv := limbs_val n
  generalize hxs : limbs n = xs at *
  have hl := RunsW.up (prog := Try.ir) (c := Try.c146) (ex := .exit 0) (fin := Try.s146 xs (n : Nat) (xs.length : Nat) (xs.length : Nat))
    (fun i => Try.s146 xs (valL (xs.take i)) (xs.length : Nat) (i : Nat)) xs.length (by intro e; cases e) ?_ ?_ 0 (Nat.zero_le _)
  · exact Try.run146 b xs (n : Nat) (xs.length : Nat) (xs.length : Nat) (by simpa [valL] using hl)
  · intro i hi
    have ei : IntKind.i64.wrap (((i : Nat) : Int) + 1) = ((i + 1 : Nat) : Int) := by rw [w64 (by omega) (by omega)]; omega
    have e32 : IntKind.u64.wrap (IntKind.i64.wrap (32 * ((i : Nat) : Int))) = ((32 * i : Nat) : Int) := by rw [w64 (by omega) (by omega), wu64 (by omega)]; omega
    have em : min (Int.toNat ((32 * i : Nat) : Int)) (IntKind.bits .u64) = 32 * i := by rw [Int.toNat_natCast]; show min (32 * i) 64 = 32 * i; omega
    have hxi := getD_u32 hu i
    have k := Try.k146_1 xs (valL (xs.take i)) (xs.length : Nat) (i : Nat) (by simp; omega) (by omega) (by rw [e32]; omega)
    rw [ei, e32, em, Int.toNat_natCast, wu64 (n := xs.getD i 0) (by omega)] at k
    have hp : xs.getD i 0 * 2 ^ (32 * i) < 18446744073709551616 := by
      have := pow2_le (show 32 * i ≤ 32 by omega)
      rw [show (2 : Int) ^ 32 = 4294967296 by decide] at this
      have := Int.mul_le_mul (show xs.getD i 0 ≤ 4294967295 by omega) this (by have := pow2_pos (32 * i); omega) (by omega)
      omega
    have h0 := Int.mul_nonneg hxi.1 (show (0 : Int) ≤ 2 ^ (32 * i) by have := pow2_pos (32 * i); omega)
    have hlt := take_lt hu i
    rw [pow32_two] at hlt
    rw [wu64 ⟨h0, hp⟩, BitVec.or_comm, or64 hxi.1 hp (by omega) ⟨valL_nonneg (u32_take hu i), hlt⟩] at k
    refine k.to rfl ?_
    rw [take_succ_val xs i hi, pow32_two]
    congr 1
    rw [Int.mul_comm]; omega
  · rw [List.take_length, hv]
    exact Try.k146_2 xs (n : Nat) (xs.length : Nat) (xs.length : Nat) (by simp)
theorem gcdUint_run : ∀ (f a b : Nat), b ≤ f → RunsW Try.ir (.loop Try.c145) (Try.s145 (a : Nat) (b : Nat)) (.exit 0) (Try.s145 (Nat.gcd a b : Nat) 0) := by
  intro f
  induction f with
  | zero =>
    intro a b hb
    have : b = 0 := by omega
    subst this
    rw [Nat.gcd_zero_right]
    exact RunsW.loop_out (Try.k145_2 _ _ (by simp)) (by intro e; cases e)
  | succ f ih =>
    intro a b hb
    by_cases h0 : b = 0
    · subst h0
      rw [Nat.gcd_zero_right]
      exact RunsW.loop_out (Try.k145_2 _ _ (by simp)) (by intro e; cases e)
    · have k := Try.k145_1 (a : Nat) (b : Nat) (by simp; omega) (by omega)
      rw [Int.tmod_eq_emod_of_nonneg (by omega), ← Int.natCast_emod] at k
      have hm := Nat.mod_lt a (show 0 < b by omega)
      have := ih b (a % b) (by omega)
      rw [Nat.gcd_comm b, ← Nat.gcd_rec, Nat.gcd_comm b a] at this
      exact RunsW.loop k this
theorem two_cn {n : Nat} (h : (limbs n).length ≤ 2) : (n : Int) < 18446744073709551616 := by
  have h1 := valL_lt (big_u32 n)
  rw [limbs_val] at h1
  have h2 := pow32_mono h
  rw [show (4294967296 : Int) ^ 2 = 18446744073709551616 by decide] at h2
  omega
theorem ofUint_run {n : Nat} (h : (n : Int) < 18446744073709551616) : Runs Try.ir 144 [.int .u64 (n : Nat)] (bigAV (n : Nat)) := by
  obtain ⟨h1, h2⟩ := of_limbs (u := (n : Nat)) (by omega)
  have m := made_run (neg := false) h1 (by simp)
  have e : rv false [IntKind.u32.wrap ((n : Nat) : Int), IntKind.u32.wrap (Int.fdiv ((n : Nat) : Int) (2 ^ (min (Int.toNat 32) (IntKind.bits .u64))))] = (n : Nat) := h2
  rw [e] at m
  exact Try.run144 (n : Nat) _ m
theorem cn_nat (n : Nat) : cn (n : Nat) = (false, limbs n) := by
  unfold cn
  rw [Int.natAbs_natCast, decide_eq_false (by omega)]
theorem cnlen (n : Nat) : (cn (n : Nat)).2.length = (limbs n).length := by rw [cn_nat]
theorem gcd_loop {K : Nat} (hK : K < 1048576) : ∀ (f a b : Nat), b ≤ f → Fits K (a : Nat) → Fits K (b : Nat) →
    (∃ y z, RunsW Try.ir (.loop Try.c109) (Try.s109 (cn (a : Nat)) (cn (b : Nat)) (false, [])) (.exit 0) (Try.s109 (cn (Nat.gcd a b : Nat)) y z)) ∨
    (∃ x y, RunsW Try.ir (.loop Try.c109) (Try.s109 (cn (a : Nat)) (cn (b : Nat)) (false, [])) .ret (Try.s109 x y (cn (Nat.gcd a b : Nat)))) := by
  intro f
  induction f with
  | zero =>
    intro a b hb _ _
    have : b = 0 := by omega
    subst this
    rw [Nat.gcd_zero_right]
    exact Or.inl ⟨_, _, RunsW.loop_out (Try.k109_4 _ _ _ (by rw [cnlen]; rfl)) (by intro e; cases e)⟩
  | succ f ih =>
    intro a b hb ka kb
    by_cases h0 : b = 0
    · subst h0
      rw [Nat.gcd_zero_right]
      exact Or.inl ⟨_, _, RunsW.loop_out (Try.k109_4 _ _ _ (by rw [cnlen]; rfl)) (by intro e; cases e)⟩
    · have hbl : 0 < (limbs b).length := List.length_pos_iff.2 (by rw [Ne, limbs_nil]; exact h0)
      have la := ka.len
      have lb := kb.len
      rw [Int.natAbs_natCast] at la lb
      by_cases h2 : (limbs a).length ≤ 2 ∧ (limbs b).length ≤ 2
      · right
        have ta := two_cn h2.1
        have tb := two_cn h2.2
        have hg : ((Nat.gcd a b : Nat) : Int) < 18446744073709551616 := by
          have := Nat.le_of_dvd (by omega) (Nat.gcd_dvd_right a b)
          omega
        have u1 := asUint_run (b := (cn (a : Nat)).1) h2.1
        have u2 := asUint_run (b := (cn (b : Nat)).1) h2.2
        have u3 := Try.run145 (a : Nat) (b : Nat) _ _ (gcdUint_run b a b (Nat.le_refl _))
        have u4 := ofUint_run hg
        have k := Try.k109_1 (cn (a : Nat)) (cn (b : Nat)) (false, []) (a : Nat) (b : Nat) (Nat.gcd a b : Nat) (Nat.gcd a b : Nat) (by rw [cnlen]; simp; omega) (by rw [cnlen]; simp; omega) (by rw [cnlen]; simp; omega) u1 u2 u3 u4
        exact ⟨_, _, RunsW.loop_out k (by intro e; cases e)⟩
      · have hq := wquo_run (na := (cn (a : Nat)).1) (nb := (cn (b : Nat)).1) (xs := (cn (a : Nat)).2) (ys := (cn (b : Nat)).2) (big_u32 _) (big_u32 _) (by have := rval_cn (b : Nat); unfold rval at this; rw [this]; omega) (by rw [cnlen]; omega) (by rw [cnlen]; omega)
        rw [show rv (cn (a : Nat)).1 (cn (a : Nat)).2 = (a : Nat) from rval_cn _, show rv (cn (b : Nat)).1 (cn (b : Nat)).2 = (b : Nat) from rval_cn _, Int.tmod_eq_emod_of_nonneg (by omega), ← Int.natCast_emod] at hq
        have hm := Nat.mod_lt a (show 0 < b by omega)
        have step : RunsW Try.ir Try.c109 (Try.s109 (cn (a : Nat)) (cn (b : Nat)) (false, [])) .norm (Try.s109 (cn (b : Nat)) (cn ((a % b : Nat) : Int)) (false, [])) := by
          by_cases h3 : (limbs a).length ≤ 2
          · exact Try.k109_2 (cn (a : Nat)) (cn (b : Nat)) (false, []) _ _ (by rw [cnlen]; simp; omega) (by rw [cnlen]; simp; omega) (by rw [cnlen]; simp; omega) hq
          · exact Try.k109_3 (cn (a : Nat)) (cn (b : Nat)) (false, []) _ _ (by rw [cnlen]; simp; omega) (by rw [cnlen]; simp; omega) hq
        have kr : Fits K ((a % b : Nat) : Int) := by
          unfold Fits at *
          rw [Int.natAbs_natCast] at *
          exact Nat.lt_of_le_of_lt (Nat.le_of_lt hm) kb
        have e : Nat.gcd b (a % b) = Nat.gcd a b := by rw [Nat.gcd_comm b, ← Nat.gcd_rec, Nat.gcd_comm b a]
        rcases ih b (a % b) (by omega) kb kr with ⟨y, z, h⟩ | ⟨x, y, h⟩
        · rw [e] at h
          exact Or.inl ⟨y, z, RunsW.loop step h⟩
        · rw [e] at h
          exact Or.inr ⟨x, y, RunsW.loop step h⟩
theorem wgcd_run {na nb : Bool} {xs ys : List Int} (hx : U32 xs) (hy : U32 ys) (h1 : xs.length < 1048576) (h2 : ys.length < 1048576) :
    Runs Try.ir 109 [.agg [.bool na, .sl xs.length (lm xs)], .agg [.bool nb, .sl ys.length (lm ys)]] (bigAV (Int.gcd (rv na xs) (rv nb ys) : Nat)) := by
  have a1 := wabs_run (neg := na) hx (by omega)
  have a2 := wabs_run (neg := nb) hy (by omega)
  have f1 := rv_fits (neg := na) hx
  have f2 := rv_fits (neg := nb) hy
  have g1 : Fits (max xs.length ys.length) (((rv na xs).natAbs : Nat) : Int) := by
    unfold Fits at *; rw [Int.natAbs_natCast]; exact Nat.lt_of_lt_of_le f1 (Nat.pow_le_pow_right (by decide) (by omega))
  have g2 : Fits (max xs.length ys.length) (((rv nb ys).natAbs : Nat) : Int) := by
    unfold Fits at *; rw [Int.natAbs_natCast]; exact Nat.lt_of_lt_of_le f2 (Nat.pow_le_pow_right (by decide) (by omega))
  rcases gcd_loop (K := max xs.length ys.length) (by omega) _ _ _ (Nat.le_refl _) g1 g2 with ⟨y, z, h⟩ | ⟨x, y, h⟩
  · exact Try.run109_n na nb xs ys _ _ _ _ _ a1 a2 h
  · exact Try.run109_r na nb xs ys _ _ _ _ _ a1 a2 h
def TQE : Table := TQD
theorem TQE_holds : THolds Try.ir TQE := TQD_holds
end Go.Proofs.Ythnnfemologhfaa

namespace Go.Proofs.Ythnnfemologhfaa
open Go.Ai
set_option maxRecDepth 100000
def innGo (a : Int) (bs : List Int) (i : Nat) : Nat → Nat → List Int → Int → List Int × Int
  | 0, _, out, c => (out, c)
  | r + 1, k, out, c => innGo a bs i r (k + 1) (out.set (i + k) ((c + (out.getD (i + k) 0 + a * bs.getD k 0)) % 4294967296)) ((c + (out.getD (i + k) 0 + a * bs.getD k 0)) / 4294967296)
theorem word_bd {a b c o : Int} (ha : 0 ≤ a ∧ a < 4294967296) (hb : 0 ≤ b ∧ b < 4294967296) (hc : 0 ≤ c ∧ c < 4294967296) (ho : 0 ≤ o ∧ o < 4294967296) :
    0 ≤ a * b ∧ a * b ≤ 18446744065119617025 ∧ 0 ≤ c + (o + a * b) ∧ c + (o + a * b) < 18446744073709551616 := by
  have h1 := Int.mul_nonneg ha.1 hb.1
  have h2 : a * b ≤ 4294967295 * 4294967295 := Int.mul_le_mul (by omega) (by omega) hb.1 (by omega)
  omega
theorem getD_set_ne {xs : List Int} {i j : Nat} {v : Int} (h : i ≠ j) : (xs.set i v).getD j 0 = xs.getD j 0 := by
  simp only [List.getD_eq_getElem?_getD, List.getElem?_set_ne h]
theorem innGo_ok {a : Int} {bs : List Int} {i : Nat} (ha : 0 ≤ a ∧ a < 4294967296) (hb : U32 bs) : ∀ (r k : Nat) (out : List Int) (c : Int), r + k = bs.length → i + bs.length ≤ out.length → U32 out → 0 ≤ c ∧ c < 4294967296 →
    (innGo a bs i r k out c).1.length = out.length ∧ U32 (innGo a bs i r k out c).1 ∧ (0 ≤ (innGo a bs i r k out c).2 ∧ (innGo a bs i r k out c).2 < 4294967296) ∧
    valL (innGo a bs i r k out c).1 + 4294967296 ^ (i + bs.length) * (innGo a bs i r k out c).2 = valL out + 4294967296 ^ (i + k) * (c + a * valL (bs.drop k)) ∧
    ∀ j, i + bs.length ≤ j → (innGo a bs i r k out c).1.getD j 0 = out.getD j 0 := by
  intro r
  induction r with
  | zero =>
    intro k out c hk _ hu hc
    have hk' : k = bs.length := by omega
    subst hk'
    refine ⟨rfl, hu, hc, ?_, fun _ _ => rfl⟩
    simp [innGo, valL]
  | succ r ih =>
    intro k out c hk hl hu hc
    have hbk := getD_u32 hb k
    have hok := getD_u32 hu (i + k)
    obtain ⟨w1, w2, w3, w4⟩ := word_bd ha hbk hc hok
    have hlt : i + k < out.length := by omega
    simp only [innGo]
    generalize hW : c + (out.getD (i + k) 0 + a * bs.getD k 0) = W at *
    have hm : 0 ≤ W % 4294967296 ∧ W % 4294967296 < 4294967296 := by omega
    obtain ⟨g1, g2, g3, g4, g5⟩ := ih (k + 1) (out.set (i + k) (W % 4294967296)) (W / 4294967296) (by omega) (by simpa using hl) (u32_set hu hm) (by omega)
    refine ⟨by simpa using g1, g2, g3, ?_, fun j hj => ?_⟩
    · rw [g4, valL_set out (i + k) _ hlt]
      have hd : valL (bs.drop k) = bs.getD k 0 + 4294967296 * valL (bs.drop (k + 1)) := by
        rw [List.drop_eq_getElem_cons (show k < bs.length by omega)]
        simp [valL, List.getD_eq_getElem?_getD, List.getElem?_eq_getElem (show k < bs.length by omega)]
      rw [hd]
      have hp : (4294967296 : Int) ^ (i + (k + 1)) = 4294967296 ^ (i + k) * 4294967296 := by rw [← Nat.add_assoc, Int.pow_succ]
      rw [hp]
      generalize (4294967296 : Int) ^ (i + k) = p at *
      generalize valL (bs.drop (k + 1)) = V at *
      have e1 : W = 4294967296 * (W / 4294967296) + W % 4294967296 := by omega
      have e2 : c = W - out.getD (i + k) 0 - a * bs.getD k 0 := by omega
      rw [e2]
      generalize W / 4294967296 = q at *
      generalize W % 4294967296 = m at *
      generalize out.getD (i + k) 0 = o at *
      generalize bs.getD k 0 = b at *
      subst e1
      grind
    · rw [g5 j hj, getD_set_ne (by omega)]
end Go.Proofs.Ythnnfemologhfaa

namespace Go.Proofs.Ythnnfemologhfaa
open Go.Ai
set_option maxRecDepth 100000
def Try.c113i : ICode := .seq (.region false [oB 51 .lss 50 49])
  (.seq (.cond (.t 51) (.skip)
  (.exit 2))
  (.seq (.block 3 (.seq (.region false [oM 52 50,
   o1 53 (.ixa 48 (.t 50) 1),
   o1 54 (.ld 53 53 1 true),
   oM 13 52,
   oM 14 54])
  (.seq (.region false [oM 55 11,
   o1 56 (.cv .u64 (.t 55)),
   oM 57 14,
   o1 58 (.cv .u64 (.t 57)),
   oB 59 .mul 56 58,
   o1 60 (.cpy 9),
   oM 61 10,
   oM 62 13,
   oB 63 .add 61 62,
   o1 64 (.ixo 60 9 (.t 63) 1),
   o1 65 (.ld 64 9 1 true),
   o1 66 (.cv .u64 (.t 65)),
   oB 67 .add 59 66,
   oM 68 12,
   oB 69 .add 67 68,
   oM 15 69])
  (.region false [o1 70 (.cpy 9),
   oM 71 10,
   oM 72 13,
   oB 73 .add 71 72,
   oM 74 15,
   o1 75 (.cv .u32 (.t 74)),
   oM 76 15,
   o1 77 (.bin .shr (.t 76) (.c (.int .u64 32))),
   o1 78 (.ixo 70 9 (.t 73) 1),
   oN (.st 78 9 1 (.t 75)),
   oM 12 77]))))
  (.region false [o1 79 (.bin .add (.t 50) (.c (.int .i64 1))),
   oM 50 79])))
def Try.s113i (na : Bool) (nb : Bool) (la : Nat) (xa : List AV) (lb : Nat) (xb : List AV) (n : Nat) (cs : List AV) (i : Int) (x : Int) (c : Int) (k : Int) : State := (dds 4 (.box [.bool false, .sl 0 []] :: (.val (.bool na) :: (dds 1 (.val (.bool nb) :: (.val (.sl lb xb) :: (.own 1 n cs :: (.val (.int .i64 i) :: (.val (.int .u32 x) :: (.val (.int .u64 c) :: (dds 28 (.val (.sl la xa) :: (.val (.int .i64 ((la : Nat) : Int)) :: (.val (.int .i64 i) :: (dds 4 (.val (.sl lb xb) :: (.val (.int .i64 ((lb : Nat) : Int)) :: (.val (.int .i64 k) :: (dds 43 [])))))))))))))))))))
theorem Try.k113i_1 (na : Bool) (nb : Bool) (la : Nat) (xa : List AV) (lb : Nat) (xb : List AV) (n : Nat) (cs : List AV) (i : Int) (x : Int) (c : Int) (k : Int) (ds : List AV) (y z : Int) (c1 : (decide (k < ((lb : Nat) : Int))) = true) (n1 : 0 ≤ k ∧ k < ((lb : Nat) : Int)) (n2 : takeA (List.drop (Int.toNat k * 1) xb) 0 1 true = some (.int .u32 y)) (n3 : 0 ≤ (IntKind.i64.wrap (i + k)) ∧ (IntKind.i64.wrap (i + k)) < ((n : Nat) : Int)) (n4 : takeA cs (Int.toNat (IntKind.i64.wrap (i + k)) * 1) 1 true = some (.int .u32 z)) (n5 : 0 ≤ (IntKind.i64.wrap (i + k)) ∧ (IntKind.i64.wrap (i + k)) < ((n : Nat) : Int)) (n6 : layA cs (Int.toNat (IntKind.i64.wrap (i + k)) * 1) [.int .u32 (IntKind.u32.wrap (IntKind.u64.wrap ((IntKind.u64.wrap ((IntKind.u64.wrap ((IntKind.u64.wrap x) * (IntKind.u64.wrap y))) + (IntKind.u64.wrap z))) + c)))] = some ds) : RunsW Try.ir Try.c113i (Try.s113i na nb la xa lb xb n cs i x c k) .norm (Try.s113i na nb la xa lb xb n ds i x (Int.fdiv (IntKind.u64.wrap ((IntKind.u64.wrap ((IntKind.u64.wrap ((IntKind.u64.wrap x) * (IntKind.u64.wrap y))) + (IntKind.u64.wrap z))) + c)) (2 ^ (min (Int.toNat 32) (IntKind.bits .u64)))) (IntKind.i64.wrap (k + 1))) :=
  RunsW.script (ps := [(decide (k < ((lb : Nat) : Int))) = true, 0 ≤ k ∧ k < ((lb : Nat) : Int), takeA (List.drop (Int.toNat k * 1) xb) 0 1 true = some (.int .u32 y), 0 ≤ (IntKind.i64.wrap (i + k)) ∧ (IntKind.i64.wrap (i + k)) < ((n : Nat) : Int), takeA cs (Int.toNat (IntKind.i64.wrap (i + k)) * 1) 1 true = some (.int .u32 z), ¬ (32 : Int) < 0, 0 ≤ (IntKind.i64.wrap (i + k)) ∧ (IntKind.i64.wrap (i + k)) < ((n : Nat) : Int), layA cs (Int.toNat (IntKind.i64.wrap (i + k)) * 1) [.int .u32 (IntKind.u32.wrap (IntKind.u64.wrap ((IntKind.u64.wrap ((IntKind.u64.wrap ((IntKind.u64.wrap x) * (IntKind.u64.wrap y))) + (IntKind.u64.wrap z))) + c)))] = some ds]) TWB_holds 300 [.b true, .v (.int .u32 y), .v (.int .u32 z), .l ds] [4, 5, 7, 8, 9, 10, 11, 12, 41, 42, 43, 48, 49, 50] (by kernel_rfl) ⟨c1, n1, n2, n3, n4, (by decide), n5, n6, trivial⟩
theorem Try.k113i_2 (na : Bool) (nb : Bool) (la : Nat) (xa : List AV) (lb : Nat) (xb : List AV) (n : Nat) (cs : List AV) (i : Int) (x : Int) (c : Int) (k : Int) (c1 : (decide (k < ((lb : Nat) : Int))) = false) : RunsW Try.ir Try.c113i (Try.s113i na nb la xa lb xb n cs i x c k) (.exit 2) (Try.s113i na nb la xa lb xb n cs i x c k) :=
  RunsW.script (ps := [(decide (k < ((lb : Nat) : Int))) = false]) TWB_holds 300 [.b false] [4, 5, 7, 8, 9, 10, 11, 12, 41, 42, 43, 48, 49, 50] (by kernel_rfl) ⟨c1, trivial⟩
def Try.c113 : ICode := .seq (.region false [oB 44 .lss 43 42])
  (.seq (.cond (.t 44) (.skip)
  (.exit 0))
  (.seq (.block 1 (.seq (.region false [oM 45 43,
   o1 46 (.ixa 41 (.t 43) 1),
   o1 47 (.ld 46 46 1 true),
   oM 10 45,
   oM 11 47])
  (.seq (.region false [o1 12 (.mov (.c (.int .u64 0)))])
  (.seq (.seq (.region false [oM 48 8,
   o1 49 (.len (.t 48)),
   o1 50 (.mov (.c (.int .i64 0)))])
  (.block 2 (.loop (.seq (.region false [oB 51 .lss 50 49])
  (.seq (.cond (.t 51) (.skip)
  (.exit 2))
  (.seq (.block 3 (.seq (.region false [oM 52 50,
   o1 53 (.ixa 48 (.t 50) 1),
   o1 54 (.ld 53 53 1 true),
   oM 13 52,
   oM 14 54])
  (.seq (.region false [oM 55 11,
   o1 56 (.cv .u64 (.t 55)),
   oM 57 14,
   o1 58 (.cv .u64 (.t 57)),
   oB 59 .mul 56 58,
   o1 60 (.cpy 9),
   oM 61 10,
   oM 62 13,
   oB 63 .add 61 62,
   o1 64 (.ixo 60 9 (.t 63) 1),
   o1 65 (.ld 64 9 1 true),
   o1 66 (.cv .u64 (.t 65)),
   oB 67 .add 59 66,
   oM 68 12,
   oB 69 .add 67 68,
   oM 15 69])
  (.region false [o1 70 (.cpy 9),
   oM 71 10,
   oM 72 13,
   oB 73 .add 71 72,
   oM 74 15,
   o1 75 (.cv .u32 (.t 74)),
   oM 76 15,
   o1 77 (.bin .shr (.t 76) (.c (.int .u64 32))),
   o1 78 (.ixo 70 9 (.t 73) 1),
   oN (.st 78 9 1 (.t 75)),
   oM 12 77]))))
  (.region false [o1 79 (.bin .add (.t 50) (.c (.int .i64 1))),
   oM 50 79])))))))
  (.region false [o1 80 (.cpy 9),
   oM 81 10,
   oM 82 8,
   o1 83 (.len (.t 82)),
   oB 84 .add 81 83,
   oM 85 12,
   o1 86 (.cv .u32 (.t 85)),
   o1 87 (.ixo 80 9 (.t 84) 1),
   oN (.st 87 9 1 (.t 86))])))))
  (.region false [o1 88 (.bin .add (.t 43) (.c (.int .i64 1))),
   oM 43 88])))
def Try.s113 (na : Bool) (nb : Bool) (la : Nat) (xa : List AV) (lb : Nat) (xb : List AV) (n : Nat) (cs : List AV) (i : Int) : State := (dds 4 (.box [.bool false, .sl 0 []] :: (.val (.bool na) :: (dds 1 (.val (.bool nb) :: (.val (.sl lb xb) :: (.own 1 n cs :: (dds 31 (.val (.sl la xa) :: (.val (.int .i64 ((la : Nat) : Int)) :: (.val (.int .i64 i) :: (dds 50 []))))))))))))
theorem Try.ko113_no (na nb : Bool) (la : Nat) (xa : List AV) (lb : Nat) (xb : List AV) (n : Nat) (cs : List AV) (i : Int) (h : (decide (i < ((la : Nat) : Int))) = false) : RunsW Try.ir Try.c113 (Try.s113 na nb la xa lb xb n cs i) (.exit 0) (Try.s113 na nb la xa lb xb n cs i) :=
  RunsW.script (ps := [(decide (i < ((la : Nat) : Int))) = false]) TWB_holds 300 [.b false] [4, 5, 7, 8, 9, 41, 42, 43] (by kernel_rfl) ⟨h, trivial⟩
theorem Try.ko113_yes (na nb : Bool) (la : Nat) (xa : List AV) (lb : Nat) (xb : List AV) (n : Nat) (cs ds es : List AV) (i x c k : Int) (h : (decide (i < ((la : Nat) : Int))) = true) (hi : 0 ≤ i ∧ i < ((la : Nat) : Int)) (hx : takeA (List.drop (Int.toNat i * 1) xa) 0 1 true = some (.int .u32 x))
    (hl : RunsW Try.ir (.loop Try.c113i) (Try.s113i na nb la xa lb xb n cs i x 0 0) (.exit 2) (Try.s113i na nb la xa lb xb n ds i x c k))
    (hix : 0 ≤ IntKind.i64.wrap (i + ((lb : Nat) : Int)) ∧ IntKind.i64.wrap (i + ((lb : Nat) : Int)) < ((n : Nat) : Int)) (hst : layA ds (Int.toNat (IntKind.i64.wrap (i + ((lb : Nat) : Int))) * 1) [.int .u32 (IntKind.u32.wrap c)] = some es) :
    RunsW Try.ir Try.c113 (Try.s113 na nb la xa lb xb n cs i) .norm (Try.s113 na nb la xa lb xb n es (IntKind.i64.wrap (i + 1))) :=
  (RunsW.seq (RunsW.script (t := (dds 4 (.box [.bool false, .sl 0 []] :: (.val (.bool na) :: (dds 1 (.val (.bool nb) :: (.val (.sl lb xb) :: (.own 1 n cs :: (dds 31 (.val (.sl la xa) :: (.val (.int .i64 ((la : Nat) : Int)) :: (.val (.int .i64 i) :: (.val (.bool (decide (i < ((la : Nat) : Int)))) :: (dds 49 [])))))))))))))) (ex := .norm) (ps := []) TWB_holds 300 [] [4, 5, 7, 8, 9, 41, 42, 43, 44] (by kernel_rfl) trivial)
    (RunsW.seq (RunsW.script (t := (dds 4 (.box [.bool false, .sl 0 []] :: (.val (.bool na) :: (dds 1 (.val (.bool nb) :: (.val (.sl lb xb) :: (.own 1 n cs :: (dds 31 (.val (.sl la xa) :: (.val (.int .i64 ((la : Nat) : Int)) :: (.val (.int .i64 i) :: (.val (.bool (decide (i < ((la : Nat) : Int)))) :: (dds 49 [])))))))))))))) (ex := .norm) (ps := [(decide (i < ((la : Nat) : Int))) = true]) TWB_holds 300 [.b true] [4, 5, 7, 8, 9, 41, 42, 43, 44] (by kernel_rfl) ⟨h, trivial⟩)
    (RunsW.seq (RunsW.block_norm (RunsW.seq (RunsW.script (t := (dds 4 (.box [.bool false, .sl 0 []] :: (.val (.bool na) :: (dds 1 (.val (.bool nb) :: (.val (.sl lb xb) :: (.own 1 n cs :: (.val (.int .i64 i) :: (.val (.int .u32 x) :: (dds 29 (.val (.sl la xa) :: (.val (.int .i64 ((la : Nat) : Int)) :: (.val (.int .i64 i) :: (.val (.bool (decide (i < ((la : Nat) : Int)))) :: (.val (.int .i64 i) :: (.mem (List.drop (Int.toNat i * 1) xa) :: (.val (.int .u32 x) :: (dds 46 []))))))))))))))))))) (ex := .norm) (ps := [0 ≤ i ∧ i < ((la : Nat) : Int), takeA (List.drop (Int.toNat i * 1) xa) 0 1 true = some (.int .u32 x)]) TWB_holds 300 [.v (.int .u32 x)] [4, 5, 7, 8, 9, 10, 11, 41, 42, 43, 44, 45, 46, 47] (by kernel_rfl) ⟨hi, hx, trivial⟩)
    (RunsW.seq (RunsW.script (t := (dds 4 (.box [.bool false, .sl 0 []] :: (.val (.bool na) :: (dds 1 (.val (.bool nb) :: (.val (.sl lb xb) :: (.own 1 n cs :: (.val (.int .i64 i) :: (.val (.int .u32 x) :: (.val (.int .u64 0) :: (dds 28 (.val (.sl la xa) :: (.val (.int .i64 ((la : Nat) : Int)) :: (.val (.int .i64 i) :: (.val (.bool (decide (i < ((la : Nat) : Int)))) :: (.val (.int .i64 i) :: (.mem (List.drop (Int.toNat i * 1) xa) :: (.val (.int .u32 x) :: (dds 46 [])))))))))))))))))))) (ex := .norm) (ps := []) TWB_holds 300 [] [4, 5, 7, 8, 9, 10, 11, 12, 41, 42, 43, 44, 45, 46, 47] (by kernel_rfl) trivial)
    (RunsW.seq (RunsW.seq (RunsW.script (t := (dds 4 (.box [.bool false, .sl 0 []] :: (.val (.bool na) :: (dds 1 (.val (.bool nb) :: (.val (.sl lb xb) :: (.own 1 n cs :: (.val (.int .i64 i) :: (.val (.int .u32 x) :: (.val (.int .u64 0) :: (dds 28 (.val (.sl la xa) :: (.val (.int .i64 ((la : Nat) : Int)) :: (.val (.int .i64 i) :: (dds 4 (.val (.sl lb xb) :: (.val (.int .i64 ((lb : Nat) : Int)) :: (.val (.int .i64 0) :: (dds 43 [])))))))))))))))))))) (ex := .norm) (ps := []) TWB_holds 300 [] [4, 5, 7, 8, 9, 10, 11, 12, 41, 42, 43, 48, 49, 50] (by kernel_rfl) trivial)
    (RunsW.block hl))
    (RunsW.script (t := (dds 4 (.box [.bool false, .sl 0 []] :: (.val (.bool na) :: (dds 1 (.val (.bool nb) :: (.val (.sl lb xb) :: (.own 1 n es :: (.val (.int .i64 i) :: (.val (.int .u32 x) :: (.val (.int .u64 c) :: (dds 28 (.val (.sl la xa) :: (.val (.int .i64 ((la : Nat) : Int)) :: (.val (.int .i64 i) :: (dds 4 (.val (.sl lb xb) :: (.val (.int .i64 ((lb : Nat) : Int)) :: (.val (.int .i64 k) :: (dds 29 (.dup 9 :: (.val (.int .i64 i) :: (.val (.sl lb xb) :: (.val (.int .i64 ((lb : Nat) : Int)) :: (.val (.int .i64 (IntKind.i64.wrap (i + ((lb : Nat) : Int)))) :: (.val (.int .u64 c) :: (.val (.int .u32 (IntKind.u32.wrap c)) :: (.ptr 9 (Int.toNat (IntKind.i64.wrap (i + ((lb : Nat) : Int))) * 1) :: (dds 6 []))))))))))))))))))))))))))))) (ex := .norm) (ps := [0 ≤ (IntKind.i64.wrap (i + ((lb : Nat) : Int))) ∧ (IntKind.i64.wrap (i + ((lb : Nat) : Int))) < ((n : Nat) : Int), layA ds (Int.toNat (IntKind.i64.wrap (i + ((lb : Nat) : Int))) * 1) [.int .u32 (IntKind.u32.wrap c)] = some es]) TWB_holds 300 [.l es] [4, 5, 7, 8, 9, 10, 11, 12, 41, 42, 43, 48, 49, 50, 80, 81, 82, 83, 84, 85, 86, 87] (by kernel_rfl) ⟨hix, hst, trivial⟩)))))
    (RunsW.script (t := (dds 4 (.box [.bool false, .sl 0 []] :: (.val (.bool na) :: (dds 1 (.val (.bool nb) :: (.val (.sl lb xb) :: (.own 1 n es :: (dds 31 (.val (.sl la xa) :: (.val (.int .i64 ((la : Nat) : Int)) :: (.val (.int .i64 (IntKind.i64.wrap (i + 1))) :: (dds 50 []))))))))))))) (ex := .norm) (ps := []) TWB_holds 300 [] [4, 5, 7, 8, 9, 41, 42, 43] (by kernel_rfl) trivial))))
theorem Try.loop113i (na nb : Bool) (xs ys : List Int) (hx : U32 xs) (hy : U32 ys) (n i : Nat) (hn : n ≤ 1048576) (hib : i + ys.length ≤ n) : ∀ (r k : Nat) (out : List Int) (c : Int), r + k = ys.length → out.length = n → U32 out → 0 ≤ c ∧ c < 4294967296 →
    RunsW Try.ir (.loop Try.c113i) (Try.s113i na nb xs.length (lm xs) ys.length (lm ys) n (lm out) ((i : Nat) : Int) (xs.getD i 0) c ((k : Nat) : Int)) (.exit 2)
      (Try.s113i na nb xs.length (lm xs) ys.length (lm ys) n (lm (innGo (xs.getD i 0) ys i r k out c).1) ((i : Nat) : Int) (xs.getD i 0) (innGo (xs.getD i 0) ys i r k out c).2 ((ys.length : Nat) : Int)) := by
  intro r
  induction r with
  | zero =>
    intro k out c hk _ _ _
    have hk' : k = ys.length := by omega
    subst hk'
    exact RunsW.loop_out (Try.k113i_2 na nb xs.length (lm xs) ys.length (lm ys) n (lm out) ((i : Nat) : Int) (xs.getD i 0) c ((ys.length : Nat) : Int) (by simp)) (by intro e; cases e)
  | succ r ih =>
    intro k out c hk hl hu hc
    have hai := getD_u32 hx i
    have hbk := getD_u32 hy k
    have hok := getD_u32 hu (i + k)
    obtain ⟨w1, w2, w3, w4⟩ := word_bd hai hbk hc hok
    have ei : IntKind.i64.wrap (((i : Nat) : Int) + ((k : Nat) : Int)) = ((i + k : Nat) : Int) := by rw [w64 (by omega) (by omega)]; omega
    have ek : IntKind.i64.wrap (((k : Nat) : Int) + 1) = ((k + 1 : Nat) : Int) := by rw [w64 (by omega) (by omega)]; omega
    have hz := own_lim (xs := out) (i := i + k) (by omega)
    have hyk := take_lim (xs := ys) (i := k) (by omega)
    have hst := lay_lim (xs := out) (i := i + k) (v := (c + (out.getD (i + k) 0 + xs.getD i 0 * ys.getD k 0)) % 4294967296) (by omega)
    have eW : IntKind.u64.wrap (IntKind.u64.wrap (IntKind.u64.wrap (IntKind.u64.wrap (xs.getD i 0) * IntKind.u64.wrap (ys.getD k 0)) + IntKind.u64.wrap (out.getD (i + k) 0)) + c) = c + (out.getD (i + k) 0 + xs.getD i 0 * ys.getD k 0) := by
      have q1 : IntKind.u64.wrap (xs.getD i 0) = xs.getD i 0 := by rw [wu64m]; omega
      have q2 : IntKind.u64.wrap (ys.getD k 0) = ys.getD k 0 := by rw [wu64m]; omega
      have q3 : IntKind.u64.wrap (out.getD (i + k) 0) = out.getD (i + k) 0 := by rw [wu64m]; omega
      rw [q1, q2, q3, wu64m, wu64m, wu64m]
      omega
    have eS : Int.fdiv (c + (out.getD (i + k) 0 + xs.getD i 0 * ys.getD k 0)) (2 ^ (min (Int.toNat 32) (IntKind.bits .u64))) = (c + (out.getD (i + k) 0 + xs.getD i 0 * ys.getD k 0)) / 4294967296 := by
      show Int.fdiv _ 4294967296 = _
      rw [Int.fdiv_eq_ediv_of_nonneg _ (by omega)]
    have h1 := Try.k113i_1 na nb xs.length (lm xs) ys.length (lm ys) n (lm out) ((i : Nat) : Int) (xs.getD i 0) c ((k : Nat) : Int) (lm (out.set (i + k) ((c + (out.getD (i + k) 0 + xs.getD i 0 * ys.getD k 0)) % 4294967296))) (ys.getD k 0) (out.getD (i + k) 0)
      (by simp; omega) (by omega) (by rw [Int.toNat_natCast]; exact hyk) (by rw [ei]; omega) (by rw [ei, Int.toNat_natCast]; exact hz) (by rw [ei]; omega) (by rw [ei, Int.toNat_natCast, eW, wu32]; exact hst)
    rw [eW, eS, ek] at h1
    exact RunsW.loop h1 (ih (k + 1) _ _ (by omega) (by simpa using hl) (u32_set hu (by omega)) (by omega))
theorem Try.loop113 (na nb : Bool) (xs ys : List Int) (hx : U32 xs) (hy : U32 ys) (hN : xs.length + ys.length ≤ 1048576) : ∀ (r i : Nat) (out : List Int), r + i = xs.length → out.length = xs.length + ys.length → U32 out → (∀ j, i + ys.length ≤ j → out.getD j 0 = 0) →
    ∃ out', out'.length = xs.length + ys.length ∧ U32 out' ∧ valL out' = valL out + 4294967296 ^ i * (valL (xs.drop i) * valL ys) ∧
      RunsW Try.ir (.loop Try.c113) (Try.s113 na nb xs.length (lm xs) ys.length (lm ys) (xs.length + ys.length) (lm out) ((i : Nat) : Int)) (.exit 0) (Try.s113 na nb xs.length (lm xs) ys.length (lm ys) (xs.length + ys.length) (lm out') ((xs.length : Nat) : Int)) := by
  intro r
  induction r with
  | zero =>
    intro i out hi hl hu _
    have hi' : i = xs.length := by omega
    subst hi'
    refine ⟨out, hl, hu, by simp [valL], ?_⟩
    exact RunsW.loop_out (Try.ko113_no na nb xs.length (lm xs) ys.length (lm ys) (xs.length + ys.length) (lm out) ((xs.length : Nat) : Int) (by simp)) (by intro e; cases e)
  | succ r ih =>
    intro i out hi hl hu hz
    have hai := getD_u32 hx i
    have hlt : i < xs.length := by omega
    have hin := Try.loop113i na nb xs ys hx hy (xs.length + ys.length) i hN (by omega) ys.length 0 out 0 (by omega) hl hu (by omega)
    obtain ⟨g1, g2, g3, g4, g5⟩ := innGo_ok (i := i) hai hy ys.length 0 out 0 (by omega) (by omega) hu (by omega)
    generalize innGo (xs.getD i 0) ys i ys.length 0 out 0 = q at *
    obtain ⟨ds, c⟩ := q
    dsimp only at g1 g2 g3 g4 g5 hin
    have ei : IntKind.i64.wrap (((i : Nat) : Int) + ((ys.length : Nat) : Int)) = ((i + ys.length : Nat) : Int) := by rw [w64 (by omega) (by omega)]; omega
    have ei1 : IntKind.i64.wrap (((i : Nat) : Int) + 1) = ((i + 1 : Nat) : Int) := by rw [w64 (by omega) (by omega)]; omega
    have ec : IntKind.u32.wrap c = c := by rw [wu32]; omega
    have hst := lay_lim (xs := ds) (i := i + ys.length) (v := c) (by omega)
    have hxi := take_lim (xs := xs) (i := i) hlt
    have h1 := Try.ko113_yes na nb xs.length (lm xs) ys.length (lm ys) (xs.length + ys.length) (lm out) (lm ds) (lm (ds.set (i + ys.length) c)) ((i : Nat) : Int) (xs.getD i 0) c ((ys.length : Nat) : Int) (by simp; omega) (by omega) (by rw [Int.toNat_natCast]; exact hxi) hin (by rw [ei]; omega) (by rw [ei, Int.toNat_natCast, ec]; exact hst)
    rw [ei1] at h1
    obtain ⟨out', k1, k2, k3, k4⟩ := ih (i + 1) (ds.set (i + ys.length) c) (by omega) (by simp; omega) (u32_set g2 g3) (fun j hj => by rw [getD_set_ne (by omega), g5 j (by omega), hz j (by omega)])
    refine ⟨out', k1, k2, ?_, RunsW.loop h1 k4⟩
    have hv : valL (ds.set (i + ys.length) c) = valL out + 4294967296 ^ i * (xs.getD i 0 * valL ys) := by
      rw [valL_set ds _ _ (by omega), g5 _ (Nat.le_refl _), hz _ (Nat.le_refl _)]
      simp only [Nat.add_zero, List.drop_zero, Int.zero_add, Int.sub_zero] at g4 ⊢
      exact g4
    have hd : valL (xs.drop i) = xs.getD i 0 + 4294967296 * valL (xs.drop (i + 1)) := drop_val xs i
    rw [k3, hv, hd, Int.pow_succ]
    generalize (4294967296 : Int) ^ i = p at *
    generalize valL (xs.drop (i + 1)) = V at *
    grind
theorem Try.run113_a (na : Bool) (xs : List Int) (nb : Bool) (ys : List Int) (a b : Int) (h1 : Runs Try.ir 122 [.agg [.bool na, .sl xs.length (lm xs)]] (.tup [.bool (decide (a < 0)), .sl (limbs (Int.natAbs a)).length (lm (limbs (Int.natAbs a)))])) (h2 : Runs Try.ir 122 [.agg [.bool nb, .sl ys.length (lm ys)]] (.tup [.bool (decide (b < 0)), .sl (limbs (Int.natAbs b)).length (lm (limbs (Int.natAbs b)))])) (z : ((((limbs (Int.natAbs a)).length : Nat) : Int) == 0) = true) : Runs Try.ir 113 [.agg [.bool na, .sl xs.length (lm xs)], .agg [.bool nb, .sl ys.length (lm ys)]] (.agg [.bool false, .sl 0 []]) :=
  Runs.script (ps := [Runs Try.ir 122 [.agg [.bool na, .sl xs.length (lm xs)]] (.tup [.bool (decide (a < 0)), .sl ((limbs (Int.natAbs a)).length) (lm (limbs (Int.natAbs a)))]), Runs Try.ir 122 [.agg [.bool nb, .sl ys.length (lm ys)]] (.tup [.bool (decide (b < 0)), .sl ((limbs (Int.natAbs b)).length) (lm (limbs (Int.natAbs b)))]), ((((limbs (Int.natAbs a)).length : Nat) : Int) == 0) = true, true = true]) TWB_holds rfl 300 rfl [.r (.tup [.bool (decide (a < 0)), .sl ((limbs (Int.natAbs a)).length) (lm (limbs (Int.natAbs a)))]), .r (.tup [.bool (decide (b < 0)), .sl ((limbs (Int.natAbs b)).length) (lm (limbs (Int.natAbs b)))]), .b true, .b true] (by kernel_rfl) ⟨h1, h2, z, rfl, trivial⟩
theorem Try.run113_b (na : Bool) (xs : List Int) (nb : Bool) (ys : List Int) (a b : Int) (h1 : Runs Try.ir 122 [.agg [.bool na, .sl xs.length (lm xs)]] (.tup [.bool (decide (a < 0)), .sl (limbs (Int.natAbs a)).length (lm (limbs (Int.natAbs a)))])) (h2 : Runs Try.ir 122 [.agg [.bool nb, .sl ys.length (lm ys)]] (.tup [.bool (decide (b < 0)), .sl (limbs (Int.natAbs b)).length (lm (limbs (Int.natAbs b)))])) (y : ((((limbs (Int.natAbs a)).length : Nat) : Int) == 0) = false) (z : ((((limbs (Int.natAbs b)).length : Nat) : Int) == 0) = true) : Runs Try.ir 113 [.agg [.bool na, .sl xs.length (lm xs)], .agg [.bool nb, .sl ys.length (lm ys)]] (.agg [.bool false, .sl 0 []]) :=
  Runs.script (ps := [Runs Try.ir 122 [.agg [.bool na, .sl xs.length (lm xs)]] (.tup [.bool (decide (a < 0)), .sl ((limbs (Int.natAbs a)).length) (lm (limbs (Int.natAbs a)))]), Runs Try.ir 122 [.agg [.bool nb, .sl ys.length (lm ys)]] (.tup [.bool (decide (b < 0)), .sl ((limbs (Int.natAbs b)).length) (lm (limbs (Int.natAbs b)))]), ((((limbs (Int.natAbs a)).length : Nat) : Int) == 0) = false, ((((limbs (Int.natAbs b)).length : Nat) : Int) == 0) = true]) TWB_holds rfl 300 rfl [.r (.tup [.bool (decide (a < 0)), .sl ((limbs (Int.natAbs a)).length) (lm (limbs (Int.natAbs a)))]), .r (.tup [.bool (decide (b < 0)), .sl ((limbs (Int.natAbs b)).length) (lm (limbs (Int.natAbs b)))]), .b false, .b true] (by kernel_rfl) ⟨h1, h2, y, z, trivial⟩
theorem Try.run113_c (na : Bool) (xs : List Int) (nb : Bool) (ys : List Int) (a b : Int) (h1 : Runs Try.ir 122 [.agg [.bool na, .sl xs.length (lm xs)]] (.tup [.bool (decide (a < 0)), .sl (limbs (Int.natAbs a)).length (lm (limbs (Int.natAbs a)))])) (h2 : Runs Try.ir 122 [.agg [.bool nb, .sl ys.length (lm ys)]] (.tup [.bool (decide (b < 0)), .sl (limbs (Int.natAbs b)).length (lm (limbs (Int.natAbs b)))])) (out : List Int) (r : Int) (y : ((((limbs (Int.natAbs a)).length : Nat) : Int) == 0) = false) (z : ((((limbs (Int.natAbs b)).length : Nat) : Int) == 0) = false)
    (hmk : 0 ≤ IntKind.i64.wrap ((((limbs (Int.natAbs a)).length : Nat) : Int) + (((limbs (Int.natAbs b)).length : Nat) : Int)) ∧ IntKind.i64.wrap ((((limbs (Int.natAbs a)).length : Nat) : Int) + (((limbs (Int.natAbs b)).length : Nat) : Int)) ≤ 1048576)
    (hl : RunsW Try.ir (.loop Try.c113) (Try.s113 (decide (a < 0)) (decide (b < 0)) (limbs (Int.natAbs a)).length (lm (limbs (Int.natAbs a))) (limbs (Int.natAbs b)).length (lm (limbs (Int.natAbs b))) (Int.toNat (IntKind.i64.wrap ((((limbs (Int.natAbs a)).length : Nat) : Int) + (((limbs (Int.natAbs b)).length : Nat) : Int)))) (replA [.int .u32 0] (Int.toNat (IntKind.i64.wrap ((((limbs (Int.natAbs a)).length : Nat) : Int) + (((limbs (Int.natAbs b)).length : Nat) : Int))))) 0) (.exit 0) (Try.s113 (decide (a < 0)) (decide (b < 0)) (limbs (Int.natAbs a)).length (lm (limbs (Int.natAbs a))) (limbs (Int.natAbs b)).length (lm (limbs (Int.natAbs b))) (Int.toNat (IntKind.i64.wrap ((((limbs (Int.natAbs a)).length : Nat) : Int) + (((limbs (Int.natAbs b)).length : Nat) : Int)))) (lm out) (((limbs (Int.natAbs a)).length : Nat) : Int)))
    (h3 : Runs Try.ir 133 [.bool (!((decide (a < 0)) == (decide (b < 0)))), .sl (Int.toNat (IntKind.i64.wrap ((((limbs (Int.natAbs a)).length : Nat) : Int) + (((limbs (Int.natAbs b)).length : Nat) : Int)))) (lm out)] (.agg [.bool (decide (r < 0)), .sl ((limbs (Int.natAbs r)).length) (lm (limbs (Int.natAbs r)))])) : Runs Try.ir 113 [.agg [.bool na, .sl xs.length (lm xs)], .agg [.bool nb, .sl ys.length (lm ys)]] (.agg [.bool (decide (r < 0)), .sl ((limbs (Int.natAbs r)).length) (lm (limbs (Int.natAbs r)))]) :=
  Runs.of_bodyW (fn := Try.i113) (s := (dds 4 (.box [.bool (decide (r < 0)), .sl ((limbs (Int.natAbs r)).length) (lm (limbs (Int.natAbs r)))] :: (.val (.bool (decide (a < 0))) :: (dds 1 (.val (.bool (decide (b < 0))) :: (.val (.sl ((limbs (Int.natAbs b)).length) (lm (limbs (Int.natAbs b)))) :: (.val (.sl (Int.toNat (IntKind.i64.wrap ((((limbs (Int.natAbs a)).length : Nat) : Int) + (((limbs (Int.natAbs b)).length : Nat) : Int)))) (lm out)) :: (dds 31 (.val (.sl ((limbs (Int.natAbs a)).length) (lm (limbs (Int.natAbs a)))) :: (.val (.int .i64 (((limbs (Int.natAbs a)).length : Nat) : Int)) :: (.val (.int .i64 (((limbs (Int.natAbs a)).length : Nat) : Int)) :: (dds 45 (.val (.bool (decide (a < 0))) :: (.val (.bool (decide (b < 0))) :: (.val (.bool (!((decide (a < 0)) == (decide (b < 0))))) :: (.val (.sl (Int.toNat (IntKind.i64.wrap ((((limbs (Int.natAbs a)).length : Nat) : Int) + (((limbs (Int.natAbs b)).length : Nat) : Int)))) (lm out)) :: (.val (.agg [.bool (decide (r < 0)), .sl ((limbs (Int.natAbs r)).length) (lm (limbs (Int.natAbs r)))]) :: [])))))))))))))))))) (ex := .ret) rfl rfl
    (RunsW.seq (RunsW.script (t := (.val (.agg [.bool na, .sl xs.length (lm xs)]) :: (.val (.agg [.bool nb, .sl ys.length (lm ys)]) :: (.box [.bool na, .sl xs.length (lm xs)] :: (.box [.bool nb, .sl ys.length (lm ys)] :: (.box [.bool false, .sl 0 []] :: (dds 89 []))))))) (ex := .norm) (ps := []) TWB_holds 300 [] [0, 1, 2, 3, 4] (by kernel_rfl) trivial)
    (RunsW.seq (RunsW.script (t := (.val (.agg [.bool na, .sl xs.length (lm xs)]) :: (.val (.agg [.bool nb, .sl ys.length (lm ys)]) :: (.box [.bool na, .sl xs.length (lm xs)] :: (.box [.bool nb, .sl ys.length (lm ys)] :: (.box [.bool false, .sl 0 []] :: (.val (.bool (decide (a < 0))) :: (.val (.sl ((limbs (Int.natAbs a)).length) (lm (limbs (Int.natAbs a)))) :: (dds 9 (.val (.tup [.bool (decide (a < 0)), .sl ((limbs (Int.natAbs a)).length) (lm (limbs (Int.natAbs a)))]) :: (.val (.agg [.bool na, .sl xs.length (lm xs)]) :: (.val (.tup [.bool (decide (a < 0)), .sl ((limbs (Int.natAbs a)).length) (lm (limbs (Int.natAbs a)))]) :: (.val (.bool (decide (a < 0))) :: (.val (.sl ((limbs (Int.natAbs a)).length) (lm (limbs (Int.natAbs a)))) :: (dds 73 []))))))))))))))) (ex := .norm) (ps := [Runs Try.ir 122 [.agg [.bool na, .sl xs.length (lm xs)]] (.tup [.bool (decide (a < 0)), .sl ((limbs (Int.natAbs a)).length) (lm (limbs (Int.natAbs a)))])]) TWB_holds 300 [.r (.tup [.bool (decide (a < 0)), .sl ((limbs (Int.natAbs a)).length) (lm (limbs (Int.natAbs a)))])] [0, 1, 2, 3, 4, 5, 6, 16, 17, 18, 19, 20] (by kernel_rfl) ⟨h1, trivial⟩)
    (RunsW.seq (RunsW.script (t := (.val (.agg [.bool na, .sl xs.length (lm xs)]) :: (.val (.agg [.bool nb, .sl ys.length (lm ys)]) :: (.box [.bool na, .sl xs.length (lm xs)] :: (.box [.bool nb, .sl ys.length (lm ys)] :: (.box [.bool false, .sl 0 []] :: (.val (.bool (decide (a < 0))) :: (.val (.sl ((limbs (Int.natAbs a)).length) (lm (limbs (Int.natAbs a)))) :: (.val (.bool (decide (b < 0))) :: (.val (.sl ((limbs (Int.natAbs b)).length) (lm (limbs (Int.natAbs b)))) :: (dds 7 (.val (.tup [.bool (decide (a < 0)), .sl ((limbs (Int.natAbs a)).length) (lm (limbs (Int.natAbs a)))]) :: (.val (.agg [.bool na, .sl xs.length (lm xs)]) :: (.val (.tup [.bool (decide (a < 0)), .sl ((limbs (Int.natAbs a)).length) (lm (limbs (Int.natAbs a)))]) :: (.val (.bool (decide (a < 0))) :: (.val (.sl ((limbs (Int.natAbs a)).length) (lm (limbs (Int.natAbs a)))) :: (.val (.tup [.bool (decide (b < 0)), .sl ((limbs (Int.natAbs b)).length) (lm (limbs (Int.natAbs b)))]) :: (.val (.agg [.bool nb, .sl ys.length (lm ys)]) :: (.val (.tup [.bool (decide (b < 0)), .sl ((limbs (Int.natAbs b)).length) (lm (limbs (Int.natAbs b)))]) :: (.val (.bool (decide (b < 0))) :: (.val (.sl ((limbs (Int.natAbs b)).length) (lm (limbs (Int.natAbs b)))) :: (dds 68 [])))))))))))))))))))))) (ex := .norm) (ps := [Runs Try.ir 122 [.agg [.bool nb, .sl ys.length (lm ys)]] (.tup [.bool (decide (b < 0)), .sl ((limbs (Int.natAbs b)).length) (lm (limbs (Int.natAbs b)))])]) TWB_holds 300 [.r (.tup [.bool (decide (b < 0)), .sl ((limbs (Int.natAbs b)).length) (lm (limbs (Int.natAbs b)))])] [0, 1, 2, 3, 4, 5, 6, 7, 8, 16, 17, 18, 19, 20, 21, 22, 23, 24, 25] (by kernel_rfl) ⟨h2, trivial⟩)
    (RunsW.seq (RunsW.script (t := (.val (.agg [.bool na, .sl xs.length (lm xs)]) :: (.val (.agg [.bool nb, .sl ys.length (lm ys)]) :: (.box [.bool na, .sl xs.length (lm xs)] :: (.box [.bool nb, .sl ys.length (lm ys)] :: (.box [.bool false, .sl 0 []] :: (.val (.bool (decide (a < 0))) :: (.val (.sl ((limbs (Int.natAbs a)).length) (lm (limbs (Int.natAbs a)))) :: (.val (.bool (decide (b < 0))) :: (.val (.sl ((limbs (Int.natAbs b)).length) (lm (limbs (Int.natAbs b)))) :: (dds 7 (.val (.tup [.bool (decide (a < 0)), .sl ((limbs (Int.natAbs a)).length) (lm (limbs (Int.natAbs a)))]) :: (.val (.agg [.bool na, .sl xs.length (lm xs)]) :: (.val (.tup [.bool (decide (a < 0)), .sl ((limbs (Int.natAbs a)).length) (lm (limbs (Int.natAbs a)))]) :: (.val (.bool (decide (a < 0))) :: (.val (.sl ((limbs (Int.natAbs a)).length) (lm (limbs (Int.natAbs a)))) :: (.val (.tup [.bool (decide (b < 0)), .sl ((limbs (Int.natAbs b)).length) (lm (limbs (Int.natAbs b)))]) :: (.val (.agg [.bool nb, .sl ys.length (lm ys)]) :: (.val (.tup [.bool (decide (b < 0)), .sl ((limbs (Int.natAbs b)).length) (lm (limbs (Int.natAbs b)))]) :: (.val (.bool (decide (b < 0))) :: (.val (.sl ((limbs (Int.natAbs b)).length) (lm (limbs (Int.natAbs b)))) :: (.val (.sl ((limbs (Int.natAbs a)).length) (lm (limbs (Int.natAbs a)))) :: (.val (.int .i64 (((limbs (Int.natAbs a)).length : Nat) : Int)) :: (.val (.bool ((((limbs (Int.natAbs a)).length : Nat) : Int) == 0)) :: (.val (.bool ((((limbs (Int.natAbs a)).length : Nat) : Int) == 0)) :: (.val (.sl ((limbs (Int.natAbs b)).length) (lm (limbs (Int.natAbs b)))) :: (.val (.int .i64 (((limbs (Int.natAbs b)).length : Nat) : Int)) :: (.val (.bool ((((limbs (Int.natAbs b)).length : Nat) : Int) == 0)) :: (.val (.bool ((((limbs (Int.natAbs b)).length : Nat) : Int) == 0)) :: (dds 60 [])))))))))))))))))))))))))))))) (ex := .norm) (ps := [((((limbs (Int.natAbs a)).length : Nat) : Int) == 0) = false, ((((limbs (Int.natAbs b)).length : Nat) : Int) == 0) = false]) TWB_holds 300 [.b false, .b false] [0, 1, 2, 3, 4, 5, 6, 7, 8, 16, 17, 18, 19, 20, 21, 22, 23, 24, 25, 26, 27, 28, 29, 30, 31, 32, 33] (by kernel_rfl) ⟨y, z, trivial⟩)
    (RunsW.seq (RunsW.script (t := (.val (.agg [.bool na, .sl xs.length (lm xs)]) :: (.val (.agg [.bool nb, .sl ys.length (lm ys)]) :: (.box [.bool na, .sl xs.length (lm xs)] :: (.box [.bool nb, .sl ys.length (lm ys)] :: (.box [.bool false, .sl 0 []] :: (.val (.bool (decide (a < 0))) :: (.val (.sl ((limbs (Int.natAbs a)).length) (lm (limbs (Int.natAbs a)))) :: (.val (.bool (decide (b < 0))) :: (.val (.sl ((limbs (Int.natAbs b)).length) (lm (limbs (Int.natAbs b)))) :: (.own 1 (Int.toNat (IntKind.i64.wrap ((((limbs (Int.natAbs a)).length : Nat) : Int) + (((limbs (Int.natAbs b)).length : Nat) : Int)))) (replA [.int .u32 0] (Int.toNat (IntKind.i64.wrap ((((limbs (Int.natAbs a)).length : Nat) : Int) + (((limbs (Int.natAbs b)).length : Nat) : Int))))) :: (dds 6 (.val (.tup [.bool (decide (a < 0)), .sl ((limbs (Int.natAbs a)).length) (lm (limbs (Int.natAbs a)))]) :: (.val (.agg [.bool na, .sl xs.length (lm xs)]) :: (.val (.tup [.bool (decide (a < 0)), .sl ((limbs (Int.natAbs a)).length) (lm (limbs (Int.natAbs a)))]) :: (.val (.bool (decide (a < 0))) :: (.val (.sl ((limbs (Int.natAbs a)).length) (lm (limbs (Int.natAbs a)))) :: (.val (.tup [.bool (decide (b < 0)), .sl ((limbs (Int.natAbs b)).length) (lm (limbs (Int.natAbs b)))]) :: (.val (.agg [.bool nb, .sl ys.length (lm ys)]) :: (.val (.tup [.bool (decide (b < 0)), .sl ((limbs (Int.natAbs b)).length) (lm (limbs (Int.natAbs b)))]) :: (.val (.bool (decide (b < 0))) :: (.val (.sl ((limbs (Int.natAbs b)).length) (lm (limbs (Int.natAbs b)))) :: (.val (.sl ((limbs (Int.natAbs a)).length) (lm (limbs (Int.natAbs a)))) :: (.val (.int .i64 (((limbs (Int.natAbs a)).length : Nat) : Int)) :: (.val (.bool ((((limbs (Int.natAbs a)).length : Nat) : Int) == 0)) :: (.val (.bool ((((limbs (Int.natAbs a)).length : Nat) : Int) == 0)) :: (.val (.sl ((limbs (Int.natAbs b)).length) (lm (limbs (Int.natAbs b)))) :: (.val (.int .i64 (((limbs (Int.natAbs b)).length : Nat) : Int)) :: (.val (.bool ((((limbs (Int.natAbs b)).length : Nat) : Int) == 0)) :: (.val (.bool ((((limbs (Int.natAbs b)).length : Nat) : Int) == 0)) :: (dds 1 (.val (.sl ((limbs (Int.natAbs a)).length) (lm (limbs (Int.natAbs a)))) :: (.val (.int .i64 (((limbs (Int.natAbs a)).length : Nat) : Int)) :: (.val (.sl ((limbs (Int.natAbs b)).length) (lm (limbs (Int.natAbs b)))) :: (.val (.int .i64 (((limbs (Int.natAbs b)).length : Nat) : Int)) :: (.val (.int .i64 (IntKind.i64.wrap ((((limbs (Int.natAbs a)).length : Nat) : Int) + (((limbs (Int.natAbs b)).length : Nat) : Int)))) :: (dds 54 []))))))))))))))))))))))))))))))))))))) (ex := .norm) (ps := [0 ≤ (IntKind.i64.wrap ((((limbs (Int.natAbs a)).length : Nat) : Int) + (((limbs (Int.natAbs b)).length : Nat) : Int))) ∧ (IntKind.i64.wrap ((((limbs (Int.natAbs a)).length : Nat) : Int) + (((limbs (Int.natAbs b)).length : Nat) : Int))) ≤ 1048576]) TWB_holds 300 [] ((0) :: (1) :: (2) :: (3) :: (4) :: (5) :: (6) :: (7) :: (8) :: (9) :: (16) :: (17) :: (18) :: (19) :: (20) :: (21) :: (22) :: (23) :: (24) :: (25) :: (26) :: (27) :: (28) :: (29) :: (30) :: (31) :: (32) :: (33) :: (35) :: (36) :: (37) :: (38) :: (39) :: []) (by kernel_rfl) ⟨hmk, trivial⟩)
    (RunsW.seq (RunsW.seq (RunsW.script (t := (dds 4 (.box [.bool false, .sl 0 []] :: (.val (.bool (decide (a < 0))) :: (dds 1 (.val (.bool (decide (b < 0))) :: (.val (.sl ((limbs (Int.natAbs b)).length) (lm (limbs (Int.natAbs b)))) :: (.own 1 (Int.toNat (IntKind.i64.wrap ((((limbs (Int.natAbs a)).length : Nat) : Int) + (((limbs (Int.natAbs b)).length : Nat) : Int)))) (replA [.int .u32 0] (Int.toNat (IntKind.i64.wrap ((((limbs (Int.natAbs a)).length : Nat) : Int) + (((limbs (Int.natAbs b)).length : Nat) : Int))))) :: (dds 31 (.val (.sl ((limbs (Int.natAbs a)).length) (lm (limbs (Int.natAbs a)))) :: (.val (.int .i64 (((limbs (Int.natAbs a)).length : Nat) : Int)) :: (.val (.int .i64 0) :: (dds 50 []))))))))))))) (ex := .norm) (ps := []) TWB_holds 300 [] [4, 5, 7, 8, 9, 41, 42, 43] (by kernel_rfl) trivial)
    (RunsW.block hl))
    (RunsW.script (t := (dds 4 (.box [.bool (decide (r < 0)), .sl ((limbs (Int.natAbs r)).length) (lm (limbs (Int.natAbs r)))] :: (.val (.bool (decide (a < 0))) :: (dds 1 (.val (.bool (decide (b < 0))) :: (.val (.sl ((limbs (Int.natAbs b)).length) (lm (limbs (Int.natAbs b)))) :: (.val (.sl (Int.toNat (IntKind.i64.wrap ((((limbs (Int.natAbs a)).length : Nat) : Int) + (((limbs (Int.natAbs b)).length : Nat) : Int)))) (lm out)) :: (dds 31 (.val (.sl ((limbs (Int.natAbs a)).length) (lm (limbs (Int.natAbs a)))) :: (.val (.int .i64 (((limbs (Int.natAbs a)).length : Nat) : Int)) :: (.val (.int .i64 (((limbs (Int.natAbs a)).length : Nat) : Int)) :: (dds 45 (.val (.bool (decide (a < 0))) :: (.val (.bool (decide (b < 0))) :: (.val (.bool (!((decide (a < 0)) == (decide (b < 0))))) :: (.val (.sl (Int.toNat (IntKind.i64.wrap ((((limbs (Int.natAbs a)).length : Nat) : Int) + (((limbs (Int.natAbs b)).length : Nat) : Int)))) (lm out)) :: (.val (.agg [.bool (decide (r < 0)), .sl ((limbs (Int.natAbs r)).length) (lm (limbs (Int.natAbs r)))]) :: [])))))))))))))))))) (ex := .ret) (ps := [Runs Try.ir 133 [.bool (!((decide (a < 0)) == (decide (b < 0)))), .sl (Int.toNat (IntKind.i64.wrap ((((limbs (Int.natAbs a)).length : Nat) : Int) + (((limbs (Int.natAbs b)).length : Nat) : Int)))) (lm out)] (.agg [.bool (decide (r < 0)), .sl ((limbs (Int.natAbs r)).length) (lm (limbs (Int.natAbs r)))])]) TWB_holds 300 [.r (.agg [.bool (decide (r < 0)), .sl ((limbs (Int.natAbs r)).length) (lm (limbs (Int.natAbs r)))])] [4, 5, 7, 8, 9, 41, 42, 43, 89, 90, 91, 92, 93] (by kernel_rfl) ⟨h3, trivial⟩))))))) (by intro i e; cases e) rfl
theorem rv_times (a b : Int) (zs : List Int) (h : valL zs = ((a.natAbs : Nat) : Int) * ((b.natAbs : Nat) : Int)) : rv (!(decide (a < 0) == decide (b < 0))) zs = a * b := by
  unfold rv
  rw [h]
  by_cases g1 : a < 0 <;> by_cases g2 : b < 0
  · have e1 : ((a.natAbs : Nat) : Int) = -a := by omega
    have e2 : ((b.natAbs : Nat) : Int) = -b := by omega
    rw [e1, e2]; simp [g1, g2] <;> grind
  · have e1 : ((a.natAbs : Nat) : Int) = -a := by omega
    have e2 : ((b.natAbs : Nat) : Int) = b := by omega
    rw [e1, e2]; simp [g1, g2] <;> grind
  · have e1 : ((a.natAbs : Nat) : Int) = a := by omega
    have e2 : ((b.natAbs : Nat) : Int) = -b := by omega
    rw [e1, e2]; simp [g1, g2] <;> grind
  · have e1 : ((a.natAbs : Nat) : Int) = a := by omega
    have e2 : ((b.natAbs : Nat) : Int) = b := by omega
    rw [e1, e2]; simp [g1, g2]
theorem wmul_run {na nb : Bool} {xs ys : List Int} (hx : U32 xs) (hy : U32 ys) (hN : xs.length + ys.length ≤ 1048576) : Runs Try.ir 113 [.agg [.bool na, .sl xs.length (lm xs)], .agg [.bool nb, .sl ys.length (lm ys)]] (bigAV (rv na xs * rv nb ys)) := by
  have l1 := rv_len (neg := na) hx
  have l2 := rv_len (neg := nb) hy
  have k1 := limbs_run (neg := na) hx (by omega)
  have k2 := limbs_run (neg := nb) hy (by omega)
  generalize rv na xs = a at *
  generalize rv nb ys = b at *
  have z1 := limbs_zero_len a.natAbs
  have z2 := limbs_zero_len b.natAbs
  by_cases ha : a = 0
  · have h := Try.run113_a na xs nb ys a b k1 k2 (by rw [beq_iff_eq]; omega)
    rw [ha, Int.zero_mul]
    exact h
  by_cases hb : b = 0
  · have h := Try.run113_b na xs nb ys a b k1 k2 (by rw [beq_eq_false_iff_ne]; omega) (by rw [beq_iff_eq]; omega)
    rw [hb, Int.mul_zero]
    exact h
  have e1 : IntKind.i64.wrap ((((limbs (Int.natAbs a)).length : Nat) : Int) + (((limbs (Int.natAbs b)).length : Nat) : Int)) = (((limbs (Int.natAbs a)).length + (limbs (Int.natAbs b)).length : Nat) : Int) := by rw [w64 (by omega) (by omega)]; omega
  have e2 : (Int.toNat (IntKind.i64.wrap ((((limbs (Int.natAbs a)).length : Nat) : Int) + (((limbs (Int.natAbs b)).length : Nat) : Int)))) = (limbs (Int.natAbs a)).length + (limbs (Int.natAbs b)).length := by rw [e1, Int.toNat_natCast]
  obtain ⟨out, o1, o2, o3, o4⟩ := Try.loop113 (decide (a < 0)) (decide (b < 0)) (limbs (Int.natAbs a)) (limbs (Int.natAbs b)) (big_u32 _) (big_u32 _) (by omega) (limbs (Int.natAbs a)).length 0 (List.replicate ((limbs (Int.natAbs a)).length + (limbs (Int.natAbs b)).length) 0) (by omega) (by simp) (u32_zeros _) (fun j _ => getD_zeros _ j)
  have hv : valL out = ((a.natAbs : Nat) : Int) * ((b.natAbs : Nat) : Int) := by rw [o3, valL_zeros]; simp [limbs_val]
  have h3 := made_run (neg := !(decide (a < 0) == decide (b < 0))) o2 (by omega)
  rw [rv_times a b out hv, o1] at h3
  exact Try.run113_c na xs nb ys a b k1 k2 out _ (by rw [beq_eq_false_iff_ne]; omega) (by rw [beq_eq_false_iff_ne]; omega) (by rw [e1]; omega) (by rw [e2, repl_lim]; exact o4) (by rw [e2]; exact h3)
def TWC : Table := TWB
theorem TWC_holds : THolds Try.ir TWC := TWB_holds
end Go.Proofs.Ythnnfemologhfaa

namespace Go.Proofs.Ythnnfemologhfaa
open Go.Ai
set_option maxRecDepth 100000
def Try.c62 : ICode := .seq (.seq (.region false [oM 7 3,
   o1 8 (.bin .geq (.t 7) (.c (.int .i64 0))),
   oM 9 8,
   oG 10 (.mov (.t 0)) 9 true,
   oG 11 (.mov (.t 3)) 9 true,
   oG 12 (.ixa 10 (.t 11) 2) 9 true,
   oG 13 (.ld 12 12 2 false) 9 true,
   oG 14 (.call 73 [.t 13]) 9 true,
   oG 15 (.bin .eql (.t 14) (.c (.int .i64 0))) 9 true,
   o1 16 (.pick (.t 9) (.t 15) (.c (.bool false)))])
  (.cond (.t 16) (.skip)
  (.exit 0)))
  (.block 1 (.region false [oM 17 3,
   o1 18 (.bin .sub (.t 17) (.c (.int .i64 1))),
   oM 3 18]))
def Try.s62 (N : Nat) (cs : List AV) (i : Int) : State := (.val (.sl N cs) :: (dds 1 (.val (.int .i64 0) :: (.val (.int .i64 i) :: (dds 16 [])))))
theorem Try.k62_1 (N : Nat) (cs : List AV) (i : Int) (r : Rn) (v : Int) (c1 : (decide (i ≥ 0)) = true) (c2 : (v == 0) = true) (n1 : 0 ≤ i ∧ i < ((N : Nat) : Int)) (n2 : takeA (List.drop (Int.toNat i * 2) cs) 0 2 false = some (.agg [.bool r.1, .sl r.2.length (lm r.2)])) (n3 : Runs Try.ir 73 [.agg [.bool r.1, .sl r.2.length (lm r.2)]] (.int .i64 v)) : RunsW Try.ir Try.c62 (Try.s62 N cs i) .norm (Try.s62 N cs (IntKind.i64.wrap (i - 1))) :=
  RunsW.script (ps := [(decide (i ≥ 0)) = true, 0 ≤ i ∧ i < ((N : Nat) : Int), takeA (List.drop (Int.toNat i * 2) cs) 0 2 false = some (.agg [.bool r.1, .sl r.2.length (lm r.2)]), Runs Try.ir 73 [.agg [.bool r.1, .sl r.2.length (lm r.2)]] (.int .i64 v), (v == 0) = true]) TWC_holds 300 [.b true, .v (.agg [.bool r.1, .sl r.2.length (lm r.2)]), .r (.int .i64 v), .b true] [0, 2, 3] (by kernel_rfl) ⟨c1, n1, n2, n3, c2, trivial⟩
theorem Try.k62_2 (N : Nat) (cs : List AV) (i : Int) (r : Rn) (v : Int) (c1 : (decide (i ≥ 0)) = true) (c2 : (v == 0) = false) (n1 : 0 ≤ i ∧ i < ((N : Nat) : Int)) (n2 : takeA (List.drop (Int.toNat i * 2) cs) 0 2 false = some (.agg [.bool r.1, .sl r.2.length (lm r.2)])) (n3 : Runs Try.ir 73 [.agg [.bool r.1, .sl r.2.length (lm r.2)]] (.int .i64 v)) : RunsW Try.ir Try.c62 (Try.s62 N cs i) (.exit 0) (Try.s62 N cs i) :=
  RunsW.script (ps := [(decide (i ≥ 0)) = true, 0 ≤ i ∧ i < ((N : Nat) : Int), takeA (List.drop (Int.toNat i * 2) cs) 0 2 false = some (.agg [.bool r.1, .sl r.2.length (lm r.2)]), Runs Try.ir 73 [.agg [.bool r.1, .sl r.2.length (lm r.2)]] (.int .i64 v), (v == 0) = false]) TWC_holds 300 [.b true, .v (.agg [.bool r.1, .sl r.2.length (lm r.2)]), .r (.int .i64 v), .b false] [0, 2, 3] (by kernel_rfl) ⟨c1, n1, n2, n3, c2, trivial⟩
theorem Try.k62_3 (N : Nat) (cs : List AV) (i : Int) (c1 : (decide (i ≥ 0)) = false) : RunsW Try.ir Try.c62 (Try.s62 N cs i) (.exit 0) (Try.s62 N cs i) :=
  RunsW.script (ps := [(decide (i ≥ 0)) = false, false = false]) TWC_holds 300 [.b false, .b false] [0, 2, 3] (by kernel_rfl) ⟨c1, rfl, trivial⟩
theorem sgn_zero {n : Int} : sgnI n = 0 ↔ n = 0 := by unfold sgnI; split <;> (try split) <;> omega
theorem Try.loop62 (rs : List Rn) (hg : ∀ r ∈ rs, Good 1048576 r) (hN : rs.length ≤ 1048576) : ∀ m, m ≤ rs.length → RunsW Try.ir (.loop Try.c62) (Try.s62 rs.length (pc rs) (((m : Nat) : Int) - 1)) (.exit 0) (Try.s62 rs.length (pc rs) (((topN (vals rs) m : Nat) : Int) - 1)) := by
  intro m
  induction m with
  | zero =>
    intro _
    exact RunsW.loop_out (Try.k62_3 rs.length (pc rs) (((0 : Nat) : Int) - 1) (by simp)) (by intro e; cases e)
  | succ m ih =>
    intro hm
    have e0 : ((m + 1 : Nat) : Int) - 1 = ((m : Nat) : Int) := by omega
    have e1 : IntKind.i64.wrap (((m : Nat) : Int) - 1) = ((m : Nat) : Int) - 1 := w64 (by omega) (by omega)
    have hx := take_pc (rs := rs) (i := m) (by omega)
    have gm := good_getD hg m
    have hs := wsign_run (neg := (rs.getD m z0).1) gm.1 gm.2
    rw [e0]
    simp only [topN]
    rw [vals_getD]
    by_cases h0 : rval (rs.getD m z0) = 0
    · rw [if_pos h0]
      have h1 := Try.k62_1 rs.length (pc rs) ((m : Nat) : Int) (rs.getD m z0) (sgnI (rval (rs.getD m z0))) (by simp) (by rw [beq_iff_eq]; exact sgn_zero.2 h0) (by omega) (by rw [Int.toNat_natCast]; exact hx) hs
      rw [e1] at h1
      exact RunsW.loop h1 (ih (by omega))
    · rw [if_neg h0, e0]
      exact RunsW.loop_out (Try.k62_2 rs.length (pc rs) ((m : Nat) : Int) (rs.getD m z0) (sgnI (rval (rs.getD m z0))) (by simp) (by rw [beq_eq_false_iff_ne]; exact fun h => h0 (sgn_zero.1 h)) (by omega) (by rw [Int.toNat_natCast]; exact hx) hs) (by intro e; cases e)
theorem degree_run {rs : List Rn} (hg : ∀ r ∈ rs, Good 1048576 r) (hN : rs.length ≤ 1048576) : Runs Try.ir 62 [.sl rs.length (pc rs)] (.int .i64 (((topN (vals rs) rs.length : Nat) : Int) - 1)) := by
  have e1 : IntKind.i64.wrap (((rs.length : Nat) : Int) - 1) = ((rs.length : Nat) : Int) - 1 := w64 (by omega) (by omega)
  have hl : RunsW Try.ir (.loop Try.c62) (Try.s62 rs.length (pc rs) (IntKind.i64.wrap (((rs.length : Nat) : Int) - 1))) (.exit 0) (Try.s62 rs.length (pc rs) (((topN (vals rs) rs.length : Nat) : Int) - 1)) := by
    rw [e1]; exact Try.loop62 rs hg hN rs.length (Nat.le_refl _)
  exact Runs.of_bodyW (fn := Try.i62) (s := (.val (.sl rs.length (pc rs)) :: (dds 1 (.val (.int .i64 (((topN (vals rs) rs.length : Nat) : Int) - 1)) :: (.val (.int .i64 (((topN (vals rs) rs.length : Nat) : Int) - 1)) :: (dds 15 (.val (.int .i64 (((topN (vals rs) rs.length : Nat) : Int) - 1)) :: []))))))) (ex := .ret) rfl rfl
    (RunsW.seq (RunsW.script (t := (.val (.sl rs.length (pc rs)) :: (dds 1 (.val (.int .i64 0) :: (dds 17 []))))) (ex := .norm) (ps := []) TWC_holds 300 [] [0, 2] (by kernel_rfl) trivial)
    (RunsW.seq (RunsW.script (t := (.val (.sl rs.length (pc rs)) :: (dds 1 (.val (.int .i64 0) :: (.val (.int .i64 (IntKind.i64.wrap (((rs.length : Nat) : Int) - 1))) :: (dds 16 [])))))) (ex := .norm) (ps := []) TWC_holds 300 [] [0, 2, 3] (by kernel_rfl) trivial)
    (RunsW.seq (RunsW.block hl)
    (RunsW.script (t := (.val (.sl rs.length (pc rs)) :: (dds 1 (.val (.int .i64 (((topN (vals rs) rs.length : Nat) : Int) - 1)) :: (.val (.int .i64 (((topN (vals rs) rs.length : Nat) : Int) - 1)) :: (dds 15 (.val (.int .i64 (((topN (vals rs) rs.length : Nat) : Int) - 1)) :: []))))))) (ex := .ret) (ps := []) TWC_holds 300 [] [0, 2, 3, 19] (by kernel_rfl) trivial)))) (by intro i e; cases e) rfl
def Try.c92 : ICode := .seq (.region false [oB 16 .lss 15 14])
  (.seq (.cond (.t 16) (.skip)
  (.exit 0))
  (.seq (.block 1 (.seq (.region false [oM 17 15,
   oM 5 17])
  (.region false [o1 18 (.cpy 4),
   oM 19 5,
   oM 20 0,
   oM 21 5,
   o1 22 (.ixa 20 (.t 21) 2),
   o1 23 (.ld 22 22 2 false),
   oC 24 132 [23],
   o1 25 (.ixo 18 4 (.t 19) 2),
   oN (.st 25 4 2 (.t 24))])))
  (.region false [o1 26 (.bin .add (.t 15) (.c (.int .i64 1))),
   oM 15 26])))
def Try.s92 (N : Nat) (cs : List AV) (n : Nat) (os : List AV) (m : Int) (i : Int) : State := (.val (.sl N cs) :: (dds 1 (.own 2 0 [] :: (dds 1 (.own 2 n os :: (dds 9 (.val (.int .i64 m) :: (.val (.int .i64 i) :: (dds 12 [])))))))))
theorem Try.k92_1 (N : Nat) (cs : List AV) (n : Nat) (os : List AV) (m : Int) (i : Int) (ds : List AV) (r : Rn) (v : Int) (c1 : (decide (i < m)) = true) (n1 : 0 ≤ i ∧ i < ((N : Nat) : Int)) (n2 : takeA (List.drop (Int.toNat i * 2) cs) 0 2 false = some (.agg [.bool r.1, .sl r.2.length (lm r.2)])) (n3 : Runs Try.ir 132 [.agg [.bool r.1, .sl r.2.length (lm r.2)]] (.agg [.bool (decide (v < 0)), .sl ((limbs (Int.natAbs v)).length) (lm (limbs (Int.natAbs v)))])) (n4 : 0 ≤ i ∧ i < ((n : Nat) : Int)) (n5 : layA os (Int.toNat i * 2) [.bool (decide (v < 0)), .sl ((limbs (Int.natAbs v)).length) (lm (limbs (Int.natAbs v)))] = some ds) : RunsW Try.ir Try.c92 (Try.s92 N cs n os m i) .norm (Try.s92 N cs n ds m (IntKind.i64.wrap (i + 1))) :=
  RunsW.script (ps := [(decide (i < m)) = true, 0 ≤ i ∧ i < ((N : Nat) : Int), takeA (List.drop (Int.toNat i * 2) cs) 0 2 false = some (.agg [.bool r.1, .sl r.2.length (lm r.2)]), Runs Try.ir 132 [.agg [.bool r.1, .sl r.2.length (lm r.2)]] (.agg [.bool (decide (v < 0)), .sl ((limbs (Int.natAbs v)).length) (lm (limbs (Int.natAbs v)))]), 0 ≤ i ∧ i < ((n : Nat) : Int), layA os (Int.toNat i * 2) [.bool (decide (v < 0)), .sl ((limbs (Int.natAbs v)).length) (lm (limbs (Int.natAbs v)))] = some ds]) TWC_holds 300 [.b true, .v (.agg [.bool r.1, .sl r.2.length (lm r.2)]), .r (.agg [.bool (decide (v < 0)), .sl ((limbs (Int.natAbs v)).length) (lm (limbs (Int.natAbs v)))]), .l ds] [0, 2, 4, 14, 15] (by kernel_rfl) ⟨c1, n1, n2, n3, n4, n5, trivial⟩
theorem Try.k92_2 (N : Nat) (cs : List AV) (n : Nat) (os : List AV) (m : Int) (i : Int) (c1 : (decide (i < m)) = false) : RunsW Try.ir Try.c92 (Try.s92 N cs n os m i) (.exit 0) (Try.s92 N cs n os m i) :=
  RunsW.script (ps := [(decide (i < m)) = false]) TWC_holds 300 [.b false] [0, 2, 4, 14, 15] (by kernel_rfl) ⟨c1, trivial⟩
theorem Try.loop92 (rs : List Rn) (hg : ∀ r ∈ rs, Good 1048576 r) (hN : rs.length ≤ 1048576) (n : Nat) (hn : n ≤ rs.length) : ∀ (r i : Nat), i + r = n →
    RunsW Try.ir (.loop Try.c92) (Try.s92 rs.length (pc rs) n (pc (fillTo (fun j => cn (rval (rs.getD j z0))) i r)) ((n : Nat) : Int) ((i : Nat) : Int)) (.exit 0) (Try.s92 rs.length (pc rs) n (pc (fillTo (fun j => cn (rval (rs.getD j z0))) n 0)) ((n : Nat) : Int) ((n : Nat) : Int)) := by
  intro r
  induction r with
  | zero =>
    intro i hi
    have hi' : i = n := by omega
    subst hi'
    exact RunsW.loop_out (Try.k92_2 rs.length (pc rs) i _ ((i : Nat) : Int) ((i : Nat) : Int) (by simp)) (by intro e; cases e)
  | succ r ih =>
    intro i hi
    have ei : IntKind.i64.wrap (((i : Nat) : Int) + 1) = ((i + 1 : Nat) : Int) := by rw [w64 (by omega) (by omega)]; omega
    have hx := take_pc (rs := rs) (i := i) (by omega)
    have gm := good_getD hg i
    have hs := wtrim_run (neg := (rs.getD i z0).1) gm.1 gm.2
    have hst := lay_pc (rs := fillTo (fun j => cn (rval (rs.getD j z0))) i (r + 1)) (i := i) (r := cn (rval (rs.getD i z0))) (by rw [fillTo_length]; omega)
    rw [fillTo_set (fun j => cn (rval (rs.getD j z0))) i r] at hst
    have h1 := Try.k92_1 rs.length (pc rs) n _ ((n : Nat) : Int) ((i : Nat) : Int) _ (rs.getD i z0) (rval (rs.getD i z0)) (by simp; omega) (by omega) (by rw [Int.toNat_natCast]; exact hx) hs (by omega) (by rw [Int.toNat_natCast]; exact hst)
    rw [ei] at h1
    exact RunsW.loop h1 (ih (i + 1) (by omega))
theorem Try.run92_z (rs : List Rn) (hd : Runs Try.ir 62 [.sl rs.length (pc rs)] (.int .i64 (((topN (vals rs) rs.length : Nat) : Int) - 1))) (hz : ((IntKind.i64.wrap ((((topN (vals rs) rs.length : Nat) : Int) - 1) + 1)) == 0) = true) : Runs Try.ir 92 [.sl rs.length (pc rs)] (.fresh 2 0 []) :=
  Runs.script (ps := [Runs Try.ir 62 [.sl rs.length (pc rs)] (.int .i64 (((topN (vals rs) rs.length : Nat) : Int) - 1)), ((IntKind.i64.wrap ((((topN (vals rs) rs.length : Nat) : Int) - 1) + 1)) == 0) = true]) TWC_holds rfl 300 rfl [.r (.int .i64 (((topN (vals rs) rs.length : Nat) : Int) - 1)), .b true] (by kernel_rfl) ⟨hd, hz, trivial⟩
theorem Try.run92_p (rs ss : List Rn) (hd : Runs Try.ir 62 [.sl rs.length (pc rs)] (.int .i64 (((topN (vals rs) rs.length : Nat) : Int) - 1))) (hz : ((IntKind.i64.wrap ((((topN (vals rs) rs.length : Nat) : Int) - 1) + 1)) == 0) = false) (hmk : 0 ≤ IntKind.i64.wrap ((((topN (vals rs) rs.length : Nat) : Int) - 1) + 1) ∧ IntKind.i64.wrap ((((topN (vals rs) rs.length : Nat) : Int) - 1) + 1) ≤ 1048576)
    (hl : RunsW Try.ir (.loop Try.c92) (Try.s92 rs.length (pc rs) (Int.toNat (IntKind.i64.wrap ((((topN (vals rs) rs.length : Nat) : Int) - 1) + 1))) (replA [.bool false, .sl 0 []] (Int.toNat (IntKind.i64.wrap ((((topN (vals rs) rs.length : Nat) : Int) - 1) + 1)))) (((Int.toNat (IntKind.i64.wrap ((((topN (vals rs) rs.length : Nat) : Int) - 1) + 1))) : Nat) : Int) 0) (.exit 0) (Try.s92 rs.length (pc rs) (Int.toNat (IntKind.i64.wrap ((((topN (vals rs) rs.length : Nat) : Int) - 1) + 1))) (pc ss) (((Int.toNat (IntKind.i64.wrap ((((topN (vals rs) rs.length : Nat) : Int) - 1) + 1))) : Nat) : Int) (((Int.toNat (IntKind.i64.wrap ((((topN (vals rs) rs.length : Nat) : Int) - 1) + 1))) : Nat) : Int))) :
    Runs Try.ir 92 [.sl rs.length (pc rs)] (.fresh 2 (Int.toNat (IntKind.i64.wrap ((((topN (vals rs) rs.length : Nat) : Int) - 1) + 1))) (pc ss)) :=
  Runs.of_bodyW (fn := Try.i92) (s := (.val (.sl rs.length (pc rs)) :: (dds 1 (.own 2 (Int.toNat (IntKind.i64.wrap ((((topN (vals rs) rs.length : Nat) : Int) - 1) + 1))) (pc ss) :: (dds 11 (.val (.int .i64 (((Int.toNat (IntKind.i64.wrap ((((topN (vals rs) rs.length : Nat) : Int) - 1) + 1))) : Nat) : Int)) :: (.val (.int .i64 (((Int.toNat (IntKind.i64.wrap ((((topN (vals rs) rs.length : Nat) : Int) - 1) + 1))) : Nat) : Int)) :: (dds 12 [])))))))) (ex := .ret) rfl rfl
    (RunsW.seq (RunsW.script (t := (.val (.sl rs.length (pc rs)) :: (dds 1 (.own 2 0 [] :: (dds 25 []))))) (ex := .norm) (ps := []) TWC_holds 300 [] [0, 2] (by kernel_rfl) trivial)
    (RunsW.seq (RunsW.script (t := (.val (.sl rs.length (pc rs)) :: (dds 1 (.own 2 0 [] :: (.val (.int .i64 (IntKind.i64.wrap ((((topN (vals rs) rs.length : Nat) : Int) - 1) + 1))) :: (dds 2 (.val (.sl rs.length (pc rs)) :: (.val (.int .i64 (((topN (vals rs) rs.length : Nat) : Int) - 1)) :: (.val (.int .i64 (IntKind.i64.wrap ((((topN (vals rs) rs.length : Nat) : Int) - 1) + 1))) :: (dds 19 [])))))))))) (ex := .norm) (ps := [Runs Try.ir 62 [.sl rs.length (pc rs)] (.int .i64 (((topN (vals rs) rs.length : Nat) : Int) - 1))]) TWC_holds 300 [.r (.int .i64 (((topN (vals rs) rs.length : Nat) : Int) - 1))] [0, 2, 3, 6, 7, 8] (by kernel_rfl) ⟨hd, trivial⟩)
    (RunsW.seq (RunsW.script (t := (.val (.sl rs.length (pc rs)) :: (dds 1 (.own 2 0 [] :: (.val (.int .i64 (IntKind.i64.wrap ((((topN (vals rs) rs.length : Nat) : Int) - 1) + 1))) :: (dds 2 (.val (.sl rs.length (pc rs)) :: (.val (.int .i64 (((topN (vals rs) rs.length : Nat) : Int) - 1)) :: (.val (.int .i64 (IntKind.i64.wrap ((((topN (vals rs) rs.length : Nat) : Int) - 1) + 1))) :: (.val (.int .i64 (IntKind.i64.wrap ((((topN (vals rs) rs.length : Nat) : Int) - 1) + 1))) :: (.val (.bool ((IntKind.i64.wrap ((((topN (vals rs) rs.length : Nat) : Int) - 1) + 1)) == 0)) :: (dds 17 [])))))))))))) (ex := .norm) (ps := [((IntKind.i64.wrap ((((topN (vals rs) rs.length : Nat) : Int) - 1) + 1)) == 0) = false]) TWC_holds 300 [.b false] [0, 2, 3, 6, 7, 8, 9, 10] (by kernel_rfl) ⟨hz, trivial⟩)
    (RunsW.seq (RunsW.script (t := (.val (.sl rs.length (pc rs)) :: (dds 1 (.own 2 0 [] :: (.val (.int .i64 (IntKind.i64.wrap ((((topN (vals rs) rs.length : Nat) : Int) - 1) + 1))) :: (.own 2 (Int.toNat (IntKind.i64.wrap ((((topN (vals rs) rs.length : Nat) : Int) - 1) + 1))) (replA [.bool false, .sl 0 []] (Int.toNat (IntKind.i64.wrap ((((topN (vals rs) rs.length : Nat) : Int) - 1) + 1)))) :: (dds 1 (.val (.sl rs.length (pc rs)) :: (.val (.int .i64 (((topN (vals rs) rs.length : Nat) : Int) - 1)) :: (.val (.int .i64 (IntKind.i64.wrap ((((topN (vals rs) rs.length : Nat) : Int) - 1) + 1))) :: (.val (.int .i64 (IntKind.i64.wrap ((((topN (vals rs) rs.length : Nat) : Int) - 1) + 1))) :: (.val (.bool ((IntKind.i64.wrap ((((topN (vals rs) rs.length : Nat) : Int) - 1) + 1)) == 0)) :: (.val (.int .i64 (IntKind.i64.wrap ((((topN (vals rs) rs.length : Nat) : Int) - 1) + 1))) :: (dds 16 [])))))))))))))) (ex := .norm) (ps := [0 ≤ (IntKind.i64.wrap ((((topN (vals rs) rs.length : Nat) : Int) - 1) + 1)) ∧ (IntKind.i64.wrap ((((topN (vals rs) rs.length : Nat) : Int) - 1) + 1)) ≤ 1048576]) TWC_holds 300 [] [0, 2, 3, 4, 6, 7, 8, 9, 10, 11] (by kernel_rfl) ⟨hmk, trivial⟩)
    (RunsW.seq (RunsW.seq (RunsW.script (t := (.val (.sl rs.length (pc rs)) :: (dds 1 (.own 2 0 [] :: (dds 1 (.own 2 (Int.toNat (IntKind.i64.wrap ((((topN (vals rs) rs.length : Nat) : Int) - 1) + 1))) (replA [.bool false, .sl 0 []] (Int.toNat (IntKind.i64.wrap ((((topN (vals rs) rs.length : Nat) : Int) - 1) + 1)))) :: (dds 9 (.val (.int .i64 (((Int.toNat (IntKind.i64.wrap ((((topN (vals rs) rs.length : Nat) : Int) - 1) + 1))) : Nat) : Int)) :: (.val (.int .i64 0) :: (dds 12 [])))))))))) (ex := .norm) (ps := []) TWC_holds 300 [] [0, 2, 4, 14, 15] (by kernel_rfl) trivial)
    (RunsW.block hl))
    (RunsW.script (t := (.val (.sl rs.length (pc rs)) :: (dds 1 (.own 2 (Int.toNat (IntKind.i64.wrap ((((topN (vals rs) rs.length : Nat) : Int) - 1) + 1))) (pc ss) :: (dds 11 (.val (.int .i64 (((Int.toNat (IntKind.i64.wrap ((((topN (vals rs) rs.length : Nat) : Int) - 1) + 1))) : Nat) : Int)) :: (.val (.int .i64 (((Int.toNat (IntKind.i64.wrap ((((topN (vals rs) rs.length : Nat) : Int) - 1) + 1))) : Nat) : Int)) :: (dds 12 [])))))))) (ex := .ret) (ps := []) TWC_holds 300 [] [0, 2, 14, 15] (by kernel_rfl) trivial)))))) (by intro i e; cases e) rfl
theorem atrim_run {rs : List Rn} (hg : ∀ r ∈ rs, Good 1048576 r) (hN : rs.length ≤ 1048576) : Runs Try.ir 92 [.sl rs.length (pc rs)] (.fresh 2 (trimL (vals rs)).length (pk (trimL (vals rs)))) := by
  have hle := topN_le (vals rs) rs.length
  have hlen : (trimL (vals rs)).length = topN (vals rs) rs.length := by rw [trim_length, vals_length]
  have hd := degree_run hg hN
  have e1 : IntKind.i64.wrap ((((topN (vals rs) rs.length : Nat) : Int) - 1) + 1) = ((topN (vals rs) rs.length : Nat) : Int) := by rw [w64 (by omega) (by omega)]; omega
  have e2 : (Int.toNat (IntKind.i64.wrap ((((topN (vals rs) rs.length : Nat) : Int) - 1) + 1))) = topN (vals rs) rs.length := by rw [e1, Int.toNat_natCast]
  by_cases h0 : topN (vals rs) rs.length = 0
  · have h := Try.run92_z rs hd (by rw [e1, h0]; rfl)
    have : trimL (vals rs) = [] := List.eq_nil_of_length_eq_zero (by omega)
    rw [this]
    exact h
  · have hl := Try.loop92 rs hg hN (topN (vals rs) rs.length) hle (topN (vals rs) rs.length) 0 (by omega)
    rw [fillTo_zero, ← repl_pc] at hl
    have h := Try.run92_p rs _ hd (by rw [e1, beq_eq_false_iff_ne]; omega) (by rw [e1]; omega) (by rw [e2]; exact hl)
    rw [e2, fillTo_full] at h
    have e3 : (List.range (topN (vals rs) rs.length)).map (fun j => cn (rval (rs.getD j z0))) = (trimL (vals rs)).map cn := by
      rw [← range_cn, hlen]
      apply List.map_congr_left
      intro i _
      rw [getD_trim, vals_getD]
    rw [e3] at h
    rw [hlen]
    exact h
def Try.c127 : ICode := .seq (.region false [oB 11 .lss 10 9])
  (.seq (.cond (.t 11) (.skip)
  (.exit 0))
  (.seq (.block 1 (.seq (.region false [oM 12 10,
   oM 4 12])
  (.region false [o1 13 (.cpy 3),
   oM 14 4,
   oM 15 0,
   oM 16 4,
   o1 17 (.ixa 15 (.t 16) 2),
   o1 18 (.ld 17 17 2 false),
   oC 19 112 [18],
   o1 20 (.ixo 13 3 (.t 14) 2),
   oN (.st 20 3 2 (.t 19))])))
  (.region false [o1 21 (.bin .add (.t 10) (.c (.int .i64 1))),
   oM 10 21])))
def Try.s127 (N : Nat) (cs : List AV) (n : Nat) (os : List AV) (m : Int) (i : Int) : State := (.val (.sl N cs) :: (dds 1 (.own 2 0 [] :: (.own 2 n os :: (dds 5 (.val (.int .i64 m) :: (.val (.int .i64 i) :: (dds 12 []))))))))
theorem Try.k127_1 (N : Nat) (cs : List AV) (n : Nat) (os : List AV) (m : Int) (i : Int) (ds : List AV) (r : Rn) (v : Int) (c1 : (decide (i < m)) = true) (n1 : 0 ≤ i ∧ i < ((N : Nat) : Int)) (n2 : takeA (List.drop (Int.toNat i * 2) cs) 0 2 false = some (.agg [.bool r.1, .sl r.2.length (lm r.2)])) (n3 : Runs Try.ir 112 [.agg [.bool r.1, .sl r.2.length (lm r.2)]] (.agg [.bool (decide (v < 0)), .sl ((limbs (Int.natAbs v)).length) (lm (limbs (Int.natAbs v)))])) (n4 : 0 ≤ i ∧ i < ((n : Nat) : Int)) (n5 : layA os (Int.toNat i * 2) [.bool (decide (v < 0)), .sl ((limbs (Int.natAbs v)).length) (lm (limbs (Int.natAbs v)))] = some ds) : RunsW Try.ir Try.c127 (Try.s127 N cs n os m i) .norm (Try.s127 N cs n ds m (IntKind.i64.wrap (i + 1))) :=
  RunsW.script (ps := [(decide (i < m)) = true, 0 ≤ i ∧ i < ((N : Nat) : Int), takeA (List.drop (Int.toNat i * 2) cs) 0 2 false = some (.agg [.bool r.1, .sl r.2.length (lm r.2)]), Runs Try.ir 112 [.agg [.bool r.1, .sl r.2.length (lm r.2)]] (.agg [.bool (decide (v < 0)), .sl ((limbs (Int.natAbs v)).length) (lm (limbs (Int.natAbs v)))]), 0 ≤ i ∧ i < ((n : Nat) : Int), layA os (Int.toNat i * 2) [.bool (decide (v < 0)), .sl ((limbs (Int.natAbs v)).length) (lm (limbs (Int.natAbs v)))] = some ds]) TWC_holds 300 [.b true, .v (.agg [.bool r.1, .sl r.2.length (lm r.2)]), .r (.agg [.bool (decide (v < 0)), .sl ((limbs (Int.natAbs v)).length) (lm (limbs (Int.natAbs v)))]), .l ds] [0, 2, 3, 9, 10] (by kernel_rfl) ⟨c1, n1, n2, n3, n4, n5, trivial⟩
theorem Try.k127_2 (N : Nat) (cs : List AV) (n : Nat) (os : List AV) (m : Int) (i : Int) (c1 : (decide (i < m)) = false) : RunsW Try.ir Try.c127 (Try.s127 N cs n os m i) (.exit 0) (Try.s127 N cs n os m i) :=
  RunsW.script (ps := [(decide (i < m)) = false]) TWC_holds 300 [.b false] [0, 2, 3, 9, 10] (by kernel_rfl) ⟨c1, trivial⟩
theorem Try.loop127 (rs : List Rn) (hg : ∀ r ∈ rs, Good 1048576 r) (hN : rs.length ≤ 1048576) (n : Nat) (hn : n ≤ rs.length) : ∀ (r i : Nat), i + r = n →
    RunsW Try.ir (.loop Try.c127) (Try.s127 rs.length (pc rs) n (pc (fillTo (fun j => cn (-(rval (rs.getD j z0)))) i r)) ((n : Nat) : Int) ((i : Nat) : Int)) (.exit 0) (Try.s127 rs.length (pc rs) n (pc (fillTo (fun j => cn (-(rval (rs.getD j z0)))) n 0)) ((n : Nat) : Int) ((n : Nat) : Int)) := by
  intro r
  induction r with
  | zero =>
    intro i hi
    have hi' : i = n := by omega
    subst hi'
    exact RunsW.loop_out (Try.k127_2 rs.length (pc rs) i _ ((i : Nat) : Int) ((i : Nat) : Int) (by simp)) (by intro e; cases e)
  | succ r ih =>
    intro i hi
    have ei : IntKind.i64.wrap (((i : Nat) : Int) + 1) = ((i + 1 : Nat) : Int) := by rw [w64 (by omega) (by omega)]; omega
    have hx := take_pc (rs := rs) (i := i) (by omega)
    have gm := good_getD hg i
    have hs := wneg_run (neg := (rs.getD i z0).1) gm.1 gm.2
    have hst := lay_pc (rs := fillTo (fun j => cn (-(rval (rs.getD j z0)))) i (r + 1)) (i := i) (r := cn (-(rval (rs.getD i z0)))) (by rw [fillTo_length]; omega)
    rw [fillTo_set (fun j => cn (-(rval (rs.getD j z0)))) i r] at hst
    have h1 := Try.k127_1 rs.length (pc rs) n _ ((n : Nat) : Int) ((i : Nat) : Int) _ (rs.getD i z0) (-(rval (rs.getD i z0))) (by simp; omega) (by omega) (by rw [Int.toNat_natCast]; exact hx) hs (by omega) (by rw [Int.toNat_natCast]; exact hst)
    rw [ei] at h1
    exact RunsW.loop h1 (ih (i + 1) (by omega))
theorem Try.run127 (rs ss : List Rn) (hmk : 0 ≤ ((rs.length : Nat) : Int) ∧ ((rs.length : Nat) : Int) ≤ 1048576)
    (hl : RunsW Try.ir (.loop Try.c127) (Try.s127 rs.length (pc rs) (Int.toNat ((rs.length : Nat) : Int)) (replA [.bool false, .sl 0 []] (Int.toNat ((rs.length : Nat) : Int))) ((rs.length : Nat) : Int) 0) (.exit 0) (Try.s127 rs.length (pc rs) (Int.toNat ((rs.length : Nat) : Int)) (pc ss) ((rs.length : Nat) : Int) ((rs.length : Nat) : Int))) :
    Runs Try.ir 127 [.sl rs.length (pc rs)] (.fresh 2 (Int.toNat ((rs.length : Nat) : Int)) (pc ss)) :=
  Runs.of_bodyW (fn := Try.i127) (s := (.val (.sl rs.length (pc rs)) :: (dds 1 (.own 2 (Int.toNat ((rs.length : Nat) : Int)) (pc ss) :: (dds 6 (.val (.int .i64 ((rs.length : Nat) : Int)) :: (.val (.int .i64 ((rs.length : Nat) : Int)) :: (dds 12 [])))))))) (ex := .ret) rfl rfl
    (RunsW.seq (RunsW.script (t := (.val (.sl rs.length (pc rs)) :: (dds 1 (.own 2 0 [] :: (dds 20 []))))) (ex := .norm) (ps := []) TWC_holds 300 [] [0, 2] (by kernel_rfl) trivial)
    (RunsW.seq (RunsW.script (t := (.val (.sl rs.length (pc rs)) :: (dds 1 (.own 2 0 [] :: (.own 2 (Int.toNat ((rs.length : Nat) : Int)) (replA [.bool false, .sl 0 []] (Int.toNat ((rs.length : Nat) : Int))) :: (dds 1 (.val (.sl rs.length (pc rs)) :: (.val (.int .i64 ((rs.length : Nat) : Int)) :: (dds 16 []))))))))) (ex := .norm) (ps := [0 ≤ ((rs.length : Nat) : Int) ∧ ((rs.length : Nat) : Int) ≤ 1048576]) TWC_holds 300 [] [0, 2, 3, 5, 6] (by kernel_rfl) ⟨hmk, trivial⟩)
    (RunsW.seq (RunsW.seq (RunsW.script (t := (.val (.sl rs.length (pc rs)) :: (dds 1 (.own 2 0 [] :: (.own 2 (Int.toNat ((rs.length : Nat) : Int)) (replA [.bool false, .sl 0 []] (Int.toNat ((rs.length : Nat) : Int))) :: (dds 5 (.val (.int .i64 ((rs.length : Nat) : Int)) :: (.val (.int .i64 0) :: (dds 12 []))))))))) (ex := .norm) (ps := []) TWC_holds 300 [] [0, 2, 3, 9, 10] (by kernel_rfl) trivial)
    (RunsW.block hl))
    (RunsW.script (t := (.val (.sl rs.length (pc rs)) :: (dds 1 (.own 2 (Int.toNat ((rs.length : Nat) : Int)) (pc ss) :: (dds 6 (.val (.int .i64 ((rs.length : Nat) : Int)) :: (.val (.int .i64 ((rs.length : Nat) : Int)) :: (dds 12 [])))))))) (ex := .ret) (ps := []) TWC_holds 300 [] [0, 2, 9, 10] (by kernel_rfl) trivial)))) (by intro i e; cases e) rfl
theorem anegative_run {rs : List Rn} (hg : ∀ r ∈ rs, Good 1048576 r) (hN : rs.length ≤ 1048576) : Runs Try.ir 127 [.sl rs.length (pc rs)] (.fresh 2 rs.length (pk (pneg (vals rs)))) := by
  have hl := Try.loop127 rs hg hN rs.length (Nat.le_refl _) rs.length 0 (by omega)
  rw [fillTo_zero, ← repl_pc] at hl
  have h := Try.run127 rs _ (by omega) (by rw [Int.toNat_natCast]; exact hl)
  rw [Int.toNat_natCast, fillTo_full] at h
  have e3 : (List.range rs.length).map (fun j => cn (-(rval (rs.getD j z0)))) = (pneg (vals rs)).map cn := by
    have hq : (pneg (vals rs)).length = rs.length := by simp [pneg, vals]
    rw [← range_cn, hq]
    apply List.map_congr_left
    intro i _
    rw [getD_pneg, vals_getD]
  rw [e3] at h
  exact h
def TAA : Table := TWC
theorem TAA_holds : THolds Try.ir TAA := TWC_holds
end Go.Proofs.Ythnnfemologhfaa
