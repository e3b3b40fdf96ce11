/- Texts of the proof of PolyFree, packed by pack.py: part 10 of 19. -/
import Derived.Test.YthnnfemologhfaaPfr9
namespace Go.Proofs.Ythnnfemologhfaa
open Go.Ai
set_option maxRecDepth 100000
def Try.c153 : ICode := .seq (.seq (.region false [oM 16 8,
   o1 17 (.bin .geq (.t 16) (.c (.int .i64 0)))])
  (.cond (.t 17) (.skip)
  (.exit 0)))
  (.seq (.block 1 (.seq (.region false [oM 20 7,
   o1 21 (.bin .shl (.t 20) (.c (.int .u64 32))),
   oM 22 0,
   oM 23 8,
   o1 24 (.ixa 22 (.t 23) 1),
   o1 25 (.ld 24 24 1 true),
   o1 26 (.cv .u64 (.t 25)),
   oB 27 .or 21 26,
   oM 9 27])
  (.region true [o1 28 (.cpy 6),
   oM 29 8,
   oM 30 9,
   oM 31 1,
   o1 32 (.cv .u64 (.t 31)),
   oB 33 .quo 30 32,
   o1 34 (.cv .u32 (.t 33)),
   oM 35 9,
   oM 36 1,
   o1 37 (.cv .u64 (.t 36)),
   oB 38 .rem 35 37,
   o1 39 (.ixo 28 6 (.t 29) 1),
   oN (.st 39 6 1 (.t 34)),
   oM 7 38])))
  (.region false [oM 18 8,
   o1 19 (.bin .sub (.t 18) (.c (.int .i64 1))),
   oM 8 19]))
def Try.s153 (xs : List Int) (d : Int) (k : Nat) (qs : List Int) (r : Int) (i : Int) : State := (.val (.sl xs.length (lm xs)) :: (.val (.int .u32 d) :: (dds 4 (.own 1 k (lm qs) :: (.val (.int .u64 r) :: (.val (.int .i64 i) :: (dds 34 [])))))))
theorem Try.k153_1 (xs : List Int) (d : Int) (k : Nat) (qs : List Int) (r : Int) (i : Int)  (c1 : (decide (i ≥ 0)) = true)
    (n1 : 0 ≤ i ∧ i < ((xs.length : Nat) : Int))
    (n2 : ¬ (IntKind.u64.wrap d) = 0)
    (n3 : 0 ≤ i ∧ i < ((k : Nat) : Int))
    (n4 : qs.length = k) : RunsW Try.ir Try.c153 (Try.s153 xs d k qs r i) .norm (Try.s153 xs d k (qs.set (Int.toNat i) (IntKind.u32.wrap (IntKind.u64.wrap (Int.tdiv (IntKind.u64.wrap ((BitVec.ofInt (IntKind.bits .u64) (IntKind.u64.wrap (r * 2 ^ (min (Int.toNat 32) (IntKind.bits .u64)))) ||| BitVec.ofInt (IntKind.bits .u64) (IntKind.u64.wrap (xs.getD (Int.toNat i) 0))).toNat)) (IntKind.u64.wrap d))))) (Int.tmod (IntKind.u64.wrap ((BitVec.ofInt (IntKind.bits .u64) (IntKind.u64.wrap (r * 2 ^ (min (Int.toNat 32) (IntKind.bits .u64)))) ||| BitVec.ofInt (IntKind.bits .u64) (IntKind.u64.wrap (xs.getD (Int.toNat i) 0))).toNat)) (IntKind.u64.wrap d)) (IntKind.i64.wrap (i - 1))) :=
  (RunsW.go TWB_holds 400 [.b true, .v (.int .u32 (xs.getD (Int.toNat i) 0)), .l (lm (qs.set (Int.toNat i) (IntKind.u32.wrap (IntKind.u64.wrap (Int.tdiv (IntKind.u64.wrap ((BitVec.ofInt (IntKind.bits .u64) (IntKind.u64.wrap (r * 2 ^ (min (Int.toNat 32) (IntKind.bits .u64)))) ||| BitVec.ofInt (IntKind.bits .u64) (IntKind.u64.wrap (xs.getD (Int.toNat i) 0))).toNat)) (IntKind.u64.wrap d))))))] [0, 1, 6, 7, 8] (ac c1 (ac (show ¬ (32 : Int) < 0 from (by decide)) (ac n1 (ac (show takeA (List.drop (Int.toNat i * 1) (lm xs)) 0 1 true = some (.int .u32 (xs.getD (Int.toNat i) 0)) from (take_limI n1)) (ac n2 (ac n2 (ac n3 (ac (show layA (lm qs) (Int.toNat i * 1) [.int .u32 (IntKind.u32.wrap (IntKind.u64.wrap (Int.tdiv (IntKind.u64.wrap ((BitVec.ofInt (IntKind.bits .u64) (IntKind.u64.wrap (r * 2 ^ (min (Int.toNat 32) (IntKind.bits .u64)))) ||| BitVec.ofInt (IntKind.bits .u64) (IntKind.u64.wrap (xs.getD (Int.toNat i) 0))).toNat)) (IntKind.u64.wrap d))))] = some (lm (qs.set (Int.toNat i) (IntKind.u32.wrap (IntKind.u64.wrap (Int.tdiv (IntKind.u64.wrap ((BitVec.ofInt (IntKind.bits .u64) (IntKind.u64.wrap (r * 2 ^ (min (Int.toNat 32) (IntKind.bits .u64)))) ||| BitVec.ofInt (IntKind.bits .u64) (IntKind.u64.wrap (xs.getD (Int.toNat i) 0))).toNat)) (IntKind.u64.wrap d)))))) from (lay_limI n4 n3)) a0)))))))) (by kernel_rfl))
theorem Try.k153_2 (xs : List Int) (d : Int) (k : Nat) (qs : List Int) (r : Int) (i : Int)  (c1 : (decide (i ≥ 0)) = false) : RunsW Try.ir Try.c153 (Try.s153 xs d k qs r i) (.exit 0) (Try.s153 xs d k qs r i) :=
  (RunsW.go TWB_holds 400 [.b false] [0, 1, 6, 7, 8] (ac c1 a0) (by kernel_rfl))
theorem Try.run153 (xs qs : List Int) (d r i : Int) (k : Nat) (n1 : 0 ≤ ((xs.length : Nat) : Int) ∧ ((xs.length : Nat) : Int) ≤ 1048576)
    (hl2 : RunsW Try.ir (.loop Try.c153) ((.val (.sl xs.length (lm xs)) :: (.val (.int .u32 d) :: (dds 4 (.own 1 (Int.toNat ((xs.length : Nat) : Int)) (replA [.int .u32 0] (Int.toNat ((xs.length : Nat) : Int))) :: (.val (.int .u64 0) :: (.val (.int .i64 (IntKind.i64.wrap (((xs.length : Nat) : Int) - 1))) :: (dds 34 [])))))))) (.exit 0) (Try.s153 xs d k qs r i)) : Runs Try.ir 153 [.sl xs.length (lm xs), .int .u32 d] (.tup [.sl k (lm qs), .int .u32 (IntKind.u32.wrap r)]) :=
  Runs.of_bodyW (fn := Try.i153) (s := (dds 1 (.val (.int .u32 d) :: (dds 2 (.own 1 k (lm qs) :: (.val (.int .u32 (IntKind.u32.wrap r)) :: (dds 37 []))))))) (ex := .ret) rfl rfl
    (RunsW.seq (RunsW.go (t := (.val (.sl xs.length (lm xs)) :: (.val (.int .u32 d) :: (dds 2 (.own 1 0 [] :: (.val (.int .u32 0) :: (dds 37 []))))))) (ex := .norm) TWB_holds 400 [] [0, 1, 4, 5] a0 (by kernel_rfl))
    (RunsW.seq (RunsW.go (t := (.val (.sl xs.length (lm xs)) :: (.val (.int .u32 d) :: (dds 2 (.own 1 0 [] :: (.val (.int .u32 0) :: (.own 1 (Int.toNat ((xs.length : Nat) : Int)) (replA [.int .u32 0] (Int.toNat ((xs.length : Nat) : Int))) :: (dds 36 [])))))))) (ex := .norm) TWB_holds 400 [] [0, 1, 4, 5, 6] (ac n1 a0) (by kernel_rfl))
    (RunsW.seq (RunsW.go (t := (.val (.sl xs.length (lm xs)) :: (.val (.int .u32 d) :: (dds 2 (.own 1 0 [] :: (.val (.int .u32 0) :: (.own 1 (Int.toNat ((xs.length : Nat) : Int)) (replA [.int .u32 0] (Int.toNat ((xs.length : Nat) : Int))) :: (.val (.int .u64 0) :: (dds 35 []))))))))) (ex := .norm) TWB_holds 400 [] [0, 1, 4, 5, 6, 7] a0 (by kernel_rfl))
    (RunsW.seq (RunsW.seq (RunsW.go TWB_holds 400 [] [0, 1, 6, 7, 8] a0 (by kernel_rfl))
    (RunsW.block hl2))
    (RunsW.go TWB_holds 400 [] [1, 4, 5] a0 (by kernel_rfl)))))) (by intro i e; cases e) rfl
def Try.c155 : ICode := .seq (.region false [oB 16 .lss 15 14])
  (.seq (.cond (.t 16) (.skip)
  (.exit 0))
  (.seq (.block 1 (.seq (.region false [oM 17 15,
   o1 18 (.ixa 13 (.t 15) 1),
   o1 19 (.ld 18 18 1 true),
   oM 6 17,
   oM 7 19])
  (.seq (.region false [oM 20 7,
   o1 21 (.cv .u64 (.t 20)),
   oM 22 1,
   o1 23 (.cv .u64 (.t 22)),
   oB 24 .shl 21 23,
   oM 8 24])
  (.seq (.region false [o1 25 (.cpy 5),
   oM 26 6,
   o1 27 (.ixo 25 5 (.t 26) 1),
   o1 28 (.ld 27 5 1 true),
   oM 29 8,
   o1 30 (.cv .u32 (.t 29)),
   oB 31 .or 28 30,
   o1 32 (.ixo 25 5 (.t 26) 1),
   oN (.st 32 5 1 (.t 31))])
  (.region false [o1 33 (.cpy 5),
   oM 34 6,
   o1 35 (.bin .add (.t 34) (.c (.int .i64 1))),
   oM 36 8,
   o1 37 (.bin .shr (.t 36) (.c (.int .u64 32))),
   o1 38 (.cv .u32 (.t 37)),
   o1 39 (.ixo 33 5 (.t 35) 1),
   oN (.st 39 5 1 (.t 38))])))))
  (.region false [o1 40 (.bin .add (.t 15) (.c (.int .i64 1))),
   oM 15 40])))
def Try.s155 (xs : List Int) (s : Int) (k : Nat) (os : List Int) (n : Int) (i : Int) : State := (dds 1 (.val (.int .i64 s) :: (dds 3 (.own 1 k (lm os) :: (dds 7 (.val (.sl xs.length (lm xs)) :: (.val (.int .i64 n) :: (.val (.int .i64 i) :: (dds 26 [])))))))))
theorem Try.k155_1 (xs : List Int) (s : Int) (k : Nat) (os : List Int) (n : Int) (i : Int)  (c1 : (decide (i < n)) = true)
    (n1 : 0 ≤ i ∧ i < ((xs.length : Nat) : Int))
    (n2 : ¬ (IntKind.u64.wrap s) < 0)
    (n3 : 0 ≤ i ∧ i < ((k : Nat) : Int))
    (n4 : os.length = k)
    (n5 : 0 ≤ (IntKind.i64.wrap (i + 1)) ∧ (IntKind.i64.wrap (i + 1)) < ((k : Nat) : Int))
    (n6 : (os.set (Int.toNat i) (IntKind.u32.wrap ((BitVec.ofInt (IntKind.bits .u32) (os.getD (Int.toNat i) 0) ||| BitVec.ofInt (IntKind.bits .u32) (IntKind.u32.wrap (IntKind.u64.wrap ((IntKind.u64.wrap (xs.getD (Int.toNat i) 0)) * 2 ^ (min (Int.toNat (IntKind.u64.wrap s)) (IntKind.bits .u64)))))).toNat))).length = k) : RunsW Try.ir Try.c155 (Try.s155 xs s k os n i) .norm (Try.s155 xs s k ((os.set (Int.toNat i) (IntKind.u32.wrap ((BitVec.ofInt (IntKind.bits .u32) (os.getD (Int.toNat i) 0) ||| BitVec.ofInt (IntKind.bits .u32) (IntKind.u32.wrap (IntKind.u64.wrap ((IntKind.u64.wrap (xs.getD (Int.toNat i) 0)) * 2 ^ (min (Int.toNat (IntKind.u64.wrap s)) (IntKind.bits .u64)))))).toNat))).set (Int.toNat (IntKind.i64.wrap (i + 1))) (IntKind.u32.wrap (Int.fdiv (IntKind.u64.wrap ((IntKind.u64.wrap (xs.getD (Int.toNat i) 0)) * 2 ^ (min (Int.toNat (IntKind.u64.wrap s)) (IntKind.bits .u64)))) (2 ^ (min (Int.toNat 32) (IntKind.bits .u64)))))) n (IntKind.i64.wrap (i + 1))) :=
  (RunsW.go TWB_holds 400 [.b true, .v (.int .u32 (xs.getD (Int.toNat i) 0)), .v (.int .u32 (os.getD (Int.toNat i) 0)), .l (lm (os.set (Int.toNat i) (IntKind.u32.wrap ((BitVec.ofInt (IntKind.bits .u32) (os.getD (Int.toNat i) 0) ||| BitVec.ofInt (IntKind.bits .u32) (IntKind.u32.wrap (IntKind.u64.wrap ((IntKind.u64.wrap (xs.getD (Int.toNat i) 0)) * 2 ^ (min (Int.toNat (IntKind.u64.wrap s)) (IntKind.bits .u64)))))).toNat)))), .l (lm ((os.set (Int.toNat i) (IntKind.u32.wrap ((BitVec.ofInt (IntKind.bits .u32) (os.getD (Int.toNat i) 0) ||| BitVec.ofInt (IntKind.bits .u32) (IntKind.u32.wrap (IntKind.u64.wrap ((IntKind.u64.wrap (xs.getD (Int.toNat i) 0)) * 2 ^ (min (Int.toNat (IntKind.u64.wrap s)) (IntKind.bits .u64)))))).toNat))).set (Int.toNat (IntKind.i64.wrap (i + 1))) (IntKind.u32.wrap (Int.fdiv (IntKind.u64.wrap ((IntKind.u64.wrap (xs.getD (Int.toNat i) 0)) * 2 ^ (min (Int.toNat (IntKind.u64.wrap s)) (IntKind.bits .u64)))) (2 ^ (min (Int.toNat 32) (IntKind.bits .u64)))))))] [1, 5, 13, 14, 15] (ac c1 (ac n1 (ac (show takeA (List.drop (Int.toNat i * 1) (lm xs)) 0 1 true = some (.int .u32 (xs.getD (Int.toNat i) 0)) from (take_limI n1)) (ac n2 (ac n3 (ac (show takeA (lm os) (Int.toNat i * 1) 1 true = some (.int .u32 (os.getD (Int.toNat i) 0)) from (own_limI n4 n3)) (ac n3 (ac (show layA (lm os) (Int.toNat i * 1) [.int .u32 (IntKind.u32.wrap ((BitVec.ofInt (IntKind.bits .u32) (os.getD (Int.toNat i) 0) ||| BitVec.ofInt (IntKind.bits .u32) (IntKind.u32.wrap (IntKind.u64.wrap ((IntKind.u64.wrap (xs.getD (Int.toNat i) 0)) * 2 ^ (min (Int.toNat (IntKind.u64.wrap s)) (IntKind.bits .u64)))))).toNat))] = some (lm (os.set (Int.toNat i) (IntKind.u32.wrap ((BitVec.ofInt (IntKind.bits .u32) (os.getD (Int.toNat i) 0) ||| BitVec.ofInt (IntKind.bits .u32) (IntKind.u32.wrap (IntKind.u64.wrap ((IntKind.u64.wrap (xs.getD (Int.toNat i) 0)) * 2 ^ (min (Int.toNat (IntKind.u64.wrap s)) (IntKind.bits .u64)))))).toNat)))) from (lay_limI n4 n3)) (ac (show ¬ (32 : Int) < 0 from (by decide)) (ac n5 (ac (show layA (lm (os.set (Int.toNat i) (IntKind.u32.wrap ((BitVec.ofInt (IntKind.bits .u32) (os.getD (Int.toNat i) 0) ||| BitVec.ofInt (IntKind.bits .u32) (IntKind.u32.wrap (IntKind.u64.wrap ((IntKind.u64.wrap (xs.getD (Int.toNat i) 0)) * 2 ^ (min (Int.toNat (IntKind.u64.wrap s)) (IntKind.bits .u64)))))).toNat)))) (Int.toNat (IntKind.i64.wrap (i + 1)) * 1) [.int .u32 (IntKind.u32.wrap (Int.fdiv (IntKind.u64.wrap ((IntKind.u64.wrap (xs.getD (Int.toNat i) 0)) * 2 ^ (min (Int.toNat (IntKind.u64.wrap s)) (IntKind.bits .u64)))) (2 ^ (min (Int.toNat 32) (IntKind.bits .u64)))))] = some (lm ((os.set (Int.toNat i) (IntKind.u32.wrap ((BitVec.ofInt (IntKind.bits .u32) (os.getD (Int.toNat i) 0) ||| BitVec.ofInt (IntKind.bits .u32) (IntKind.u32.wrap (IntKind.u64.wrap ((IntKind.u64.wrap (xs.getD (Int.toNat i) 0)) * 2 ^ (min (Int.toNat (IntKind.u64.wrap s)) (IntKind.bits .u64)))))).toNat))).set (Int.toNat (IntKind.i64.wrap (i + 1))) (IntKind.u32.wrap (Int.fdiv (IntKind.u64.wrap ((IntKind.u64.wrap (xs.getD (Int.toNat i) 0)) * 2 ^ (min (Int.toNat (IntKind.u64.wrap s)) (IntKind.bits .u64)))) (2 ^ (min (Int.toNat 32) (IntKind.bits .u64))))))) from (lay_limI n6 n5)) a0))))))))))) (by kernel_rfl))
theorem Try.k155_2 (xs : List Int) (s : Int) (k : Nat) (os : List Int) (n : Int) (i : Int)  (c1 : (decide (i < n)) = false) : RunsW Try.ir Try.c155 (Try.s155 xs s k os n i) (.exit 0) (Try.s155 xs s k os n i) :=
  (RunsW.go TWB_holds 400 [.b false] [1, 5, 13, 14, 15] (ac c1 a0) (by kernel_rfl))
theorem Try.run155 (xs os : List Int) (s n i : Int) (k : Nat) (n1 : 0 ≤ (IntKind.i64.wrap (((xs.length : Nat) : Int) + 1)) ∧ (IntKind.i64.wrap (((xs.length : Nat) : Int) + 1)) ≤ 1048576)
    (hl2 : RunsW Try.ir (.loop Try.c155) ((dds 1 (.val (.int .i64 s) :: (dds 3 (.own 1 (Int.toNat (IntKind.i64.wrap (((xs.length : Nat) : Int) + 1))) (replA [.int .u32 0] (Int.toNat (IntKind.i64.wrap (((xs.length : Nat) : Int) + 1)))) :: (dds 7 (.val (.sl xs.length (lm xs)) :: (.val (.int .i64 ((xs.length : Nat) : Int)) :: (.val (.int .i64 0) :: (dds 26 [])))))))))) (.exit 0) (Try.s155 xs s k os n i)) : Runs Try.ir 155 [.sl xs.length (lm xs), .int .i64 s] (.fresh 1 k (lm os)) :=
  Runs.of_bodyW (fn := Try.i155) (s := (dds 1 (.val (.int .i64 s) :: (dds 2 (.own 1 k (lm os) :: (dds 37 [])))))) (ex := .ret) rfl rfl
    (RunsW.seq (RunsW.go (t := (.val (.sl xs.length (lm xs)) :: (.val (.int .i64 s) :: (dds 2 (.own 1 0 [] :: (dds 37 [])))))) (ex := .norm) TWB_holds 400 [] [0, 1, 4] a0 (by kernel_rfl))
    (RunsW.seq (RunsW.go (t := (.val (.sl xs.length (lm xs)) :: (.val (.int .i64 s) :: (dds 2 (.own 1 0 [] :: (.own 1 (Int.toNat (IntKind.i64.wrap (((xs.length : Nat) : Int) + 1))) (replA [.int .u32 0] (Int.toNat (IntKind.i64.wrap (((xs.length : Nat) : Int) + 1)))) :: (dds 36 []))))))) (ex := .norm) TWB_holds 400 [] [0, 1, 4, 5] (ac n1 a0) (by kernel_rfl))
    (RunsW.seq (RunsW.seq (RunsW.go TWB_holds 400 [] [1, 5, 13, 14, 15] a0 (by kernel_rfl))
    (RunsW.block hl2))
    (RunsW.go TWB_holds 400 [] [1, 4] a0 (by kernel_rfl))))) (by intro i e; cases e) rfl
def Try.c147g : ICode := .seq (.seq (.region false [oM 115 17,
   o1 116 (.bin .geq (.t 115) (.c (.int .u64 4294967296))),
   oM 117 116,
   oG 118 (.mov (.t 17)) 117 false,
   oG 119 (.mov (.t 14)) 117 false,
   oG 120 (.bin .mul (.t 118) (.t 119)) 117 false,
   oG 121 (.mov (.t 18)) 117 false,
   oG 122 (.bin .shl (.t 121) (.c (.int .u64 32))) 117 false,
   oG 123 (.cpy 9) 117 false,
   oG 124 (.mov (.t 15)) 117 false,
   oG 125 (.mov (.t 11)) 117 false,
   oG 126 (.bin .add (.t 124) (.t 125)) 117 false,
   oG 127 (.bin .sub (.t 126) (.c (.int .i64 2))) 117 false,
   oG 128 (.ixo 123 9 (.t 127) 1) 117 false,
   oG 129 (.ld 128 9 1 true) 117 false,
   oG 130 (.cv .u64 (.t 129)) 117 false,
   oG 131 (.bin .or (.t 122) (.t 130)) 117 false,
   oG 132 (.bin .gtr (.t 120) (.t 131)) 117 false,
   o1 133 (.pick (.t 117) (.c (.bool true)) (.t 132))])
  (.cond (.t 133) (.skip)
  (.exit 2)))
  (.block 3 (.seq (.region false [oM 134 17,
   o1 135 (.bin .sub (.t 134) (.c (.int .u64 1))),
   oM 17 135])
  (.seq (.region false [oM 136 18,
   oM 137 13,
   oB 138 .add 136 137,
   oM 18 138])
  (.seq (.region false [oM 139 18,
   o1 140 (.bin .geq (.t 139) (.c (.int .u64 4294967296)))])
  (.cond (.t 140) (.exit 2)
  (.skip))))))
def Try.s147g (k : Nat) (us : List Int) (vs : List Int) (n : Int) (t : Int) (t2 : Int) (kq : Nat) (qs : List Int) (s : Int) (j : Int) (g : Int) (r : Int) : State := (dds 4 (.own 1 kq (lm qs) :: (dds 3 (.val (.int .i64 s) :: (.own 1 k (lm us) :: (.val (.sl vs.length (lm vs)) :: (.val (.int .i64 n) :: (dds 1 (.val (.int .u64 t) :: (.val (.int .u64 t2) :: (.val (.int .i64 j) :: (dds 1 (.val (.int .u64 g) :: (.val (.int .u64 r) :: (dds 263 [])))))))))))))))
theorem Try.k147g_1 (k : Nat) (us : List Int) (vs : List Int) (n : Int) (t : Int) (t2 : Int) (kq : Nat) (qs : List Int) (s : Int) (j : Int) (g : Int) (r : Int)  (c1 : (decide (g ≥ 4294967296)) = true)
    (c2 : (decide ((IntKind.u64.wrap (r + t)) ≥ 4294967296)) = true) : RunsW Try.ir Try.c147g (Try.s147g k us vs n t t2 kq qs s j g r) (.exit 2) (Try.s147g k us vs n t t2 kq qs s j (IntKind.u64.wrap (g - 1)) (IntKind.u64.wrap (r + t))) :=
  (RunsW.go TWB_holds 400 [.b true, .b true, .b true] [4, 8, 9, 10, 11, 13, 14, 15, 17, 18] (ac c1 (ac (show true = true from rfl) (ac c2 a0))) (by kernel_rfl))
theorem Try.k147g_2 (k : Nat) (us : List Int) (vs : List Int) (n : Int) (t : Int) (t2 : Int) (kq : Nat) (qs : List Int) (s : Int) (j : Int) (g : Int) (r : Int)  (c1 : (decide (g ≥ 4294967296)) = true)
    (c2 : (decide ((IntKind.u64.wrap (r + t)) ≥ 4294967296)) = false) : RunsW Try.ir Try.c147g (Try.s147g k us vs n t t2 kq qs s j g r) .norm (Try.s147g k us vs n t t2 kq qs s j (IntKind.u64.wrap (g - 1)) (IntKind.u64.wrap (r + t))) :=
  (RunsW.go TWB_holds 400 [.b true, .b true, .b false] [4, 8, 9, 10, 11, 13, 14, 15, 17, 18] (ac c1 (ac (show true = true from rfl) (ac c2 a0))) (by kernel_rfl))
theorem Try.k147g_3 (k : Nat) (us : List Int) (vs : List Int) (n : Int) (t : Int) (t2 : Int) (kq : Nat) (qs : List Int) (s : Int) (j : Int) (g : Int) (r : Int)  (c1 : (decide (g ≥ 4294967296)) = false)
    (c2 : (decide ((IntKind.u64.wrap (g * t2)) > (IntKind.u64.wrap ((BitVec.ofInt (IntKind.bits .u64) (IntKind.u64.wrap (r * 2 ^ (min (Int.toNat 32) (IntKind.bits .u64)))) ||| BitVec.ofInt (IntKind.bits .u64) (IntKind.u64.wrap (us.getD (Int.toNat (IntKind.i64.wrap ((IntKind.i64.wrap (j + n)) - 2))) 0))).toNat)))) = true)
    (c3 : (decide ((IntKind.u64.wrap (r + t)) ≥ 4294967296)) = true)
    (n1 : 0 ≤ (IntKind.i64.wrap ((IntKind.i64.wrap (j + n)) - 2)) ∧ (IntKind.i64.wrap ((IntKind.i64.wrap (j + n)) - 2)) < ((k : Nat) : Int))
    (n2 : us.length = k) : RunsW Try.ir Try.c147g (Try.s147g k us vs n t t2 kq qs s j g r) (.exit 2) (Try.s147g k us vs n t t2 kq qs s j (IntKind.u64.wrap (g - 1)) (IntKind.u64.wrap (r + t))) :=
  (RunsW.go TWB_holds 400 [.b false, .v (.int .u32 (us.getD (Int.toNat (IntKind.i64.wrap ((IntKind.i64.wrap (j + n)) - 2))) 0)), .b true, .b true] [4, 8, 9, 10, 11, 13, 14, 15, 17, 18] (ac c1 (ac (show ¬ (32 : Int) < 0 from (by decide)) (ac n1 (ac (show takeA (lm us) (Int.toNat (IntKind.i64.wrap ((IntKind.i64.wrap (j + n)) - 2)) * 1) 1 true = some (.int .u32 (us.getD (Int.toNat (IntKind.i64.wrap ((IntKind.i64.wrap (j + n)) - 2))) 0)) from (own_limI n2 n1)) (ac c2 (ac c3 a0)))))) (by kernel_rfl))
theorem Try.k147g_4 (k : Nat) (us : List Int) (vs : List Int) (n : Int) (t : Int) (t2 : Int) (kq : Nat) (qs : List Int) (s : Int) (j : Int) (g : Int) (r : Int)  (c1 : (decide (g ≥ 4294967296)) = false)
    (c2 : (decide ((IntKind.u64.wrap (g * t2)) > (IntKind.u64.wrap ((BitVec.ofInt (IntKind.bits .u64) (IntKind.u64.wrap (r * 2 ^ (min (Int.toNat 32) (IntKind.bits .u64)))) ||| BitVec.ofInt (IntKind.bits .u64) (IntKind.u64.wrap (us.getD (Int.toNat (IntKind.i64.wrap ((IntKind.i64.wrap (j + n)) - 2))) 0))).toNat)))) = true)
    (c3 : (decide ((IntKind.u64.wrap (r + t)) ≥ 4294967296)) = false)
    (n1 : 0 ≤ (IntKind.i64.wrap ((IntKind.i64.wrap (j + n)) - 2)) ∧ (IntKind.i64.wrap ((IntKind.i64.wrap (j + n)) - 2)) < ((k : Nat) : Int))
    (n2 : us.length = k) : RunsW Try.ir Try.c147g (Try.s147g k us vs n t t2 kq qs s j g r) .norm (Try.s147g k us vs n t t2 kq qs s j (IntKind.u64.wrap (g - 1)) (IntKind.u64.wrap (r + t))) :=
  (RunsW.go TWB_holds 400 [.b false, .v (.int .u32 (us.getD (Int.toNat (IntKind.i64.wrap ((IntKind.i64.wrap (j + n)) - 2))) 0)), .b true, .b false] [4, 8, 9, 10, 11, 13, 14, 15, 17, 18] (ac c1 (ac (show ¬ (32 : Int) < 0 from (by decide)) (ac n1 (ac (show takeA (lm us) (Int.toNat (IntKind.i64.wrap ((IntKind.i64.wrap (j + n)) - 2)) * 1) 1 true = some (.int .u32 (us.getD (Int.toNat (IntKind.i64.wrap ((IntKind.i64.wrap (j + n)) - 2))) 0)) from (own_limI n2 n1)) (ac c2 (ac c3 a0)))))) (by kernel_rfl))
theorem Try.k147g_5 (k : Nat) (us : List Int) (vs : List Int) (n : Int) (t : Int) (t2 : Int) (kq : Nat) (qs : List Int) (s : Int) (j : Int) (g : Int) (r : Int)  (c1 : (decide (g ≥ 4294967296)) = false)
    (c2 : (decide ((IntKind.u64.wrap (g * t2)) > (IntKind.u64.wrap ((BitVec.ofInt (IntKind.bits .u64) (IntKind.u64.wrap (r * 2 ^ (min (Int.toNat 32) (IntKind.bits .u64)))) ||| BitVec.ofInt (IntKind.bits .u64) (IntKind.u64.wrap (us.getD (Int.toNat (IntKind.i64.wrap ((IntKind.i64.wrap (j + n)) - 2))) 0))).toNat)))) = false)
    (n1 : 0 ≤ (IntKind.i64.wrap ((IntKind.i64.wrap (j + n)) - 2)) ∧ (IntKind.i64.wrap ((IntKind.i64.wrap (j + n)) - 2)) < ((k : Nat) : Int))
    (n2 : us.length = k) : RunsW Try.ir Try.c147g (Try.s147g k us vs n t t2 kq qs s j g r) (.exit 2) (Try.s147g k us vs n t t2 kq qs s j g r) :=
  (RunsW.go TWB_holds 400 [.b false, .v (.int .u32 (us.getD (Int.toNat (IntKind.i64.wrap ((IntKind.i64.wrap (j + n)) - 2))) 0)), .b false] [4, 8, 9, 10, 11, 13, 14, 15, 17, 18] (ac c1 (ac (show ¬ (32 : Int) < 0 from (by decide)) (ac n1 (ac (show takeA (lm us) (Int.toNat (IntKind.i64.wrap ((IntKind.i64.wrap (j + n)) - 2)) * 1) 1 true = some (.int .u32 (us.getD (Int.toNat (IntKind.i64.wrap ((IntKind.i64.wrap (j + n)) - 2))) 0)) from (own_limI n2 n1)) (ac c2 a0))))) (by kernel_rfl))
def Try.c147m : ICode := .seq (.seq (.region false [oM 141 21,
   oM 142 11,
   oB 143 .lss 141 142])
  (.cond (.t 143) (.skip)
  (.exit 4)))
  (.seq (.block 5 (.seq (.region false [oM 146 17,
   oM 147 10,
   oM 148 21,
   o1 149 (.ixa 147 (.t 148) 1),
   o1 150 (.ld 149 149 1 true),
   o1 151 (.cv .u64 (.t 150)),
   oB 152 .mul 146 151,
   oM 153 20,
   oB 154 .add 152 153,
   oM 22 154])
  (.seq (.region false [oM 155 22,
   o1 156 (.bin .shr (.t 155) (.c (.int .u64 32))),
   oM 20 156])
  (.seq (.region false [o1 157 (.cpy 9),
   oM 158 21,
   oM 159 15,
   oB 160 .add 158 159,
   o1 161 (.ixo 157 9 (.t 160) 1),
   o1 162 (.ld 161 9 1 true),
   o1 163 (.cv .u64 (.t 162)),
   oM 164 22,
   o1 165 (.cv .u32 (.t 164)),
   o1 166 (.cv .u64 (.t 165)),
   oB 167 .sub 163 166,
   oM 168 19,
   oB 169 .sub 167 168,
   oM 23 169])
  (.region false [o1 170 (.cpy 9),
   oM 171 21,
   oM 172 15,
   oB 173 .add 171 172,
   oM 174 23,
   o1 175 (.cv .u32 (.t 174)),
   oM 176 23,
   o1 177 (.bin .shr (.t 176) (.c (.int .u64 63))),
   o1 178 (.ixo 170 9 (.t 173) 1),
   oN (.st 178 9 1 (.t 175)),
   oM 19 177])))))
  (.region false [oM 144 21,
   o1 145 (.bin .add (.t 144) (.c (.int .i64 1))),
   oM 21 145]))
def Try.s147m (k : Nat) (us : List Int) (vs : List Int) (n : Int) (t : Int) (t2 : Int) (kq : Nat) (qs : List Int) (s : Int) (j : Int) (g : Int) (b : Int) (c : Int) (i : Int) : State := (dds 4 (.own 1 kq (lm qs) :: (dds 3 (.val (.int .i64 s) :: (.own 1 k (lm us) :: (.val (.sl vs.length (lm vs)) :: (.val (.int .i64 n) :: (dds 1 (.val (.int .u64 t) :: (.val (.int .u64 t2) :: (.val (.int .i64 j) :: (dds 1 (.val (.int .u64 g) :: (dds 1 (.val (.int .u64 b) :: (.val (.int .u64 c) :: (.val (.int .i64 i) :: (dds 260 []))))))))))))))))))
theorem Try.k147m_1 (k : Nat) (us : List Int) (vs : List Int) (n : Int) (t : Int) (t2 : Int) (kq : Nat) (qs : List Int) (s : Int) (j : Int) (g : Int) (b : Int) (c : Int) (i : Int)  (c1 : (decide (i < n)) = true)
    (n1 : 0 ≤ i ∧ i < ((vs.length : Nat) : Int))
    (n2 : 0 ≤ (IntKind.i64.wrap (i + j)) ∧ (IntKind.i64.wrap (i + j)) < ((k : Nat) : Int))
    (n3 : us.length = k) : RunsW Try.ir Try.c147m (Try.s147m k us vs n t t2 kq qs s j g b c i) .norm (Try.s147m k (us.set (Int.toNat (IntKind.i64.wrap (i + j))) (IntKind.u32.wrap (IntKind.u64.wrap ((IntKind.u64.wrap ((IntKind.u64.wrap (us.getD (Int.toNat (IntKind.i64.wrap (i + j))) 0)) - (IntKind.u64.wrap (IntKind.u32.wrap (IntKind.u64.wrap ((IntKind.u64.wrap (g * (IntKind.u64.wrap (vs.getD (Int.toNat i) 0)))) + c)))))) - b)))) vs n t t2 kq qs s j g (Int.fdiv (IntKind.u64.wrap ((IntKind.u64.wrap ((IntKind.u64.wrap (us.getD (Int.toNat (IntKind.i64.wrap (i + j))) 0)) - (IntKind.u64.wrap (IntKind.u32.wrap (IntKind.u64.wrap ((IntKind.u64.wrap (g * (IntKind.u64.wrap (vs.getD (Int.toNat i) 0)))) + c)))))) - b)) (2 ^ (min (Int.toNat 63) (IntKind.bits .u64)))) (Int.fdiv (IntKind.u64.wrap ((IntKind.u64.wrap (g * (IntKind.u64.wrap (vs.getD (Int.toNat i) 0)))) + c)) (2 ^ (min (Int.toNat 32) (IntKind.bits .u64)))) (IntKind.i64.wrap (i + 1))) :=
  (RunsW.go TWB_holds 400 [.b true, .v (.int .u32 (vs.getD (Int.toNat i) 0)), .v (.int .u32 (us.getD (Int.toNat (IntKind.i64.wrap (i + j))) 0)), .l (lm (us.set (Int.toNat (IntKind.i64.wrap (i + j))) (IntKind.u32.wrap (IntKind.u64.wrap ((IntKind.u64.wrap ((IntKind.u64.wrap (us.getD (Int.toNat (IntKind.i64.wrap (i + j))) 0)) - (IntKind.u64.wrap (IntKind.u32.wrap (IntKind.u64.wrap ((IntKind.u64.wrap (g * (IntKind.u64.wrap (vs.getD (Int.toNat i) 0)))) + c)))))) - b)))))] [4, 8, 9, 10, 11, 13, 14, 15, 17, 19, 20, 21] (ac c1 (ac n1 (ac (show takeA (List.drop (Int.toNat i * 1) (lm vs)) 0 1 true = some (.int .u32 (vs.getD (Int.toNat i) 0)) from (take_limI n1)) (ac (show ¬ (32 : Int) < 0 from (by decide)) (ac n2 (ac (show takeA (lm us) (Int.toNat (IntKind.i64.wrap (i + j)) * 1) 1 true = some (.int .u32 (us.getD (Int.toNat (IntKind.i64.wrap (i + j))) 0)) from (own_limI n3 n2)) (ac (show ¬ (63 : Int) < 0 from (by decide)) (ac n2 (ac (show layA (lm us) (Int.toNat (IntKind.i64.wrap (i + j)) * 1) [.int .u32 (IntKind.u32.wrap (IntKind.u64.wrap ((IntKind.u64.wrap ((IntKind.u64.wrap (us.getD (Int.toNat (IntKind.i64.wrap (i + j))) 0)) - (IntKind.u64.wrap (IntKind.u32.wrap (IntKind.u64.wrap ((IntKind.u64.wrap (g * (IntKind.u64.wrap (vs.getD (Int.toNat i) 0)))) + c)))))) - b)))] = some (lm (us.set (Int.toNat (IntKind.i64.wrap (i + j))) (IntKind.u32.wrap (IntKind.u64.wrap ((IntKind.u64.wrap ((IntKind.u64.wrap (us.getD (Int.toNat (IntKind.i64.wrap (i + j))) 0)) - (IntKind.u64.wrap (IntKind.u32.wrap (IntKind.u64.wrap ((IntKind.u64.wrap (g * (IntKind.u64.wrap (vs.getD (Int.toNat i) 0)))) + c)))))) - b))))) from (lay_limI n3 n2)) a0))))))))) (by kernel_rfl))
theorem Try.k147m_2 (k : Nat) (us : List Int) (vs : List Int) (n : Int) (t : Int) (t2 : Int) (kq : Nat) (qs : List Int) (s : Int) (j : Int) (g : Int) (b : Int) (c : Int) (i : Int)  (c1 : (decide (i < n)) = false) : RunsW Try.ir Try.c147m (Try.s147m k us vs n t t2 kq qs s j g b c i) (.exit 4) (Try.s147m k us vs n t t2 kq qs s j g b c i) :=
  (RunsW.go TWB_holds 400 [.b false] [4, 8, 9, 10, 11, 13, 14, 15, 17, 19, 20, 21] (ac c1 a0) (by kernel_rfl))
def Try.c147a : ICode := .seq (.seq (.region false [oM 202 26,
   oM 203 11,
   oB 204 .lss 202 203])
  (.cond (.t 204) (.skip)
  (.exit 6)))
  (.seq (.block 7 (.seq (.region true [o1 207 (.cpy 9),
   oM 208 26,
   oM 209 15,
   oB 210 .add 208 209,
   o1 211 (.ixo 207 9 (.t 210) 1),
   o1 212 (.ld 211 9 1 true),
   o1 213 (.cv .u64 (.t 212)),
   oM 214 10,
   oM 215 26,
   o1 216 (.ixa 214 (.t 215) 1),
   o1 217 (.ld 216 216 1 true),
   o1 218 (.cv .u64 (.t 217)),
   oB 219 .add 213 218,
   oM 220 25,
   oB 221 .add 219 220,
   oM 27 221])
  (.region false [o1 222 (.cpy 9),
   oM 223 26,
   oM 224 15,
   oB 225 .add 223 224,
   oM 226 27,
   o1 227 (.cv .u32 (.t 226)),
   oM 228 27,
   o1 229 (.bin .shr (.t 228) (.c (.int .u64 32))),
   o1 230 (.ixo 222 9 (.t 225) 1),
   oN (.st 230 9 1 (.t 227)),
   oM 25 229])))
  (.region false [oM 205 26,
   o1 206 (.bin .add (.t 205) (.c (.int .i64 1))),
   oM 26 206]))
def Try.s147a (k : Nat) (us : List Int) (vs : List Int) (n : Int) (t : Int) (t2 : Int) (kq : Nat) (qs : List Int) (s : Int) (j : Int) (g : Int) (c : Int) (i : Int) : State := (dds 4 (.own 1 kq (lm qs) :: (dds 3 (.val (.int .i64 s) :: (.own 1 k (lm us) :: (.val (.sl vs.length (lm vs)) :: (.val (.int .i64 n) :: (dds 1 (.val (.int .u64 t) :: (.val (.int .u64 t2) :: (.val (.int .i64 j) :: (dds 1 (.val (.int .u64 g) :: (dds 7 (.val (.int .u64 c) :: (.val (.int .i64 i) :: (dds 255 [])))))))))))))))))
theorem Try.k147a_1 (k : Nat) (us : List Int) (vs : List Int) (n : Int) (t : Int) (t2 : Int) (kq : Nat) (qs : List Int) (s : Int) (j : Int) (g : Int) (c : Int) (i : Int)  (c1 : (decide (i < n)) = true)
    (n1 : 0 ≤ (IntKind.i64.wrap (i + j)) ∧ (IntKind.i64.wrap (i + j)) < ((k : Nat) : Int))
    (n2 : us.length = k)
    (n3 : 0 ≤ i ∧ i < ((vs.length : Nat) : Int)) : RunsW Try.ir Try.c147a (Try.s147a k us vs n t t2 kq qs s j g c i) .norm (Try.s147a k (us.set (Int.toNat (IntKind.i64.wrap (i + j))) (IntKind.u32.wrap (IntKind.u64.wrap ((IntKind.u64.wrap ((IntKind.u64.wrap (us.getD (Int.toNat (IntKind.i64.wrap (i + j))) 0)) + (IntKind.u64.wrap (vs.getD (Int.toNat i) 0)))) + c)))) vs n t t2 kq qs s j g (Int.fdiv (IntKind.u64.wrap ((IntKind.u64.wrap ((IntKind.u64.wrap (us.getD (Int.toNat (IntKind.i64.wrap (i + j))) 0)) + (IntKind.u64.wrap (vs.getD (Int.toNat i) 0)))) + c)) (2 ^ (min (Int.toNat 32) (IntKind.bits .u64)))) (IntKind.i64.wrap (i + 1))) :=
  (RunsW.go TWB_holds 400 [.b true, .v (.int .u32 (us.getD (Int.toNat (IntKind.i64.wrap (i + j))) 0)), .v (.int .u32 (vs.getD (Int.toNat i) 0)), .l (lm (us.set (Int.toNat (IntKind.i64.wrap (i + j))) (IntKind.u32.wrap (IntKind.u64.wrap ((IntKind.u64.wrap ((IntKind.u64.wrap (us.getD (Int.toNat (IntKind.i64.wrap (i + j))) 0)) + (IntKind.u64.wrap (vs.getD (Int.toNat i) 0)))) + c)))))] [4, 8, 9, 10, 11, 13, 14, 15, 17, 25, 26] (ac c1 (ac n1 (ac (show takeA (lm us) (Int.toNat (IntKind.i64.wrap (i + j)) * 1) 1 true = some (.int .u32 (us.getD (Int.toNat (IntKind.i64.wrap (i + j))) 0)) from (own_limI n2 n1)) (ac n3 (ac (show takeA (List.drop (Int.toNat i * 1) (lm vs)) 0 1 true = some (.int .u32 (vs.getD (Int.toNat i) 0)) from (take_limI n3)) (ac (show ¬ (32 : Int) < 0 from (by decide)) (ac n1 (ac (show layA (lm us) (Int.toNat (IntKind.i64.wrap (i + j)) * 1) [.int .u32 (IntKind.u32.wrap (IntKind.u64.wrap ((IntKind.u64.wrap ((IntKind.u64.wrap (us.getD (Int.toNat (IntKind.i64.wrap (i + j))) 0)) + (IntKind.u64.wrap (vs.getD (Int.toNat i) 0)))) + c)))] = some (lm (us.set (Int.toNat (IntKind.i64.wrap (i + j))) (IntKind.u32.wrap (IntKind.u64.wrap ((IntKind.u64.wrap ((IntKind.u64.wrap (us.getD (Int.toNat (IntKind.i64.wrap (i + j))) 0)) + (IntKind.u64.wrap (vs.getD (Int.toNat i) 0)))) + c))))) from (lay_limI n2 n1)) a0)))))))) (by kernel_rfl))
theorem Try.k147a_2 (k : Nat) (us : List Int) (vs : List Int) (n : Int) (t : Int) (t2 : Int) (kq : Nat) (qs : List Int) (s : Int) (j : Int) (g : Int) (c : Int) (i : Int)  (c1 : (decide (i < n)) = false) : RunsW Try.ir Try.c147a (Try.s147a k us vs n t t2 kq qs s j g c i) (.exit 6) (Try.s147a k us vs n t t2 kq qs s j g c i) :=
  (RunsW.go TWB_holds 400 [.b false] [4, 8, 9, 10, 11, 13, 14, 15, 17, 25, 26] (ac c1 a0) (by kernel_rfl))
def Try.c147 : ICode := .seq (.seq (.region false [oM 88 15,
   o1 89 (.bin .geq (.t 88) (.c (.int .i64 0)))])
  (.cond (.t 89) (.skip)
  (.exit 0)))
  (.seq (.block 1 (.seq (.region true [o1 92 (.cpy 9),
   oM 93 15,
   oM 94 11,
   oB 95 .add 93 94,
   o1 96 (.ixo 92 9 (.t 95) 1),
   o1 97 (.ld 96 9 1 true),
   o1 98 (.cv .u64 (.t 97)),
   o1 99 (.bin .shl (.t 98) (.c (.int .u64 32))),
   o1 100 (.cpy 9),
   oM 101 15,
   oM 102 11,
   oB 103 .add 101 102,
   o1 104 (.bin .sub (.t 103) (.c (.int .i64 1))),
   o1 105 (.ixo 100 9 (.t 104) 1),
   o1 106 (.ld 105 9 1 true),
   o1 107 (.cv .u64 (.t 106)),
   oB 108 .or 99 107,
   oM 16 108])
  (.seq (.region true [oM 109 16,
   oM 110 13,
   oB 111 .quo 109 110,
   oM 112 16,
   oM 113 13,
   oB 114 .rem 112 113,
   oM 17 111,
   oM 18 114])
  (.seq (.block 2 (.loop (.seq (.seq (.region false [oM 115 17,
   o1 116 (.bin .geq (.t 115) (.c (.int .u64 4294967296))),
   oM 117 116,
   oG 118 (.mov (.t 17)) 117 false,
   oG 119 (.mov (.t 14)) 117 false,
   oG 120 (.bin .mul (.t 118) (.t 119)) 117 false,
   oG 121 (.mov (.t 18)) 117 false,
   oG 122 (.bin .shl (.t 121) (.c (.int .u64 32))) 117 false,
   oG 123 (.cpy 9) 117 false,
   oG 124 (.mov (.t 15)) 117 false,
   oG 125 (.mov (.t 11)) 117 false,
   oG 126 (.bin .add (.t 124) (.t 125)) 117 false,
   oG 127 (.bin .sub (.t 126) (.c (.int .i64 2))) 117 false,
   oG 128 (.ixo 123 9 (.t 127) 1) 117 false,
   oG 129 (.ld 128 9 1 true) 117 false,
   oG 130 (.cv .u64 (.t 129)) 117 false,
   oG 131 (.bin .or (.t 122) (.t 130)) 117 false,
   oG 132 (.bin .gtr (.t 120) (.t 131)) 117 false,
   o1 133 (.pick (.t 117) (.c (.bool true)) (.t 132))])
  (.cond (.t 133) (.skip)
  (.exit 2)))
  (.block 3 (.seq (.region false [oM 134 17,
   o1 135 (.bin .sub (.t 134) (.c (.int .u64 1))),
   oM 17 135])
  (.seq (.region false [oM 136 18,
   oM 137 13,
   oB 138 .add 136 137,
   oM 18 138])
  (.seq (.region false [oM 139 18,
   o1 140 (.bin .geq (.t 139) (.c (.int .u64 4294967296)))])
  (.cond (.t 140) (.exit 2)
  (.skip)))))))))
  (.seq (.region false [o1 19 (.mov (.c (.int .u64 0))),
   o1 20 (.mov (.c (.int .u64 0)))])
  (.seq (.seq (.region false [o1 21 (.mov (.c (.int .i64 0)))])
  (.block 4 (.loop (.seq (.seq (.region false [oM 141 21,
   oM 142 11,
   oB 143 .lss 141 142])
  (.cond (.t 143) (.skip)
  (.exit 4)))
  (.seq (.block 5 (.seq (.region false [oM 146 17,
   oM 147 10,
   oM 148 21,
   o1 149 (.ixa 147 (.t 148) 1),
   o1 150 (.ld 149 149 1 true),
   o1 151 (.cv .u64 (.t 150)),
   oB 152 .mul 146 151,
   oM 153 20,
   oB 154 .add 152 153,
   oM 22 154])
  (.seq (.region false [oM 155 22,
   o1 156 (.bin .shr (.t 155) (.c (.int .u64 32))),
   oM 20 156])
  (.seq (.region false [o1 157 (.cpy 9),
   oM 158 21,
   oM 159 15,
   oB 160 .add 158 159,
   o1 161 (.ixo 157 9 (.t 160) 1),
   o1 162 (.ld 161 9 1 true),
   o1 163 (.cv .u64 (.t 162)),
   oM 164 22,
   o1 165 (.cv .u32 (.t 164)),
   o1 166 (.cv .u64 (.t 165)),
   oB 167 .sub 163 166,
   oM 168 19,
   oB 169 .sub 167 168,
   oM 23 169])
  (.region false [o1 170 (.cpy 9),
   oM 171 21,
   oM 172 15,
   oB 173 .add 171 172,
   oM 174 23,
   o1 175 (.cv .u32 (.t 174)),
   oM 176 23,
   o1 177 (.bin .shr (.t 176) (.c (.int .u64 63))),
   o1 178 (.ixo 170 9 (.t 173) 1),
   oN (.st 178 9 1 (.t 175)),
   oM 19 177])))))
  (.region false [oM 144 21,
   o1 145 (.bin .add (.t 144) (.c (.int .i64 1))),
   oM 21 145]))))))
  (.seq (.region false [o1 179 (.cpy 9),
   oM 180 15,
   oM 181 11,
   oB 182 .add 180 181,
   o1 183 (.ixo 179 9 (.t 182) 1),
   o1 184 (.ld 183 9 1 true),
   o1 185 (.cv .u64 (.t 184)),
   oM 186 20,
   oB 187 .sub 185 186,
   oM 188 19,
   oB 189 .sub 187 188,
   oM 24 189])
  (.seq (.region false [o1 190 (.cpy 9),
   oM 191 15,
   oM 192 11,
   oB 193 .add 191 192,
   oM 194 24,
   o1 195 (.cv .u32 (.t 194)),
   o1 196 (.ixo 190 9 (.t 193) 1),
   oN (.st 196 9 1 (.t 195))])
  (.seq (.seq (.region false [oM 197 24,
   o1 198 (.bin .shr (.t 197) (.c (.int .u64 63))),
   o1 199 (.bin .neq (.t 198) (.c (.int .u64 0)))])
  (.cond (.t 199) (.seq (.region false [oM 200 17,
   o1 201 (.bin .sub (.t 200) (.c (.int .u64 1))),
   oM 17 201])
  (.seq (.region false [o1 25 (.mov (.c (.int .u64 0)))])
  (.seq (.seq (.region false [o1 26 (.mov (.c (.int .i64 0)))])
  (.block 6 (.loop (.seq (.seq (.region false [oM 202 26,
   oM 203 11,
   oB 204 .lss 202 203])
  (.cond (.t 204) (.skip)
  (.exit 6)))
  (.seq (.block 7 (.seq (.region true [o1 207 (.cpy 9),
   oM 208 26,
   oM 209 15,
   oB 210 .add 208 209,
   o1 211 (.ixo 207 9 (.t 210) 1),
   o1 212 (.ld 211 9 1 true),
   o1 213 (.cv .u64 (.t 212)),
   oM 214 10,
   oM 215 26,
   o1 216 (.ixa 214 (.t 215) 1),
   o1 217 (.ld 216 216 1 true),
   o1 218 (.cv .u64 (.t 217)),
   oB 219 .add 213 218,
   oM 220 25,
   oB 221 .add 219 220,
   oM 27 221])
  (.region false [o1 222 (.cpy 9),
   oM 223 26,
   oM 224 15,
   oB 225 .add 223 224,
   oM 226 27,
   o1 227 (.cv .u32 (.t 226)),
   oM 228 27,
   o1 229 (.bin .shr (.t 228) (.c (.int .u64 32))),
   o1 230 (.ixo 222 9 (.t 225) 1),
   oN (.st 230 9 1 (.t 227)),
   oM 25 229])))
  (.region false [oM 205 26,
   o1 206 (.bin .add (.t 205) (.c (.int .i64 1))),
   oM 26 206]))))))
  (.region false [o1 231 (.cpy 9),
   oM 232 15,
   oM 233 11,
   oB 234 .add 232 233,
   o1 235 (.ixo 231 9 (.t 234) 1),
   o1 236 (.ld 235 9 1 true),
   oM 237 25,
   o1 238 (.cv .u32 (.t 237)),
   oB 239 .add 236 238,
   o1 240 (.ixo 231 9 (.t 234) 1),
   oN (.st 240 9 1 (.t 239))]))))
  (.skip)))
  (.region false [o1 241 (.cpy 4),
   oM 242 15,
   oM 243 17,
   o1 244 (.cv .u32 (.t 243)),
   o1 245 (.ixo 241 4 (.t 242) 1),
   oN (.st 245 4 1 (.t 244))]))))))))))
  (.region false [oM 90 15,
   o1 91 (.bin .sub (.t 90) (.c (.int .i64 1))),
   oM 15 91]))
def Try.s147 (k : Nat) (us : List Int) (vs : List Int) (n : Int) (t : Int) (t2 : Int) (kq : Nat) (qs : List Int) (s : Int) (j : Int) : State := (dds 4 (.own 1 kq (lm qs) :: (dds 3 (.val (.int .i64 s) :: (.own 1 k (lm us) :: (.val (.sl vs.length (lm vs)) :: (.val (.int .i64 n) :: (dds 1 (.val (.int .u64 t) :: (.val (.int .u64 t2) :: (.val (.int .i64 j) :: (dds 266 []))))))))))))
theorem Try.k147_1 (k : Nat) (us : List Int) (vs : List Int) (n : Int) (t : Int) (t2 : Int) (kq : Nat) (qs : List Int) (s : Int) (j : Int) (us1 us2 : List Int) (g r b c cc : Int) (c1 : (decide (j ≥ 0)) = true)
    (c2 : ((Int.fdiv (IntKind.u64.wrap ((IntKind.u64.wrap ((IntKind.u64.wrap (us1.getD (Int.toNat (IntKind.i64.wrap (j + n))) 0)) - c)) - b)) (2 ^ (min (Int.toNat 63) (IntKind.bits .u64)))) != 0) = true)
    (n1 : 0 ≤ (IntKind.i64.wrap (j + n)) ∧ (IntKind.i64.wrap (j + n)) < ((k : Nat) : Int))
    (n2 : us.length = k)
    (n3 : 0 ≤ (IntKind.i64.wrap ((IntKind.i64.wrap (j + n)) - 1)) ∧ (IntKind.i64.wrap ((IntKind.i64.wrap (j + n)) - 1)) < ((k : Nat) : Int))
    (n4 : ¬ t = 0)
    (hl5 : RunsW Try.ir (.loop Try.c147g) (Try.s147g k us vs n t t2 kq qs s j (IntKind.u64.wrap (Int.tdiv (IntKind.u64.wrap ((BitVec.ofInt (IntKind.bits .u64) (IntKind.u64.wrap ((IntKind.u64.wrap (us.getD (Int.toNat (IntKind.i64.wrap (j + n))) 0)) * 2 ^ (min (Int.toNat 32) (IntKind.bits .u64)))) ||| BitVec.ofInt (IntKind.bits .u64) (IntKind.u64.wrap (us.getD (Int.toNat (IntKind.i64.wrap ((IntKind.i64.wrap (j + n)) - 1))) 0))).toNat)) t)) (Int.tmod (IntKind.u64.wrap ((BitVec.ofInt (IntKind.bits .u64) (IntKind.u64.wrap ((IntKind.u64.wrap (us.getD (Int.toNat (IntKind.i64.wrap (j + n))) 0)) * 2 ^ (min (Int.toNat 32) (IntKind.bits .u64)))) ||| BitVec.ofInt (IntKind.bits .u64) (IntKind.u64.wrap (us.getD (Int.toNat (IntKind.i64.wrap ((IntKind.i64.wrap (j + n)) - 1))) 0))).toNat)) t)) (.exit 2) (Try.s147g k us vs n t t2 kq qs s j g r))
    (hl6 : RunsW Try.ir (.loop Try.c147m) (Try.s147m k us vs n t t2 kq qs s j g 0 0 0) (.exit 4) (Try.s147m k us1 vs n t t2 kq qs s j g b c n))
    (n7 : us1.length = k)
    (hl8 : RunsW Try.ir (.loop Try.c147a) (Try.s147a k (us1.set (Int.toNat (IntKind.i64.wrap (j + n))) (IntKind.u32.wrap (IntKind.u64.wrap ((IntKind.u64.wrap ((IntKind.u64.wrap (us1.getD (Int.toNat (IntKind.i64.wrap (j + n))) 0)) - c)) - b)))) vs n t t2 kq qs s j (IntKind.u64.wrap (g - 1)) 0 0) (.exit 6) (Try.s147a k us2 vs n t t2 kq qs s j (IntKind.u64.wrap (g - 1)) cc n))
    (n9 : us2.length = k)
    (n10 : 0 ≤ j ∧ j < ((kq : Nat) : Int))
    (n11 : qs.length = kq) : RunsW Try.ir Try.c147 (Try.s147 k us vs n t t2 kq qs s j) .norm (Try.s147 k (us2.set (Int.toNat (IntKind.i64.wrap (j + n))) (IntKind.u32.wrap ((us2.getD (Int.toNat (IntKind.i64.wrap (j + n))) 0) + (IntKind.u32.wrap cc)))) vs n t t2 kq (qs.set (Int.toNat j) (IntKind.u32.wrap (IntKind.u64.wrap (g - 1)))) s (IntKind.i64.wrap (j - 1))) :=
  (RunsW.seq (RunsW.go (t := (dds 4 (.own 1 kq (lm qs) :: (dds 3 (.val (.int .i64 s) :: (.own 1 k (lm us) :: (.val (.sl vs.length (lm vs)) :: (.val (.int .i64 n) :: (dds 1 (.val (.int .u64 t) :: (.val (.int .u64 t2) :: (.val (.int .i64 j) :: (dds 266 []))))))))))))) (ex := .norm) TWB_holds 400 [.b true] [4, 8, 9, 10, 11, 13, 14, 15] (ac c1 a0) (by kernel_rfl))
    (RunsW.seq (RunsW.block_norm (RunsW.seq (RunsW.go (t := (dds 4 (.own 1 kq (lm qs) :: (dds 3 (.val (.int .i64 s) :: (.own 1 k (lm us) :: (.val (.sl vs.length (lm vs)) :: (.val (.int .i64 n) :: (dds 1 (.val (.int .u64 t) :: (.val (.int .u64 t2) :: (.val (.int .i64 j) :: (.val (.int .u64 (IntKind.u64.wrap ((BitVec.ofInt (IntKind.bits .u64) (IntKind.u64.wrap ((IntKind.u64.wrap (us.getD (Int.toNat (IntKind.i64.wrap (j + n))) 0)) * 2 ^ (min (Int.toNat 32) (IntKind.bits .u64)))) ||| BitVec.ofInt (IntKind.bits .u64) (IntKind.u64.wrap (us.getD (Int.toNat (IntKind.i64.wrap ((IntKind.i64.wrap (j + n)) - 1))) 0))).toNat))) :: (dds 265 [])))))))))))))) (ex := .norm) TWB_holds 400 [.v (.int .u32 (us.getD (Int.toNat (IntKind.i64.wrap (j + n))) 0)), .v (.int .u32 (us.getD (Int.toNat (IntKind.i64.wrap ((IntKind.i64.wrap (j + n)) - 1))) 0))] [4, 8, 9, 10, 11, 13, 14, 15, 16] (ac n1 (ac (show takeA (lm us) (Int.toNat (IntKind.i64.wrap (j + n)) * 1) 1 true = some (.int .u32 (us.getD (Int.toNat (IntKind.i64.wrap (j + n))) 0)) from (own_limI n2 n1)) (ac (show ¬ (32 : Int) < 0 from (by decide)) (ac n3 (ac (show takeA (lm us) (Int.toNat (IntKind.i64.wrap ((IntKind.i64.wrap (j + n)) - 1)) * 1) 1 true = some (.int .u32 (us.getD (Int.toNat (IntKind.i64.wrap ((IntKind.i64.wrap (j + n)) - 1))) 0)) from (own_limI n2 n3)) a0))))) (by kernel_rfl))
    (RunsW.seq (RunsW.go TWB_holds 400 [] [4, 8, 9, 10, 11, 13, 14, 15, 17, 18] (ac n4 (ac n4 a0)) (by kernel_rfl))
    (RunsW.seq (RunsW.block hl5)
    (RunsW.seq (RunsW.go (t := (dds 4 (.own 1 kq (lm qs) :: (dds 3 (.val (.int .i64 s) :: (.own 1 k (lm us) :: (.val (.sl vs.length (lm vs)) :: (.val (.int .i64 n) :: (dds 1 (.val (.int .u64 t) :: (.val (.int .u64 t2) :: (.val (.int .i64 j) :: (dds 1 (.val (.int .u64 g) :: (dds 1 (.val (.int .u64 0) :: (.val (.int .u64 0) :: (dds 261 [])))))))))))))))))) (ex := .norm) TWB_holds 400 [] [4, 8, 9, 10, 11, 13, 14, 15, 17, 19, 20] a0 (by kernel_rfl))
    (RunsW.seq (RunsW.seq (RunsW.go TWB_holds 400 [] [4, 8, 9, 10, 11, 13, 14, 15, 17, 19, 20, 21] a0 (by kernel_rfl))
    (RunsW.block hl6))
    (RunsW.seq (RunsW.go (t := (dds 4 (.own 1 kq (lm qs) :: (dds 3 (.val (.int .i64 s) :: (.own 1 k (lm us1) :: (.val (.sl vs.length (lm vs)) :: (.val (.int .i64 n) :: (dds 1 (.val (.int .u64 t) :: (.val (.int .u64 t2) :: (.val (.int .i64 j) :: (dds 1 (.val (.int .u64 g) :: (dds 6 (.val (.int .u64 (IntKind.u64.wrap ((IntKind.u64.wrap ((IntKind.u64.wrap (us1.getD (Int.toNat (IntKind.i64.wrap (j + n))) 0)) - c)) - b))) :: (dds 257 []))))))))))))))))) (ex := .norm) TWB_holds 400 [.v (.int .u32 (us1.getD (Int.toNat (IntKind.i64.wrap (j + n))) 0))] [4, 8, 9, 10, 11, 13, 14, 15, 17, 24] (ac n1 (ac (show takeA (lm us1) (Int.toNat (IntKind.i64.wrap (j + n)) * 1) 1 true = some (.int .u32 (us1.getD (Int.toNat (IntKind.i64.wrap (j + n))) 0)) from (own_limI n7 n1)) a0)) (by kernel_rfl))
    (RunsW.seq (RunsW.go (t := (dds 4 (.own 1 kq (lm qs) :: (dds 3 (.val (.int .i64 s) :: (.own 1 k (lm (us1.set (Int.toNat (IntKind.i64.wrap (j + n))) (IntKind.u32.wrap (IntKind.u64.wrap ((IntKind.u64.wrap ((IntKind.u64.wrap (us1.getD (Int.toNat (IntKind.i64.wrap (j + n))) 0)) - c)) - b))))) :: (.val (.sl vs.length (lm vs)) :: (.val (.int .i64 n) :: (dds 1 (.val (.int .u64 t) :: (.val (.int .u64 t2) :: (.val (.int .i64 j) :: (dds 1 (.val (.int .u64 g) :: (dds 6 (.val (.int .u64 (IntKind.u64.wrap ((IntKind.u64.wrap ((IntKind.u64.wrap (us1.getD (Int.toNat (IntKind.i64.wrap (j + n))) 0)) - c)) - b))) :: (dds 257 []))))))))))))))))) (ex := .norm) TWB_holds 400 [.l (lm (us1.set (Int.toNat (IntKind.i64.wrap (j + n))) (IntKind.u32.wrap (IntKind.u64.wrap ((IntKind.u64.wrap ((IntKind.u64.wrap (us1.getD (Int.toNat (IntKind.i64.wrap (j + n))) 0)) - c)) - b)))))] [4, 8, 9, 10, 11, 13, 14, 15, 17, 24] (ac n1 (ac (show layA (lm us1) (Int.toNat (IntKind.i64.wrap (j + n)) * 1) [.int .u32 (IntKind.u32.wrap (IntKind.u64.wrap ((IntKind.u64.wrap ((IntKind.u64.wrap (us1.getD (Int.toNat (IntKind.i64.wrap (j + n))) 0)) - c)) - b)))] = some (lm (us1.set (Int.toNat (IntKind.i64.wrap (j + n))) (IntKind.u32.wrap (IntKind.u64.wrap ((IntKind.u64.wrap ((IntKind.u64.wrap (us1.getD (Int.toNat (IntKind.i64.wrap (j + n))) 0)) - c)) - b))))) from (lay_limI n7 n1)) a0)) (by kernel_rfl))
    (RunsW.seq (RunsW.seq (RunsW.go (t := (dds 4 (.own 1 kq (lm qs) :: (dds 3 (.val (.int .i64 s) :: (.own 1 k (lm (us1.set (Int.toNat (IntKind.i64.wrap (j + n))) (IntKind.u32.wrap (IntKind.u64.wrap ((IntKind.u64.wrap ((IntKind.u64.wrap (us1.getD (Int.toNat (IntKind.i64.wrap (j + n))) 0)) - c)) - b))))) :: (.val (.sl vs.length (lm vs)) :: (.val (.int .i64 n) :: (dds 1 (.val (.int .u64 t) :: (.val (.int .u64 t2) :: (.val (.int .i64 j) :: (dds 1 (.val (.int .u64 g) :: (dds 181 (.val (.bool ((Int.fdiv (IntKind.u64.wrap ((IntKind.u64.wrap ((IntKind.u64.wrap (us1.getD (Int.toNat (IntKind.i64.wrap (j + n))) 0)) - c)) - b)) (2 ^ (min (Int.toNat 63) (IntKind.bits .u64)))) != 0)) :: (dds 82 []))))))))))))))))) (ex := .norm) TWB_holds 400 [] [4, 8, 9, 10, 11, 13, 14, 15, 17, 199] (ac (show ¬ (63 : Int) < 0 from (by decide)) a0) (by kernel_rfl))
    (RunsW.cond_t (by rfl) c2 (RunsW.seq (RunsW.go (t := (dds 4 (.own 1 kq (lm qs) :: (dds 3 (.val (.int .i64 s) :: (.own 1 k (lm (us1.set (Int.toNat (IntKind.i64.wrap (j + n))) (IntKind.u32.wrap (IntKind.u64.wrap ((IntKind.u64.wrap ((IntKind.u64.wrap (us1.getD (Int.toNat (IntKind.i64.wrap (j + n))) 0)) - c)) - b))))) :: (.val (.sl vs.length (lm vs)) :: (.val (.int .i64 n) :: (dds 1 (.val (.int .u64 t) :: (.val (.int .u64 t2) :: (.val (.int .i64 j) :: (dds 1 (.val (.int .u64 (IntKind.u64.wrap (g - 1))) :: (dds 264 []))))))))))))))) (ex := .norm) TWB_holds 400 [] [4, 8, 9, 10, 11, 13, 14, 15, 17] a0 (by kernel_rfl))
    (RunsW.seq (RunsW.go (t := (dds 4 (.own 1 kq (lm qs) :: (dds 3 (.val (.int .i64 s) :: (.own 1 k (lm (us1.set (Int.toNat (IntKind.i64.wrap (j + n))) (IntKind.u32.wrap (IntKind.u64.wrap ((IntKind.u64.wrap ((IntKind.u64.wrap (us1.getD (Int.toNat (IntKind.i64.wrap (j + n))) 0)) - c)) - b))))) :: (.val (.sl vs.length (lm vs)) :: (.val (.int .i64 n) :: (dds 1 (.val (.int .u64 t) :: (.val (.int .u64 t2) :: (.val (.int .i64 j) :: (dds 1 (.val (.int .u64 (IntKind.u64.wrap (g - 1))) :: (dds 7 (.val (.int .u64 0) :: (dds 256 []))))))))))))))))) (ex := .norm) TWB_holds 400 [] [4, 8, 9, 10, 11, 13, 14, 15, 17, 25] a0 (by kernel_rfl))
    (RunsW.seq (RunsW.seq (RunsW.go TWB_holds 400 [] [4, 8, 9, 10, 11, 13, 14, 15, 17, 25, 26] a0 (by kernel_rfl))
    (RunsW.block hl8))
    (RunsW.go (t := (dds 4 (.own 1 kq (lm qs) :: (dds 3 (.val (.int .i64 s) :: (.own 1 k (lm (us2.set (Int.toNat (IntKind.i64.wrap (j + n))) (IntKind.u32.wrap ((us2.getD (Int.toNat (IntKind.i64.wrap (j + n))) 0) + (IntKind.u32.wrap cc))))) :: (.val (.sl vs.length (lm vs)) :: (.val (.int .i64 n) :: (dds 1 (.val (.int .u64 t) :: (.val (.int .u64 t2) :: (.val (.int .i64 j) :: (dds 1 (.val (.int .u64 (IntKind.u64.wrap (g - 1))) :: (dds 264 []))))))))))))))) (ex := .norm) TWB_holds 400 [.v (.int .u32 (us2.getD (Int.toNat (IntKind.i64.wrap (j + n))) 0)), .l (lm (us2.set (Int.toNat (IntKind.i64.wrap (j + n))) (IntKind.u32.wrap ((us2.getD (Int.toNat (IntKind.i64.wrap (j + n))) 0) + (IntKind.u32.wrap cc)))))] [4, 8, 9, 10, 11, 13, 14, 15, 17] (ac n1 (ac (show takeA (lm us2) (Int.toNat (IntKind.i64.wrap (j + n)) * 1) 1 true = some (.int .u32 (us2.getD (Int.toNat (IntKind.i64.wrap (j + n))) 0)) from (own_limI n9 n1)) (ac n1 (ac (show layA (lm us2) (Int.toNat (IntKind.i64.wrap (j + n)) * 1) [.int .u32 (IntKind.u32.wrap ((us2.getD (Int.toNat (IntKind.i64.wrap (j + n))) 0) + (IntKind.u32.wrap cc)))] = some (lm (us2.set (Int.toNat (IntKind.i64.wrap (j + n))) (IntKind.u32.wrap ((us2.getD (Int.toNat (IntKind.i64.wrap (j + n))) 0) + (IntKind.u32.wrap cc))))) from (lay_limI n9 n1)) a0)))) (by kernel_rfl)))))))
    (RunsW.go (t := (dds 4 (.own 1 kq (lm (qs.set (Int.toNat j) (IntKind.u32.wrap (IntKind.u64.wrap (g - 1))))) :: (dds 3 (.val (.int .i64 s) :: (.own 1 k (lm (us2.set (Int.toNat (IntKind.i64.wrap (j + n))) (IntKind.u32.wrap ((us2.getD (Int.toNat (IntKind.i64.wrap (j + n))) 0) + (IntKind.u32.wrap cc))))) :: (.val (.sl vs.length (lm vs)) :: (.val (.int .i64 n) :: (dds 1 (.val (.int .u64 t) :: (.val (.int .u64 t2) :: (.val (.int .i64 j) :: (dds 266 []))))))))))))) (ex := .norm) TWB_holds 400 [.l (lm (qs.set (Int.toNat j) (IntKind.u32.wrap (IntKind.u64.wrap (g - 1)))))] [4, 8, 9, 10, 11, 13, 14, 15] (ac n10 (ac (show layA (lm qs) (Int.toNat j * 1) [.int .u32 (IntKind.u32.wrap (IntKind.u64.wrap (g - 1)))] = some (lm (qs.set (Int.toNat j) (IntKind.u32.wrap (IntKind.u64.wrap (g - 1))))) from (lay_limI n11 n10)) a0)) (by kernel_rfl)))))))))))
    (RunsW.go TWB_holds 400 [] [4, 8, 9, 10, 11, 13, 14, 15] a0 (by kernel_rfl))))
theorem Try.k147_2 (k : Nat) (us : List Int) (vs : List Int) (n : Int) (t : Int) (t2 : Int) (kq : Nat) (qs : List Int) (s : Int) (j : Int) (us1 : List Int) (g r b c : Int) (c1 : (decide (j ≥ 0)) = true)
    (c2 : ((Int.fdiv (IntKind.u64.wrap ((IntKind.u64.wrap ((IntKind.u64.wrap (us1.getD (Int.toNat (IntKind.i64.wrap (j + n))) 0)) - c)) - b)) (2 ^ (min (Int.toNat 63) (IntKind.bits .u64)))) != 0) = false)
    (n1 : 0 ≤ (IntKind.i64.wrap (j + n)) ∧ (IntKind.i64.wrap (j + n)) < ((k : Nat) : Int))
    (n2 : us.length = k)
    (n3 : 0 ≤ (IntKind.i64.wrap ((IntKind.i64.wrap (j + n)) - 1)) ∧ (IntKind.i64.wrap ((IntKind.i64.wrap (j + n)) - 1)) < ((k : Nat) : Int))
    (n4 : ¬ t = 0)
    (hl5 : RunsW Try.ir (.loop Try.c147g) (Try.s147g k us vs n t t2 kq qs s j (IntKind.u64.wrap (Int.tdiv (IntKind.u64.wrap ((BitVec.ofInt (IntKind.bits .u64) (IntKind.u64.wrap ((IntKind.u64.wrap (us.getD (Int.toNat (IntKind.i64.wrap (j + n))) 0)) * 2 ^ (min (Int.toNat 32) (IntKind.bits .u64)))) ||| BitVec.ofInt (IntKind.bits .u64) (IntKind.u64.wrap (us.getD (Int.toNat (IntKind.i64.wrap ((IntKind.i64.wrap (j + n)) - 1))) 0))).toNat)) t)) (Int.tmod (IntKind.u64.wrap ((BitVec.ofInt (IntKind.bits .u64) (IntKind.u64.wrap ((IntKind.u64.wrap (us.getD (Int.toNat (IntKind.i64.wrap (j + n))) 0)) * 2 ^ (min (Int.toNat 32) (IntKind.bits .u64)))) ||| BitVec.ofInt (IntKind.bits .u64) (IntKind.u64.wrap (us.getD (Int.toNat (IntKind.i64.wrap ((IntKind.i64.wrap (j + n)) - 1))) 0))).toNat)) t)) (.exit 2) (Try.s147g k us vs n t t2 kq qs s j g r))
    (hl6 : RunsW Try.ir (.loop Try.c147m) (Try.s147m k us vs n t t2 kq qs s j g 0 0 0) (.exit 4) (Try.s147m k us1 vs n t t2 kq qs s j g b c n))
    (n7 : us1.length = k)
    (n8 : 0 ≤ j ∧ j < ((kq : Nat) : Int))
    (n9 : qs.length = kq) : RunsW Try.ir Try.c147 (Try.s147 k us vs n t t2 kq qs s j) .norm (Try.s147 k (us1.set (Int.toNat (IntKind.i64.wrap (j + n))) (IntKind.u32.wrap (IntKind.u64.wrap ((IntKind.u64.wrap ((IntKind.u64.wrap (us1.getD (Int.toNat (IntKind.i64.wrap (j + n))) 0)) - c)) - b)))) vs n t t2 kq (qs.set (Int.toNat j) (IntKind.u32.wrap g)) s (IntKind.i64.wrap (j - 1))) :=
  (RunsW.seq (RunsW.go (t := (dds 4 (.own 1 kq (lm qs) :: (dds 3 (.val (.int .i64 s) :: (.own 1 k (lm us) :: (.val (.sl vs.length (lm vs)) :: (.val (.int .i64 n) :: (dds 1 (.val (.int .u64 t) :: (.val (.int .u64 t2) :: (.val (.int .i64 j) :: (dds 266 []))))))))))))) (ex := .norm) TWB_holds 400 [.b true] [4, 8, 9, 10, 11, 13, 14, 15] (ac c1 a0) (by kernel_rfl))
    (RunsW.seq (RunsW.block_norm (RunsW.seq (RunsW.go (t := (dds 4 (.own 1 kq (lm qs) :: (dds 3 (.val (.int .i64 s) :: (.own 1 k (lm us) :: (.val (.sl vs.length (lm vs)) :: (.val (.int .i64 n) :: (dds 1 (.val (.int .u64 t) :: (.val (.int .u64 t2) :: (.val (.int .i64 j) :: (.val (.int .u64 (IntKind.u64.wrap ((BitVec.ofInt (IntKind.bits .u64) (IntKind.u64.wrap ((IntKind.u64.wrap (us.getD (Int.toNat (IntKind.i64.wrap (j + n))) 0)) * 2 ^ (min (Int.toNat 32) (IntKind.bits .u64)))) ||| BitVec.ofInt (IntKind.bits .u64) (IntKind.u64.wrap (us.getD (Int.toNat (IntKind.i64.wrap ((IntKind.i64.wrap (j + n)) - 1))) 0))).toNat))) :: (dds 265 [])))))))))))))) (ex := .norm) TWB_holds 400 [.v (.int .u32 (us.getD (Int.toNat (IntKind.i64.wrap (j + n))) 0)), .v (.int .u32 (us.getD (Int.toNat (IntKind.i64.wrap ((IntKind.i64.wrap (j + n)) - 1))) 0))] [4, 8, 9, 10, 11, 13, 14, 15, 16] (ac n1 (ac (show takeA (lm us) (Int.toNat (IntKind.i64.wrap (j + n)) * 1) 1 true = some (.int .u32 (us.getD (Int.toNat (IntKind.i64.wrap (j + n))) 0)) from (own_limI n2 n1)) (ac (show ¬ (32 : Int) < 0 from (by decide)) (ac n3 (ac (show takeA (lm us) (Int.toNat (IntKind.i64.wrap ((IntKind.i64.wrap (j + n)) - 1)) * 1) 1 true = some (.int .u32 (us.getD (Int.toNat (IntKind.i64.wrap ((IntKind.i64.wrap (j + n)) - 1))) 0)) from (own_limI n2 n3)) a0))))) (by kernel_rfl))
    (RunsW.seq (RunsW.go TWB_holds 400 [] [4, 8, 9, 10, 11, 13, 14, 15, 17, 18] (ac n4 (ac n4 a0)) (by kernel_rfl))
    (RunsW.seq (RunsW.block hl5)
    (RunsW.seq (RunsW.go (t := (dds 4 (.own 1 kq (lm qs) :: (dds 3 (.val (.int .i64 s) :: (.own 1 k (lm us) :: (.val (.sl vs.length (lm vs)) :: (.val (.int .i64 n) :: (dds 1 (.val (.int .u64 t) :: (.val (.int .u64 t2) :: (.val (.int .i64 j) :: (dds 1 (.val (.int .u64 g) :: (dds 1 (.val (.int .u64 0) :: (.val (.int .u64 0) :: (dds 261 [])))))))))))))))))) (ex := .norm) TWB_holds 400 [] [4, 8, 9, 10, 11, 13, 14, 15, 17, 19, 20] a0 (by kernel_rfl))
    (RunsW.seq (RunsW.seq (RunsW.go TWB_holds 400 [] [4, 8, 9, 10, 11, 13, 14, 15, 17, 19, 20, 21] a0 (by kernel_rfl))
    (RunsW.block hl6))
    (RunsW.seq (RunsW.go (t := (dds 4 (.own 1 kq (lm qs) :: (dds 3 (.val (.int .i64 s) :: (.own 1 k (lm us1) :: (.val (.sl vs.length (lm vs)) :: (.val (.int .i64 n) :: (dds 1 (.val (.int .u64 t) :: (.val (.int .u64 t2) :: (.val (.int .i64 j) :: (dds 1 (.val (.int .u64 g) :: (dds 6 (.val (.int .u64 (IntKind.u64.wrap ((IntKind.u64.wrap ((IntKind.u64.wrap (us1.getD (Int.toNat (IntKind.i64.wrap (j + n))) 0)) - c)) - b))) :: (dds 257 []))))))))))))))))) (ex := .norm) TWB_holds 400 [.v (.int .u32 (us1.getD (Int.toNat (IntKind.i64.wrap (j + n))) 0))] [4, 8, 9, 10, 11, 13, 14, 15, 17, 24] (ac n1 (ac (show takeA (lm us1) (Int.toNat (IntKind.i64.wrap (j + n)) * 1) 1 true = some (.int .u32 (us1.getD (Int.toNat (IntKind.i64.wrap (j + n))) 0)) from (own_limI n7 n1)) a0)) (by kernel_rfl))
    (RunsW.seq (RunsW.go (t := (dds 4 (.own 1 kq (lm qs) :: (dds 3 (.val (.int .i64 s) :: (.own 1 k (lm (us1.set (Int.toNat (IntKind.i64.wrap (j + n))) (IntKind.u32.wrap (IntKind.u64.wrap ((IntKind.u64.wrap ((IntKind.u64.wrap (us1.getD (Int.toNat (IntKind.i64.wrap (j + n))) 0)) - c)) - b))))) :: (.val (.sl vs.length (lm vs)) :: (.val (.int .i64 n) :: (dds 1 (.val (.int .u64 t) :: (.val (.int .u64 t2) :: (.val (.int .i64 j) :: (dds 1 (.val (.int .u64 g) :: (dds 6 (.val (.int .u64 (IntKind.u64.wrap ((IntKind.u64.wrap ((IntKind.u64.wrap (us1.getD (Int.toNat (IntKind.i64.wrap (j + n))) 0)) - c)) - b))) :: (dds 257 []))))))))))))))))) (ex := .norm) TWB_holds 400 [.l (lm (us1.set (Int.toNat (IntKind.i64.wrap (j + n))) (IntKind.u32.wrap (IntKind.u64.wrap ((IntKind.u64.wrap ((IntKind.u64.wrap (us1.getD (Int.toNat (IntKind.i64.wrap (j + n))) 0)) - c)) - b)))))] [4, 8, 9, 10, 11, 13, 14, 15, 17, 24] (ac n1 (ac (show layA (lm us1) (Int.toNat (IntKind.i64.wrap (j + n)) * 1) [.int .u32 (IntKind.u32.wrap (IntKind.u64.wrap ((IntKind.u64.wrap ((IntKind.u64.wrap (us1.getD (Int.toNat (IntKind.i64.wrap (j + n))) 0)) - c)) - b)))] = some (lm (us1.set (Int.toNat (IntKind.i64.wrap (j + n))) (IntKind.u32.wrap (IntKind.u64.wrap ((IntKind.u64.wrap ((IntKind.u64.wrap (us1.getD (Int.toNat (IntKind.i64.wrap (j + n))) 0)) - c)) - b))))) from (lay_limI n7 n1)) a0)) (by kernel_rfl))
    (RunsW.seq (RunsW.seq (RunsW.go (t := (dds 4 (.own 1 kq (lm qs) :: (dds 3 (.val (.int .i64 s) :: (.own 1 k (lm (us1.set (Int.toNat (IntKind.i64.wrap (j + n))) (IntKind.u32.wrap (IntKind.u64.wrap ((IntKind.u64.wrap ((IntKind.u64.wrap (us1.getD (Int.toNat (IntKind.i64.wrap (j + n))) 0)) - c)) - b))))) :: (.val (.sl vs.length (lm vs)) :: (.val (.int .i64 n) :: (dds 1 (.val (.int .u64 t) :: (.val (.int .u64 t2) :: (.val (.int .i64 j) :: (dds 1 (.val (.int .u64 g) :: (dds 181 (.val (.bool ((Int.fdiv (IntKind.u64.wrap ((IntKind.u64.wrap ((IntKind.u64.wrap (us1.getD (Int.toNat (IntKind.i64.wrap (j + n))) 0)) - c)) - b)) (2 ^ (min (Int.toNat 63) (IntKind.bits .u64)))) != 0)) :: (dds 82 []))))))))))))))))) (ex := .norm) TWB_holds 400 [] [4, 8, 9, 10, 11, 13, 14, 15, 17, 199] (ac (show ¬ (63 : Int) < 0 from (by decide)) a0) (by kernel_rfl))
    (RunsW.cond_f (by rfl) c2 (RunsW.go (t := (dds 4 (.own 1 kq (lm qs) :: (dds 3 (.val (.int .i64 s) :: (.own 1 k (lm (us1.set (Int.toNat (IntKind.i64.wrap (j + n))) (IntKind.u32.wrap (IntKind.u64.wrap ((IntKind.u64.wrap ((IntKind.u64.wrap (us1.getD (Int.toNat (IntKind.i64.wrap (j + n))) 0)) - c)) - b))))) :: (.val (.sl vs.length (lm vs)) :: (.val (.int .i64 n) :: (dds 1 (.val (.int .u64 t) :: (.val (.int .u64 t2) :: (.val (.int .i64 j) :: (dds 1 (.val (.int .u64 g) :: (dds 264 []))))))))))))))) (ex := .norm) TWB_holds 400 [] [4, 8, 9, 10, 11, 13, 14, 15, 17] a0 (by kernel_rfl))))
    (RunsW.go (t := (dds 4 (.own 1 kq (lm (qs.set (Int.toNat j) (IntKind.u32.wrap g))) :: (dds 3 (.val (.int .i64 s) :: (.own 1 k (lm (us1.set (Int.toNat (IntKind.i64.wrap (j + n))) (IntKind.u32.wrap (IntKind.u64.wrap ((IntKind.u64.wrap ((IntKind.u64.wrap (us1.getD (Int.toNat (IntKind.i64.wrap (j + n))) 0)) - c)) - b))))) :: (.val (.sl vs.length (lm vs)) :: (.val (.int .i64 n) :: (dds 1 (.val (.int .u64 t) :: (.val (.int .u64 t2) :: (.val (.int .i64 j) :: (dds 266 []))))))))))))) (ex := .norm) TWB_holds 400 [.l (lm (qs.set (Int.toNat j) (IntKind.u32.wrap g)))] [4, 8, 9, 10, 11, 13, 14, 15] (ac n8 (ac (show layA (lm qs) (Int.toNat j * 1) [.int .u32 (IntKind.u32.wrap g)] = some (lm (qs.set (Int.toNat j) (IntKind.u32.wrap g))) from (lay_limI n9 n8)) a0)) (by kernel_rfl)))))))))))
    (RunsW.go TWB_holds 400 [] [4, 8, 9, 10, 11, 13, 14, 15] a0 (by kernel_rfl))))
theorem Try.k147_3 (k : Nat) (us : List Int) (vs : List Int) (n : Int) (t : Int) (t2 : Int) (kq : Nat) (qs : List Int) (s : Int) (j : Int)  (c1 : (decide (j ≥ 0)) = false) : RunsW Try.ir Try.c147 (Try.s147 k us vs n t t2 kq qs s j) (.exit 0) (Try.s147 k us vs n t t2 kq qs s j) :=
  (RunsW.seq_out (RunsW.go TWB_holds 400 [.b false] [4, 8, 9, 10, 11, 13, 14, 15] (ac c1 a0) (by kernel_rfl)) (by intro e; cases e))
def Try.c147r : ICode := .seq (.seq (.region false [oM 248 28,
   oM 249 11,
   oB 250 .lss 248 249])
  (.cond (.t 250) (.skip)
  (.exit 8)))
  (.seq (.block 9 (.seq (.region false [o1 253 (.cpy 5),
   oM 254 28,
   o1 255 (.cpy 9),
   oM 256 28,
   o1 257 (.ixo 255 9 (.t 256) 1),
   o1 258 (.ld 257 9 1 true),
   oM 259 8,
   o1 260 (.cv .u64 (.t 259)),
   oB 261 .shr 258 260,
   o1 262 (.ixo 253 5 (.t 254) 1),
   oN (.st 262 5 1 (.t 261))])
  (.seq (.region false [oM 263 8,
   o1 264 (.bin .gtr (.t 263) (.c (.int .i64 0)))])
  (.cond (.t 264) (.region true [o1 265 (.cpy 5),
   oM 266 28,
   o1 267 (.ixo 265 5 (.t 266) 1),
   o1 268 (.ld 267 5 1 true),
   o1 269 (.cpy 9),
   oM 270 28,
   o1 271 (.bin .add (.t 270) (.c (.int .i64 1))),
   o1 272 (.ixo 269 9 (.t 271) 1),
   o1 273 (.ld 272 9 1 true),
   oM 274 8,
   o1 275 (.bin .sub (.c (.int .i64 32)) (.t 274)),
   o1 276 (.cv .u64 (.t 275)),
   oB 277 .shl 273 276,
   oB 278 .or 268 277,
   o1 279 (.ixo 265 5 (.t 266) 1),
   oN (.st 279 5 1 (.t 278))])
  (.skip)))))
  (.region false [oM 251 28,
   o1 252 (.bin .add (.t 251) (.c (.int .i64 1))),
   oM 28 252]))
def Try.s147r (k : Nat) (us : List Int) (n : Int) (kq : Nat) (qs : List Int) (kr : Nat) (rs : List Int) (s : Int) (i : Int) : State := (dds 4 (.own 1 kq (lm qs) :: (.own 1 kr (lm rs) :: (dds 2 (.val (.int .i64 s) :: (.own 1 k (lm us) :: (dds 1 (.val (.int .i64 n) :: (dds 16 (.val (.int .i64 i) :: (dds 253 [])))))))))))
theorem Try.k147r_1 (k : Nat) (us : List Int) (n : Int) (kq : Nat) (qs : List Int) (kr : Nat) (rs : List Int) (s : Int) (i : Int)  (c1 : (decide (i < n)) = true)
    (c2 : (decide (s > 0)) = true)
    (n1 : 0 ≤ i ∧ i < ((k : Nat) : Int))
    (n2 : us.length = k)
    (n3 : ¬ (IntKind.u64.wrap s) < 0)
    (n4 : 0 ≤ i ∧ i < ((kr : Nat) : Int))
    (n5 : rs.length = kr)
    (n6 : (rs.set (Int.toNat i) (Int.fdiv (us.getD (Int.toNat i) 0) (2 ^ (min (Int.toNat (IntKind.u64.wrap s)) (IntKind.bits .u32))))).length = kr)
    (n7 : 0 ≤ (IntKind.i64.wrap (i + 1)) ∧ (IntKind.i64.wrap (i + 1)) < ((k : Nat) : Int))
    (n8 : ¬ (IntKind.u64.wrap (IntKind.i64.wrap (32 - s))) < 0) : RunsW Try.ir Try.c147r (Try.s147r k us n kq qs kr rs s i) .norm (Try.s147r k us n kq qs kr ((rs.set (Int.toNat i) (Int.fdiv (us.getD (Int.toNat i) 0) (2 ^ (min (Int.toNat (IntKind.u64.wrap s)) (IntKind.bits .u32))))).set (Int.toNat i) (IntKind.u32.wrap ((BitVec.ofInt (IntKind.bits .u32) ((rs.set (Int.toNat i) (Int.fdiv (us.getD (Int.toNat i) 0) (2 ^ (min (Int.toNat (IntKind.u64.wrap s)) (IntKind.bits .u32))))).getD (Int.toNat i) 0) ||| BitVec.ofInt (IntKind.bits .u32) (IntKind.u32.wrap ((us.getD (Int.toNat (IntKind.i64.wrap (i + 1))) 0) * 2 ^ (min (Int.toNat (IntKind.u64.wrap (IntKind.i64.wrap (32 - s)))) (IntKind.bits .u32))))).toNat))) s (IntKind.i64.wrap (i + 1))) :=
  (RunsW.go TWB_holds 400 [.b true, .v (.int .u32 (us.getD (Int.toNat i) 0)), .l (lm (rs.set (Int.toNat i) (Int.fdiv (us.getD (Int.toNat i) 0) (2 ^ (min (Int.toNat (IntKind.u64.wrap s)) (IntKind.bits .u32)))))), .b true, .v (.int .u32 ((rs.set (Int.toNat i) (Int.fdiv (us.getD (Int.toNat i) 0) (2 ^ (min (Int.toNat (IntKind.u64.wrap s)) (IntKind.bits .u32))))).getD (Int.toNat i) 0)), .v (.int .u32 (us.getD (Int.toNat (IntKind.i64.wrap (i + 1))) 0)), .l (lm ((rs.set (Int.toNat i) (Int.fdiv (us.getD (Int.toNat i) 0) (2 ^ (min (Int.toNat (IntKind.u64.wrap s)) (IntKind.bits .u32))))).set (Int.toNat i) (IntKind.u32.wrap ((BitVec.ofInt (IntKind.bits .u32) ((rs.set (Int.toNat i) (Int.fdiv (us.getD (Int.toNat i) 0) (2 ^ (min (Int.toNat (IntKind.u64.wrap s)) (IntKind.bits .u32))))).getD (Int.toNat i) 0) ||| BitVec.ofInt (IntKind.bits .u32) (IntKind.u32.wrap ((us.getD (Int.toNat (IntKind.i64.wrap (i + 1))) 0) * 2 ^ (min (Int.toNat (IntKind.u64.wrap (IntKind.i64.wrap (32 - s)))) (IntKind.bits .u32))))).toNat))))] [4, 5, 8, 9, 11, 28] (ac c1 (ac n1 (ac (show takeA (lm us) (Int.toNat i * 1) 1 true = some (.int .u32 (us.getD (Int.toNat i) 0)) from (own_limI n2 n1)) (ac n3 (ac n4 (ac (show layA (lm rs) (Int.toNat i * 1) [.int .u32 (Int.fdiv (us.getD (Int.toNat i) 0) (2 ^ (min (Int.toNat (IntKind.u64.wrap s)) (IntKind.bits .u32))))] = some (lm (rs.set (Int.toNat i) (Int.fdiv (us.getD (Int.toNat i) 0) (2 ^ (min (Int.toNat (IntKind.u64.wrap s)) (IntKind.bits .u32)))))) from (lay_limI n5 n4)) (ac c2 (ac n4 (ac (show takeA (lm (rs.set (Int.toNat i) (Int.fdiv (us.getD (Int.toNat i) 0) (2 ^ (min (Int.toNat (IntKind.u64.wrap s)) (IntKind.bits .u32)))))) (Int.toNat i * 1) 1 true = some (.int .u32 ((rs.set (Int.toNat i) (Int.fdiv (us.getD (Int.toNat i) 0) (2 ^ (min (Int.toNat (IntKind.u64.wrap s)) (IntKind.bits .u32))))).getD (Int.toNat i) 0)) from (own_limI n6 n4)) (ac n7 (ac (show takeA (lm us) (Int.toNat (IntKind.i64.wrap (i + 1)) * 1) 1 true = some (.int .u32 (us.getD (Int.toNat (IntKind.i64.wrap (i + 1))) 0)) from (own_limI n2 n7)) (ac n8 (ac n4 (ac (show layA (lm (rs.set (Int.toNat i) (Int.fdiv (us.getD (Int.toNat i) 0) (2 ^ (min (Int.toNat (IntKind.u64.wrap s)) (IntKind.bits .u32)))))) (Int.toNat i * 1) [.int .u32 (IntKind.u32.wrap ((BitVec.ofInt (IntKind.bits .u32) ((rs.set (Int.toNat i) (Int.fdiv (us.getD (Int.toNat i) 0) (2 ^ (min (Int.toNat (IntKind.u64.wrap s)) (IntKind.bits .u32))))).getD (Int.toNat i) 0) ||| BitVec.ofInt (IntKind.bits .u32) (IntKind.u32.wrap ((us.getD (Int.toNat (IntKind.i64.wrap (i + 1))) 0) * 2 ^ (min (Int.toNat (IntKind.u64.wrap (IntKind.i64.wrap (32 - s)))) (IntKind.bits .u32))))).toNat))] = some (lm ((rs.set (Int.toNat i) (Int.fdiv (us.getD (Int.toNat i) 0) (2 ^ (min (Int.toNat (IntKind.u64.wrap s)) (IntKind.bits .u32))))).set (Int.toNat i) (IntKind.u32.wrap ((BitVec.ofInt (IntKind.bits .u32) ((rs.set (Int.toNat i) (Int.fdiv (us.getD (Int.toNat i) 0) (2 ^ (min (Int.toNat (IntKind.u64.wrap s)) (IntKind.bits .u32))))).getD (Int.toNat i) 0) ||| BitVec.ofInt (IntKind.bits .u32) (IntKind.u32.wrap ((us.getD (Int.toNat (IntKind.i64.wrap (i + 1))) 0) * 2 ^ (min (Int.toNat (IntKind.u64.wrap (IntKind.i64.wrap (32 - s)))) (IntKind.bits .u32))))).toNat)))) from (lay_limI n6 n4)) a0)))))))))))))) (by kernel_rfl))
theorem Try.k147r_2 (k : Nat) (us : List Int) (n : Int) (kq : Nat) (qs : List Int) (kr : Nat) (rs : List Int) (s : Int) (i : Int)  (c1 : (decide (i < n)) = true)
    (c2 : (decide (s > 0)) = false)
    (n1 : 0 ≤ i ∧ i < ((k : Nat) : Int))
    (n2 : us.length = k)
    (n3 : ¬ (IntKind.u64.wrap s) < 0)
    (n4 : 0 ≤ i ∧ i < ((kr : Nat) : Int))
    (n5 : rs.length = kr) : RunsW Try.ir Try.c147r (Try.s147r k us n kq qs kr rs s i) .norm (Try.s147r k us n kq qs kr (rs.set (Int.toNat i) (Int.fdiv (us.getD (Int.toNat i) 0) (2 ^ (min (Int.toNat (IntKind.u64.wrap s)) (IntKind.bits .u32))))) s (IntKind.i64.wrap (i + 1))) :=
  (RunsW.go TWB_holds 400 [.b true, .v (.int .u32 (us.getD (Int.toNat i) 0)), .l (lm (rs.set (Int.toNat i) (Int.fdiv (us.getD (Int.toNat i) 0) (2 ^ (min (Int.toNat (IntKind.u64.wrap s)) (IntKind.bits .u32)))))), .b false] [4, 5, 8, 9, 11, 28] (ac c1 (ac n1 (ac (show takeA (lm us) (Int.toNat i * 1) 1 true = some (.int .u32 (us.getD (Int.toNat i) 0)) from (own_limI n2 n1)) (ac n3 (ac n4 (ac (show layA (lm rs) (Int.toNat i * 1) [.int .u32 (Int.fdiv (us.getD (Int.toNat i) 0) (2 ^ (min (Int.toNat (IntKind.u64.wrap s)) (IntKind.bits .u32))))] = some (lm (rs.set (Int.toNat i) (Int.fdiv (us.getD (Int.toNat i) 0) (2 ^ (min (Int.toNat (IntKind.u64.wrap s)) (IntKind.bits .u32)))))) from (lay_limI n5 n4)) (ac c2 a0))))))) (by kernel_rfl))
theorem Try.k147r_3 (k : Nat) (us : List Int) (n : Int) (kq : Nat) (qs : List Int) (kr : Nat) (rs : List Int) (s : Int) (i : Int)  (c1 : (decide (i < n)) = false) : RunsW Try.ir Try.c147r (Try.s147r k us n kq qs kr rs s i) (.exit 8) (Try.s147r k us n kq qs kr rs s i) :=
  (RunsW.go TWB_holds 400 [.b false] [4, 5, 8, 9, 11, 28] (ac c1 a0) (by kernel_rfl))
theorem Try.run147_1 (xs ys : List Int) (cm : Int) (c1 : (decide (cm < 0)) = true)
    (n1 : List.length (lm xs) = xs.length * 1)
    (n2 : xs.length ≤ 1048576)
    (n3 : Runs Try.ir 150 [.sl xs.length (lm xs), .sl ys.length (lm ys)] (.int .i64 cm)) : Runs Try.ir 147 [.sl xs.length (lm xs), .sl ys.length (lm ys)] (.tup [.sl 0 [], .sl xs.length (lm xs)]) :=
  Runs.of_bodyW (fn := Try.i147) (s := (dds 1 (.val (.sl ys.length (lm ys)) :: (dds 2 (.own 1 0 [] :: (.own 1 xs.length (lm xs) :: (dds 276 []))))))) (ex := .ret) rfl rfl
    (RunsW.seq (RunsW.go (t := (.val (.sl xs.length (lm xs)) :: (.val (.sl ys.length (lm ys)) :: (dds 2 (.own 1 0 [] :: (.own 1 0 [] :: (dds 276 []))))))) (ex := .norm) TWB_holds 400 [] [0, 1, 4, 5] a0 (by kernel_rfl))
    (RunsW.seq_out (RunsW.go TWB_holds 400 [.r (.int .i64 cm), .b true] [1, 4, 5] (ac n3 (ac c1 (ac n1 (ac n2 a0)))) (by kernel_rfl)) (by intro e; cases e))) (by intro i e; cases e) rfl
theorem Try.run147_2 (xs ys zs : List Int) (cm rr : Int) (c1 : (decide (cm < 0)) = false)
    (c2 : (((ys.length : Nat) : Int) == 1) = true)
    (n1 : Runs Try.ir 150 [.sl xs.length (lm xs), .sl ys.length (lm ys)] (.int .i64 cm))
    (n2 : 0 ≤ (0 : Int) ∧ (0 : Int) < ((ys.length : Nat) : Int))
    (n3 : Runs Try.ir 153 [.sl xs.length (lm xs), .int .u32 (ys.getD (Int.toNat 0) 0)] (.tup [.sl zs.length (lm zs), .int .u32 rr])) : Runs Try.ir 147 [.sl xs.length (lm xs), .sl ys.length (lm ys)] (.tup [.sl zs.length (lm zs), .sl 1 [.int .u32 rr]]) :=
  Runs.of_bodyW (fn := Try.i147) (s := (dds 1 (.val (.sl ys.length (lm ys)) :: (dds 2 (.val (.sl zs.length (lm zs)) :: (.own 1 1 [.int .u32 rr] :: (dds 276 []))))))) (ex := .ret) rfl rfl
    (RunsW.seq (RunsW.go (t := (.val (.sl xs.length (lm xs)) :: (.val (.sl ys.length (lm ys)) :: (dds 2 (.own 1 0 [] :: (.own 1 0 [] :: (dds 276 []))))))) (ex := .norm) TWB_holds 400 [] [0, 1, 4, 5] a0 (by kernel_rfl))
    (RunsW.seq (RunsW.go (t := (.val (.sl xs.length (lm xs)) :: (.val (.sl ys.length (lm ys)) :: (dds 2 (.own 1 0 [] :: (.own 1 0 [] :: (dds 26 (.val (.bool (decide (cm < 0))) :: (dds 249 []))))))))) (ex := .norm) TWB_holds 400 [.r (.int .i64 cm), .b false] [0, 1, 4, 5, 32] (ac n1 (ac c1 a0)) (by kernel_rfl))
    (RunsW.seq_out (RunsW.go TWB_holds 400 [.b true, .v (.int .u32 (ys.getD (Int.toNat 0) 0)), .r (.tup [.sl zs.length (lm zs), .int .u32 rr])] [1, 4, 5] (ac c2 (ac n2 (ac (show takeA (List.drop (Int.toNat 0 * 1) (lm ys)) 0 1 true = some (.int .u32 (ys.getD (Int.toNat 0) 0)) from (take_limI n2)) (ac n3 a0)))) (by kernel_rfl)) (by intro e; cases e)))) (by intro i e; cases e) rfl
theorem Try.run147_3 (xs ys us ws us1 vs qs rs : List Int) (cm s n t t2 j : Int) (k kq kr : Nat) (c1 : (decide (cm < 0)) = false)
    (c2 : (((ys.length : Nat) : Int) == 1) = false)
    (n1 : Runs Try.ir 150 [.sl xs.length (lm xs), .sl ys.length (lm ys)] (.int .i64 cm))
    (n2 : 0 ≤ (IntKind.i64.wrap (((ys.length : Nat) : Int) - 1)) ∧ (IntKind.i64.wrap (((ys.length : Nat) : Int) - 1)) < ((ys.length : Nat) : Int))
    (n3 : Runs Try.ir 154 [.int .u32 (ys.getD (Int.toNat (IntKind.i64.wrap (((ys.length : Nat) : Int) - 1))) 0)] (.int .i64 s))
    (n4 : 0 ≤ ((ys.length : Nat) : Int))
    (n5 : 0 ≤ (Int.toNat ((ys.length : Nat) : Int)) ∧ (Int.toNat ((ys.length : Nat) : Int)) ≤ ws.length ∧ ws.length ≤ ws.length ∧ (false = true → true = true))
    (n6 : Runs Try.ir 155 [.sl xs.length (lm xs), .int .i64 s] (.fresh 1 us.length (lm us)))
    (n7 : Runs Try.ir 155 [.sl ys.length (lm ys), .int .i64 s] (.fresh 1 ws.length (lm ws)))
    (n8 : 0 ≤ (IntKind.i64.wrap ((IntKind.i64.wrap (((xs.length : Nat) : Int) - ((ys.length : Nat) : Int))) + 1)) ∧ (IntKind.i64.wrap ((IntKind.i64.wrap (((xs.length : Nat) : Int) - ((ys.length : Nat) : Int))) + 1)) ≤ 1048576)
    (n9 : 0 ≤ (IntKind.i64.wrap (((ys.length : Nat) : Int) - 1)) ∧ (IntKind.i64.wrap (((ys.length : Nat) : Int) - 1)) < ((((Int.toNat ((ys.length : Nat) : Int)) - 0) : Nat) : Int))
    (n10 : 0 ≤ (IntKind.i64.wrap (((ys.length : Nat) : Int) - 2)) ∧ (IntKind.i64.wrap (((ys.length : Nat) : Int) - 2)) < ((((Int.toNat ((ys.length : Nat) : Int)) - 0) : Nat) : Int))
    (hl11 : RunsW Try.ir (.loop Try.c147) ((dds 4 (.own 1 (Int.toNat (IntKind.i64.wrap ((IntKind.i64.wrap (((xs.length : Nat) : Int) - ((ys.length : Nat) : Int))) + 1))) (replA [.int .u32 0] (Int.toNat (IntKind.i64.wrap ((IntKind.i64.wrap (((xs.length : Nat) : Int) - ((ys.length : Nat) : Int))) + 1)))) :: (dds 3 (.val (.int .i64 s) :: (.own 1 us.length (lm us) :: (.val (.sl ((Int.toNat ((ys.length : Nat) : Int)) - 0) (List.take (((Int.toNat ((ys.length : Nat) : Int)) - 0) * 1) (List.drop (0 * 1) (lm ws)))) :: (.val (.int .i64 ((ys.length : Nat) : Int)) :: (dds 1 (.val (.int .u64 (IntKind.u64.wrap (((ws.drop 0).take ((Int.toNat ((ys.length : Nat) : Int)) - 0)).getD (Int.toNat (IntKind.i64.wrap (((ys.length : Nat) : Int) - 1))) 0))) :: (.val (.int .u64 (IntKind.u64.wrap (((ws.drop 0).take ((Int.toNat ((ys.length : Nat) : Int)) - 0)).getD (Int.toNat (IntKind.i64.wrap (((ys.length : Nat) : Int) - 2))) 0))) :: (.val (.int .i64 (IntKind.i64.wrap (((xs.length : Nat) : Int) - ((ys.length : Nat) : Int)))) :: (dds 266 []))))))))))))) (.exit 0) (Try.s147 k us1 vs n t t2 kq qs s j))
    (n12 : 0 ≤ n ∧ n ≤ 1048576)
    (hl13 : RunsW Try.ir (.loop Try.c147r) ((dds 4 (.own 1 kq (lm qs) :: (.own 1 (Int.toNat n) (replA [.int .u32 0] (Int.toNat n)) :: (dds 2 (.val (.int .i64 s) :: (.own 1 k (lm us1) :: (dds 1 (.val (.int .i64 n) :: (dds 16 (.val (.int .i64 0) :: (dds 253 [])))))))))))) (.exit 8) (Try.s147r k us1 n kq qs kr rs s n)) : Runs Try.ir 147 [.sl xs.length (lm xs), .sl ys.length (lm ys)] (.tup [.sl kq (lm qs), .sl kr (lm rs)]) :=
  Runs.of_bodyW (fn := Try.i147) (s := (dds 4 (.own 1 kq (lm qs) :: (.own 1 kr (lm rs) :: (dds 276 []))))) (ex := .ret) rfl rfl
    (RunsW.seq (RunsW.go (t := (.val (.sl xs.length (lm xs)) :: (.val (.sl ys.length (lm ys)) :: (dds 2 (.own 1 0 [] :: (.own 1 0 [] :: (dds 276 []))))))) (ex := .norm) TWB_holds 400 [] [0, 1, 4, 5] a0 (by kernel_rfl))
    (RunsW.seq (RunsW.go (t := (.val (.sl xs.length (lm xs)) :: (.val (.sl ys.length (lm ys)) :: (dds 2 (.own 1 0 [] :: (.own 1 0 [] :: (dds 26 (.val (.bool (decide (cm < 0))) :: (dds 249 []))))))))) (ex := .norm) TWB_holds 400 [.r (.int .i64 cm), .b false] [0, 1, 4, 5, 32] (ac n1 (ac c1 a0)) (by kernel_rfl))
    (RunsW.seq (RunsW.go (t := (.val (.sl xs.length (lm xs)) :: (.val (.sl ys.length (lm ys)) :: (dds 2 (.own 1 0 [] :: (.own 1 0 [] :: (dds 26 (.val (.bool (decide (cm < 0))) :: (dds 249 []))))))))) (ex := .norm) TWB_holds 400 [.b false] [0, 1, 4, 5, 32] (ac c2 a0) (by kernel_rfl))
    (RunsW.seq (RunsW.go (t := (.val (.sl xs.length (lm xs)) :: (.val (.sl ys.length (lm ys)) :: (dds 2 (.own 1 0 [] :: (.own 1 0 [] :: (dds 2 (.val (.int .i64 s) :: (dds 23 (.val (.bool (decide (cm < 0))) :: (dds 249 []))))))))))) (ex := .norm) TWB_holds 400 [.v (.int .u32 (ys.getD (Int.toNat (IntKind.i64.wrap (((ys.length : Nat) : Int) - 1))) 0)), .r (.int .i64 s)] [0, 1, 4, 5, 8, 32] (ac n2 (ac (show takeA (List.drop (Int.toNat (IntKind.i64.wrap (((ys.length : Nat) : Int) - 1)) * 1) (lm ys)) 0 1 true = some (.int .u32 (ys.getD (Int.toNat (IntKind.i64.wrap (((ys.length : Nat) : Int) - 1))) 0)) from (take_limI n2)) (ac n3 a0))) (by kernel_rfl))
    (RunsW.seq (RunsW.go (t := (.val (.sl xs.length (lm xs)) :: (.val (.sl ys.length (lm ys)) :: (dds 2 (.own 1 0 [] :: (.own 1 0 [] :: (dds 2 (.val (.int .i64 s) :: (.own 1 us.length (lm us) :: (.val (.sl ((Int.toNat ((ys.length : Nat) : Int)) - 0) (List.take (((Int.toNat ((ys.length : Nat) : Int)) - 0) * 1) (List.drop (0 * 1) (lm ws)))) :: (dds 21 (.val (.bool (decide (cm < 0))) :: (dds 30 (.val (.int .i64 ((ys.length : Nat) : Int)) :: (.val (.sl ((Int.toNat ((ys.length : Nat) : Int)) - 0) (List.take (((Int.toNat ((ys.length : Nat) : Int)) - 0) * 1) (List.drop (0 * 1) (lm ws)))) :: (dds 217 [])))))))))))))))) (ex := .norm) TWB_holds 400 [.r (.fresh 1 us.length (lm us)), .r (.fresh 1 ws.length (lm ws))] [0, 1, 4, 5, 8, 9, 10, 32, 63, 64] (ac n6 (ac n7 (ac n4 (ac n5 a0)))) (by kernel_rfl))
    (RunsW.seq (RunsW.go (t := (.val (.sl xs.length (lm xs)) :: (.val (.sl ys.length (lm ys)) :: (dds 2 (.own 1 0 [] :: (.own 1 0 [] :: (dds 2 (.val (.int .i64 s) :: (.own 1 us.length (lm us) :: (.val (.sl ((Int.toNat ((ys.length : Nat) : Int)) - 0) (List.take (((Int.toNat ((ys.length : Nat) : Int)) - 0) * 1) (List.drop (0 * 1) (lm ws)))) :: (.val (.int .i64 ((ys.length : Nat) : Int)) :: (.val (.int .i64 (IntKind.i64.wrap (((xs.length : Nat) : Int) - ((ys.length : Nat) : Int)))) :: (dds 19 (.val (.bool (decide (cm < 0))) :: (dds 30 (.val (.int .i64 ((ys.length : Nat) : Int)) :: (.val (.sl ((Int.toNat ((ys.length : Nat) : Int)) - 0) (List.take (((Int.toNat ((ys.length : Nat) : Int)) - 0) * 1) (List.drop (0 * 1) (lm ws)))) :: (dds 217 [])))))))))))))))))) (ex := .norm) TWB_holds 400 [] [0, 1, 4, 5, 8, 9, 10, 11, 12, 32, 63, 64] a0 (by kernel_rfl))
    (RunsW.seq (RunsW.go (t := (.val (.sl xs.length (lm xs)) :: (.val (.sl ys.length (lm ys)) :: (dds 2 (.own 1 (Int.toNat (IntKind.i64.wrap ((IntKind.i64.wrap (((xs.length : Nat) : Int) - ((ys.length : Nat) : Int))) + 1))) (replA [.int .u32 0] (Int.toNat (IntKind.i64.wrap ((IntKind.i64.wrap (((xs.length : Nat) : Int) - ((ys.length : Nat) : Int))) + 1)))) :: (.own 1 0 [] :: (dds 2 (.val (.int .i64 s) :: (.own 1 us.length (lm us) :: (.val (.sl ((Int.toNat ((ys.length : Nat) : Int)) - 0) (List.take (((Int.toNat ((ys.length : Nat) : Int)) - 0) * 1) (List.drop (0 * 1) (lm ws)))) :: (.val (.int .i64 ((ys.length : Nat) : Int)) :: (.val (.int .i64 (IntKind.i64.wrap (((xs.length : Nat) : Int) - ((ys.length : Nat) : Int)))) :: (dds 19 (.val (.bool (decide (cm < 0))) :: (dds 30 (.val (.int .i64 ((ys.length : Nat) : Int)) :: (.val (.sl ((Int.toNat ((ys.length : Nat) : Int)) - 0) (List.take (((Int.toNat ((ys.length : Nat) : Int)) - 0) * 1) (List.drop (0 * 1) (lm ws)))) :: (dds 217 [])))))))))))))))))) (ex := .norm) TWB_holds 400 [] [0, 1, 4, 5, 8, 9, 10, 11, 12, 32, 63, 64] (ac n8 a0) (by kernel_rfl))
    (RunsW.seq (RunsW.go (t := (.val (.sl xs.length (lm xs)) :: (.val (.sl ys.length (lm ys)) :: (dds 2 (.own 1 (Int.toNat (IntKind.i64.wrap ((IntKind.i64.wrap (((xs.length : Nat) : Int) - ((ys.length : Nat) : Int))) + 1))) (replA [.int .u32 0] (Int.toNat (IntKind.i64.wrap ((IntKind.i64.wrap (((xs.length : Nat) : Int) - ((ys.length : Nat) : Int))) + 1)))) :: (.own 1 0 [] :: (dds 2 (.val (.int .i64 s) :: (.own 1 us.length (lm us) :: (.val (.sl ((Int.toNat ((ys.length : Nat) : Int)) - 0) (List.take (((Int.toNat ((ys.length : Nat) : Int)) - 0) * 1) (List.drop (0 * 1) (lm ws)))) :: (.val (.int .i64 ((ys.length : Nat) : Int)) :: (.val (.int .i64 (IntKind.i64.wrap (((xs.length : Nat) : Int) - ((ys.length : Nat) : Int)))) :: (.val (.int .u64 (IntKind.u64.wrap (((ws.drop 0).take ((Int.toNat ((ys.length : Nat) : Int)) - 0)).getD (Int.toNat (IntKind.i64.wrap (((ys.length : Nat) : Int) - 1))) 0))) :: (.val (.int .u64 (IntKind.u64.wrap (((ws.drop 0).take ((Int.toNat ((ys.length : Nat) : Int)) - 0)).getD (Int.toNat (IntKind.i64.wrap (((ys.length : Nat) : Int) - 2))) 0))) :: (dds 17 (.val (.bool (decide (cm < 0))) :: (dds 30 (.val (.int .i64 ((ys.length : Nat) : Int)) :: (.val (.sl ((Int.toNat ((ys.length : Nat) : Int)) - 0) (List.take (((Int.toNat ((ys.length : Nat) : Int)) - 0) * 1) (List.drop (0 * 1) (lm ws)))) :: (dds 217 [])))))))))))))))))))) (ex := .norm) TWB_holds 400 [.v (.int .u32 (((ws.drop 0).take ((Int.toNat ((ys.length : Nat) : Int)) - 0)).getD (Int.toNat (IntKind.i64.wrap (((ys.length : Nat) : Int) - 1))) 0)), .v (.int .u32 (((ws.drop 0).take ((Int.toNat ((ys.length : Nat) : Int)) - 0)).getD (Int.toNat (IntKind.i64.wrap (((ys.length : Nat) : Int) - 2))) 0))] [0, 1, 4, 5, 8, 9, 10, 11, 12, 13, 14, 32, 63, 64] (ac n9 (ac (show takeA (List.drop (Int.toNat (IntKind.i64.wrap (((ys.length : Nat) : Int) - 1)) * 1) (List.take (((Int.toNat ((ys.length : Nat) : Int)) - 0) * 1) (List.drop (0 * 1) (lm ws)))) 0 1 true = some (.int .u32 (((ws.drop 0).take ((Int.toNat ((ys.length : Nat) : Int)) - 0)).getD (Int.toNat (IntKind.i64.wrap (((ys.length : Nat) : Int) - 1))) 0)) from (takeS_limI n9 n5)) (ac n10 (ac (show takeA (List.drop (Int.toNat (IntKind.i64.wrap (((ys.length : Nat) : Int) - 2)) * 1) (List.take (((Int.toNat ((ys.length : Nat) : Int)) - 0) * 1) (List.drop (0 * 1) (lm ws)))) 0 1 true = some (.int .u32 (((ws.drop 0).take ((Int.toNat ((ys.length : Nat) : Int)) - 0)).getD (Int.toNat (IntKind.i64.wrap (((ys.length : Nat) : Int) - 2))) 0)) from (takeS_limI n10 n5)) a0)))) (by kernel_rfl))
    (RunsW.seq (RunsW.seq (RunsW.go TWB_holds 400 [] [4, 8, 9, 10, 11, 13, 14, 15] a0 (by kernel_rfl))
    (RunsW.block hl11))
    (RunsW.seq (RunsW.go (t := (dds 4 (.own 1 kq (lm qs) :: (.own 1 (Int.toNat n) (replA [.int .u32 0] (Int.toNat n)) :: (dds 2 (.val (.int .i64 s) :: (.own 1 k (lm us1) :: (dds 1 (.val (.int .i64 n) :: (dds 270 [])))))))))) (ex := .norm) TWB_holds 400 [] [4, 5, 8, 9, 11] (ac n12 a0) (by kernel_rfl))
    (RunsW.seq (RunsW.seq (RunsW.go TWB_holds 400 [] [4, 5, 8, 9, 11, 28] a0 (by kernel_rfl))
    (RunsW.block hl13))
    (RunsW.go TWB_holds 400 [] [4, 5] a0 (by kernel_rfl))))))))))))) (by intro i e; cases e) rfl
def TQA : Table := TWB
theorem TQA_holds : THolds Try.ir TQA := TWB_holds
end Go.Proofs.Ythnnfemologhfaa

namespace Go.Proofs.Ythnnfemologhfaa
open Go.Ai
set_option maxRecDepth 100000
theorem Try.loop153 {xs : List Int} {d : Int} (hx : U32 xs) (hd : 0 < d ∧ d < 4294967296) (hN : xs.length ≤ 1048576) : ∀ (i : Nat) (qs : List Int) (r : Int), i ≤ xs.length → qs.length = xs.length → U32 qs → 0 ≤ r ∧ r < d → (∀ t, t < i → qs.getD t 0 = 0) →
    ∃ qs' r', RunsW Try.ir (.loop Try.c153) (Try.s153 xs d xs.length qs r (((i : Nat) : Int) - 1)) (.exit 0) (Try.s153 xs d xs.length qs' r' (-1)) ∧ qs'.length = xs.length ∧ U32 qs' ∧ (0 ≤ r' ∧ r' < d) ∧ d * valL qs' + r' = d * valL qs + 4294967296 ^ i * r + valL (xs.take i) := by
  intro i
  induction i with
  | zero =>
    intro qs r _ hl hu hr _
    refine ⟨qs, r, RunsW.loop_out (Try.k153_2 xs d xs.length qs r _ (by simp)) (by intro e; cases e), hl, hu, hr, by simp [valL]⟩
  | succ i ih =>
    intro qs r hi hl hu hr hz
    have ei : (((i + 1 : Nat) : Int) - 1) = (i : Nat) := by omega
    have ej : IntKind.i64.wrap (((i : Nat) : Int) - 1) = ((i : Nat) : Int) - 1 := w64 (by omega) (by omega)
    have hxi := getD_u32 hx i
    have hk := Try.k153_1 xs d xs.length qs r (i : Nat) (by simp) (by omega) (by rw [wu64 (by omega)]; omega) (by omega) hl
    rw [ej, Int.toNat_natCast, word2 (by omega) hxi, wu64 (n := d) (by omega)] at hk
    have hv0 : 0 ≤ r * 4294967296 + xs.getD i 0 := by omega
    rw [Int.tdiv_eq_ediv_of_nonneg hv0, Int.tmod_eq_emod_of_nonneg hv0] at hk
    generalize hv : r * 4294967296 + xs.getD i 0 = v at *
    have hm := Int.mul_ediv_add_emod v d
    have hm0 := Int.emod_nonneg v (show d ≠ 0 by omega)
    have hm1 := Int.emod_lt_of_pos v hd.1
    have hq0 : 0 ≤ v / d := Int.ediv_nonneg hv0 (by omega)
    have hq1 : v / d < 4294967296 := by
      apply Int.ediv_lt_of_lt_mul hd.1
      have := Int.mul_le_mul_of_nonneg_right (show r ≤ d - 1 by omega) (show (0 : Int) ≤ 4294967296 by omega)
      have : (d - 1) * 4294967296 = 4294967296 * d - 4294967296 := by omega
      omega
    rw [wu64 (n := v / d) (by omega), w32 ⟨hq0, hq1⟩] at hk
    obtain ⟨qs', r', g1, g2, g3, g4, g5⟩ := ih (qs.set i (v / d)) (v % d) (by omega) (by simpa using hl) (u32_set hu ⟨hq0, hq1⟩) ⟨hm0, hm1⟩ (fun t ht => by rw [getD_other (by omega)]; exact hz t (by omega))
    rw [ei]
    refine ⟨qs', r', RunsW.loop hk g1, g2, g3, g4, ?_⟩
    rw [g5, valL_set _ _ _ (by omega), hz i (by omega), take_succ_val xs i (by omega), Int.pow_succ]
    generalize (4294967296 : Int) ^ i = P at *
    have e2 : xs.getD i 0 = d * (v / d) + v % d - r * 4294967296 := by omega
    rw [e2]
    grind
theorem quoSmall_run {xs : List Int} {d : Int} (hx : U32 xs) (hd : 0 < d ∧ d < 4294967296) (hN : xs.length ≤ 1048576) : ∃ qs r, (qs : List Int).length = xs.length ∧ U32 qs ∧ (0 ≤ r ∧ r < d) ∧ d * valL qs + r = valL xs ∧ Runs Try.ir 153 [.sl xs.length (lm xs), .int .u32 d] (.tup [.sl qs.length (lm qs), .int .u32 r]) := by
  obtain ⟨qs, r, h1, h2, h3, h4, h5⟩ := Try.loop153 hx hd hN xs.length (List.replicate xs.length 0) 0 (Nat.le_refl _) (by simp) (u32_zeros _) (by omega) (fun t _ => getD_zeros _ _)
  refine ⟨qs, r, h2, h3, h4, ?_, ?_⟩
  · rw [h5, valL_zeros, List.take_length]; omega
  · have h := Try.run153 xs qs d r (-1) xs.length (by omega) (by
      rw [Int.toNat_natCast, repl_lim, w64 (by omega) (by omega)]; exact h1)
    rw [w32 (n := r) (by omega)] at h
    rw [h2]
    exact h
theorem Try.loop155 {xs : List Int} {s : Nat} (hx : U32 xs) (hs : s < 32) (hN : xs.length < 1048576) : ∀ (r i : Nat) (os : List Int), i + r = xs.length → os.length = xs.length + 1 → U32 os → valL os = 2 ^ s * valL (xs.take i) → os.getD i 0 < 2 ^ s → (∀ t, i < t → os.getD t 0 = 0) →
    ∃ os', RunsW Try.ir (.loop Try.c155) (Try.s155 xs (s : Nat) (xs.length + 1) os (xs.length : Nat) (i : Nat)) (.exit 0) (Try.s155 xs (s : Nat) (xs.length + 1) os' (xs.length : Nat) (xs.length : Nat)) ∧ os'.length = xs.length + 1 ∧ U32 os' ∧ valL os' = 2 ^ s * valL xs := by
  intro r
  induction r with
  | zero =>
    intro i os hi hl hu hv _ _
    have : i = xs.length := by omega
    subst this
    exact ⟨os, RunsW.loop_out (Try.k155_2 xs _ _ os _ _ (by simp)) (by intro e; cases e), hl, hu, by rw [hv, List.take_length]⟩
  | succ r ih =>
    intro i os hi hl hu hv hc hz
    have ei : IntKind.i64.wrap (((i : Nat) : Int) + 1) = ((i + 1 : Nat) : Int) := by rw [w64 (by omega) (by omega)]; omega
    have hxi := getD_u32 hx i
    have hoi := getD_u32 hu i
    obtain ⟨p0, p1, p2, q, q0, q1⟩ := shl_parts hxi hs
    have es : (2 : Int) ^ (min (Int.toNat (IntKind.u64.wrap ((s : Nat) : Int))) (IntKind.bits .u64)) = 2 ^ s := by
      rw [wu64 (by omega), Int.toNat_natCast]
      congr 1
      show min s 64 = s
      omega
    have hk := Try.k155_1 xs (s : Nat) (xs.length + 1) os (xs.length : Nat) (i : Nat) (by simp; omega) (by omega) (by rw [wu64 (by omega)]; omega) (by omega) hl (by rw [ei]; omega) (by simpa using hl)
    rw [ei, Int.toNat_natCast, Int.toNat_natCast, wu64 (n := xs.getD i 0) (by omega), es, wu64 ⟨p0, p1⟩, fd32, wu32 (xs.getD i 0 * 2 ^ s), q1] at hk
    have hqs : q * 2 ^ s < 4294967296 := by rw [← q1]; omega
    rw [or32 q0 hqs (by omega) ⟨hoi.1, hc⟩] at hk
    have hhi : 0 ≤ xs.getD i 0 * 2 ^ s / 4294967296 := by omega
    have hp2 : (2 : Int) ^ s ≤ 4294967296 := by have := pow2_le (show s ≤ 32 by omega); rwa [show (2 : Int) ^ 32 = 4294967296 by decide] at this
    rw [w32 ⟨hhi, by omega⟩] at hk
    have hsum : 0 ≤ q * 2 ^ s + os.getD i 0 ∧ q * 2 ^ s + os.getD i 0 < 4294967296 := by
      have hq2 : 0 ≤ q * 2 ^ s := by rw [← q1]; omega
      refine ⟨by omega, ?_⟩
      have e : (4294967296 : Int) = 2 ^ (32 - s) * 2 ^ s := by
        rw [← Int.pow_add, show 32 - s + s = 32 by omega]; decide
      rw [e] at hqs ⊢
      have hp := pow2_pos s
      have := Int.lt_of_mul_lt_mul_right hqs (by omega)
      have := Int.mul_le_mul_of_nonneg_right (show q + 1 ≤ 2 ^ (32 - s) by omega) (show (0 : Int) ≤ 2 ^ s by omega)
      rw [Int.add_mul, Int.one_mul] at this
      omega
    obtain ⟨os', g1, g2, g3, g4⟩ := ih (i + 1) ((os.set i (q * 2 ^ s + os.getD i 0)).set (i + 1) (xs.getD i 0 * 2 ^ s / 4294967296)) (by omega) (by simpa using hl) (u32_set (u32_set hu hsum) ⟨hhi, by omega⟩) (by
        rw [valL_set _ _ _ (by simp; omega), valL_set _ _ _ (by omega), getD_other (by omega), hz (i + 1) (by omega), hv, take_succ_val xs i (by omega), Int.pow_succ]
        have e3 : xs.getD i 0 * 2 ^ s = 4294967296 * (xs.getD i 0 * 2 ^ s / 4294967296) + q * 2 ^ s := by omega
        generalize (4294967296 : Int) ^ i = P at *
        generalize xs.getD i 0 * 2 ^ s / 4294967296 = H at *
        generalize os.getD i 0 = o at *
        generalize q * 2 ^ s = Q at *
        have e4 : (2 : Int) ^ s * (valL (xs.take i) + P * xs.getD i 0) = 2 ^ s * valL (xs.take i) + P * (xs.getD i 0 * 2 ^ s) := by grind
        rw [e4, e3]
        grind) (by
        rw [show ((os.set i (q * 2 ^ s + os.getD i 0)).set (i + 1) (xs.getD i 0 * 2 ^ s / 4294967296)).getD (i + 1) 0 = xs.getD i 0 * 2 ^ s / 4294967296 by simp [List.getD_eq_getElem?_getD, show i + 1 < os.length by omega]]
        exact p2) (fun t ht => by rw [getD_other (by omega), getD_other (by omega)]; exact hz t (by omega))
    exact ⟨os', RunsW.loop hk g1, g2, g3, g4⟩
theorem shifted_run {xs : List Int} {s : Nat} (hx : U32 xs) (hs : s < 32) (hN : xs.length < 1048576) : ∃ os, (os : List Int).length = xs.length + 1 ∧ U32 os ∧ valL os = 2 ^ s * valL xs ∧ Runs Try.ir 155 [.sl xs.length (lm xs), .int .i64 (s : Nat)] (.fresh 1 os.length (lm os)) := by
  obtain ⟨os, h1, h2, h3, h4⟩ := Try.loop155 hx hs hN xs.length 0 (List.replicate (xs.length + 1) 0) (by omega) (by simp) (u32_zeros _) (by rw [valL_zeros]; simp [valL]) (by rw [getD_zeros]; exact pow2_pos s) (fun t _ => getD_zeros _ _)
  refine ⟨os, h2, h3, h4, ?_⟩
  have e : IntKind.i64.wrap (((xs.length : Nat) : Int) + 1) = ((xs.length + 1 : Nat) : Int) := by rw [w64 (by omega) (by omega)]; omega
  have h := Try.run155 xs os (s : Nat) (xs.length : Nat) (xs.length : Nat) (xs.length + 1) (by rw [e]; omega) (by rw [e, Int.toNat_natCast, repl_lim]; exact h1)
  rw [h2]
  exact h
section
variable {k : Nat} {us vs : List Int} {kq : Nat} {qs : List Int} {s : Int} {j m : Nat}
theorem Try.loop147g (hl : us.length = k) (hk : k ≤ 1048577) (hj : j + m + 2 < k) (h : Dig m (valL vs) (valL (us.drop j)) (vs.getD (m + 1) 0) (vs.getD m 0) (us.getD (j + m + 2) 0) (us.getD (j + m + 1) 0) (us.getD (j + m) 0)) : ∀ (f : Nat) (g r : Int), g.toNat ≤ f →
    DigI (valL vs) (valL (us.drop j)) (vs.getD (m + 1) 0) (us.getD (j + m + 2) 0 * 4294967296 + us.getD (j + m + 1) 0) g r → r < 4294967296 →
    ∃ g' r', RunsW Try.ir (.loop Try.c147g) (Try.s147g k us vs ((m + 2 : Nat) : Int) (vs.getD (m + 1) 0) (vs.getD m 0) kq qs s (j : Nat) g r) (.exit 2) (Try.s147g k us vs ((m + 2 : Nat) : Int) (vs.getD (m + 1) 0) (vs.getD m 0) kq qs s (j : Nat) g' r') ∧
      (0 ≤ g' ∧ g' < 4294967296) ∧ valL (us.drop j) < (g' + 1) * valL vs ∧ g' * valL vs < valL (us.drop j) + valL vs := by
  have ht := h.htop
  have hnx := h.hnxt
  have hz := h.hz
  have e1 : IntKind.i64.wrap (IntKind.i64.wrap (((j : Nat) : Int) + ((m + 2 : Nat) : Int)) - 2) = ((j + m : Nat) : Int) := by
    rw [w64 (n := ((j : Nat) : Int) + ((m + 2 : Nat) : Int)) (by omega) (by omega), w64 (by omega) (by omega)]; omega
  intro f
  induction f with
  | zero =>
    intro g r hf i hr
    have hg : g = 0 := by have := i.g0; omega
    subst hg
    have c2 : ¬ (r * 4294967296 + us.getD (j + m) 0 < 0 * vs.getD m 0) := by have := i.r0; omega
    have k5 := Try.k147g_5 k us vs ((m + 2 : Nat) : Int) (vs.getD (m + 1) 0) (vs.getD m 0) kq qs s (j : Nat) 0 r (by simp) (by
      rw [e1, Int.toNat_natCast, word2 ⟨i.r0, hr⟩ hz, wu64 (n := 0 * vs.getD m 0) (by omega), decide_eq_false_iff_not]; omega) (by rw [e1]; omega) hl
    exact ⟨0, r, RunsW.loop_out k5 (by intro e; cases e), by omega, i.up, h.out i (by omega) (Or.inr (by omega))⟩
  | succ f ih =>
    intro g r hf i hr
    have hg1 := i.gle
    have hg0 := i.g0
    have hr0 := i.r0
    have hgn : 0 ≤ g * vs.getD m 0 ∧ g * vs.getD m 0 < 18446744073709551616 := by
      have a := Int.mul_nonneg hg0 hnx.1
      have b := Int.mul_le_mul hg1 (show vs.getD m 0 ≤ 4294967295 by omega) hnx.1 (by omega)
      omega
    have er : IntKind.u64.wrap (r + vs.getD (m + 1) 0) = r + vs.getD (m + 1) 0 := wu64 (by omega)
    have ecmp : (decide (IntKind.u64.wrap (g * vs.getD m 0) > IntKind.u64.wrap ((BitVec.ofInt (IntKind.bits .u64) (IntKind.u64.wrap (r * 2 ^ (min (Int.toNat 32) (IntKind.bits .u64)))) ||| BitVec.ofInt (IntKind.bits .u64) (IntKind.u64.wrap (us.getD (Int.toNat (IntKind.i64.wrap (IntKind.i64.wrap (((j : Nat) : Int) + ((m + 2 : Nat) : Int)) - 2))) 0))).toNat)) : Bool) = decide (r * 4294967296 + us.getD (j + m) 0 < g * vs.getD m 0) := by
      rw [e1, Int.toNat_natCast, word2 ⟨hr0, hr⟩ hz, wu64 hgn]
    by_cases hc : 4294967296 ≤ g ∨ r * 4294967296 + us.getD (j + m) 0 < g * vs.getD m 0
    · have i2 := h.step i hc
      have hg2 := i2.g0
      have eg : IntKind.u64.wrap (g - 1) = g - 1 := wu64 (by omega)
      by_cases hbig : 4294967296 ≤ r + vs.getD (m + 1) 0
      · have hgs := h.small_g i2 hbig
        have hrun : RunsW Try.ir Try.c147g (Try.s147g k us vs ((m + 2 : Nat) : Int) (vs.getD (m + 1) 0) (vs.getD m 0) kq qs s (j : Nat) g r) (.exit 2) (Try.s147g k us vs ((m + 2 : Nat) : Int) (vs.getD (m + 1) 0) (vs.getD m 0) kq qs s (j : Nat) (IntKind.u64.wrap (g - 1)) (IntKind.u64.wrap (r + vs.getD (m + 1) 0))) := by
          by_cases hg : 4294967296 ≤ g
          · exact Try.k147g_1 k us vs _ _ _ kq qs s _ g r (by simpa using hg) (by rw [er]; simpa using hbig)
          · exact Try.k147g_3 k us vs _ _ _ kq qs s _ g r (by simp; omega) (by rw [ecmp, decide_eq_true_eq]; omega) (by rw [er]; simpa using hbig) (by rw [e1]; omega) hl
        rw [eg, er] at hrun
        exact ⟨g - 1, _, RunsW.loop_out hrun (by intro e; cases e), ⟨hg2, hgs⟩, i2.up, h.out i2 hgs (Or.inl hbig)⟩
      · have hrun : RunsW Try.ir Try.c147g (Try.s147g k us vs ((m + 2 : Nat) : Int) (vs.getD (m + 1) 0) (vs.getD m 0) kq qs s (j : Nat) g r) .norm (Try.s147g k us vs ((m + 2 : Nat) : Int) (vs.getD (m + 1) 0) (vs.getD m 0) kq qs s (j : Nat) (IntKind.u64.wrap (g - 1)) (IntKind.u64.wrap (r + vs.getD (m + 1) 0))) := by
          by_cases hg : 4294967296 ≤ g
          · exact Try.k147g_2 k us vs _ _ _ kq qs s _ g r (by simpa using hg) (by rw [er, decide_eq_false_iff_not]; omega)
          · exact Try.k147g_4 k us vs _ _ _ kq qs s _ g r (by simp; omega) (by rw [ecmp, decide_eq_true_eq]; omega) (by rw [er, decide_eq_false_iff_not]; omega) (by rw [e1]; omega) hl
        rw [eg, er] at hrun
        obtain ⟨g', r', a1, a2⟩ := ih (g - 1) (r + vs.getD (m + 1) 0) (by omega) i2 (by omega)
        exact ⟨g', r', RunsW.loop hrun a1, a2⟩
    · have k5 := Try.k147g_5 k us vs ((m + 2 : Nat) : Int) (vs.getD (m + 1) 0) (vs.getD m 0) kq qs s (j : Nat) g r (by simp; omega) (by rw [ecmp, decide_eq_false_iff_not]; omega) (by rw [e1]; omega) hl
      exact ⟨g, r, RunsW.loop_out k5 (by intro e; cases e), by omega, i.up, h.out i (by omega) (Or.inr (by omega))⟩
end
section
variable {k : Nat} {vs : List Int} {t t2 : Int} {kq : Nat} {qs : List Int} {s : Int} {j : Nat} {g : Int}
theorem Try.loop147m (hv : U32 vs) (hk : k ≤ 1048577) (hg : 0 ≤ g ∧ g < 4294967296) (hj : j + vs.length ≤ k) : ∀ (r i : Nat) (us : List Int) (b c : Int), r + i = vs.length → us.length = k → U32 us → 0 ≤ b ∧ b ≤ 1 → 0 ≤ c ∧ c < 4294967296 →
    RunsW Try.ir (.loop Try.c147m) (Try.s147m k us vs (vs.length : Nat) t t2 kq qs s (j : Nat) g b c (i : Nat)) (.exit 4) (Try.s147m k (msGo g vs j r i us b c).1 vs (vs.length : Nat) t t2 kq qs s (j : Nat) g (msGo g vs j r i us b c).2.1 (msGo g vs j r i us b c).2.2 (vs.length : Nat)) := by
  intro r
  induction r with
  | zero =>
    intro i us b c hi _ _ _ _
    have : i = vs.length := by omega
    subst this
    exact RunsW.loop_out (Try.k147m_2 k us vs _ t t2 kq qs s _ g b c _ (by simp)) (by intro e; cases e)
  | succ r ih =>
    intro i us b c hi hl hu hb hc
    have ei : IntKind.i64.wrap (((i : Nat) : Int) + 1) = ((i + 1 : Nat) : Int) := by rw [w64 (by omega) (by omega)]; omega
    have eij : IntKind.i64.wrap (((i : Nat) : Int) + ((j : Nat) : Int)) = ((i + j : Nat) : Int) := by rw [w64 (by omega) (by omega)]; omega
    have hvi := getD_u32 hv i
    have hui := getD_u32 hu (i + j)
    have hw := ms_word hg hvi hc
    have hgv := Int.mul_nonneg hg.1 hvi.1
    have h1 := Try.k147m_1 k us vs (vs.length : Nat) t t2 kq qs s (j : Nat) g b c (i : Nat) (by simp; omega) (by omega) (by rw [eij]; omega) hl
    rw [eij, ei, Int.toNat_natCast, Int.toNat_natCast, wu64 (n := vs.getD i 0) (by omega), wu64 (n := us.getD (i + j) 0) (by omega), wu64 (n := g * vs.getD i 0) (by omega), wu64 hw, fd32, fd63, wu32 (g * vs.getD i 0 + c)] at h1
    generalize hp : g * vs.getD i 0 + c = p at *
    rw [wu64 (n := p % 4294967296) (by omega), wu64m, wu64m] at h1
    have hstep : msGo g vs j (r + 1) i us b c = msGo g vs j r (i + 1) (us.set (i + j) ((us.getD (i + j) 0 - p % 4294967296 - b) % 4294967296)) (if us.getD (i + j) 0 - p % 4294967296 - b < 0 then 1 else 0) (p / 4294967296) := by rw [msGo, hp]
    generalize hd : us.getD (i + j) 0 - p % 4294967296 - b = d at *
    have e1 : IntKind.u32.wrap (((us.getD (i + j) 0 - p % 4294967296) % 18446744073709551616 - b) % 18446744073709551616) = d % 4294967296 := by rw [wu32]; omega
    have e2 : ((us.getD (i + j) 0 - p % 4294967296) % 18446744073709551616 - b) % 18446744073709551616 / 9223372036854775808 = (if d < 0 then 1 else 0) := by split <;> omega
    rw [e1, e2] at h1
    rw [hstep]
    exact RunsW.loop h1 (ih (i + 1) _ _ _ (by omega) (by simpa using hl) (u32_set hu (by omega)) (by split <;> omega) (by omega))
theorem Try.loop147a (hv : U32 vs) (hk : k ≤ 1048577) (hj : j + vs.length ≤ k) : ∀ (r i : Nat) (us : List Int) (c : Int), r + i = vs.length → us.length = k → U32 us → 0 ≤ c ∧ c ≤ 1 →
    RunsW Try.ir (.loop Try.c147a) (Try.s147a k us vs (vs.length : Nat) t t2 kq qs s (j : Nat) g c (i : Nat)) (.exit 6) (Try.s147a k (abGo vs j r i us c).1 vs (vs.length : Nat) t t2 kq qs s (j : Nat) g (abGo vs j r i us c).2 (vs.length : Nat)) := by
  intro r
  induction r with
  | zero =>
    intro i us c hi _ _ _
    have : i = vs.length := by omega
    subst this
    exact RunsW.loop_out (Try.k147a_2 k us vs _ t t2 kq qs s _ g c _ (by simp)) (by intro e; cases e)
  | succ r ih =>
    intro i us c hi hl hu hc
    have ei : IntKind.i64.wrap (((i : Nat) : Int) + 1) = ((i + 1 : Nat) : Int) := by rw [w64 (by omega) (by omega)]; omega
    have eij : IntKind.i64.wrap (((i : Nat) : Int) + ((j : Nat) : Int)) = ((i + j : Nat) : Int) := by rw [w64 (by omega) (by omega)]; omega
    have hvi := getD_u32 hv i
    have hui := getD_u32 hu (i + j)
    have h1 := Try.k147a_1 k us vs (vs.length : Nat) t t2 kq qs s (j : Nat) g c (i : Nat) (by simp; omega) (by rw [eij]; omega) hl (by omega)
    rw [eij, ei, Int.toNat_natCast, Int.toNat_natCast, wu64 (n := vs.getD i 0) (by omega), wu64 (n := us.getD (i + j) 0) (by omega), wu64 (n := us.getD (i + j) 0 + vs.getD i 0) (by omega), wu64 (n := us.getD (i + j) 0 + vs.getD i 0 + c) (by omega), fd32, wu32] at h1
    exact RunsW.loop h1 (ih (i + 1) _ _ (by omega) (by simpa using hl) (u32_set hu (by omega)) (by omega))
end
theorem dsign {X c b : Int} (hX : 0 ≤ X ∧ X < 4294967296) (hc : 0 ≤ c ∧ c < 4294967296) (hb : 0 ≤ b ∧ b ≤ 1) :
    Int.fdiv (IntKind.u64.wrap (IntKind.u64.wrap (IntKind.u64.wrap X - c) - b)) (2 ^ (min (Int.toNat 63) (IntKind.bits .u64))) = (if X - c - b < 0 then 1 else 0) ∧ IntKind.u32.wrap (IntKind.u64.wrap (IntKind.u64.wrap (IntKind.u64.wrap X - c) - b)) = (X - c - b) % 4294967296 := by
  rw [fd63, wu64 (n := X) (by omega), wu64m, wu64m, wu32]
  refine ⟨?_, by omega⟩
  split <;> omega
section
variable {vs : List Int} {m : Nat} {k kq : Nat} {s : Int}
theorem Try.loop147 (hv : U32 vs) (hm : vs.length = m + 2) (ht : 2147483648 ≤ vs.getD (m + 1) 0) (hk : k = kq + vs.length) (hkb : k ≤ 1048577) : ∀ (i : Nat) (us qs : List Int), i ≤ kq → us.length = k → U32 us → qs.length = kq → U32 qs → (∀ t, t < i → qs.getD t 0 = 0) → valL (us.drop i) < valL vs →
    ∃ us' qs', RunsW Try.ir (.loop Try.c147) (Try.s147 k us vs (vs.length : Nat) (vs.getD (m + 1) 0) (vs.getD m 0) kq qs s (((i : Nat) : Int) - 1)) (.exit 0) (Try.s147 k us' vs (vs.length : Nat) (vs.getD (m + 1) 0) (vs.getD m 0) kq qs' s (-1)) ∧
      us'.length = k ∧ U32 us' ∧ qs'.length = kq ∧ U32 qs' ∧ valL us' < valL vs ∧ valL us = valL vs * (valL qs' - valL qs) + valL us' := by
  intro i
  induction i with
  | zero =>
    intro us qs _ h1 h2 h3 h4 _ h6
    exact ⟨us, qs, RunsW.loop_out (Try.k147_3 k us vs _ _ _ kq qs s _ (by simp)) (by intro e; cases e), h1, h2, h3, h4, h6, by rw [Int.sub_self, Int.mul_zero, Int.zero_add]⟩
  | succ i ih =>
    intro us qs hi h1 h2 h3 h4 h5 h6
    have ei : (((i + 1 : Nat) : Int) - 1) = (i : Nat) := by omega
    have ej : IntKind.i64.wrap (((i : Nat) : Int) - 1) = ((i : Nat) : Int) - 1 := w64 (by omega) (by omega)
    have en : IntKind.i64.wrap (((i : Nat) : Int) + ((vs.length : Nat) : Int)) = ((i + vs.length : Nat) : Int) := by rw [w64 (by omega) (by omega)]; omega
    have en1 : IntKind.i64.wrap (((i + vs.length : Nat) : Int) - 1) = ((i + m + 1 : Nat) : Int) := by rw [w64 (by omega) (by omega)]; omega
    have hD := dig_of (us := us) (vs := vs) (j := i) (m := m) h2 hv hm (by omega) ht h6
    have hI := hD.init
    have hr1 := Int.emod_lt_of_pos (us.getD (i + m + 2) 0 * 4294967296 + us.getD (i + m + 1) 0) (show 0 < vs.getD (m + 1) 0 by omega)
    have ht2 := hD.htop
    obtain ⟨g, r, q1, q2, q3, q4⟩ := Try.loop147g (k := k) (kq := kq) (qs := qs) (s := s) h1 hkb (by omega) hD _ _ _ (Nat.le_refl _) hI (by omega)
    rw [← hm] at q1
    have hn0 : 0 ≤ us.getD (i + m + 2) 0 * 4294967296 + us.getD (i + m + 1) 0 := by have := hD.hx; have := hD.hy; omega
    have hq0 := hI.g0
    have hq1 := hI.gle
    have hl5 : RunsW Try.ir (.loop Try.c147g) (Try.s147g k us vs (vs.length : Nat) (vs.getD (m + 1) 0) (vs.getD m 0) kq qs s (i : Nat) (IntKind.u64.wrap (Int.tdiv (IntKind.u64.wrap ((BitVec.ofInt (IntKind.bits .u64) (IntKind.u64.wrap ((IntKind.u64.wrap (us.getD (Int.toNat (IntKind.i64.wrap (((i : Nat) : Int) + ((vs.length : Nat) : Int)))) 0)) * 2 ^ (min (Int.toNat 32) (IntKind.bits .u64)))) ||| BitVec.ofInt (IntKind.bits .u64) (IntKind.u64.wrap (us.getD (Int.toNat (IntKind.i64.wrap ((IntKind.i64.wrap (((i : Nat) : Int) + ((vs.length : Nat) : Int))) - 1))) 0))).toNat)) (vs.getD (m + 1) 0))) (Int.tmod (IntKind.u64.wrap ((BitVec.ofInt (IntKind.bits .u64) (IntKind.u64.wrap ((IntKind.u64.wrap (us.getD (Int.toNat (IntKind.i64.wrap (((i : Nat) : Int) + ((vs.length : Nat) : Int)))) 0)) * 2 ^ (min (Int.toNat 32) (IntKind.bits .u64)))) ||| BitVec.ofInt (IntKind.bits .u64) (IntKind.u64.wrap (us.getD (Int.toNat (IntKind.i64.wrap ((IntKind.i64.wrap (((i : Nat) : Int) + ((vs.length : Nat) : Int))) - 1))) 0))).toNat)) (vs.getD (m + 1) 0))) (.exit 2) (Try.s147g k us vs (vs.length : Nat) (vs.getD (m + 1) 0) (vs.getD m 0) kq qs s (i : Nat) g r) := by
      rw [en, en1, Int.toNat_natCast, Int.toNat_natCast, show i + vs.length = i + m + 2 by omega, wu64 (n := us.getD (i + m + 2) 0) (by have := hD.hx; omega), word2 hD.hx hD.hy, Int.tdiv_eq_ediv_of_nonneg hn0, Int.tmod_eq_emod_of_nonneg hn0, wu64 ⟨hq0, by omega⟩]
      exact q1
    have hms := Try.loop147m (k := k) (t := vs.getD (m + 1) 0) (t2 := vs.getD m 0) (kq := kq) (qs := qs) (s := s) (j := i) (g := g) hv hkb q2 (by omega) vs.length 0 us 0 0 (by omega) h1 h2 (by omega) (by omega)
    have hmo := msGo_ok (j := i) q2 hv vs.length 0 us 0 0 (by omega) (by omega) h2 (by omega) (by omega)
    have hst := digit_step h2 hv (j := i) (by omega) h6 q2 q3 q4
    generalize hM : msGo g vs i vs.length 0 us 0 0 = M at *
    obtain ⟨m1, m2, m3, m4, _, _⟩ := hmo
    obtain ⟨d1, d2⟩ := dsign (getD_u32 m2 (i + vs.length)) m4 m3
    dsimp only at hst
    obtain ⟨S1, S2⟩ := hst
    -- the rest from a step
    have fin : ∀ (ws : List Int) (q : Int), StepOk us vs ws i q → (0 ≤ q ∧ q < 4294967296) → RunsW Try.ir Try.c147 (Try.s147 k us vs (vs.length : Nat) (vs.getD (m + 1) 0) (vs.getD m 0) kq qs s (i : Nat)) .norm (Try.s147 k ws vs (vs.length : Nat) (vs.getD (m + 1) 0) (vs.getD m 0) kq (qs.set i q) s (((i : Nat) : Int) - 1)) →
        ∃ us' qs', RunsW Try.ir (.loop Try.c147) (Try.s147 k us vs (vs.length : Nat) (vs.getD (m + 1) 0) (vs.getD m 0) kq qs s (i : Nat)) (.exit 0) (Try.s147 k us' vs (vs.length : Nat) (vs.getD (m + 1) 0) (vs.getD m 0) kq qs' s (-1)) ∧
      us'.length = k ∧ U32 us' ∧ qs'.length = kq ∧ U32 qs' ∧ valL us' < valL vs ∧ valL us = valL vs * (valL qs' - valL qs) + valL us' := by
      intro ws q hs hq hrun
      obtain ⟨us', qs', a1, a2, a3, a4, a5, a6, a7⟩ := ih ws (qs.set i q) (by omega) (by rw [hs.len]; exact h1) hs.u32 (by simpa using h3) (u32_set h4 hq) (fun t ht => by rw [getD_other (by omega)]; exact h5 t (by omega)) hs.low
      refine ⟨us', qs', RunsW.loop hrun a1, a2, a3, a4, a5, a6, ?_⟩
      have e := hs.val
      rw [valL_set _ _ _ (by omega), h5 i (by omega), Int.sub_zero] at a7
      generalize (4294967296 : Int) ^ i = P at *
      grind
    rw [ei]
    by_cases hd : M.1.getD (i + vs.length) 0 - M.2.2 - M.2.1 < 0
    · obtain ⟨S2, hg1⟩ := S2 hd
      have hu2 : U32 (M.1.set (i + vs.length) ((M.1.getD (i + vs.length) 0 - M.2.2 - M.2.1) % 4294967296)) := u32_set m2 (by omega)
      have hab := Try.loop147a (k := k) (t := vs.getD (m + 1) 0) (t2 := vs.getD m 0) (kq := kq) (qs := qs) (s := s) (j := i) (g := g - 1) hv hkb (by omega) vs.length 0 (M.1.set (i + vs.length) ((M.1.getD (i + vs.length) 0 - M.2.2 - M.2.1) % 4294967296)) 0 (by omega) (by rw [List.length_set, m1]; exact h1) hu2 (by omega)
      have hao := abGo_ok (j := i) hv vs.length 0 (M.1.set (i + vs.length) ((M.1.getD (i + vs.length) 0 - M.2.2 - M.2.1) % 4294967296)) 0 (by omega) (by rw [List.length_set, m1]; omega) hu2 (by omega)
      obtain ⟨b1, b2, b3, _, _⟩ := hao
      generalize hB : abGo vs i vs.length 0 (M.1.set (i + vs.length) ((M.1.getD (i + vs.length) 0 - M.2.2 - M.2.1) % 4294967296)) 0 = Bb at *
      have eg : IntKind.u64.wrap (g - 1) = g - 1 := wu64 (by omega)
      have k1 := Try.k147_1 k us vs (vs.length : Nat) (vs.getD (m + 1) 0) (vs.getD m 0) kq qs s (i : Nat) M.1 Bb.1 g r M.2.1 M.2.2 Bb.2 (by simp) (by rw [en, Int.toNat_natCast, d1, if_pos hd]; rfl) (by rw [en]; omega) h1 (by rw [en, en1]; omega) (by omega) hl5 hms (by rw [m1]; exact h1) (by rw [en, Int.toNat_natCast, d2, eg]; exact hab) (by rw [b1, List.length_set, m1]; exact h1) (by omega) h3
      rw [en, Int.toNat_natCast, eg, Int.toNat_natCast, w32 (n := g - 1) (by omega), ej, w32 (n := Bb.2) (by omega), wu32] at k1
      exact fin _ _ S2 (by omega) k1
    · have k2 := Try.k147_2 k us vs (vs.length : Nat) (vs.getD (m + 1) 0) (vs.getD m 0) kq qs s (i : Nat) M.1 g r M.2.1 M.2.2 (by simp) (by rw [en, Int.toNat_natCast, d1, if_neg hd]; rfl) (by rw [en]; omega) h1 (by rw [en, en1]; omega) (by omega) hl5 hms (by rw [m1]; exact h1) (by omega) h3
      rw [en, Int.toNat_natCast, Int.toNat_natCast, d2, w32 (n := g) q2, ej] at k2
      exact fin _ _ (S1 (by omega)) q2 k2
end
def TQB : Table := TQA
theorem TQB_holds : THolds Try.ir TQB := TQA_holds
end Go.Proofs.Ythnnfemologhfaa
