/- The package wide: products. -/
import Derived.Test.YthnnfemologhfaaWideB
import Derived.Test.YthnnfemologhfaaBigC
namespace Go.Proofs.Ythnnfemologhfaa
open Go.Ai
set_option maxRecDepth 100000

def Try.c113i : ICode := .seq (.region false [oB 51 .lss 50 49])
  (.seq (.cond (.t 51) (.skip)
  (.exit 2))
  (.seq (.block 3 (.seq (.region false [oM 52 50,
   o1 53 (.ixa 48 (.t 50) 1),
   o1 54 (.ld 53 53 1 true),
   oM 13 52,
   oM 14 54])
  (.seq (.region false [oM 55 11,
   o1 56 (.cv .u64 (.t 55)),
   oM 57 14,
   o1 58 (.cv .u64 (.t 57)),
   oB 59 .mul 56 58,
   o1 60 (.cpy 9),
   oM 61 10,
   oM 62 13,
   oB 63 .add 61 62,
   o1 64 (.ixo 60 9 (.t 63) 1),
   o1 65 (.ld 64 9 1 true),
   o1 66 (.cv .u64 (.t 65)),
   oB 67 .add 59 66,
   oM 68 12,
   oB 69 .add 67 68,
   oM 15 69])
  (.region false [o1 70 (.cpy 9),
   oM 71 10,
   oM 72 13,
   oB 73 .add 71 72,
   oM 74 15,
   o1 75 (.cv .u32 (.t 74)),
   oM 76 15,
   o1 77 (.bin .shr (.t 76) (.c (.int .u64 32))),
   o1 78 (.ixo 70 9 (.t 73) 1),
   oN (.st 78 9 1 (.t 75)),
   oM 12 77]))))
  (.region false [o1 79 (.bin .add (.t 50) (.c (.int .i64 1))),
   oM 50 79])))
def Try.s113i (na : Bool) (nb : Bool) (la : Nat) (xa : List AV) (lb : Nat) (xb : List AV) (n : Nat) (cs : List AV) (i : Int) (x : Int) (c : Int) (k : Int) : State := (dds 4 (.box [.bool false, .sl 0 []] :: (.val (.bool na) :: (dds 1 (.val (.bool nb) :: (.val (.sl lb xb) :: (.own 1 n cs :: (.val (.int .i64 i) :: (.val (.int .u32 x) :: (.val (.int .u64 c) :: (dds 28 (.val (.sl la xa) :: (.val (.int .i64 ((la : Nat) : Int)) :: (.val (.int .i64 i) :: (dds 4 (.val (.sl lb xb) :: (.val (.int .i64 ((lb : Nat) : Int)) :: (.val (.int .i64 k) :: (dds 43 [])))))))))))))))))))
theorem Try.k113i_1 (na : Bool) (nb : Bool) (la : Nat) (xa : List AV) (lb : Nat) (xb : List AV) (n : Nat) (cs : List AV) (i : Int) (x : Int) (c : Int) (k : Int) (ds : List AV) (y z : Int) (c1 : (decide (k < ((lb : Nat) : Int))) = true) (n1 : 0 ≤ k ∧ k < ((lb : Nat) : Int)) (n2 : takeA (List.drop (Int.toNat k * 1) xb) 0 1 true = some (.int .u32 y)) (n3 : 0 ≤ (IntKind.i64.wrap (i + k)) ∧ (IntKind.i64.wrap (i + k)) < ((n : Nat) : Int)) (n4 : takeA cs (Int.toNat (IntKind.i64.wrap (i + k)) * 1) 1 true = some (.int .u32 z)) (n5 : 0 ≤ (IntKind.i64.wrap (i + k)) ∧ (IntKind.i64.wrap (i + k)) < ((n : Nat) : Int)) (n6 : layA cs (Int.toNat (IntKind.i64.wrap (i + k)) * 1) [.int .u32 (IntKind.u32.wrap (IntKind.u64.wrap ((IntKind.u64.wrap ((IntKind.u64.wrap ((IntKind.u64.wrap x) * (IntKind.u64.wrap y))) + (IntKind.u64.wrap z))) + c)))] = some ds) : RunsW Try.ir Try.c113i (Try.s113i na nb la xa lb xb n cs i x c k) .norm (Try.s113i na nb la xa lb xb n ds i x (Int.fdiv (IntKind.u64.wrap ((IntKind.u64.wrap ((IntKind.u64.wrap ((IntKind.u64.wrap x) * (IntKind.u64.wrap y))) + (IntKind.u64.wrap z))) + c)) (2 ^ (min (Int.toNat 32) (IntKind.bits .u64)))) (IntKind.i64.wrap (k + 1))) :=
  RunsW.script (ps := [(decide (k < ((lb : Nat) : Int))) = true, 0 ≤ k ∧ k < ((lb : Nat) : Int), takeA (List.drop (Int.toNat k * 1) xb) 0 1 true = some (.int .u32 y), 0 ≤ (IntKind.i64.wrap (i + k)) ∧ (IntKind.i64.wrap (i + k)) < ((n : Nat) : Int), takeA cs (Int.toNat (IntKind.i64.wrap (i + k)) * 1) 1 true = some (.int .u32 z), ¬ (32 : Int) < 0, 0 ≤ (IntKind.i64.wrap (i + k)) ∧ (IntKind.i64.wrap (i + k)) < ((n : Nat) : Int), layA cs (Int.toNat (IntKind.i64.wrap (i + k)) * 1) [.int .u32 (IntKind.u32.wrap (IntKind.u64.wrap ((IntKind.u64.wrap ((IntKind.u64.wrap ((IntKind.u64.wrap x) * (IntKind.u64.wrap y))) + (IntKind.u64.wrap z))) + c)))] = some ds]) TWB_holds 300 [.b true, .v (.int .u32 y), .v (.int .u32 z), .l ds] [4, 5, 7, 8, 9, 10, 11, 12, 41, 42, 43, 48, 49, 50] (by kernel_rfl) ⟨c1, n1, n2, n3, n4, (by decide), n5, n6, trivial⟩
theorem Try.k113i_2 (na : Bool) (nb : Bool) (la : Nat) (xa : List AV) (lb : Nat) (xb : List AV) (n : Nat) (cs : List AV) (i : Int) (x : Int) (c : Int) (k : Int) (c1 : (decide (k < ((lb : Nat) : Int))) = false) : RunsW Try.ir Try.c113i (Try.s113i na nb la xa lb xb n cs i x c k) (.exit 2) (Try.s113i na nb la xa lb xb n cs i x c k) :=
  RunsW.script (ps := [(decide (k < ((lb : Nat) : Int))) = false]) TWB_holds 300 [.b false] [4, 5, 7, 8, 9, 10, 11, 12, 41, 42, 43, 48, 49, 50] (by kernel_rfl) ⟨c1, trivial⟩
def Try.c113 : ICode := .seq (.region false [oB 44 .lss 43 42])
  (.seq (.cond (.t 44) (.skip)
  (.exit 0))
  (.seq (.block 1 (.seq (.region false [oM 45 43,
   o1 46 (.ixa 41 (.t 43) 1),
   o1 47 (.ld 46 46 1 true),
   oM 10 45,
   oM 11 47])
  (.seq (.region false [o1 12 (.mov (.c (.int .u64 0)))])
  (.seq (.seq (.region false [oM 48 8,
   o1 49 (.len (.t 48)),
   o1 50 (.mov (.c (.int .i64 0)))])
  (.block 2 (.loop (.seq (.region false [oB 51 .lss 50 49])
  (.seq (.cond (.t 51) (.skip)
  (.exit 2))
  (.seq (.block 3 (.seq (.region false [oM 52 50,
   o1 53 (.ixa 48 (.t 50) 1),
   o1 54 (.ld 53 53 1 true),
   oM 13 52,
   oM 14 54])
  (.seq (.region false [oM 55 11,
   o1 56 (.cv .u64 (.t 55)),
   oM 57 14,
   o1 58 (.cv .u64 (.t 57)),
   oB 59 .mul 56 58,
   o1 60 (.cpy 9),
   oM 61 10,
   oM 62 13,
   oB 63 .add 61 62,
   o1 64 (.ixo 60 9 (.t 63) 1),
   o1 65 (.ld 64 9 1 true),
   o1 66 (.cv .u64 (.t 65)),
   oB 67 .add 59 66,
   oM 68 12,
   oB 69 .add 67 68,
   oM 15 69])
  (.region false [o1 70 (.cpy 9),
   oM 71 10,
   oM 72 13,
   oB 73 .add 71 72,
   oM 74 15,
   o1 75 (.cv .u32 (.t 74)),
   oM 76 15,
   o1 77 (.bin .shr (.t 76) (.c (.int .u64 32))),
   o1 78 (.ixo 70 9 (.t 73) 1),
   oN (.st 78 9 1 (.t 75)),
   oM 12 77]))))
  (.region false [o1 79 (.bin .add (.t 50) (.c (.int .i64 1))),
   oM 50 79])))))))
  (.region false [o1 80 (.cpy 9),
   oM 81 10,
   oM 82 8,
   o1 83 (.len (.t 82)),
   oB 84 .add 81 83,
   oM 85 12,
   o1 86 (.cv .u32 (.t 85)),
   o1 87 (.ixo 80 9 (.t 84) 1),
   oN (.st 87 9 1 (.t 86))])))))
  (.region false [o1 88 (.bin .add (.t 43) (.c (.int .i64 1))),
   oM 43 88])))
def Try.s113 (na : Bool) (nb : Bool) (la : Nat) (xa : List AV) (lb : Nat) (xb : List AV) (n : Nat) (cs : List AV) (i : Int) : State := (dds 4 (.box [.bool false, .sl 0 []] :: (.val (.bool na) :: (dds 1 (.val (.bool nb) :: (.val (.sl lb xb) :: (.own 1 n cs :: (dds 31 (.val (.sl la xa) :: (.val (.int .i64 ((la : Nat) : Int)) :: (.val (.int .i64 i) :: (dds 50 []))))))))))))
theorem Try.ko113_no (na nb : Bool) (la : Nat) (xa : List AV) (lb : Nat) (xb : List AV) (n : Nat) (cs : List AV) (i : Int) (h : (decide (i < ((la : Nat) : Int))) = false) : RunsW Try.ir Try.c113 (Try.s113 na nb la xa lb xb n cs i) (.exit 0) (Try.s113 na nb la xa lb xb n cs i) :=
  RunsW.script (ps := [(decide (i < ((la : Nat) : Int))) = false]) TWB_holds 300 [.b false] [4, 5, 7, 8, 9, 41, 42, 43] (by kernel_rfl) ⟨h, trivial⟩
theorem Try.ko113_yes (na nb : Bool) (la : Nat) (xa : List AV) (lb : Nat) (xb : List AV) (n : Nat) (cs ds es : List AV) (i x c k : Int) (h : (decide (i < ((la : Nat) : Int))) = true) (hi : 0 ≤ i ∧ i < ((la : Nat) : Int)) (hx : takeA (List.drop (Int.toNat i * 1) xa) 0 1 true = some (.int .u32 x))
    (hl : RunsW Try.ir (.loop Try.c113i) (Try.s113i na nb la xa lb xb n cs i x 0 0) (.exit 2) (Try.s113i na nb la xa lb xb n ds i x c k))
    (hix : 0 ≤ IntKind.i64.wrap (i + ((lb : Nat) : Int)) ∧ IntKind.i64.wrap (i + ((lb : Nat) : Int)) < ((n : Nat) : Int)) (hst : layA ds (Int.toNat (IntKind.i64.wrap (i + ((lb : Nat) : Int))) * 1) [.int .u32 (IntKind.u32.wrap c)] = some es) :
    RunsW Try.ir Try.c113 (Try.s113 na nb la xa lb xb n cs i) .norm (Try.s113 na nb la xa lb xb n es (IntKind.i64.wrap (i + 1))) :=
  (RunsW.seq (RunsW.script (t := (dds 4 (.box [.bool false, .sl 0 []] :: (.val (.bool na) :: (dds 1 (.val (.bool nb) :: (.val (.sl lb xb) :: (.own 1 n cs :: (dds 31 (.val (.sl la xa) :: (.val (.int .i64 ((la : Nat) : Int)) :: (.val (.int .i64 i) :: (.val (.bool (decide (i < ((la : Nat) : Int)))) :: (dds 49 [])))))))))))))) (ex := .norm) (ps := []) TWB_holds 300 [] [4, 5, 7, 8, 9, 41, 42, 43, 44] (by kernel_rfl) trivial)
    (RunsW.seq (RunsW.script (t := (dds 4 (.box [.bool false, .sl 0 []] :: (.val (.bool na) :: (dds 1 (.val (.bool nb) :: (.val (.sl lb xb) :: (.own 1 n cs :: (dds 31 (.val (.sl la xa) :: (.val (.int .i64 ((la : Nat) : Int)) :: (.val (.int .i64 i) :: (.val (.bool (decide (i < ((la : Nat) : Int)))) :: (dds 49 [])))))))))))))) (ex := .norm) (ps := [(decide (i < ((la : Nat) : Int))) = true]) TWB_holds 300 [.b true] [4, 5, 7, 8, 9, 41, 42, 43, 44] (by kernel_rfl) ⟨h, trivial⟩)
    (RunsW.seq (RunsW.block_norm (RunsW.seq (RunsW.script (t := (dds 4 (.box [.bool false, .sl 0 []] :: (.val (.bool na) :: (dds 1 (.val (.bool nb) :: (.val (.sl lb xb) :: (.own 1 n cs :: (.val (.int .i64 i) :: (.val (.int .u32 x) :: (dds 29 (.val (.sl la xa) :: (.val (.int .i64 ((la : Nat) : Int)) :: (.val (.int .i64 i) :: (.val (.bool (decide (i < ((la : Nat) : Int)))) :: (.val (.int .i64 i) :: (.mem (List.drop (Int.toNat i * 1) xa) :: (.val (.int .u32 x) :: (dds 46 []))))))))))))))))))) (ex := .norm) (ps := [0 ≤ i ∧ i < ((la : Nat) : Int), takeA (List.drop (Int.toNat i * 1) xa) 0 1 true = some (.int .u32 x)]) TWB_holds 300 [.v (.int .u32 x)] [4, 5, 7, 8, 9, 10, 11, 41, 42, 43, 44, 45, 46, 47] (by kernel_rfl) ⟨hi, hx, trivial⟩)
    (RunsW.seq (RunsW.script (t := (dds 4 (.box [.bool false, .sl 0 []] :: (.val (.bool na) :: (dds 1 (.val (.bool nb) :: (.val (.sl lb xb) :: (.own 1 n cs :: (.val (.int .i64 i) :: (.val (.int .u32 x) :: (.val (.int .u64 0) :: (dds 28 (.val (.sl la xa) :: (.val (.int .i64 ((la : Nat) : Int)) :: (.val (.int .i64 i) :: (.val (.bool (decide (i < ((la : Nat) : Int)))) :: (.val (.int .i64 i) :: (.mem (List.drop (Int.toNat i * 1) xa) :: (.val (.int .u32 x) :: (dds 46 [])))))))))))))))))))) (ex := .norm) (ps := []) TWB_holds 300 [] [4, 5, 7, 8, 9, 10, 11, 12, 41, 42, 43, 44, 45, 46, 47] (by kernel_rfl) trivial)
    (RunsW.seq (RunsW.seq (RunsW.script (t := (dds 4 (.box [.bool false, .sl 0 []] :: (.val (.bool na) :: (dds 1 (.val (.bool nb) :: (.val (.sl lb xb) :: (.own 1 n cs :: (.val (.int .i64 i) :: (.val (.int .u32 x) :: (.val (.int .u64 0) :: (dds 28 (.val (.sl la xa) :: (.val (.int .i64 ((la : Nat) : Int)) :: (.val (.int .i64 i) :: (dds 4 (.val (.sl lb xb) :: (.val (.int .i64 ((lb : Nat) : Int)) :: (.val (.int .i64 0) :: (dds 43 [])))))))))))))))))))) (ex := .norm) (ps := []) TWB_holds 300 [] [4, 5, 7, 8, 9, 10, 11, 12, 41, 42, 43, 48, 49, 50] (by kernel_rfl) trivial)
    (RunsW.block hl))
    (RunsW.script (t := (dds 4 (.box [.bool false, .sl 0 []] :: (.val (.bool na) :: (dds 1 (.val (.bool nb) :: (.val (.sl lb xb) :: (.own 1 n es :: (.val (.int .i64 i) :: (.val (.int .u32 x) :: (.val (.int .u64 c) :: (dds 28 (.val (.sl la xa) :: (.val (.int .i64 ((la : Nat) : Int)) :: (.val (.int .i64 i) :: (dds 4 (.val (.sl lb xb) :: (.val (.int .i64 ((lb : Nat) : Int)) :: (.val (.int .i64 k) :: (dds 29 (.dup 9 :: (.val (.int .i64 i) :: (.val (.sl lb xb) :: (.val (.int .i64 ((lb : Nat) : Int)) :: (.val (.int .i64 (IntKind.i64.wrap (i + ((lb : Nat) : Int)))) :: (.val (.int .u64 c) :: (.val (.int .u32 (IntKind.u32.wrap c)) :: (.ptr 9 (Int.toNat (IntKind.i64.wrap (i + ((lb : Nat) : Int))) * 1) :: (dds 6 []))))))))))))))))))))))))))))) (ex := .norm) (ps := [0 ≤ (IntKind.i64.wrap (i + ((lb : Nat) : Int))) ∧ (IntKind.i64.wrap (i + ((lb : Nat) : Int))) < ((n : Nat) : Int), layA ds (Int.toNat (IntKind.i64.wrap (i + ((lb : Nat) : Int))) * 1) [.int .u32 (IntKind.u32.wrap c)] = some es]) TWB_holds 300 [.l es] [4, 5, 7, 8, 9, 10, 11, 12, 41, 42, 43, 48, 49, 50, 80, 81, 82, 83, 84, 85, 86, 87] (by kernel_rfl) ⟨hix, hst, trivial⟩)))))
    (RunsW.script (t := (dds 4 (.box [.bool false, .sl 0 []] :: (.val (.bool na) :: (dds 1 (.val (.bool nb) :: (.val (.sl lb xb) :: (.own 1 n es :: (dds 31 (.val (.sl la xa) :: (.val (.int .i64 ((la : Nat) : Int)) :: (.val (.int .i64 (IntKind.i64.wrap (i + 1))) :: (dds 50 []))))))))))))) (ex := .norm) (ps := []) TWB_holds 300 [] [4, 5, 7, 8, 9, 41, 42, 43] (by kernel_rfl) trivial))))

theorem Try.loop113i (na nb : Bool) (xs ys : List Int) (hx : U32 xs) (hy : U32 ys) (n i : Nat) (hn : n ≤ 1048576) (hib : i + ys.length ≤ n) : ∀ (r k : Nat) (out : List Int) (c : Int), r + k = ys.length → out.length = n → U32 out → 0 ≤ c ∧ c < 4294967296 →
    RunsW Try.ir (.loop Try.c113i) (Try.s113i na nb xs.length (lm xs) ys.length (lm ys) n (lm out) ((i : Nat) : Int) (xs.getD i 0) c ((k : Nat) : Int)) (.exit 2)
      (Try.s113i na nb xs.length (lm xs) ys.length (lm ys) n (lm (innGo (xs.getD i 0) ys i r k out c).1) ((i : Nat) : Int) (xs.getD i 0) (innGo (xs.getD i 0) ys i r k out c).2 ((ys.length : Nat) : Int)) := by
  intro r
  induction r with
  | zero =>
    intro k out c hk _ _ _
    have hk' : k = ys.length := by omega
    subst hk'
    exact RunsW.loop_out (Try.k113i_2 na nb xs.length (lm xs) ys.length (lm ys) n (lm out) ((i : Nat) : Int) (xs.getD i 0) c ((ys.length : Nat) : Int) (by simp)) (by intro e; cases e)
  | succ r ih =>
    intro k out c hk hl hu hc
    have hai := getD_u32 hx i
    have hbk := getD_u32 hy k
    have hok := getD_u32 hu (i + k)
    obtain ⟨w1, w2, w3, w4⟩ := word_bd hai hbk hc hok
    have ei : IntKind.i64.wrap (((i : Nat) : Int) + ((k : Nat) : Int)) = ((i + k : Nat) : Int) := by rw [w64 (by omega) (by omega)]; omega
    have ek : IntKind.i64.wrap (((k : Nat) : Int) + 1) = ((k + 1 : Nat) : Int) := by rw [w64 (by omega) (by omega)]; omega
    have hz := own_lim (xs := out) (i := i + k) (by omega)
    have hyk := take_lim (xs := ys) (i := k) (by omega)
    have hst := lay_lim (xs := out) (i := i + k) (v := (c + (out.getD (i + k) 0 + xs.getD i 0 * ys.getD k 0)) % 4294967296) (by omega)
    have eW : IntKind.u64.wrap (IntKind.u64.wrap (IntKind.u64.wrap (IntKind.u64.wrap (xs.getD i 0) * IntKind.u64.wrap (ys.getD k 0)) + IntKind.u64.wrap (out.getD (i + k) 0)) + c) = c + (out.getD (i + k) 0 + xs.getD i 0 * ys.getD k 0) := by
      have q1 : IntKind.u64.wrap (xs.getD i 0) = xs.getD i 0 := by rw [wu64m]; omega
      have q2 : IntKind.u64.wrap (ys.getD k 0) = ys.getD k 0 := by rw [wu64m]; omega
      have q3 : IntKind.u64.wrap (out.getD (i + k) 0) = out.getD (i + k) 0 := by rw [wu64m]; omega
      rw [q1, q2, q3, wu64m, wu64m, wu64m]
      omega
    have eS : Int.fdiv (c + (out.getD (i + k) 0 + xs.getD i 0 * ys.getD k 0)) (2 ^ (min (Int.toNat 32) (IntKind.bits .u64))) = (c + (out.getD (i + k) 0 + xs.getD i 0 * ys.getD k 0)) / 4294967296 := by
      show Int.fdiv _ 4294967296 = _
      rw [Int.fdiv_eq_ediv_of_nonneg _ (by omega)]
    have h1 := Try.k113i_1 na nb xs.length (lm xs) ys.length (lm ys) n (lm out) ((i : Nat) : Int) (xs.getD i 0) c ((k : Nat) : Int) (lm (out.set (i + k) ((c + (out.getD (i + k) 0 + xs.getD i 0 * ys.getD k 0)) % 4294967296))) (ys.getD k 0) (out.getD (i + k) 0)
      (by simp; omega) (by omega) (by rw [Int.toNat_natCast]; exact hyk) (by rw [ei]; omega) (by rw [ei, Int.toNat_natCast]; exact hz) (by rw [ei]; omega) (by rw [ei, Int.toNat_natCast, eW, wu32]; exact hst)
    rw [eW, eS, ek] at h1
    exact RunsW.loop h1 (ih (k + 1) _ _ (by omega) (by simpa using hl) (u32_set hu (by omega)) (by omega))

theorem Try.loop113 (na nb : Bool) (xs ys : List Int) (hx : U32 xs) (hy : U32 ys) (hN : xs.length + ys.length ≤ 1048576) : ∀ (r i : Nat) (out : List Int), r + i = xs.length → out.length = xs.length + ys.length → U32 out → (∀ j, i + ys.length ≤ j → out.getD j 0 = 0) →
    ∃ out', out'.length = xs.length + ys.length ∧ U32 out' ∧ valL out' = valL out + 4294967296 ^ i * (valL (xs.drop i) * valL ys) ∧
      RunsW Try.ir (.loop Try.c113) (Try.s113 na nb xs.length (lm xs) ys.length (lm ys) (xs.length + ys.length) (lm out) ((i : Nat) : Int)) (.exit 0) (Try.s113 na nb xs.length (lm xs) ys.length (lm ys) (xs.length + ys.length) (lm out') ((xs.length : Nat) : Int)) := by
  intro r
  induction r with
  | zero =>
    intro i out hi hl hu _
    have hi' : i = xs.length := by omega
    subst hi'
    refine ⟨out, hl, hu, by simp [valL], ?_⟩
    exact RunsW.loop_out (Try.ko113_no na nb xs.length (lm xs) ys.length (lm ys) (xs.length + ys.length) (lm out) ((xs.length : Nat) : Int) (by simp)) (by intro e; cases e)
  | succ r ih =>
    intro i out hi hl hu hz
    have hai := getD_u32 hx i
    have hlt : i < xs.length := by omega
    have hin := Try.loop113i na nb xs ys hx hy (xs.length + ys.length) i hN (by omega) ys.length 0 out 0 (by omega) hl hu (by omega)
    obtain ⟨g1, g2, g3, g4, g5⟩ := innGo_ok (i := i) hai hy ys.length 0 out 0 (by omega) (by omega) hu (by omega)
    generalize innGo (xs.getD i 0) ys i ys.length 0 out 0 = q at *
    obtain ⟨ds, c⟩ := q
    dsimp only at g1 g2 g3 g4 g5 hin
    have ei : IntKind.i64.wrap (((i : Nat) : Int) + ((ys.length : Nat) : Int)) = ((i + ys.length : Nat) : Int) := by rw [w64 (by omega) (by omega)]; omega
    have ei1 : IntKind.i64.wrap (((i : Nat) : Int) + 1) = ((i + 1 : Nat) : Int) := by rw [w64 (by omega) (by omega)]; omega
    have ec : IntKind.u32.wrap c = c := by rw [wu32]; omega
    have hst := lay_lim (xs := ds) (i := i + ys.length) (v := c) (by omega)
    have hxi := take_lim (xs := xs) (i := i) hlt
    have h1 := Try.ko113_yes na nb xs.length (lm xs) ys.length (lm ys) (xs.length + ys.length) (lm out) (lm ds) (lm (ds.set (i + ys.length) c)) ((i : Nat) : Int) (xs.getD i 0) c ((ys.length : Nat) : Int) (by simp; omega) (by omega) (by rw [Int.toNat_natCast]; exact hxi) hin (by rw [ei]; omega) (by rw [ei, Int.toNat_natCast, ec]; exact hst)
    rw [ei1] at h1
    obtain ⟨out', k1, k2, k3, k4⟩ := ih (i + 1) (ds.set (i + ys.length) c) (by omega) (by simp; omega) (u32_set g2 g3) (fun j hj => by rw [getD_set_ne (by omega), g5 j (by omega), hz j (by omega)])
    refine ⟨out', k1, k2, ?_, RunsW.loop h1 k4⟩
    have hv : valL (ds.set (i + ys.length) c) = valL out + 4294967296 ^ i * (xs.getD i 0 * valL ys) := by
      rw [valL_set ds _ _ (by omega), g5 _ (Nat.le_refl _), hz _ (Nat.le_refl _)]
      simp only [Nat.add_zero, List.drop_zero, Int.zero_add, Int.sub_zero] at g4 ⊢
      exact g4
    have hd : valL (xs.drop i) = xs.getD i 0 + 4294967296 * valL (xs.drop (i + 1)) := drop_val xs i
    rw [k3, hv, hd, Int.pow_succ]
    generalize (4294967296 : Int) ^ i = p at *
    generalize valL (xs.drop (i + 1)) = V at *
    grind

theorem Try.run113_a (na : Bool) (xs : List Int) (nb : Bool) (ys : List Int) (a b : Int) (h1 : Runs Try.ir 122 [.agg [.bool na, .sl xs.length (lm xs)]] (.tup [.bool (decide (a < 0)), .sl (limbs (Int.natAbs a)).length (lm (limbs (Int.natAbs a)))])) (h2 : Runs Try.ir 122 [.agg [.bool nb, .sl ys.length (lm ys)]] (.tup [.bool (decide (b < 0)), .sl (limbs (Int.natAbs b)).length (lm (limbs (Int.natAbs b)))])) (z : ((((limbs (Int.natAbs a)).length : Nat) : Int) == 0) = true) : Runs Try.ir 113 [.agg [.bool na, .sl xs.length (lm xs)], .agg [.bool nb, .sl ys.length (lm ys)]] (.agg [.bool false, .sl 0 []]) :=
  Runs.script (ps := [Runs Try.ir 122 [.agg [.bool na, .sl xs.length (lm xs)]] (.tup [.bool (decide (a < 0)), .sl ((limbs (Int.natAbs a)).length) (lm (limbs (Int.natAbs a)))]), Runs Try.ir 122 [.agg [.bool nb, .sl ys.length (lm ys)]] (.tup [.bool (decide (b < 0)), .sl ((limbs (Int.natAbs b)).length) (lm (limbs (Int.natAbs b)))]), ((((limbs (Int.natAbs a)).length : Nat) : Int) == 0) = true, true = true]) TWB_holds rfl 300 rfl [.r (.tup [.bool (decide (a < 0)), .sl ((limbs (Int.natAbs a)).length) (lm (limbs (Int.natAbs a)))]), .r (.tup [.bool (decide (b < 0)), .sl ((limbs (Int.natAbs b)).length) (lm (limbs (Int.natAbs b)))]), .b true, .b true] (by kernel_rfl) ⟨h1, h2, z, rfl, trivial⟩

theorem Try.run113_b (na : Bool) (xs : List Int) (nb : Bool) (ys : List Int) (a b : Int) (h1 : Runs Try.ir 122 [.agg [.bool na, .sl xs.length (lm xs)]] (.tup [.bool (decide (a < 0)), .sl (limbs (Int.natAbs a)).length (lm (limbs (Int.natAbs a)))])) (h2 : Runs Try.ir 122 [.agg [.bool nb, .sl ys.length (lm ys)]] (.tup [.bool (decide (b < 0)), .sl (limbs (Int.natAbs b)).length (lm (limbs (Int.natAbs b)))])) (y : ((((limbs (Int.natAbs a)).length : Nat) : Int) == 0) = false) (z : ((((limbs (Int.natAbs b)).length : Nat) : Int) == 0) = true) : Runs Try.ir 113 [.agg [.bool na, .sl xs.length (lm xs)], .agg [.bool nb, .sl ys.length (lm ys)]] (.agg [.bool false, .sl 0 []]) :=
  Runs.script (ps := [Runs Try.ir 122 [.agg [.bool na, .sl xs.length (lm xs)]] (.tup [.bool (decide (a < 0)), .sl ((limbs (Int.natAbs a)).length) (lm (limbs (Int.natAbs a)))]), Runs Try.ir 122 [.agg [.bool nb, .sl ys.length (lm ys)]] (.tup [.bool (decide (b < 0)), .sl ((limbs (Int.natAbs b)).length) (lm (limbs (Int.natAbs b)))]), ((((limbs (Int.natAbs a)).length : Nat) : Int) == 0) = false, ((((limbs (Int.natAbs b)).length : Nat) : Int) == 0) = true]) TWB_holds rfl 300 rfl [.r (.tup [.bool (decide (a < 0)), .sl ((limbs (Int.natAbs a)).length) (lm (limbs (Int.natAbs a)))]), .r (.tup [.bool (decide (b < 0)), .sl ((limbs (Int.natAbs b)).length) (lm (limbs (Int.natAbs b)))]), .b false, .b true] (by kernel_rfl) ⟨h1, h2, y, z, trivial⟩

theorem Try.run113_c (na : Bool) (xs : List Int) (nb : Bool) (ys : List Int) (a b : Int) (h1 : Runs Try.ir 122 [.agg [.bool na, .sl xs.length (lm xs)]] (.tup [.bool (decide (a < 0)), .sl (limbs (Int.natAbs a)).length (lm (limbs (Int.natAbs a)))])) (h2 : Runs Try.ir 122 [.agg [.bool nb, .sl ys.length (lm ys)]] (.tup [.bool (decide (b < 0)), .sl (limbs (Int.natAbs b)).length (lm (limbs (Int.natAbs b)))])) (out : List Int) (r : Int) (y : ((((limbs (Int.natAbs a)).length : Nat) : Int) == 0) = false) (z : ((((limbs (Int.natAbs b)).length : Nat) : Int) == 0) = false)
    (hmk : 0 ≤ IntKind.i64.wrap ((((limbs (Int.natAbs a)).length : Nat) : Int) + (((limbs (Int.natAbs b)).length : Nat) : Int)) ∧ IntKind.i64.wrap ((((limbs (Int.natAbs a)).length : Nat) : Int) + (((limbs (Int.natAbs b)).length : Nat) : Int)) ≤ 1048576)
    (hl : RunsW Try.ir (.loop Try.c113) (Try.s113 (decide (a < 0)) (decide (b < 0)) (limbs (Int.natAbs a)).length (lm (limbs (Int.natAbs a))) (limbs (Int.natAbs b)).length (lm (limbs (Int.natAbs b))) (Int.toNat (IntKind.i64.wrap ((((limbs (Int.natAbs a)).length : Nat) : Int) + (((limbs (Int.natAbs b)).length : Nat) : Int)))) (replA [.int .u32 0] (Int.toNat (IntKind.i64.wrap ((((limbs (Int.natAbs a)).length : Nat) : Int) + (((limbs (Int.natAbs b)).length : Nat) : Int))))) 0) (.exit 0) (Try.s113 (decide (a < 0)) (decide (b < 0)) (limbs (Int.natAbs a)).length (lm (limbs (Int.natAbs a))) (limbs (Int.natAbs b)).length (lm (limbs (Int.natAbs b))) (Int.toNat (IntKind.i64.wrap ((((limbs (Int.natAbs a)).length : Nat) : Int) + (((limbs (Int.natAbs b)).length : Nat) : Int)))) (lm out) (((limbs (Int.natAbs a)).length : Nat) : Int)))
    (h3 : Runs Try.ir 133 [.bool (!((decide (a < 0)) == (decide (b < 0)))), .sl (Int.toNat (IntKind.i64.wrap ((((limbs (Int.natAbs a)).length : Nat) : Int) + (((limbs (Int.natAbs b)).length : Nat) : Int)))) (lm out)] (.agg [.bool (decide (r < 0)), .sl ((limbs (Int.natAbs r)).length) (lm (limbs (Int.natAbs r)))])) : Runs Try.ir 113 [.agg [.bool na, .sl xs.length (lm xs)], .agg [.bool nb, .sl ys.length (lm ys)]] (.agg [.bool (decide (r < 0)), .sl ((limbs (Int.natAbs r)).length) (lm (limbs (Int.natAbs r)))]) :=
  Runs.of_bodyW (fn := Try.i113) (s := (dds 4 (.box [.bool (decide (r < 0)), .sl ((limbs (Int.natAbs r)).length) (lm (limbs (Int.natAbs r)))] :: (.val (.bool (decide (a < 0))) :: (dds 1 (.val (.bool (decide (b < 0))) :: (.val (.sl ((limbs (Int.natAbs b)).length) (lm (limbs (Int.natAbs b)))) :: (.val (.sl (Int.toNat (IntKind.i64.wrap ((((limbs (Int.natAbs a)).length : Nat) : Int) + (((limbs (Int.natAbs b)).length : Nat) : Int)))) (lm out)) :: (dds 31 (.val (.sl ((limbs (Int.natAbs a)).length) (lm (limbs (Int.natAbs a)))) :: (.val (.int .i64 (((limbs (Int.natAbs a)).length : Nat) : Int)) :: (.val (.int .i64 (((limbs (Int.natAbs a)).length : Nat) : Int)) :: (dds 45 (.val (.bool (decide (a < 0))) :: (.val (.bool (decide (b < 0))) :: (.val (.bool (!((decide (a < 0)) == (decide (b < 0))))) :: (.val (.sl (Int.toNat (IntKind.i64.wrap ((((limbs (Int.natAbs a)).length : Nat) : Int) + (((limbs (Int.natAbs b)).length : Nat) : Int)))) (lm out)) :: (.val (.agg [.bool (decide (r < 0)), .sl ((limbs (Int.natAbs r)).length) (lm (limbs (Int.natAbs r)))]) :: [])))))))))))))))))) (ex := .ret) rfl rfl
    (RunsW.seq (RunsW.script (t := (.val (.agg [.bool na, .sl xs.length (lm xs)]) :: (.val (.agg [.bool nb, .sl ys.length (lm ys)]) :: (.box [.bool na, .sl xs.length (lm xs)] :: (.box [.bool nb, .sl ys.length (lm ys)] :: (.box [.bool false, .sl 0 []] :: (dds 89 []))))))) (ex := .norm) (ps := []) TWB_holds 300 [] [0, 1, 2, 3, 4] (by kernel_rfl) trivial)
    (RunsW.seq (RunsW.script (t := (.val (.agg [.bool na, .sl xs.length (lm xs)]) :: (.val (.agg [.bool nb, .sl ys.length (lm ys)]) :: (.box [.bool na, .sl xs.length (lm xs)] :: (.box [.bool nb, .sl ys.length (lm ys)] :: (.box [.bool false, .sl 0 []] :: (.val (.bool (decide (a < 0))) :: (.val (.sl ((limbs (Int.natAbs a)).length) (lm (limbs (Int.natAbs a)))) :: (dds 9 (.val (.tup [.bool (decide (a < 0)), .sl ((limbs (Int.natAbs a)).length) (lm (limbs (Int.natAbs a)))]) :: (.val (.agg [.bool na, .sl xs.length (lm xs)]) :: (.val (.tup [.bool (decide (a < 0)), .sl ((limbs (Int.natAbs a)).length) (lm (limbs (Int.natAbs a)))]) :: (.val (.bool (decide (a < 0))) :: (.val (.sl ((limbs (Int.natAbs a)).length) (lm (limbs (Int.natAbs a)))) :: (dds 73 []))))))))))))))) (ex := .norm) (ps := [Runs Try.ir 122 [.agg [.bool na, .sl xs.length (lm xs)]] (.tup [.bool (decide (a < 0)), .sl ((limbs (Int.natAbs a)).length) (lm (limbs (Int.natAbs a)))])]) TWB_holds 300 [.r (.tup [.bool (decide (a < 0)), .sl ((limbs (Int.natAbs a)).length) (lm (limbs (Int.natAbs a)))])] [0, 1, 2, 3, 4, 5, 6, 16, 17, 18, 19, 20] (by kernel_rfl) ⟨h1, trivial⟩)
    (RunsW.seq (RunsW.script (t := (.val (.agg [.bool na, .sl xs.length (lm xs)]) :: (.val (.agg [.bool nb, .sl ys.length (lm ys)]) :: (.box [.bool na, .sl xs.length (lm xs)] :: (.box [.bool nb, .sl ys.length (lm ys)] :: (.box [.bool false, .sl 0 []] :: (.val (.bool (decide (a < 0))) :: (.val (.sl ((limbs (Int.natAbs a)).length) (lm (limbs (Int.natAbs a)))) :: (.val (.bool (decide (b < 0))) :: (.val (.sl ((limbs (Int.natAbs b)).length) (lm (limbs (Int.natAbs b)))) :: (dds 7 (.val (.tup [.bool (decide (a < 0)), .sl ((limbs (Int.natAbs a)).length) (lm (limbs (Int.natAbs a)))]) :: (.val (.agg [.bool na, .sl xs.length (lm xs)]) :: (.val (.tup [.bool (decide (a < 0)), .sl ((limbs (Int.natAbs a)).length) (lm (limbs (Int.natAbs a)))]) :: (.val (.bool (decide (a < 0))) :: (.val (.sl ((limbs (Int.natAbs a)).length) (lm (limbs (Int.natAbs a)))) :: (.val (.tup [.bool (decide (b < 0)), .sl ((limbs (Int.natAbs b)).length) (lm (limbs (Int.natAbs b)))]) :: (.val (.agg [.bool nb, .sl ys.length (lm ys)]) :: (.val (.tup [.bool (decide (b < 0)), .sl ((limbs (Int.natAbs b)).length) (lm (limbs (Int.natAbs b)))]) :: (.val (.bool (decide (b < 0))) :: (.val (.sl ((limbs (Int.natAbs b)).length) (lm (limbs (Int.natAbs b)))) :: (dds 68 [])))))))))))))))))))))) (ex := .norm) (ps := [Runs Try.ir 122 [.agg [.bool nb, .sl ys.length (lm ys)]] (.tup [.bool (decide (b < 0)), .sl ((limbs (Int.natAbs b)).length) (lm (limbs (Int.natAbs b)))])]) TWB_holds 300 [.r (.tup [.bool (decide (b < 0)), .sl ((limbs (Int.natAbs b)).length) (lm (limbs (Int.natAbs b)))])] [0, 1, 2, 3, 4, 5, 6, 7, 8, 16, 17, 18, 19, 20, 21, 22, 23, 24, 25] (by kernel_rfl) ⟨h2, trivial⟩)
    (RunsW.seq (RunsW.script (t := (.val (.agg [.bool na, .sl xs.length (lm xs)]) :: (.val (.agg [.bool nb, .sl ys.length (lm ys)]) :: (.box [.bool na, .sl xs.length (lm xs)] :: (.box [.bool nb, .sl ys.length (lm ys)] :: (.box [.bool false, .sl 0 []] :: (.val (.bool (decide (a < 0))) :: (.val (.sl ((limbs (Int.natAbs a)).length) (lm (limbs (Int.natAbs a)))) :: (.val (.bool (decide (b < 0))) :: (.val (.sl ((limbs (Int.natAbs b)).length) (lm (limbs (Int.natAbs b)))) :: (dds 7 (.val (.tup [.bool (decide (a < 0)), .sl ((limbs (Int.natAbs a)).length) (lm (limbs (Int.natAbs a)))]) :: (.val (.agg [.bool na, .sl xs.length (lm xs)]) :: (.val (.tup [.bool (decide (a < 0)), .sl ((limbs (Int.natAbs a)).length) (lm (limbs (Int.natAbs a)))]) :: (.val (.bool (decide (a < 0))) :: (.val (.sl ((limbs (Int.natAbs a)).length) (lm (limbs (Int.natAbs a)))) :: (.val (.tup [.bool (decide (b < 0)), .sl ((limbs (Int.natAbs b)).length) (lm (limbs (Int.natAbs b)))]) :: (.val (.agg [.bool nb, .sl ys.length (lm ys)]) :: (.val (.tup [.bool (decide (b < 0)), .sl ((limbs (Int.natAbs b)).length) (lm (limbs (Int.natAbs b)))]) :: (.val (.bool (decide (b < 0))) :: (.val (.sl ((limbs (Int.natAbs b)).length) (lm (limbs (Int.natAbs b)))) :: (.val (.sl ((limbs (Int.natAbs a)).length) (lm (limbs (Int.natAbs a)))) :: (.val (.int .i64 (((limbs (Int.natAbs a)).length : Nat) : Int)) :: (.val (.bool ((((limbs (Int.natAbs a)).length : Nat) : Int) == 0)) :: (.val (.bool ((((limbs (Int.natAbs a)).length : Nat) : Int) == 0)) :: (.val (.sl ((limbs (Int.natAbs b)).length) (lm (limbs (Int.natAbs b)))) :: (.val (.int .i64 (((limbs (Int.natAbs b)).length : Nat) : Int)) :: (.val (.bool ((((limbs (Int.natAbs b)).length : Nat) : Int) == 0)) :: (.val (.bool ((((limbs (Int.natAbs b)).length : Nat) : Int) == 0)) :: (dds 60 [])))))))))))))))))))))))))))))) (ex := .norm) (ps := [((((limbs (Int.natAbs a)).length : Nat) : Int) == 0) = false, ((((limbs (Int.natAbs b)).length : Nat) : Int) == 0) = false]) TWB_holds 300 [.b false, .b false] [0, 1, 2, 3, 4, 5, 6, 7, 8, 16, 17, 18, 19, 20, 21, 22, 23, 24, 25, 26, 27, 28, 29, 30, 31, 32, 33] (by kernel_rfl) ⟨y, z, trivial⟩)
    (RunsW.seq (RunsW.script (t := (.val (.agg [.bool na, .sl xs.length (lm xs)]) :: (.val (.agg [.bool nb, .sl ys.length (lm ys)]) :: (.box [.bool na, .sl xs.length (lm xs)] :: (.box [.bool nb, .sl ys.length (lm ys)] :: (.box [.bool false, .sl 0 []] :: (.val (.bool (decide (a < 0))) :: (.val (.sl ((limbs (Int.natAbs a)).length) (lm (limbs (Int.natAbs a)))) :: (.val (.bool (decide (b < 0))) :: (.val (.sl ((limbs (Int.natAbs b)).length) (lm (limbs (Int.natAbs b)))) :: (.own 1 (Int.toNat (IntKind.i64.wrap ((((limbs (Int.natAbs a)).length : Nat) : Int) + (((limbs (Int.natAbs b)).length : Nat) : Int)))) (replA [.int .u32 0] (Int.toNat (IntKind.i64.wrap ((((limbs (Int.natAbs a)).length : Nat) : Int) + (((limbs (Int.natAbs b)).length : Nat) : Int))))) :: (dds 6 (.val (.tup [.bool (decide (a < 0)), .sl ((limbs (Int.natAbs a)).length) (lm (limbs (Int.natAbs a)))]) :: (.val (.agg [.bool na, .sl xs.length (lm xs)]) :: (.val (.tup [.bool (decide (a < 0)), .sl ((limbs (Int.natAbs a)).length) (lm (limbs (Int.natAbs a)))]) :: (.val (.bool (decide (a < 0))) :: (.val (.sl ((limbs (Int.natAbs a)).length) (lm (limbs (Int.natAbs a)))) :: (.val (.tup [.bool (decide (b < 0)), .sl ((limbs (Int.natAbs b)).length) (lm (limbs (Int.natAbs b)))]) :: (.val (.agg [.bool nb, .sl ys.length (lm ys)]) :: (.val (.tup [.bool (decide (b < 0)), .sl ((limbs (Int.natAbs b)).length) (lm (limbs (Int.natAbs b)))]) :: (.val (.bool (decide (b < 0))) :: (.val (.sl ((limbs (Int.natAbs b)).length) (lm (limbs (Int.natAbs b)))) :: (.val (.sl ((limbs (Int.natAbs a)).length) (lm (limbs (Int.natAbs a)))) :: (.val (.int .i64 (((limbs (Int.natAbs a)).length : Nat) : Int)) :: (.val (.bool ((((limbs (Int.natAbs a)).length : Nat) : Int) == 0)) :: (.val (.bool ((((limbs (Int.natAbs a)).length : Nat) : Int) == 0)) :: (.val (.sl ((limbs (Int.natAbs b)).length) (lm (limbs (Int.natAbs b)))) :: (.val (.int .i64 (((limbs (Int.natAbs b)).length : Nat) : Int)) :: (.val (.bool ((((limbs (Int.natAbs b)).length : Nat) : Int) == 0)) :: (.val (.bool ((((limbs (Int.natAbs b)).length : Nat) : Int) == 0)) :: (dds 1 (.val (.sl ((limbs (Int.natAbs a)).length) (lm (limbs (Int.natAbs a)))) :: (.val (.int .i64 (((limbs (Int.natAbs a)).length : Nat) : Int)) :: (.val (.sl ((limbs (Int.natAbs b)).length) (lm (limbs (Int.natAbs b)))) :: (.val (.int .i64 (((limbs (Int.natAbs b)).length : Nat) : Int)) :: (.val (.int .i64 (IntKind.i64.wrap ((((limbs (Int.natAbs a)).length : Nat) : Int) + (((limbs (Int.natAbs b)).length : Nat) : Int)))) :: (dds 54 []))))))))))))))))))))))))))))))))))))) (ex := .norm) (ps := [0 ≤ (IntKind.i64.wrap ((((limbs (Int.natAbs a)).length : Nat) : Int) + (((limbs (Int.natAbs b)).length : Nat) : Int))) ∧ (IntKind.i64.wrap ((((limbs (Int.natAbs a)).length : Nat) : Int) + (((limbs (Int.natAbs b)).length : Nat) : Int))) ≤ 1048576]) TWB_holds 300 [] ((0) :: (1) :: (2) :: (3) :: (4) :: (5) :: (6) :: (7) :: (8) :: (9) :: (16) :: (17) :: (18) :: (19) :: (20) :: (21) :: (22) :: (23) :: (24) :: (25) :: (26) :: (27) :: (28) :: (29) :: (30) :: (31) :: (32) :: (33) :: (35) :: (36) :: (37) :: (38) :: (39) :: []) (by kernel_rfl) ⟨hmk, trivial⟩)
    (RunsW.seq (RunsW.seq (RunsW.script (t := (dds 4 (.box [.bool false, .sl 0 []] :: (.val (.bool (decide (a < 0))) :: (dds 1 (.val (.bool (decide (b < 0))) :: (.val (.sl ((limbs (Int.natAbs b)).length) (lm (limbs (Int.natAbs b)))) :: (.own 1 (Int.toNat (IntKind.i64.wrap ((((limbs (Int.natAbs a)).length : Nat) : Int) + (((limbs (Int.natAbs b)).length : Nat) : Int)))) (replA [.int .u32 0] (Int.toNat (IntKind.i64.wrap ((((limbs (Int.natAbs a)).length : Nat) : Int) + (((limbs (Int.natAbs b)).length : Nat) : Int))))) :: (dds 31 (.val (.sl ((limbs (Int.natAbs a)).length) (lm (limbs (Int.natAbs a)))) :: (.val (.int .i64 (((limbs (Int.natAbs a)).length : Nat) : Int)) :: (.val (.int .i64 0) :: (dds 50 []))))))))))))) (ex := .norm) (ps := []) TWB_holds 300 [] [4, 5, 7, 8, 9, 41, 42, 43] (by kernel_rfl) trivial)
    (RunsW.block hl))
    (RunsW.script (t := (dds 4 (.box [.bool (decide (r < 0)), .sl ((limbs (Int.natAbs r)).length) (lm (limbs (Int.natAbs r)))] :: (.val (.bool (decide (a < 0))) :: (dds 1 (.val (.bool (decide (b < 0))) :: (.val (.sl ((limbs (Int.natAbs b)).length) (lm (limbs (Int.natAbs b)))) :: (.val (.sl (Int.toNat (IntKind.i64.wrap ((((limbs (Int.natAbs a)).length : Nat) : Int) + (((limbs (Int.natAbs b)).length : Nat) : Int)))) (lm out)) :: (dds 31 (.val (.sl ((limbs (Int.natAbs a)).length) (lm (limbs (Int.natAbs a)))) :: (.val (.int .i64 (((limbs (Int.natAbs a)).length : Nat) : Int)) :: (.val (.int .i64 (((limbs (Int.natAbs a)).length : Nat) : Int)) :: (dds 45 (.val (.bool (decide (a < 0))) :: (.val (.bool (decide (b < 0))) :: (.val (.bool (!((decide (a < 0)) == (decide (b < 0))))) :: (.val (.sl (Int.toNat (IntKind.i64.wrap ((((limbs (Int.natAbs a)).length : Nat) : Int) + (((limbs (Int.natAbs b)).length : Nat) : Int)))) (lm out)) :: (.val (.agg [.bool (decide (r < 0)), .sl ((limbs (Int.natAbs r)).length) (lm (limbs (Int.natAbs r)))]) :: [])))))))))))))))))) (ex := .ret) (ps := [Runs Try.ir 133 [.bool (!((decide (a < 0)) == (decide (b < 0)))), .sl (Int.toNat (IntKind.i64.wrap ((((limbs (Int.natAbs a)).length : Nat) : Int) + (((limbs (Int.natAbs b)).length : Nat) : Int)))) (lm out)] (.agg [.bool (decide (r < 0)), .sl ((limbs (Int.natAbs r)).length) (lm (limbs (Int.natAbs r)))])]) TWB_holds 300 [.r (.agg [.bool (decide (r < 0)), .sl ((limbs (Int.natAbs r)).length) (lm (limbs (Int.natAbs r)))])] [4, 5, 7, 8, 9, 41, 42, 43, 89, 90, 91, 92, 93] (by kernel_rfl) ⟨h3, trivial⟩))))))) (by intro i e; cases e) rfl
theorem rv_times (a b : Int) (zs : List Int) (h : valL zs = ((a.natAbs : Nat) : Int) * ((b.natAbs : Nat) : Int)) : rv (!(decide (a < 0) == decide (b < 0))) zs = a * b := by
  unfold rv
  rw [h]
  by_cases g1 : a < 0 <;> by_cases g2 : b < 0
  · have e1 : ((a.natAbs : Nat) : Int) = -a := by omega
    have e2 : ((b.natAbs : Nat) : Int) = -b := by omega
    rw [e1, e2]; simp [g1, g2] <;> grind
  · have e1 : ((a.natAbs : Nat) : Int) = -a := by omega
    have e2 : ((b.natAbs : Nat) : Int) = b := by omega
    rw [e1, e2]; simp [g1, g2] <;> grind
  · have e1 : ((a.natAbs : Nat) : Int) = a := by omega
    have e2 : ((b.natAbs : Nat) : Int) = -b := by omega
    rw [e1, e2]; simp [g1, g2] <;> grind
  · have e1 : ((a.natAbs : Nat) : Int) = a := by omega
    have e2 : ((b.natAbs : Nat) : Int) = b := by omega
    rw [e1, e2]; simp [g1, g2]
theorem wmul_run {na nb : Bool} {xs ys : List Int} (hx : U32 xs) (hy : U32 ys) (hN : xs.length + ys.length ≤ 1048576) : Runs Try.ir 113 [.agg [.bool na, .sl xs.length (lm xs)], .agg [.bool nb, .sl ys.length (lm ys)]] (bigAV (rv na xs * rv nb ys)) := by
  have l1 := rv_len (neg := na) hx
  have l2 := rv_len (neg := nb) hy
  have k1 := limbs_run (neg := na) hx (by omega)
  have k2 := limbs_run (neg := nb) hy (by omega)
  generalize rv na xs = a at *
  generalize rv nb ys = b at *
  have z1 := limbs_zero_len a.natAbs
  have z2 := limbs_zero_len b.natAbs
  by_cases ha : a = 0
  · have h := Try.run113_a na xs nb ys a b k1 k2 (by rw [beq_iff_eq]; omega)
    rw [ha, Int.zero_mul]
    exact h
  by_cases hb : b = 0
  · have h := Try.run113_b na xs nb ys a b k1 k2 (by rw [beq_eq_false_iff_ne]; omega) (by rw [beq_iff_eq]; omega)
    rw [hb, Int.mul_zero]
    exact h
  have e1 : IntKind.i64.wrap ((((limbs (Int.natAbs a)).length : Nat) : Int) + (((limbs (Int.natAbs b)).length : Nat) : Int)) = (((limbs (Int.natAbs a)).length + (limbs (Int.natAbs b)).length : Nat) : Int) := by rw [w64 (by omega) (by omega)]; omega
  have e2 : (Int.toNat (IntKind.i64.wrap ((((limbs (Int.natAbs a)).length : Nat) : Int) + (((limbs (Int.natAbs b)).length : Nat) : Int)))) = (limbs (Int.natAbs a)).length + (limbs (Int.natAbs b)).length := by rw [e1, Int.toNat_natCast]
  obtain ⟨out, o1, o2, o3, o4⟩ := Try.loop113 (decide (a < 0)) (decide (b < 0)) (limbs (Int.natAbs a)) (limbs (Int.natAbs b)) (big_u32 _) (big_u32 _) (by omega) (limbs (Int.natAbs a)).length 0 (List.replicate ((limbs (Int.natAbs a)).length + (limbs (Int.natAbs b)).length) 0) (by omega) (by simp) (u32_zeros _) (fun j _ => getD_zeros _ j)
  have hv : valL out = ((a.natAbs : Nat) : Int) * ((b.natAbs : Nat) : Int) := by rw [o3, valL_zeros]; simp [limbs_val]
  have h3 := made_run (neg := !(decide (a < 0) == decide (b < 0))) o2 (by omega)
  rw [rv_times a b out hv, o1] at h3
  exact Try.run113_c na xs nb ys a b k1 k2 out _ (by rw [beq_eq_false_iff_ne]; omega) (by rw [beq_eq_false_iff_ne]; omega) (by rw [e1]; omega) (by rw [e2, repl_lim]; exact o4) (by rw [e2]; exact h3)
theorem wmul_big {a b : Int} (hN : (limbs a.natAbs).length + (limbs b.natAbs).length ≤ 1048576) : Runs Try.ir 113 [bigAV a, bigAV b] (bigAV (a * b)) := by
  have := wmul_run (na := decide (a < 0)) (nb := decide (b < 0)) (big_u32 a.natAbs) (big_u32 b.natAbs) hN
  rwa [rv_big, rv_big] at this

def TWC : Table := TWB
theorem TWC_holds : THolds Try.ir TWC := TWB_holds
end Go.Proofs.Ythnnfemologhfaa
