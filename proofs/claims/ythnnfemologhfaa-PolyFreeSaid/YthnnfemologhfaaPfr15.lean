/- Texts of the proof of PolyFree, packed by pack.py: part 15 of 19. -/
import Derived.KernelRfl
import Derived.Test.YthnnfemologhfaaPfr14
namespace Go.Proofs.Ythnnfemologhfaa
open Go.Ai
set_option maxRecDepth 100000
def Try.c74 : ICode := .seq (.region false [oB 12 .lss 11 10])
  (.seq (.cond (.t 12) (.skip)
  (.exit 0))
  (.seq (.block 1 (.seq (.region false [oM 13 11,
   o1 14 (.ixa 9 (.t 11) 1),
   o1 15 (.ld 14 14 1 true),
   oM 4 13,
   oM 5 15])
  (.region false [o1 16 (.cpy 3),
   oM 17 4,
   oM 18 5,
   oC 19 94 [18],
   o1 20 (.ixo 16 3 (.t 17) 2),
   oN (.st 20 3 2 (.t 19))])))
  (.region false [o1 21 (.bin .add (.t 11) (.c (.int .i64 1))),
   oM 11 21])))
def Try.s74 (xs : List Int) (k : Nat) (os : List Rn) (l : Int) (i : Int) : State := (dds 3 (.own 2 k (pc os) :: (dds 5 (.val (.sl xs.length (li xs)) :: (.val (.int .i64 l) :: (.val (.int .i64 i) :: (dds 12 [])))))))
theorem Try.k74_1 (xs : List Int) (k : Nat) (os : List Rn) (l : Int) (i : Int)  (c1 : (decide (i < l)) = true)
    (n1 : 0 ≤ i ∧ i < ((xs.length : Nat) : Int))
    (n2 : 0 ≤ i ∧ i < ((k : Nat) : Int))
    (n3 : os.length = k)
    (n4 : Runs Try.ir 94 [.int .i64 (xs.getD (Int.toNat i) 0)] (bigAV (xs.getD (Int.toNat i) 0))) : RunsW Try.ir Try.c74 (Try.s74 xs k os l i) .norm (Try.s74 xs k (os.set (Int.toNat i) (cn (xs.getD (Int.toNat i) 0))) l (IntKind.i64.wrap (i + 1))) :=
  (RunsW.go TAA_holds 400 [.b true, .v (.int .i64 (xs.getD (Int.toNat i) 0)), .r (bigAV (xs.getD (Int.toNat i) 0)), .l (pc (os.set (Int.toNat i) (cn (xs.getD (Int.toNat i) 0))))] [3, 9, 10, 11] (ac c1 (ac n1 (ac (show takeA (List.drop (Int.toNat i * 1) (li xs)) 0 1 true = some (.int .i64 (xs.getD (Int.toNat i) 0)) from (take_liI n1)) (ac n4 (ac n2 (ac (lay_pcI (r := cn (xs.getD (Int.toNat i) 0)) n3 n2) a0)))))) (by kernel_rfl))
theorem Try.k74_2 (xs : List Int) (k : Nat) (os : List Rn) (l : Int) (i : Int)  (c1 : (decide (i < l)) = false) : RunsW Try.ir Try.c74 (Try.s74 xs k os l i) (.exit 0) (Try.s74 xs k os l i) :=
  (RunsW.go TAA_holds 400 [.b false] [3, 9, 10, 11] (ac c1 a0) (by kernel_rfl))
theorem Try.run74 (xs : List Int) (os ts : List Rn) (k1 M : Nat) (n1 : 0 ≤ ((xs.length : Nat) : Int) ∧ ((xs.length : Nat) : Int) ≤ 1048576)
    (hl2 : RunsW Try.ir (.loop Try.c74) ((dds 3 (.own 2 (Int.toNat ((xs.length : Nat) : Int)) (replA [.bool false, .sl 0 []] (Int.toNat ((xs.length : Nat) : Int))) :: (dds 5 (.val (.sl xs.length (li xs)) :: (.val (.int .i64 ((xs.length : Nat) : Int)) :: (.val (.int .i64 0) :: (dds 12 [])))))))) (.exit 0) (Try.s74 xs M os M M))
    (n3 : Runs Try.ir 92 [.sl M (pc os)] (.fresh 2 k1 (pc ts))) : Runs Try.ir 74 [.sl xs.length (li xs)] (.fresh 2 k1 (pc ts)) :=
  Runs.of_bodyW (fn := Try.i74) (s := (dds 2 (.own 2 k1 (pc ts) :: (dds 21 [])))) (ex := .ret) rfl rfl
    (RunsW.seq (RunsW.go (t := (.val (.sl xs.length (li xs)) :: (dds 1 (.own 2 0 [] :: (dds 21 []))))) (ex := .norm) TAA_holds 400 [] [0, 2] a0 (by kernel_rfl))
    (RunsW.seq (RunsW.go (t := (.val (.sl xs.length (li xs)) :: (dds 1 (.own 2 0 [] :: (.own 2 (Int.toNat ((xs.length : Nat) : Int)) (replA [.bool false, .sl 0 []] (Int.toNat ((xs.length : Nat) : Int))) :: (dds 20 [])))))) (ex := .norm) TAA_holds 400 [] [0, 2, 3] (ac n1 a0) (by kernel_rfl))
    (RunsW.seq (RunsW.seq (RunsW.go TAA_holds 400 [] [3, 9, 10, 11] a0 (by kernel_rfl))
    (RunsW.block hl2))
    (RunsW.go TAA_holds 400 [.r (.fresh 2 k1 (pc ts))] [2] (ac n3 a0) (by kernel_rfl))))) (by intro i e; cases e) rfl
theorem aints_run {xs : List Int} (hx : ∀ x ∈ xs, -9223372036854775808 ≤ x ∧ x ≤ 9223372036854775807) (hN : xs.length ≤ 1048576) : Runs Try.ir 74 [.sl xs.length (li xs)] (.fresh 2 (trimL xs).length (pk (trimL xs))) := by
  have hb : ∀ i, -9223372036854775808 ≤ xs.getD i 0 ∧ xs.getD i 0 ≤ 9223372036854775807 := by
    intro i
    rw [List.getD_eq_getElem?_getD]
    cases e : xs[i]? with
    | none => simp
    | some x => exact hx x (List.mem_of_getElem? e)
  have hl := RunsW.up (prog := Try.ir) (c := Try.c74) (ex := .exit 0) (fin := Try.s74 xs xs.length (xs.map cn) (xs.length : Nat) (xs.length : Nat))
    (fun i => Try.s74 xs xs.length (fillTo (fun j => cn (xs.getD j 0)) i (xs.length - i)) (xs.length : Nat) (i : Nat)) xs.length (by intro e; cases e) ?_ ?_ 0 (Nat.zero_le _)
  · simp only [fillTo_zero, Nat.sub_zero] at hl
    have ht := atrim_run (rs := xs.map cn) (fun r h => by
      obtain ⟨x, hx', rfl⟩ := List.mem_map.1 h
      exact (good_cn (fits_i64 (hx x hx'))).mono (by omega)) (by simpa using hN)
    rw [vals_cn, List.length_map] at ht
    exact Try.run74 xs _ _ _ _ (by omega) (by rw [Int.toNat_natCast, repl_pc]; exact hl) ht
  · intro i hi
    obtain ⟨r, hr'⟩ : ∃ r, xs.length - i = r + 1 := ⟨xs.length - i - 1, by omega⟩
    have e2 : xs.length - (i + 1) = r := by omega
    have ei : IntKind.i64.wrap (((i : Nat) : Int) + 1) = ((i + 1 : Nat) : Int) := by rw [w64 (by omega) (by omega)]; omega
    have hset := fillTo_set (fun j => cn (xs.getD j 0)) i r
    have hlen : (fillTo (fun j => cn (xs.getD j 0)) i (r + 1)).length = xs.length := by rw [fillTo_length]; omega
    simp only [hr', e2]
    have k := Try.k74_1 xs xs.length (fillTo (fun j => cn (xs.getD j 0)) i (r + 1)) (xs.length : Nat) (i : Nat) (by simp; omega) (by omega) (by omega) hlen (by rw [Int.toNat_natCast]; exact wof_run (hb i))
    refine k.to rfl ?_
    simp only [Int.toNat_natCast, ei]
    rw [← hset]
  · have k := Try.k74_2 xs xs.length (xs.map cn) (xs.length : Nat) (xs.length : Nat) (by simp)
    simp only [Nat.sub_self, fillTo_full, range_cn]
    exact k
def Try.c72i : ICode := .seq (.seq (.region false [oM 32 9,
   oM 33 6,
   oB 34 .lss 32 33])
  (.cond (.t 34) (.skip)
  (.exit 2)))
  (.seq (.block 3 (.region true [o1 37 (.cpy 7),
   oM 38 8,
   oM 39 9,
   oB 40 .add 38 39,
   o1 41 (.cpy 7),
   oM 42 8,
   oM 43 9,
   oB 44 .add 42 43,
   o1 45 (.ixo 41 7 (.t 44) 2),
   o1 46 (.ld 45 7 2 false),
   oM 47 0,
   oM 48 8,
   o1 49 (.ixa 47 (.t 48) 2),
   o1 50 (.ld 49 49 2 false),
   oM 51 1,
   oM 52 9,
   o1 53 (.ixa 51 (.t 52) 2),
   o1 54 (.ld 53 53 2 false),
   oC 55 113 [50, 54],
   oC 56 121 [46, 55],
   o1 57 (.ixo 37 7 (.t 40) 2),
   oN (.st 57 7 2 (.t 56))]))
  (.region false [oM 35 9,
   o1 36 (.bin .add (.t 35) (.c (.int .i64 1))),
   oM 9 36]))
def Try.s72i (rs : List Rn) (ss : List Rn) (n : Int) (m : Int) (k : Nat) (os : List Rn) (i : Int) (j : Int) : State := (.val (.sl rs.length (pc rs)) :: (.val (.sl ss.length (pc ss)) :: (dds 3 (.val (.int .i64 n) :: (.val (.int .i64 m) :: (.own 2 k (pc os) :: (.val (.int .i64 i) :: (.val (.int .i64 j) :: (dds 50 [])))))))))
theorem Try.k72i_1 (rs : List Rn) (ss : List Rn) (n : Int) (m : Int) (k : Nat) (os : List Rn) (i : Int) (j : Int)  (c1 : (decide (j < m)) = true)
    (n1 : 0 ≤ (IntKind.i64.wrap (i + j)) ∧ (IntKind.i64.wrap (i + j)) < ((k : Nat) : Int))
    (n2 : os.length = k)
    (n3 : 0 ≤ i ∧ i < ((rs.length : Nat) : Int))
    (n4 : 0 ≤ j ∧ j < ((ss.length : Nat) : Int))
    (n5 : Runs Try.ir 113 [rawAV (rs.getD (Int.toNat i) z0), rawAV (ss.getD (Int.toNat j) z0)] (bigAV ((rval (rs.getD (Int.toNat i) z0)) * (rval (ss.getD (Int.toNat j) z0)))))
    (n6 : Runs Try.ir 121 [rawAV (os.getD (Int.toNat (IntKind.i64.wrap (i + j))) z0), bigAV ((rval (rs.getD (Int.toNat i) z0)) * (rval (ss.getD (Int.toNat j) z0)))] (bigAV ((rval (os.getD (Int.toNat (IntKind.i64.wrap (i + j))) z0)) + ((rval (rs.getD (Int.toNat i) z0)) * (rval (ss.getD (Int.toNat j) z0)))))) : RunsW Try.ir Try.c72i (Try.s72i rs ss n m k os i j) .norm (Try.s72i rs ss n m k (os.set (Int.toNat (IntKind.i64.wrap (i + j))) (cn ((rval (os.getD (Int.toNat (IntKind.i64.wrap (i + j))) z0)) + ((rval (rs.getD (Int.toNat i) z0)) * (rval (ss.getD (Int.toNat j) z0)))))) i (IntKind.i64.wrap (j + 1))) :=
  (RunsW.go TAA_holds 400 [.b true, .v (rawAV (os.getD (Int.toNat (IntKind.i64.wrap (i + j))) z0)), .v (rawAV (rs.getD (Int.toNat i) z0)), .v (rawAV (ss.getD (Int.toNat j) z0)), .r (bigAV ((rval (rs.getD (Int.toNat i) z0)) * (rval (ss.getD (Int.toNat j) z0)))), .r (bigAV ((rval (os.getD (Int.toNat (IntKind.i64.wrap (i + j))) z0)) + ((rval (rs.getD (Int.toNat i) z0)) * (rval (ss.getD (Int.toNat j) z0))))), .l (pc (os.set (Int.toNat (IntKind.i64.wrap (i + j))) (cn ((rval (os.getD (Int.toNat (IntKind.i64.wrap (i + j))) z0)) + ((rval (rs.getD (Int.toNat i) z0)) * (rval (ss.getD (Int.toNat j) z0)))))))] [0, 1, 5, 6, 7, 8, 9] (ac c1 (ac n1 (ac (own_pcI n2 n1) (ac n3 (ac (show takeA (List.drop (Int.toNat i * 2) (pc rs)) 0 2 false = some (rawAV (rs.getD (Int.toNat i) z0)) from (take_pcI n3)) (ac n4 (ac (show takeA (List.drop (Int.toNat j * 2) (pc ss)) 0 2 false = some (rawAV (ss.getD (Int.toNat j) z0)) from (take_pcI n4)) (ac n5 (ac n6 (ac n1 (ac (lay_pcI (r := cn ((rval (os.getD (Int.toNat (IntKind.i64.wrap (i + j))) z0)) + ((rval (rs.getD (Int.toNat i) z0)) * (rval (ss.getD (Int.toNat j) z0))))) n2 n1) a0))))))))))) (by kernel_rfl))
theorem Try.k72i_2 (rs : List Rn) (ss : List Rn) (n : Int) (m : Int) (k : Nat) (os : List Rn) (i : Int) (j : Int)  (c1 : (decide (j < m)) = false) : RunsW Try.ir Try.c72i (Try.s72i rs ss n m k os i j) (.exit 2) (Try.s72i rs ss n m k os i j) :=
  (RunsW.go TAA_holds 400 [.b false] [0, 1, 5, 6, 7, 8, 9] (ac c1 a0) (by kernel_rfl))
def Try.c72 : ICode := .seq (.seq (.region false [oM 27 8,
   oM 28 5,
   oB 29 .lss 27 28])
  (.cond (.t 29) (.skip)
  (.exit 0)))
  (.seq (.block 1 (.seq (.region false [o1 9 (.mov (.c (.int .i64 0)))])
  (.block 2 (.loop (.seq (.seq (.region false [oM 32 9,
   oM 33 6,
   oB 34 .lss 32 33])
  (.cond (.t 34) (.skip)
  (.exit 2)))
  (.seq (.block 3 (.region true [o1 37 (.cpy 7),
   oM 38 8,
   oM 39 9,
   oB 40 .add 38 39,
   o1 41 (.cpy 7),
   oM 42 8,
   oM 43 9,
   oB 44 .add 42 43,
   o1 45 (.ixo 41 7 (.t 44) 2),
   o1 46 (.ld 45 7 2 false),
   oM 47 0,
   oM 48 8,
   o1 49 (.ixa 47 (.t 48) 2),
   o1 50 (.ld 49 49 2 false),
   oM 51 1,
   oM 52 9,
   o1 53 (.ixa 51 (.t 52) 2),
   o1 54 (.ld 53 53 2 false),
   oC 55 113 [50, 54],
   oC 56 121 [46, 55],
   o1 57 (.ixo 37 7 (.t 40) 2),
   oN (.st 57 7 2 (.t 56))]))
  (.region false [oM 35 9,
   o1 36 (.bin .add (.t 35) (.c (.int .i64 1))),
   oM 9 36])))))))
  (.region false [oM 30 8,
   o1 31 (.bin .add (.t 30) (.c (.int .i64 1))),
   oM 8 31]))
def Try.s72 (rs : List Rn) (ss : List Rn) (n : Int) (m : Int) (k : Nat) (os : List Rn) (i : Int) : State := (.val (.sl rs.length (pc rs)) :: (.val (.sl ss.length (pc ss)) :: (dds 3 (.val (.int .i64 n) :: (.val (.int .i64 m) :: (.own 2 k (pc os) :: (.val (.int .i64 i) :: (dds 51 []))))))))
theorem Try.k72_1 (rs : List Rn) (ss : List Rn) (n : Int) (m : Int) (k : Nat) (os : List Rn) (i : Int) (ps : List Rn) (c1 : (decide (i < n)) = true)
    (hl1 : RunsW Try.ir (.loop Try.c72i) (Try.s72i rs ss n m k os i 0) (.exit 2) (Try.s72i rs ss n m k ps i m)) : RunsW Try.ir Try.c72 (Try.s72 rs ss n m k os i) .norm (Try.s72 rs ss n m k ps (IntKind.i64.wrap (i + 1))) :=
  (RunsW.seq (RunsW.go (t := (.val (.sl rs.length (pc rs)) :: (.val (.sl ss.length (pc ss)) :: (dds 3 (.val (.int .i64 n) :: (.val (.int .i64 m) :: (.own 2 k (pc os) :: (.val (.int .i64 i) :: (dds 51 []))))))))) (ex := .norm) TAA_holds 400 [.b true] [0, 1, 5, 6, 7, 8] (ac c1 a0) (by kernel_rfl))
    (RunsW.seq (RunsW.block_norm (RunsW.seq (RunsW.go TAA_holds 400 [] [0, 1, 5, 6, 7, 8, 9] a0 (by kernel_rfl))
    (RunsW.block hl1)))
    (RunsW.go TAA_holds 400 [] [0, 1, 5, 6, 7, 8] a0 (by kernel_rfl))))
theorem Try.k72_2 (rs : List Rn) (ss : List Rn) (n : Int) (m : Int) (k : Nat) (os : List Rn) (i : Int)  (c1 : (decide (i < n)) = false) : RunsW Try.ir Try.c72 (Try.s72 rs ss n m k os i) (.exit 0) (Try.s72 rs ss n m k os i) :=
  (RunsW.seq_out (RunsW.go TAA_holds 400 [.b false] [0, 1, 5, 6, 7, 8] (ac c1 a0) (by kernel_rfl)) (by intro e; cases e))
theorem Try.run72_1 (rs ss : List Rn) (drs dss : Int) (c1 : ((IntKind.i64.wrap (drs + 1)) == 0) = true)
    (n1 : Runs Try.ir 62 [.sl rs.length (pc rs)] (.int .i64 drs))
    (n2 : Runs Try.ir 62 [.sl ss.length (pc ss)] (.int .i64 dss)) : Runs Try.ir 72 [.sl rs.length (pc rs), .sl ss.length (pc ss)] (.fresh 2 0 []) :=
  Runs.of_bodyW (fn := Try.i72) (s := (dds 4 (.own 2 0 [] :: (dds 55 [])))) (ex := .ret) rfl rfl
    (RunsW.seq (RunsW.go (t := (.val (.sl rs.length (pc rs)) :: (.val (.sl ss.length (pc ss)) :: (dds 2 (.own 2 0 [] :: (dds 55 [])))))) (ex := .norm) TAA_holds 400 [] [0, 1, 4] a0 (by kernel_rfl))
    (RunsW.seq (RunsW.go (t := (.val (.sl rs.length (pc rs)) :: (.val (.sl ss.length (pc ss)) :: (dds 2 (.own 2 0 [] :: (.val (.int .i64 (IntKind.i64.wrap (drs + 1))) :: (.val (.int .i64 (IntKind.i64.wrap (dss + 1))) :: (dds 53 [])))))))) (ex := .norm) TAA_holds 400 [.r (.int .i64 drs), .r (.int .i64 dss)] [0, 1, 4, 5, 6] (ac n1 (ac n2 a0)) (by kernel_rfl))
    (RunsW.seq_out (RunsW.go TAA_holds 400 [.b true, .b true] [4] (ac c1 (ac (show true = true from rfl) a0)) (by kernel_rfl)) (by intro e; cases e)))) (by intro i e; cases e) rfl
theorem Try.run72_2 (rs ss : List Rn) (drs dss : Int) (c1 : ((IntKind.i64.wrap (drs + 1)) == 0) = false)
    (c2 : ((IntKind.i64.wrap (dss + 1)) == 0) = true)
    (n1 : Runs Try.ir 62 [.sl rs.length (pc rs)] (.int .i64 drs))
    (n2 : Runs Try.ir 62 [.sl ss.length (pc ss)] (.int .i64 dss)) : Runs Try.ir 72 [.sl rs.length (pc rs), .sl ss.length (pc ss)] (.fresh 2 0 []) :=
  Runs.of_bodyW (fn := Try.i72) (s := (dds 4 (.own 2 0 [] :: (dds 55 [])))) (ex := .ret) rfl rfl
    (RunsW.seq (RunsW.go (t := (.val (.sl rs.length (pc rs)) :: (.val (.sl ss.length (pc ss)) :: (dds 2 (.own 2 0 [] :: (dds 55 [])))))) (ex := .norm) TAA_holds 400 [] [0, 1, 4] a0 (by kernel_rfl))
    (RunsW.seq (RunsW.go (t := (.val (.sl rs.length (pc rs)) :: (.val (.sl ss.length (pc ss)) :: (dds 2 (.own 2 0 [] :: (.val (.int .i64 (IntKind.i64.wrap (drs + 1))) :: (.val (.int .i64 (IntKind.i64.wrap (dss + 1))) :: (dds 53 [])))))))) (ex := .norm) TAA_holds 400 [.r (.int .i64 drs), .r (.int .i64 dss)] [0, 1, 4, 5, 6] (ac n1 (ac n2 a0)) (by kernel_rfl))
    (RunsW.seq_out (RunsW.go TAA_holds 400 [.b false, .b true] [4] (ac c1 (ac c2 a0)) (by kernel_rfl)) (by intro e; cases e)))) (by intro i e; cases e) rfl
theorem Try.run72_3 (rs ss os ts : List Rn) (drs dss : Int) (k1 M : Nat) (c1 : ((IntKind.i64.wrap (drs + 1)) == 0) = false)
    (c2 : ((IntKind.i64.wrap (dss + 1)) == 0) = false)
    (n1 : Runs Try.ir 62 [.sl rs.length (pc rs)] (.int .i64 drs))
    (n2 : Runs Try.ir 62 [.sl ss.length (pc ss)] (.int .i64 dss))
    (n3 : 0 ≤ (IntKind.i64.wrap ((IntKind.i64.wrap ((IntKind.i64.wrap (drs + 1)) + (IntKind.i64.wrap (dss + 1)))) - 1)) ∧ (IntKind.i64.wrap ((IntKind.i64.wrap ((IntKind.i64.wrap (drs + 1)) + (IntKind.i64.wrap (dss + 1)))) - 1)) ≤ 1048576)
    (hl4 : RunsW Try.ir (.loop Try.c72) ((.val (.sl rs.length (pc rs)) :: (.val (.sl ss.length (pc ss)) :: (dds 3 (.val (.int .i64 (IntKind.i64.wrap (drs + 1))) :: (.val (.int .i64 (IntKind.i64.wrap (dss + 1))) :: (.own 2 (Int.toNat (IntKind.i64.wrap ((IntKind.i64.wrap ((IntKind.i64.wrap (drs + 1)) + (IntKind.i64.wrap (dss + 1)))) - 1))) (replA [.bool false, .sl 0 []] (Int.toNat (IntKind.i64.wrap ((IntKind.i64.wrap ((IntKind.i64.wrap (drs + 1)) + (IntKind.i64.wrap (dss + 1)))) - 1)))) :: (.val (.int .i64 0) :: (dds 51 []))))))))) (.exit 0) (Try.s72 rs ss (IntKind.i64.wrap (drs + 1)) (IntKind.i64.wrap (dss + 1)) M os (IntKind.i64.wrap (drs + 1))))
    (n5 : Runs Try.ir 92 [.sl M (pc os)] (.fresh 2 k1 (pc ts))) : Runs Try.ir 72 [.sl rs.length (pc rs), .sl ss.length (pc ss)] (.fresh 2 k1 (pc ts)) :=
  Runs.of_bodyW (fn := Try.i72) (s := (dds 4 (.own 2 k1 (pc ts) :: (dds 55 [])))) (ex := .ret) rfl rfl
    (RunsW.seq (RunsW.go (t := (.val (.sl rs.length (pc rs)) :: (.val (.sl ss.length (pc ss)) :: (dds 2 (.own 2 0 [] :: (dds 55 [])))))) (ex := .norm) TAA_holds 400 [] [0, 1, 4] a0 (by kernel_rfl))
    (RunsW.seq (RunsW.go (t := (.val (.sl rs.length (pc rs)) :: (.val (.sl ss.length (pc ss)) :: (dds 2 (.own 2 0 [] :: (.val (.int .i64 (IntKind.i64.wrap (drs + 1))) :: (.val (.int .i64 (IntKind.i64.wrap (dss + 1))) :: (dds 53 [])))))))) (ex := .norm) TAA_holds 400 [.r (.int .i64 drs), .r (.int .i64 dss)] [0, 1, 4, 5, 6] (ac n1 (ac n2 a0)) (by kernel_rfl))
    (RunsW.seq (RunsW.go (t := (.val (.sl rs.length (pc rs)) :: (.val (.sl ss.length (pc ss)) :: (dds 2 (.own 2 0 [] :: (.val (.int .i64 (IntKind.i64.wrap (drs + 1))) :: (.val (.int .i64 (IntKind.i64.wrap (dss + 1))) :: (dds 53 [])))))))) (ex := .norm) TAA_holds 400 [.b false, .b false] [0, 1, 4, 5, 6] (ac c1 (ac c2 a0)) (by kernel_rfl))
    (RunsW.seq (RunsW.go (t := (.val (.sl rs.length (pc rs)) :: (.val (.sl ss.length (pc ss)) :: (dds 2 (.own 2 0 [] :: (.val (.int .i64 (IntKind.i64.wrap (drs + 1))) :: (.val (.int .i64 (IntKind.i64.wrap (dss + 1))) :: (.own 2 (Int.toNat (IntKind.i64.wrap ((IntKind.i64.wrap ((IntKind.i64.wrap (drs + 1)) + (IntKind.i64.wrap (dss + 1)))) - 1))) (replA [.bool false, .sl 0 []] (Int.toNat (IntKind.i64.wrap ((IntKind.i64.wrap ((IntKind.i64.wrap (drs + 1)) + (IntKind.i64.wrap (dss + 1)))) - 1)))) :: (dds 52 []))))))))) (ex := .norm) TAA_holds 400 [] [0, 1, 4, 5, 6, 7] (ac n3 a0) (by kernel_rfl))
    (RunsW.seq (RunsW.seq (RunsW.go TAA_holds 400 [] [0, 1, 5, 6, 7, 8] a0 (by kernel_rfl))
    (RunsW.block hl4))
    (RunsW.go TAA_holds 400 [.r (.fresh 2 k1 (pc ts))] [4] (ac n5 a0) (by kernel_rfl))))))) (by intro i e; cases e) rfl
theorem atimes_run {K : Nat} {rs ss : List Rn} (hr : ∀ r ∈ rs, Good K r) (hs : ∀ r ∈ ss, Good K r) (hK : 2 * K + rs.length < 1048576) (hM : rs.length + ss.length ≤ 1048576) :
    Runs Try.ir 72 [.sl rs.length (pc rs), .sl ss.length (pc ss)] (.fresh 2 (pmul (vals rs) (vals ss)).length (pk (pmul (vals rs) (vals ss)))) := by
  have d1 := degree_run (fun r h => (hr r h).mono (show K ≤ 1048576 by omega)) (by omega)
  have d2 := degree_run (fun r h => (hs r h).mono (show K ≤ 1048576 by omega)) (by omega)
  have l1 := topN_le (vals rs) rs.length
  have l2 := topN_le (vals ss) ss.length
  have e1 : IntKind.i64.wrap ((((topN (vals rs) rs.length : Nat) : Int) - 1) + 1) = ((topN (vals rs) rs.length : Nat) : Int) := by rw [w64 (by omega) (by omega)]; omega
  have e2 : IntKind.i64.wrap ((((topN (vals ss) ss.length : Nat) : Int) - 1) + 1) = ((topN (vals ss) ss.length : Nat) : Int) := by rw [w64 (by omega) (by omega)]; omega
  by_cases z1 : topN (vals rs) rs.length = 0
  · have h := Try.run72_1 rs ss _ _ (by rw [e1, z1]; rfl) d1 d2
    rw [pmul_zero_left (by rw [vals_length]; exact z1)]
    exact h
  by_cases z2 : topN (vals ss) ss.length = 0
  · have h := Try.run72_2 rs ss _ _ (by rw [e1, beq_eq_false_iff_ne]; omega) (by rw [e2, z2]; rfl) d1 d2
    rw [pmul_zero_right (by rw [vals_length]; exact z2)]
    exact h
  have hmul := tOut_mul rs ss _ _ (topN (vals rs) rs.length + topN (vals ss) ss.length - 1) rfl rfl (by omega)
  have hgood := tOut_good (os := List.replicate (topN (vals rs) rs.length + topN (vals ss) ss.length - 1) z0) hr hs (good_zeros _ _) (topN (vals ss) ss.length) (topN (vals rs) rs.length)
  have hlen := tOut_length rs ss (List.replicate (topN (vals rs) rs.length + topN (vals ss) ss.length - 1) z0) (topN (vals ss) ss.length) (topN (vals rs) rs.length)
  rw [List.length_replicate] at hlen
  have key : ∀ a b : Nat, a = topN (vals rs) rs.length → b = topN (vals ss) ss.length → RunsW Try.ir (.loop Try.c72) (Try.s72 rs ss a b (a + b - 1) (List.replicate (a + b - 1) z0) 0) (.exit 0) (Try.s72 rs ss a b (a + b - 1) (tOut rs ss (List.replicate (a + b - 1) z0) b a) a) := by
    intro a b ha hb
    have hl := RunsW.up (prog := Try.ir) (c := Try.c72) (ex := .exit 0) (fin := Try.s72 rs ss a b (a + b - 1) (tOut rs ss (List.replicate (a + b - 1) z0) b a) a)
      (fun i => Try.s72 rs ss a b (a + b - 1) (tOut rs ss (List.replicate (a + b - 1) z0) b i) (i : Nat)) a (by intro e; cases e) ?_ ?_ 0 (Nat.zero_le _)
    · exact hl
    · intro i hi
      have ei : IntKind.i64.wrap (((i : Nat) : Int) + 1) = ((i + 1 : Nat) : Int) := by rw [w64 (by omega) (by omega)]; omega
      have hgo := tOut_good (os := List.replicate (a + b - 1) z0) hr hs (good_zeros _ _) b i
      have hlo := tOut_length rs ss (List.replicate (a + b - 1) z0) b i
      rw [List.length_replicate] at hlo
      have k := Try.k72_1 rs ss a b (a + b - 1) (tOut rs ss (List.replicate (a + b - 1) z0) b i) (i : Nat) (tOut rs ss (List.replicate (a + b - 1) z0) b (i + 1)) (by simp; omega) ?_
      · exact k.to rfl (by rw [ei])
      · rw [tOut]
        generalize tOut rs ss (List.replicate (a + b - 1) z0) b i = os at *
        have hin := RunsW.up (prog := Try.ir) (c := Try.c72i) (ex := .exit 2) (fin := Try.s72i rs ss a b (a + b - 1) (tIn rs ss os i b) i b)
          (fun j => Try.s72i rs ss a b (a + b - 1) (tIn rs ss os i j) (i : Nat) (j : Nat)) b (by intro e; cases e) ?_ ?_ 0 (Nat.zero_le _)
        · exact hin
        · intro j hj
          have ej : IntKind.i64.wrap (((j : Nat) : Int) + 1) = ((j + 1 : Nat) : Int) := by rw [w64 (by omega) (by omega)]; omega
          have eij : IntKind.i64.wrap (((i : Nat) : Int) + ((j : Nat) : Int)) = ((i + j : Nat) : Int) := by rw [w64 (by omega) (by omega)]; omega
          have hli := tIn_length rs ss os i j
          have hfar := tIn_far rs ss os i j (i + j) (Nat.le_refl _)
          obtain ⟨gr1, gr2⟩ := good_getD hr i
          obtain ⟨gs1, gs2⟩ := good_getD hs j
          obtain ⟨go1, go2⟩ := good_getD hgo (i + j)
          have hp := (Fits.mul (good_getD hr i).fits (good_getD hs j).fits).len
          have k := Try.k72i_1 rs ss a b (a + b - 1) (tIn rs ss os i j) (i : Nat) (j : Nat) (by simp; omega) (by rw [eij]; omega) (by omega) (by omega) (by omega)
            (by simp only [Int.toNat_natCast]; exact wmul_run gr1 gs1 (by omega))
            (by
              simp only [Int.toNat_natCast, eij, hfar]
              have := wadd_run (na := (os.getD (i + j) z0).1) (nb := decide (rval (rs.getD i z0) * rval (ss.getD j z0) < 0)) go1 (big_u32 (rval (rs.getD i z0) * rval (ss.getD j z0)).natAbs) (by omega) (by omega)
              rw [rv_big] at this
              exact this)
          refine k.to rfl ?_
          simp only [Int.toNat_natCast, eij, ej, tIn]
        · exact Try.k72i_2 rs ss a b (a + b - 1) (tIn rs ss os i b) (i : Nat) (b : Nat) (by simp)
    · exact Try.k72_2 rs ss a b (a + b - 1) (tOut rs ss (List.replicate (a + b - 1) z0) b a) (a : Nat) (by simp)
  have hl := key _ _ rfl rfl
  have e3 : IntKind.i64.wrap ((IntKind.i64.wrap ((((topN (vals rs) rs.length : Nat) : Int)) + (((topN (vals ss) ss.length : Nat) : Int)))) - 1) = ((topN (vals rs) rs.length + topN (vals ss) ss.length - 1 : Nat) : Int) := by
    rw [w64 (n := ((topN (vals rs) rs.length : Nat) : Int) + ((topN (vals ss) ss.length : Nat) : Int)) (by omega) (by omega), w64 (by omega) (by omega)]; omega
  have ht := atrim_run (fun r h => (hgood r h).mono (show 2 * K + topN (vals rs) rs.length ≤ 1048576 by omega)) (by omega)
  rw [hmul, hlen] at ht
  exact Try.run72_3 rs ss _ _ _ _ _ _ (by rw [e1, beq_eq_false_iff_ne]; omega) (by rw [e2, beq_eq_false_iff_ne]; omega) d1 d2 (by rw [e1, e2, e3]; omega) (by rw [e1, e2, e3, Int.toNat_natCast, repl_pc]; exact hl) ht
end Go.Proofs.Ythnnfemologhfaa

namespace Go.Proofs.Ythnnfemologhfaa
open Go.Ai
set_option maxRecDepth 100000
theorem Try.run63 (rs : List Rn) (n1 : Runs Try.ir 61 [.sl 1 [.sl rs.length (pc rs)]] (.bool false)) : Runs Try.ir 63 [.sl rs.length (pc rs)] (.tup [.sl rs.length (pc rs), .int .i64 0]) :=
  Runs.go (fn := Try.i63) TMC_holds rfl 400 rfl [.r (.bool false), .b false] (ac n1 (ac (show false = false from rfl) a0)) (by kernel_rfl)
theorem Try.run23 (rs : List Rn) (d : Int) (n1 : Runs Try.ir 62 [.sl rs.length (pc rs)] (.int .i64 d)) : Runs Try.ir 23 [.sl rs.length (pc rs)] (.int .i64 d) :=
  Runs.go (fn := Try.i23) TMC_holds rfl 400 rfl [.r (.int .i64 d)] (ac n1 a0) (by kernel_rfl)
theorem Try.run24 (rs ss us : List Rn) (n1 : Runs Try.ir 61 [.sl 2 [.sl rs.length (pc rs), .sl ss.length (pc ss)]] (.bool false))
    (n2 : Runs Try.ir 72 [.sl rs.length (pc rs), .sl ss.length (pc ss)] (.fresh 2 us.length (pc us)))
    (n3 : Runs Try.ir 63 [.sl us.length (pc us)] (.tup [.sl us.length (pc us), .int .i64 0])) : Runs Try.ir 24 [.sl rs.length (pc rs), .sl ss.length (pc ss)] (.tup [.sl us.length (pc us), .int .i64 0]) :=
  Runs.go (fn := Try.i24) TMC_holds rfl 400 rfl [.r (.bool false), .b false, .r (.fresh 2 us.length (pc us)), .r (.tup [.sl us.length (pc us), .int .i64 0])] (ac n1 (ac (show false = false from rfl) (ac n2 (ac n3 a0)))) (by kernel_rfl)
theorem Try.run27 (rs us : List Rn) (n1 : Runs Try.ir 61 [.sl 1 [.sl rs.length (pc rs)]] (.bool false))
    (n2 : Runs Try.ir 75 [.sl rs.length (pc rs)] (.fresh 2 us.length (pc us)))
    (n3 : Runs Try.ir 63 [.sl us.length (pc us)] (.tup [.sl us.length (pc us), .int .i64 0])) : Runs Try.ir 27 [.sl rs.length (pc rs)] (.tup [.sl us.length (pc us), .int .i64 0]) :=
  Runs.go (fn := Try.i27) TMC_holds rfl 400 rfl [.r (.bool false), .b false, .r (.fresh 2 us.length (pc us)), .r (.tup [.sl us.length (pc us), .int .i64 0])] (ac n1 (ac (show false = false from rfl) (ac n2 (ac n3 a0)))) (by kernel_rfl)
theorem Try.run16_f (rs ss us : List Rn) (n1 : Runs Try.ir 61 [.sl 2 [.sl rs.length (pc rs), .sl ss.length (pc ss)]] (.bool false))
    (n2 : Runs Try.ir 65 [.sl rs.length (pc rs), .sl ss.length (pc ss)] (.fresh 2 us.length (pc us)))
    (n3 : Runs Try.ir 63 [.sl us.length (pc us)] (.tup [.sl us.length (pc us), .int .i64 0])) : Runs Try.ir 16 [.sl rs.length (pc rs), .sl ss.length (pc ss)] (.tup [.sl us.length (pc us), .int .i64 0]) :=
  Runs.go (fn := Try.i16) TMC_holds rfl 400 rfl [.r (.bool false), .b false, .r (.fresh 2 us.length (pc us)), .r (.tup [.sl us.length (pc us), .int .i64 0])] (ac n1 (ac (show false = false from rfl) (ac n2 (ac n3 a0)))) (by kernel_rfl)
theorem Try.run16_s (rs ss us : List Rn) (n1 : Runs Try.ir 61 [.sl 2 [.sl rs.length (pc rs), .sl ss.length (pc ss)]] (.bool false))
    (n2 : Runs Try.ir 65 [.sl rs.length (pc rs), .sl ss.length (pc ss)] (.sl us.length (pc us)))
    (n3 : Runs Try.ir 63 [.sl us.length (pc us)] (.tup [.sl us.length (pc us), .int .i64 0])) : Runs Try.ir 16 [.sl rs.length (pc rs), .sl ss.length (pc ss)] (.tup [.sl us.length (pc us), .int .i64 0]) :=
  Runs.go (fn := Try.i16) TMC_holds rfl 400 rfl [.r (.bool false), .b false, .r (.sl us.length (pc us)), .r (.tup [.sl us.length (pc us), .int .i64 0])] (ac n1 (ac (show false = false from rfl) (ac n2 (ac n3 a0)))) (by kernel_rfl)
theorem Try.run17_f (rs us : List Rn) (n1 : Runs Try.ir 61 [.sl 1 [.sl rs.length (pc rs)]] (.bool false))
    (n2 : Runs Try.ir 66 [.sl rs.length (pc rs)] (.fresh 2 us.length (pc us)))
    (n3 : Runs Try.ir 63 [.sl us.length (pc us)] (.tup [.sl us.length (pc us), .int .i64 0])) : Runs Try.ir 17 [.sl rs.length (pc rs)] (.tup [.sl us.length (pc us), .int .i64 0]) :=
  Runs.go (fn := Try.i17) TMC_holds rfl 400 rfl [.r (.bool false), .b false, .r (.fresh 2 us.length (pc us)), .r (.tup [.sl us.length (pc us), .int .i64 0])] (ac n1 (ac (show false = false from rfl) (ac n2 (ac n3 a0)))) (by kernel_rfl)
theorem Try.run17_s (rs us : List Rn) (n1 : Runs Try.ir 61 [.sl 1 [.sl rs.length (pc rs)]] (.bool false))
    (n2 : Runs Try.ir 66 [.sl rs.length (pc rs)] (.sl us.length (pc us)))
    (n3 : Runs Try.ir 63 [.sl us.length (pc us)] (.tup [.sl us.length (pc us), .int .i64 0])) : Runs Try.ir 17 [.sl rs.length (pc rs)] (.tup [.sl us.length (pc us), .int .i64 0]) :=
  Runs.go (fn := Try.i17) TMC_holds rfl 400 rfl [.r (.bool false), .b false, .r (.sl us.length (pc us)), .r (.tup [.sl us.length (pc us), .int .i64 0])] (ac n1 (ac (show false = false from rfl) (ac n2 (ac n3 a0)))) (by kernel_rfl)
def Try.c22 : ICode := .seq (.seq (.region false [oM 4 3,
   oM 5 0,
   o1 6 (.len (.t 5)),
   oB 7 .lss 4 6])
  (.cond (.t 7) (.skip)
  (.exit 0)))
  (.seq (.block 1 (.seq (.region false [oM 10 0,
   oM 11 3,
   o1 12 (.ixa 10 (.t 11) 2),
   o1 13 (.adr 12 17 1),
   o1 14 (.ld 13 13 1 true),
   o1 15 (.len (.t 14)),
   o1 16 (.bin .gtr (.t 15) (.c (.int .i64 3)))])
  (.cond (.t 16) (.seq (.region false [o1 2 (.mov (.c (.bool false)))])
  (.ret))
  (.skip))))
  (.region false [oM 8 3,
   o1 9 (.bin .add (.t 8) (.c (.int .i64 1))),
   oM 3 9]))
def Try.s22 (o : Bool) (rs : List Rn) (i : Int) : State := (.val (.sl rs.length (pc rs)) :: (dds 1 (.val (.bool o) :: (.val (.int .i64 i) :: (dds 13 [])))))
theorem Try.k22_1 (o : Bool) (rs : List Rn) (i : Int)  (c1 : (decide (i < ((rs.length : Nat) : Int))) = true)
    (c2 : (decide ((((rs.getD (Int.toNat i) z0).2.length : Nat) : Int) > 3)) = true)
    (n1 : 0 ≤ i ∧ i < ((rs.length : Nat) : Int)) : RunsW Try.ir Try.c22 (Try.s22 o rs i) .ret (Try.s22 false rs i) :=
  (RunsW.go TMC_holds 400 [.b true, .v (.sl ((rs.getD (Int.toNat i) z0).2.length) (lm (rs.getD (Int.toNat i) z0).2)), .b true] [0, 2, 3] (ac c1 (ac n1 (ac (show takeA (List.drop 1 (List.drop (Int.toNat i * 2) (pc rs))) 0 1 true = some (.sl ((rs.getD (Int.toNat i) z0).2.length) (lm (rs.getD (Int.toNat i) z0).2)) from (take_pcL n1)) (ac c2 a0)))) (by kernel_rfl))
theorem Try.k22_2 (o : Bool) (rs : List Rn) (i : Int)  (c1 : (decide (i < ((rs.length : Nat) : Int))) = true)
    (c2 : (decide ((((rs.getD (Int.toNat i) z0).2.length : Nat) : Int) > 3)) = false)
    (n1 : 0 ≤ i ∧ i < ((rs.length : Nat) : Int)) : RunsW Try.ir Try.c22 (Try.s22 o rs i) .norm (Try.s22 o rs (IntKind.i64.wrap (i + 1))) :=
  (RunsW.go TMC_holds 400 [.b true, .v (.sl ((rs.getD (Int.toNat i) z0).2.length) (lm (rs.getD (Int.toNat i) z0).2)), .b false] [0, 2, 3] (ac c1 (ac n1 (ac (show takeA (List.drop 1 (List.drop (Int.toNat i * 2) (pc rs))) 0 1 true = some (.sl ((rs.getD (Int.toNat i) z0).2.length) (lm (rs.getD (Int.toNat i) z0).2)) from (take_pcL n1)) (ac c2 a0)))) (by kernel_rfl))
theorem Try.k22_3 (o : Bool) (rs : List Rn) (i : Int)  (c1 : (decide (i < ((rs.length : Nat) : Int))) = false) : RunsW Try.ir Try.c22 (Try.s22 o rs i) (.exit 0) (Try.s22 o rs i) :=
  (RunsW.go TMC_holds 400 [.b false] [0, 2, 3] (ac c1 a0) (by kernel_rfl))
theorem Try.run22_n (rs : List Rn) (i : Int) (hl1 : RunsW Try.ir (.loop Try.c22) (Try.s22 false rs 0) .ret (Try.s22 false rs i)) : Runs Try.ir 22 [.sl rs.length (pc rs)] (.bool false) :=
  Runs.of_bodyW (fn := Try.i22) (s := (.val (.sl rs.length (pc rs)) :: (dds 1 (.val (.bool false) :: (.val (.int .i64 i) :: (dds 13 [])))))) (ex := .ret) rfl rfl
    (RunsW.seq (RunsW.go (t := (.val (.sl rs.length (pc rs)) :: (dds 1 (.val (.bool false) :: (dds 14 []))))) (ex := .norm) TMC_holds 400 [] [0, 2] a0 (by kernel_rfl))
    (RunsW.seq_out (RunsW.seq (RunsW.go TMC_holds 400 [] [0, 2, 3] a0 (by kernel_rfl))
    (RunsW.block_ret hl1)) (by intro e; cases e))) (by intro i e; cases e) rfl
theorem Try.run22_y (rs : List Rn) (i : Int) (hl1 : RunsW Try.ir (.loop Try.c22) (Try.s22 false rs 0) (.exit 0) (Try.s22 false rs i)) : Runs Try.ir 22 [.sl rs.length (pc rs)] (.bool true) :=
  Runs.of_bodyW (fn := Try.i22) (s := (dds 2 (.val (.bool true) :: (dds 14 [])))) (ex := .ret) rfl rfl
    (RunsW.seq (RunsW.go (t := (.val (.sl rs.length (pc rs)) :: (dds 1 (.val (.bool false) :: (dds 14 []))))) (ex := .norm) TMC_holds 400 [] [0, 2] a0 (by kernel_rfl))
    (RunsW.seq (RunsW.seq (RunsW.go TMC_holds 400 [] [0, 2, 3] a0 (by kernel_rfl))
    (RunsW.block hl1))
    (RunsW.go TMC_holds 400 [] [2] a0 (by kernel_rfl)))) (by intro i e; cases e) rfl
def RunsT (f : Nat) (args : List AV) (p : List Int) : Prop := Runs Try.ir f args (.tup [.sl (p.map cn).length (pc (p.map cn)), .int .i64 0])
def RunsF (f : Nat) (args : List AV) (p : List Int) : Prop := Runs Try.ir f args (.fresh 2 (p.map cn).length (pc (p.map cn)))
theorem runsF {f : Nat} {args : List AV} {p : List Int} (h : Runs Try.ir f args (.fresh 2 p.length (pk p))) : RunsF f args p := by
  unfold RunsF
  have hl : (p.map cn).length = p.length := List.length_map ..
  rw [hl]; exact h
theorem small_large {p : List Int} (hl : (trimL p).length ≤ 17) (hK : Kb 256 p) : largeV p = false := by
  unfold largeV
  rw [Bool.or_eq_false_iff, decide_eq_false_iff_not]
  refine ⟨by omega, ?_⟩
  rw [List.any_eq_false]
  intro x hx
  obtain ⟨i, hi, rfl⟩ := List.mem_iff_getElem.1 (mem_trim hx)
  have h := (hK i).len
  rw [List.getD_eq_getElem?_getD, List.getElem?_eq_getElem hi] at h
  unfold bigC
  simp only [Option.getD_some] at h
  simpa using h
theorem small_vals {rs : List Rn} {K : Nat} (hg : ∀ r ∈ rs, Good K r) (hK : K ≤ 256) (hl : rs.length ≤ 17) : largeV (vals rs) = false :=
  small_large (by have := trim_len (vals rs); rw [vals_length] at this; omega) ((kb_of (fits_vals hg)).mono hK)
theorem large1 {rs : List Rn} {K : Nat} (hg : ∀ r ∈ rs, Good K r) (hK : K ≤ 256) (hl : rs.length ≤ 17) : Runs Try.ir 61 [.sl 1 [.sl rs.length (pc rs)]] (.bool false) := by
  have h := plarge1_run (rs := rs) (fun r hr => (hg r hr).mono (by omega)) (by omega)
  rwa [small_vals hg hK hl] at h
theorem large2 {rs ss : List Rn} {K L : Nat} (hg : ∀ r ∈ rs, Good K r) (hK : K ≤ 256) (hl : rs.length ≤ 17) (hg' : ∀ r ∈ ss, Good L r) (hL : L ≤ 256) (hl' : ss.length ≤ 17) : Runs Try.ir 61 [.sl 2 [.sl rs.length (pc rs), .sl ss.length (pc ss)]] (.bool false) := by
  have h := plarge_run (ps := [rs, ss]) (fun p hp => by
    rcases List.mem_cons.1 hp with rfl | hp
    · exact ⟨fun r hr => (hg r hr).mono (by omega), by omega⟩
    · rw [List.mem_singleton.1 hp]; exact ⟨fun r hr => (hg' r hr).mono (by omega), by omega⟩) (by simp)
  have e : ([rs, ss].any fun p => largeV (vals p)) = false := by
    simp [small_vals hg hK hl, small_vals hg' hL hl']
  rw [e] at h
  simpa [pp] using h
theorem sized_run {p : List Int} (hK : Kb 256 p) (hl : p.length ≤ 17) : RunsT 63 [.sl (p.map cn).length (pc (p.map cn))] p :=
  Try.run63 (p.map cn) (large1 (mcn_good hK) (Nat.le_refl _) (by rw [List.length_map]; exact hl))
theorem pmulT_run {rs ss : List Rn} {K : Nat} (hr : ∀ r ∈ rs, Good K r) (hs : ∀ r ∈ ss, Good K r) (hK : 2 * K + rs.length ≤ 256) (hl : rs.length + ss.length ≤ 17) : RunsT 24 [.sl rs.length (pc rs), .sl ss.length (pc ss)] (pmul (vals rs) (vals ss)) ∧ Kb (2 * K + rs.length) (pmul (vals rs) (vals ss)) ∧ (pmul (vals rs) (vals ss)).length ≤ rs.length + ss.length := by
  have h := runsF (atimes_run hr hs (by omega) (by omega))
  have hk : Kb (2 * K + rs.length) (pmul (vals rs) (vals ss)) := by
    have := fits_mem_pmul (fits_vals hr) (fits_vals hs)
    rw [vals_length, ← Nat.two_mul] at this
    exact kb_of this
  have hlen := pmul_len (vals rs) (vals ss)
  rw [vals_length, vals_length] at hlen
  exact ⟨Try.run24 rs ss _ (large2 hr (by omega) (by omega) hs (by omega) (by omega)) h (sized_run (hk.mono hK) (by omega)), hk, hlen⟩
theorem pderiveT_run {rs : List Rn} {K : Nat} (hr : ∀ r ∈ rs, Good K r) (hK : K + 2 ≤ 256) (hl : rs.length ≤ 17) : RunsT 27 [.sl rs.length (pc rs)] (pder (vals rs)) := by
  have h := runsF (aderived_run hr (by omega) (by omega))
  have hlen := pder_len (vals rs)
  rw [vals_length] at hlen
  exact Try.run27 rs _ (large1 hr (by omega) hl) h (sized_run ((kb_pder (kb_of (fits_vals hr)) (by rw [vals_length]; omega)).mono hK) (by omega))
theorem trim_vals_len (rs : List Rn) : (trimL (vals rs)).length ≤ rs.length := by have := trim_len (vals rs); rwa [vals_length] at this
theorem pdeg_run {rs : List Rn} (hg : ∀ r ∈ rs, Good 1048576 r) (hN : rs.length ≤ 1048576) : Runs Try.ir 23 [.sl rs.length (pc rs)] (.int .i64 (((trimL (vals rs)).length : Nat) - 1 : Int)) := by
  have h := degree_run hg hN
  have e : (trimL (vals rs)).length = topN (vals rs) rs.length := by rw [trim_length, vals_length]
  rw [e]
  exact Try.run23 rs _ h
theorem pgcdT_run {rs ss : List Rn} {K c : Nat} (hr : ∀ r ∈ rs, Good K r) (hs : ∀ r ∈ ss, Good K r) (hn : rs.length ≤ c) (hm : ss.length ≤ c) (hc : c ≤ 9) (hS : (K + 1) * (2 * 3 ^ c) ≤ 500000) (hK : K ≤ 250) (h0 : trimL (vals rs) ≠ []) :
    RunsT 16 [.sl rs.length (pc rs), .sl ss.length (pc ss)] (pcom (vals rs) (vals ss)) ∧ Kb (K + 3) (pcom (vals rs) (vals ss)) ∧ (pcom (vals rs) (vals ss)).length ≤ (trimL (vals rs)).length := by
  obtain ⟨k1, k2⟩ := kb_pcom (t := vals ss) h0 (by rw [vals_length]; omega) (kb_of (fits_vals hr))
  have hlg := large2 hr (by omega) (by omega) hs (by omega) (by omega)
  have ht := trim_vals_len rs
  have hsz := sized_run (k1.mono (by omega)) (by omega)
  have h := acommon_run hr hs hn hm (by omega) hS
  change RunsP 65 _ (pcom (vals rs) (vals ss)) at h
  refine ⟨?_, k1, k2⟩
  rcases h with h | h
  · exact Try.run16_f rs ss _ hlg h hsz
  · exact Try.run16_s rs ss _ hlg h hsz
theorem pfreeT_run {rs : List Rn} {K c : Nat} (hr : ∀ r ∈ rs, Good K r) (hn : rs.length ≤ c) (hc : c ≤ 9) (hS : (K + 3) * (2 * 3 ^ c) ≤ 500000) (hK : K ≤ 250) (h0 : trimL (vals rs) ≠ []) :
    RunsT 17 [.sl rs.length (pc rs)] (pfree (vals rs)) ∧ Kb (K + 3) (pfree (vals rs)) ∧ (pfree (vals rs)).length ≤ (trimL (vals rs)).length := by
  obtain ⟨k1, k2⟩ := kb_pfree h0 (by rw [vals_length]; omega) (kb_of (fits_vals hr))
  have hlg := large1 hr (by omega) (by omega)
  have ht := trim_vals_len rs
  have hsz := sized_run (k1.mono (by omega)) (by omega)
  refine ⟨?_, k1, k2⟩
  rcases afree_run hr hn hc hS with h | h
  · exact Try.run17_f rs _ hlg h hsz
  · exact Try.run17_s rs _ hlg h hsz
def shortB (rs : List Rn) : Bool := rs.all (fun r => decide (r.2.length ≤ 3))
theorem shortB_yes {rs : List Rn} (h : shortB rs = true) (hu : ∀ r ∈ rs, U32 r.2) : ∀ r ∈ rs, Good 3 r := by
  unfold shortB at h
  rw [List.all_eq_true] at h
  exact fun r hr => ⟨hu r hr, by simpa using h r hr⟩
theorem short_run {rs : List Rn} (hN : rs.length ≤ 1048576) : Runs Try.ir 22 [.sl rs.length (pc rs)] (.bool (shortB rs)) := by
  unfold shortB
  have step : ∀ t : Nat, t < rs.length → (rs.getD t z0).2.length ≤ 3 → RunsW Try.ir Try.c22 (Try.s22 false rs (t : Nat)) .norm (Try.s22 false rs ((t + 1 : Nat) : Int)) := by
    intro t ht hb
    have ei : IntKind.i64.wrap (((t : Nat) : Int) + 1) = ((t + 1 : Nat) : Int) := by rw [w64 (by omega) (by omega)]; omega
    have k2 := Try.k22_2 false rs (t : Nat) (by simp; omega) (by rw [Int.toNat_natCast, decide_eq_false_iff_not]; omega) (by omega)
    rwa [ei] at k2
  rcases first_from (fun j => !decide ((rs.getD j z0).2.length ≤ 3)) rs.length _ 0 (by rw [Nat.zero_add]) with h | ⟨j, _, h2, h3, h4⟩
  · have hall : (rs.all fun r => decide (r.2.length ≤ 3)) = true := by
      rw [List.all_eq_true]
      intro r hr
      obtain ⟨i, hi, rfl⟩ := List.mem_iff_getElem.1 hr
      have := h i (by omega) hi
      rw [List.getD_eq_getElem?_getD, List.getElem?_eq_getElem hi] at this
      simpa using this
    rw [hall]
    exact Try.run22_y rs _ (RunsW.upTo (prog := Try.ir) (c := Try.c22) (ex := .exit 0) (fun t => Try.s22 false rs (t : Nat)) rs.length (by intro e; cases e) (Try.k22_3 false rs _ (by simp)) 0 (Nat.zero_le _) (fun t _ h6 => step t h6 (by simpa using h t (by omega) h6)))
  · have hall : (rs.all fun r => decide (r.2.length ≤ 3)) = false := by
      rw [List.all_eq_false]
      refine ⟨rs.getD j z0, ?_, by simpa using h3⟩
      rw [List.getD_eq_getElem?_getD, List.getElem?_eq_getElem h2]
      exact List.getElem_mem h2
    rw [hall]
    have h3' : ¬ (rs.getD j z0).2.length ≤ 3 := by simpa using h3
    have out := Try.k22_1 false rs (j : Nat) (by simp; omega) (by rw [Int.toNat_natCast, decide_eq_true_eq]; omega) (by omega)
    exact Try.run22_n rs _ (RunsW.upTo (prog := Try.ir) (c := Try.c22) (ex := .ret) (fun t => Try.s22 false rs (t : Nat)) j (by intro e; cases e) out 0 (Nat.zero_le _) (fun t _ h6 => step t (by omega) (by simpa using h4 t (by omega) h6)))
def TPW : Table := TMC
theorem TPW_holds : THolds Try.ir TPW := TMC_holds
end Go.Proofs.Ythnnfemologhfaa

namespace Go.Proofs.Ythnnfemologhfaa
open Go.Ai
set_option maxRecDepth 100000
theorem aw0 : Runs Try.ir 92 [.sl 3 [.bool false, .sl 0 [], .bool false, .sl 0 [], .bool false, .sl 1 [.int .u32 1]]] (.fresh 2 3 [.bool false, .sl 0 [], .bool false, .sl 0 [], .bool false, .sl 1 [.int .u32 1]]) := fF_holds Try.pr_ok (noMemo_holds _) 400 _ _ _ (by kernel_rfl)
theorem aw1 : Runs Try.ir 74 [.sl 3 [.int .i64 0, .int .i64 0, .int .i64 1]] (.fresh 2 3 [.bool false, .sl 0 [], .bool false, .sl 0 [], .bool false, .sl 1 [.int .u32 1]]) := fF_holds Try.pr_ok (memC_holds aw0 (noMemo_holds _)) 400 _ _ _ (by kernel_rfl)
theorem aw2 : Runs Try.ir 92 [.sl 2 [.bool true, .sl 1 [.int .u32 1], .bool false, .sl 1 [.int .u32 1]]] (.fresh 2 2 [.bool true, .sl 1 [.int .u32 1], .bool false, .sl 1 [.int .u32 1]]) := fF_holds Try.pr_ok (noMemo_holds _) 400 _ _ _ (by kernel_rfl)
theorem aw3 : Runs Try.ir 74 [.sl 2 [.int .i64 (-1), .int .i64 1]] (.fresh 2 2 [.bool true, .sl 1 [.int .u32 1], .bool false, .sl 1 [.int .u32 1]]) := fF_holds Try.pr_ok (memC_holds aw2 (noMemo_holds _)) 400 _ _ _ (by kernel_rfl)
theorem aw4 : Runs Try.ir 61 [.sl 2 [.sl 3 [.bool false, .sl 0 [], .bool false, .sl 0 [], .bool false, .sl 1 [.int .u32 1]], .sl 2 [.bool true, .sl 1 [.int .u32 1], .bool false, .sl 1 [.int .u32 1]]]] (.bool false) := fF_holds Try.pr_ok (noMemo_holds _) 400 _ _ _ (by kernel_rfl)
theorem aw5 : Runs Try.ir 109 [.agg [.bool false, .sl 0 []], .agg [.bool false, .sl 1 [.int .u32 1]]] (.agg [.bool false, .sl 1 [.int .u32 1]]) := fF_holds Try.pr_ok (noMemo_holds _) 400 _ _ _ (by kernel_rfl)
theorem aw6 : Runs Try.ir 85 [.sl 3 [.bool false, .sl 0 [], .bool false, .sl 0 [], .bool false, .sl 1 [.int .u32 1]]] (.agg [.bool false, .sl 1 [.int .u32 1]]) := fF_holds Try.pr_ok (memC_holds aw5 (noMemo_holds _)) 400 _ _ _ (by kernel_rfl)
theorem aw7 : Runs Try.ir 86 [.sl 3 [.bool false, .sl 0 [], .bool false, .sl 0 [], .bool false, .sl 1 [.int .u32 1]]] (.fresh 2 3 [.bool false, .sl 0 [], .bool false, .sl 0 [], .bool false, .sl 1 [.int .u32 1]]) := fF_holds Try.pr_ok (memC_holds aw6 (memC_holds aw0 (noMemo_holds _))) 400 _ _ _ (by kernel_rfl)
theorem aw8 : Runs Try.ir 85 [.sl 2 [.bool true, .sl 1 [.int .u32 1], .bool false, .sl 1 [.int .u32 1]]] (.agg [.bool false, .sl 1 [.int .u32 1]]) := fF_holds Try.pr_ok (memC_holds aw5 (noMemo_holds _)) 400 _ _ _ (by kernel_rfl)
theorem aw9 : Runs Try.ir 86 [.sl 2 [.bool true, .sl 1 [.int .u32 1], .bool false, .sl 1 [.int .u32 1]]] (.fresh 2 2 [.bool true, .sl 1 [.int .u32 1], .bool false, .sl 1 [.int .u32 1]]) := fF_holds Try.pr_ok (memC_holds aw8 (memC_holds aw2 (noMemo_holds _))) 400 _ _ _ (by kernel_rfl)
theorem aw10 : Runs Try.ir 109 [.agg [.bool false, .sl 1 [.int .u32 1]], .agg [.bool false, .sl 1 [.int .u32 1]]] (.agg [.bool false, .sl 1 [.int .u32 1]]) := fF_holds Try.pr_ok (noMemo_holds _) 400 _ _ _ (by kernel_rfl)
theorem aw11 : Runs Try.ir 147 [.sl 1 [.int .u32 1], .sl 1 [.int .u32 1]] (.tup [.sl 1 [.int .u32 1], .sl 1 [.int .u32 0]]) := fF_holds Try.pr_ok (noMemo_holds _) 400 _ _ _ (by kernel_rfl)
theorem aw12 : Runs Try.ir 110 [.agg [.bool false, .sl 1 [.int .u32 1]], .agg [.bool false, .sl 1 [.int .u32 1]]] (.tup [.agg [.bool false, .sl 1 [.int .u32 1]], .agg [.bool false, .sl 0 []]]) := fF_holds Try.pr_ok (memC_holds aw11 (noMemo_holds _)) 400 _ _ _ (by kernel_rfl)
theorem aw13 : Runs Try.ir 113 [.agg [.bool false, .sl 0 []], .agg [.bool false, .sl 1 [.int .u32 1]]] (.agg [.bool false, .sl 0 []]) := fF_holds Try.pr_ok (noMemo_holds _) 400 _ _ _ (by kernel_rfl)
theorem aw14 : Runs Try.ir 113 [.agg [.bool false, .sl 1 [.int .u32 1]], .agg [.bool true, .sl 1 [.int .u32 1]]] (.agg [.bool true, .sl 1 [.int .u32 1]]) := fF_holds Try.pr_ok (noMemo_holds _) 400 _ _ _ (by kernel_rfl)
theorem aw15 : Runs Try.ir 148 [.bool false, .sl 0 [], .bool false, .sl 1 [.int .u32 1]] (.agg [.bool false, .sl 1 [.int .u32 1]]) := fF_holds Try.pr_ok (noMemo_holds _) 400 _ _ _ (by kernel_rfl)
theorem aw16 : Runs Try.ir 114 [.agg [.bool false, .sl 0 []], .agg [.bool true, .sl 1 [.int .u32 1]]] (.agg [.bool false, .sl 1 [.int .u32 1]]) := fF_holds Try.pr_ok (memC_holds aw15 (noMemo_holds _)) 400 _ _ _ (by kernel_rfl)
theorem aw17 : Runs Try.ir 113 [.agg [.bool false, .sl 1 [.int .u32 1]], .agg [.bool false, .sl 1 [.int .u32 1]]] (.agg [.bool false, .sl 1 [.int .u32 1]]) := fF_holds Try.pr_ok (noMemo_holds _) 400 _ _ _ (by kernel_rfl)
theorem aw18 : Runs Try.ir 148 [.bool false, .sl 1 [.int .u32 1], .bool true, .sl 1 [.int .u32 1]] (.agg [.bool false, .sl 0 []]) := fF_holds Try.pr_ok (noMemo_holds _) 400 _ _ _ (by kernel_rfl)
theorem aw19 : Runs Try.ir 114 [.agg [.bool false, .sl 1 [.int .u32 1]], .agg [.bool false, .sl 1 [.int .u32 1]]] (.agg [.bool false, .sl 0 []]) := fF_holds Try.pr_ok (memC_holds aw18 (noMemo_holds _)) 400 _ _ _ (by kernel_rfl)
theorem aw20 : Runs Try.ir 62 [.sl 3 [.bool false, .sl 0 [], .bool false, .sl 1 [.int .u32 1], .bool false, .sl 0 []]] (.int .i64 1) := fF_holds Try.pr_ok (noMemo_holds _) 400 _ _ _ (by kernel_rfl)
theorem aw21 : Runs Try.ir 92 [.sl 3 [.bool false, .sl 0 [], .bool false, .sl 1 [.int .u32 1], .bool false, .sl 0 []]] (.fresh 2 2 [.bool false, .sl 0 [], .bool false, .sl 1 [.int .u32 1]]) := fF_holds Try.pr_ok (memC_holds aw20 (noMemo_holds _)) 400 _ _ _ (by kernel_rfl)
theorem aw22 : Runs Try.ir 85 [.sl 2 [.bool false, .sl 0 [], .bool false, .sl 1 [.int .u32 1]]] (.agg [.bool false, .sl 1 [.int .u32 1]]) := fF_holds Try.pr_ok (memC_holds aw5 (noMemo_holds _)) 400 _ _ _ (by kernel_rfl)
theorem aw23 : Runs Try.ir 86 [.sl 3 [.bool false, .sl 0 [], .bool false, .sl 1 [.int .u32 1], .bool false, .sl 0 []]] (.fresh 2 2 [.bool false, .sl 0 [], .bool false, .sl 1 [.int .u32 1]]) := fF_holds Try.pr_ok (memC_holds aw22 (memC_holds aw21 (noMemo_holds _))) 400 _ _ _ (by kernel_rfl)
theorem aw24 : Runs Try.ir 62 [.sl 2 [.bool false, .sl 1 [.int .u32 1], .bool false, .sl 0 []]] (.int .i64 0) := fF_holds Try.pr_ok (noMemo_holds _) 400 _ _ _ (by kernel_rfl)
theorem aw25 : Runs Try.ir 92 [.sl 2 [.bool false, .sl 1 [.int .u32 1], .bool false, .sl 0 []]] (.fresh 2 1 [.bool false, .sl 1 [.int .u32 1]]) := fF_holds Try.pr_ok (memC_holds aw24 (noMemo_holds _)) 400 _ _ _ (by kernel_rfl)
theorem aw26 : Runs Try.ir 86 [.sl 2 [.bool false, .sl 1 [.int .u32 1], .bool false, .sl 0 []]] (.fresh 2 1 [.bool false, .sl 1 [.int .u32 1]]) := fF_holds Try.pr_ok (memC_holds aw25 (memC_holds aw5 (noMemo_holds _))) 400 _ _ _ (by kernel_rfl)
theorem aw27 : Runs Try.ir 64 [.sl 3 [.bool false, .sl 0 [], .bool false, .sl 0 [], .bool false, .sl 1 [.int .u32 1]], .sl 2 [.bool true, .sl 1 [.int .u32 1], .bool false, .sl 1 [.int .u32 1]]] (.fresh 2 1 [.bool false, .sl 1 [.int .u32 1]]) := fF_holds Try.pr_ok (memC_holds aw26 (memC_holds aw23 (memC_holds aw19 (memC_holds aw17 (memC_holds aw16 (memC_holds aw14 (memC_holds aw13 (memC_holds aw12 (memC_holds aw10 (memC_holds aw9 (memC_holds aw7 (noMemo_holds _)))))))))))) 400 _ _ _ (by kernel_rfl)
theorem aw28 : Runs Try.ir 61 [.sl 1 [.sl 1 [.bool false, .sl 1 [.int .u32 1]]]] (.bool false) := fF_holds Try.pr_ok (noMemo_holds _) 400 _ _ _ (by kernel_rfl)
theorem aw29 : Runs Try.ir 15 [.sl 3 [.bool false, .sl 0 [], .bool false, .sl 0 [], .bool false, .sl 1 [.int .u32 1]], .sl 2 [.bool true, .sl 1 [.int .u32 1], .bool false, .sl 1 [.int .u32 1]]] (.tup [.sl 1 [.bool false, .sl 1 [.int .u32 1]], .int .i64 0]) := fF_holds Try.pr_ok (memC_holds aw28 (memC_holds aw27 (memC_holds aw4 (noMemo_holds _)))) 400 _ _ _ (by kernel_rfl)
theorem aw30 : Runs Try.ir 92 [.sl 3 [.bool false, .sl 0 [], .bool false, .sl 0 [], .bool true, .sl 1 [.int .u32 1]]] (.fresh 2 3 [.bool false, .sl 0 [], .bool false, .sl 0 [], .bool true, .sl 1 [.int .u32 1]]) := fF_holds Try.pr_ok (noMemo_holds _) 400 _ _ _ (by kernel_rfl)
theorem aw31 : Runs Try.ir 74 [.sl 3 [.int .i64 0, .int .i64 0, .int .i64 (-1)]] (.fresh 2 3 [.bool false, .sl 0 [], .bool false, .sl 0 [], .bool true, .sl 1 [.int .u32 1]]) := fF_holds Try.pr_ok (memC_holds aw30 (noMemo_holds _)) 400 _ _ _ (by kernel_rfl)
theorem aw32 : Runs Try.ir 92 [.sl 2 [.bool true, .sl 1 [.int .u32 1], .bool false, .sl 1 [.int .u32 2]]] (.fresh 2 2 [.bool true, .sl 1 [.int .u32 1], .bool false, .sl 1 [.int .u32 2]]) := fF_holds Try.pr_ok (noMemo_holds _) 400 _ _ _ (by kernel_rfl)
theorem aw33 : Runs Try.ir 74 [.sl 2 [.int .i64 (-1), .int .i64 2]] (.fresh 2 2 [.bool true, .sl 1 [.int .u32 1], .bool false, .sl 1 [.int .u32 2]]) := fF_holds Try.pr_ok (memC_holds aw32 (noMemo_holds _)) 400 _ _ _ (by kernel_rfl)
theorem aw34 : Runs Try.ir 61 [.sl 2 [.sl 3 [.bool false, .sl 0 [], .bool false, .sl 0 [], .bool true, .sl 1 [.int .u32 1]], .sl 2 [.bool true, .sl 1 [.int .u32 1], .bool false, .sl 1 [.int .u32 2]]]] (.bool false) := fF_holds Try.pr_ok (noMemo_holds _) 400 _ _ _ (by kernel_rfl)
theorem aw35 : Runs Try.ir 109 [.agg [.bool false, .sl 0 []], .agg [.bool true, .sl 1 [.int .u32 1]]] (.agg [.bool false, .sl 1 [.int .u32 1]]) := fF_holds Try.pr_ok (noMemo_holds _) 400 _ _ _ (by kernel_rfl)
theorem aw36 : Runs Try.ir 85 [.sl 3 [.bool false, .sl 0 [], .bool false, .sl 0 [], .bool true, .sl 1 [.int .u32 1]]] (.agg [.bool false, .sl 1 [.int .u32 1]]) := fF_holds Try.pr_ok (memC_holds aw35 (noMemo_holds _)) 400 _ _ _ (by kernel_rfl)
theorem aw37 : Runs Try.ir 86 [.sl 3 [.bool false, .sl 0 [], .bool false, .sl 0 [], .bool true, .sl 1 [.int .u32 1]]] (.fresh 2 3 [.bool false, .sl 0 [], .bool false, .sl 0 [], .bool true, .sl 1 [.int .u32 1]]) := fF_holds Try.pr_ok (memC_holds aw36 (memC_holds aw30 (noMemo_holds _))) 400 _ _ _ (by kernel_rfl)
theorem aw38 : Runs Try.ir 109 [.agg [.bool false, .sl 0 []], .agg [.bool false, .sl 1 [.int .u32 2]]] (.agg [.bool false, .sl 1 [.int .u32 2]]) := fF_holds Try.pr_ok (noMemo_holds _) 400 _ _ _ (by kernel_rfl)
theorem aw39 : Runs Try.ir 109 [.agg [.bool false, .sl 1 [.int .u32 2]], .agg [.bool true, .sl 1 [.int .u32 1]]] (.agg [.bool false, .sl 1 [.int .u32 1]]) := fF_holds Try.pr_ok (noMemo_holds _) 400 _ _ _ (by kernel_rfl)
theorem aw40 : Runs Try.ir 85 [.sl 2 [.bool true, .sl 1 [.int .u32 1], .bool false, .sl 1 [.int .u32 2]]] (.agg [.bool false, .sl 1 [.int .u32 1]]) := fF_holds Try.pr_ok (memC_holds aw39 (memC_holds aw38 (noMemo_holds _))) 400 _ _ _ (by kernel_rfl)
theorem aw41 : Runs Try.ir 86 [.sl 2 [.bool true, .sl 1 [.int .u32 1], .bool false, .sl 1 [.int .u32 2]]] (.fresh 2 2 [.bool true, .sl 1 [.int .u32 1], .bool false, .sl 1 [.int .u32 2]]) := fF_holds Try.pr_ok (memC_holds aw40 (memC_holds aw32 (noMemo_holds _))) 400 _ _ _ (by kernel_rfl)
theorem aw42 : Runs Try.ir 147 [.sl 1 [.int .u32 2], .sl 1 [.int .u32 1]] (.tup [.sl 1 [.int .u32 2], .sl 1 [.int .u32 0]]) := fF_holds Try.pr_ok (noMemo_holds _) 400 _ _ _ (by kernel_rfl)
theorem aw43 : Runs Try.ir 110 [.agg [.bool false, .sl 1 [.int .u32 2]], .agg [.bool false, .sl 1 [.int .u32 1]]] (.tup [.agg [.bool false, .sl 1 [.int .u32 2]], .agg [.bool false, .sl 0 []]]) := fF_holds Try.pr_ok (memC_holds aw42 (noMemo_holds _)) 400 _ _ _ (by kernel_rfl)
theorem aw44 : Runs Try.ir 110 [.agg [.bool true, .sl 1 [.int .u32 1]], .agg [.bool false, .sl 1 [.int .u32 1]]] (.tup [.agg [.bool true, .sl 1 [.int .u32 1]], .agg [.bool false, .sl 0 []]]) := fF_holds Try.pr_ok (memC_holds aw11 (noMemo_holds _)) 400 _ _ _ (by kernel_rfl)
theorem aw45 : Runs Try.ir 113 [.agg [.bool false, .sl 0 []], .agg [.bool false, .sl 1 [.int .u32 2]]] (.agg [.bool false, .sl 0 []]) := fF_holds Try.pr_ok (noMemo_holds _) 400 _ _ _ (by kernel_rfl)
theorem aw46 : Runs Try.ir 113 [.agg [.bool true, .sl 1 [.int .u32 1]], .agg [.bool true, .sl 1 [.int .u32 1]]] (.agg [.bool false, .sl 1 [.int .u32 1]]) := fF_holds Try.pr_ok (noMemo_holds _) 400 _ _ _ (by kernel_rfl)
theorem aw47 : Runs Try.ir 148 [.bool false, .sl 0 [], .bool true, .sl 1 [.int .u32 1]] (.agg [.bool true, .sl 1 [.int .u32 1]]) := fF_holds Try.pr_ok (noMemo_holds _) 400 _ _ _ (by kernel_rfl)
theorem aw48 : Runs Try.ir 114 [.agg [.bool false, .sl 0 []], .agg [.bool false, .sl 1 [.int .u32 1]]] (.agg [.bool true, .sl 1 [.int .u32 1]]) := fF_holds Try.pr_ok (memC_holds aw47 (noMemo_holds _)) 400 _ _ _ (by kernel_rfl)
theorem aw49 : Runs Try.ir 113 [.agg [.bool true, .sl 1 [.int .u32 1]], .agg [.bool false, .sl 1 [.int .u32 2]]] (.agg [.bool true, .sl 1 [.int .u32 2]]) := fF_holds Try.pr_ok (noMemo_holds _) 400 _ _ _ (by kernel_rfl)
theorem aw50 : Runs Try.ir 148 [.bool true, .sl 1 [.int .u32 2], .bool false, .sl 1 [.int .u32 2]] (.agg [.bool false, .sl 0 []]) := fF_holds Try.pr_ok (noMemo_holds _) 400 _ _ _ (by kernel_rfl)
theorem aw51 : Runs Try.ir 114 [.agg [.bool true, .sl 1 [.int .u32 2]], .agg [.bool true, .sl 1 [.int .u32 2]]] (.agg [.bool false, .sl 0 []]) := fF_holds Try.pr_ok (memC_holds aw50 (noMemo_holds _)) 400 _ _ _ (by kernel_rfl)
theorem aw52 : Runs Try.ir 62 [.sl 3 [.bool false, .sl 0 [], .bool true, .sl 1 [.int .u32 1], .bool false, .sl 0 []]] (.int .i64 1) := fF_holds Try.pr_ok (noMemo_holds _) 400 _ _ _ (by kernel_rfl)
theorem aw53 : Runs Try.ir 92 [.sl 3 [.bool false, .sl 0 [], .bool true, .sl 1 [.int .u32 1], .bool false, .sl 0 []]] (.fresh 2 2 [.bool false, .sl 0 [], .bool true, .sl 1 [.int .u32 1]]) := fF_holds Try.pr_ok (memC_holds aw52 (noMemo_holds _)) 400 _ _ _ (by kernel_rfl)
theorem aw54 : Runs Try.ir 85 [.sl 2 [.bool false, .sl 0 [], .bool true, .sl 1 [.int .u32 1]]] (.agg [.bool false, .sl 1 [.int .u32 1]]) := fF_holds Try.pr_ok (memC_holds aw35 (noMemo_holds _)) 400 _ _ _ (by kernel_rfl)
theorem aw55 : Runs Try.ir 86 [.sl 3 [.bool false, .sl 0 [], .bool true, .sl 1 [.int .u32 1], .bool false, .sl 0 []]] (.fresh 2 2 [.bool false, .sl 0 [], .bool true, .sl 1 [.int .u32 1]]) := fF_holds Try.pr_ok (memC_holds aw54 (memC_holds aw53 (noMemo_holds _))) 400 _ _ _ (by kernel_rfl)
theorem aw56 : Runs Try.ir 62 [.sl 2 [.bool true, .sl 1 [.int .u32 1], .bool false, .sl 0 []]] (.int .i64 0) := fF_holds Try.pr_ok (noMemo_holds _) 400 _ _ _ (by kernel_rfl)
theorem aw57 : Runs Try.ir 92 [.sl 2 [.bool true, .sl 1 [.int .u32 1], .bool false, .sl 0 []]] (.fresh 2 1 [.bool true, .sl 1 [.int .u32 1]]) := fF_holds Try.pr_ok (memC_holds aw56 (noMemo_holds _)) 400 _ _ _ (by kernel_rfl)
theorem aw58 : Runs Try.ir 86 [.sl 2 [.bool true, .sl 1 [.int .u32 1], .bool false, .sl 0 []]] (.fresh 2 1 [.bool true, .sl 1 [.int .u32 1]]) := fF_holds Try.pr_ok (memC_holds aw57 (memC_holds aw35 (noMemo_holds _))) 400 _ _ _ (by kernel_rfl)
theorem aw59 : Runs Try.ir 64 [.sl 3 [.bool false, .sl 0 [], .bool false, .sl 0 [], .bool true, .sl 1 [.int .u32 1]], .sl 2 [.bool true, .sl 1 [.int .u32 1], .bool false, .sl 1 [.int .u32 2]]] (.fresh 2 1 [.bool true, .sl 1 [.int .u32 1]]) := fF_holds Try.pr_ok (memC_holds aw58 (memC_holds aw55 (memC_holds aw51 (memC_holds aw49 (memC_holds aw48 (memC_holds aw46 (memC_holds aw45 (memC_holds aw44 (memC_holds aw43 (memC_holds aw41 (memC_holds aw39 (memC_holds aw37 (noMemo_holds _))))))))))))) 400 _ _ _ (by kernel_rfl)
theorem aw60 : Runs Try.ir 61 [.sl 1 [.sl 1 [.bool true, .sl 1 [.int .u32 1]]]] (.bool false) := fF_holds Try.pr_ok (noMemo_holds _) 400 _ _ _ (by kernel_rfl)
theorem aw61 : Runs Try.ir 15 [.sl 3 [.bool false, .sl 0 [], .bool false, .sl 0 [], .bool true, .sl 1 [.int .u32 1]], .sl 2 [.bool true, .sl 1 [.int .u32 1], .bool false, .sl 1 [.int .u32 2]]] (.tup [.sl 1 [.bool true, .sl 1 [.int .u32 1]], .int .i64 0]) := fF_holds Try.pr_ok (memC_holds aw60 (memC_holds aw59 (memC_holds aw34 (noMemo_holds _)))) 400 _ _ _ (by kernel_rfl)
theorem aw62 : Runs Try.ir 92 [.sl 3 [.bool true, .sl 1 [.int .u32 1], .bool false, .sl 0 [], .bool false, .sl 1 [.int .u32 1]]] (.fresh 2 3 [.bool true, .sl 1 [.int .u32 1], .bool false, .sl 0 [], .bool false, .sl 1 [.int .u32 1]]) := fF_holds Try.pr_ok (noMemo_holds _) 400 _ _ _ (by kernel_rfl)
theorem aw63 : Runs Try.ir 74 [.sl 3 [.int .i64 (-1), .int .i64 0, .int .i64 1]] (.fresh 2 3 [.bool true, .sl 1 [.int .u32 1], .bool false, .sl 0 [], .bool false, .sl 1 [.int .u32 1]]) := fF_holds Try.pr_ok (memC_holds aw62 (noMemo_holds _)) 400 _ _ _ (by kernel_rfl)
theorem aw64 : Runs Try.ir 92 [.sl 2 [.bool true, .sl 1 [.int .u32 2], .bool false, .sl 1 [.int .u32 2]]] (.fresh 2 2 [.bool true, .sl 1 [.int .u32 2], .bool false, .sl 1 [.int .u32 2]]) := fF_holds Try.pr_ok (noMemo_holds _) 400 _ _ _ (by kernel_rfl)
theorem aw65 : Runs Try.ir 74 [.sl 2 [.int .i64 (-2), .int .i64 2]] (.fresh 2 2 [.bool true, .sl 1 [.int .u32 2], .bool false, .sl 1 [.int .u32 2]]) := fF_holds Try.pr_ok (memC_holds aw64 (noMemo_holds _)) 400 _ _ _ (by kernel_rfl)
theorem aw66 : Runs Try.ir 61 [.sl 2 [.sl 3 [.bool true, .sl 1 [.int .u32 1], .bool false, .sl 0 [], .bool false, .sl 1 [.int .u32 1]], .sl 2 [.bool true, .sl 1 [.int .u32 2], .bool false, .sl 1 [.int .u32 2]]]] (.bool false) := fF_holds Try.pr_ok (noMemo_holds _) 400 _ _ _ (by kernel_rfl)
theorem aw67 : Runs Try.ir 85 [.sl 3 [.bool true, .sl 1 [.int .u32 1], .bool false, .sl 0 [], .bool false, .sl 1 [.int .u32 1]]] (.agg [.bool false, .sl 1 [.int .u32 1]]) := fF_holds Try.pr_ok (memC_holds aw5 (noMemo_holds _)) 400 _ _ _ (by kernel_rfl)
theorem aw68 : Runs Try.ir 86 [.sl 3 [.bool true, .sl 1 [.int .u32 1], .bool false, .sl 0 [], .bool false, .sl 1 [.int .u32 1]]] (.fresh 2 3 [.bool true, .sl 1 [.int .u32 1], .bool false, .sl 0 [], .bool false, .sl 1 [.int .u32 1]]) := fF_holds Try.pr_ok (memC_holds aw67 (memC_holds aw62 (noMemo_holds _))) 400 _ _ _ (by kernel_rfl)
theorem aw69 : Runs Try.ir 109 [.agg [.bool false, .sl 1 [.int .u32 2]], .agg [.bool true, .sl 1 [.int .u32 2]]] (.agg [.bool false, .sl 1 [.int .u32 2]]) := fF_holds Try.pr_ok (noMemo_holds _) 400 _ _ _ (by kernel_rfl)
theorem aw70 : Runs Try.ir 85 [.sl 2 [.bool true, .sl 1 [.int .u32 2], .bool false, .sl 1 [.int .u32 2]]] (.agg [.bool false, .sl 1 [.int .u32 2]]) := fF_holds Try.pr_ok (memC_holds aw69 (memC_holds aw38 (noMemo_holds _))) 400 _ _ _ (by kernel_rfl)
theorem aw71 : Runs Try.ir 147 [.sl 1 [.int .u32 2], .sl 1 [.int .u32 2]] (.tup [.sl 1 [.int .u32 1], .sl 1 [.int .u32 0]]) := fF_holds Try.pr_ok (noMemo_holds _) 400 _ _ _ (by kernel_rfl)
theorem aw72 : Runs Try.ir 110 [.agg [.bool true, .sl 1 [.int .u32 2]], .agg [.bool false, .sl 1 [.int .u32 2]]] (.tup [.agg [.bool true, .sl 1 [.int .u32 1]], .agg [.bool false, .sl 0 []]]) := fF_holds Try.pr_ok (memC_holds aw71 (noMemo_holds _)) 400 _ _ _ (by kernel_rfl)
theorem aw73 : Runs Try.ir 110 [.agg [.bool false, .sl 1 [.int .u32 2]], .agg [.bool false, .sl 1 [.int .u32 2]]] (.tup [.agg [.bool false, .sl 1 [.int .u32 1]], .agg [.bool false, .sl 0 []]]) := fF_holds Try.pr_ok (memC_holds aw71 (noMemo_holds _)) 400 _ _ _ (by kernel_rfl)
theorem aw74 : Runs Try.ir 86 [.sl 2 [.bool true, .sl 1 [.int .u32 2], .bool false, .sl 1 [.int .u32 2]]] (.fresh 2 2 [.bool true, .sl 1 [.int .u32 1], .bool false, .sl 1 [.int .u32 1]]) := fF_holds Try.pr_ok (memC_holds aw73 (memC_holds aw72 (memC_holds aw70 (memC_holds aw64 (noMemo_holds _))))) 400 _ _ _ (by kernel_rfl)
theorem aw75 : Runs Try.ir 113 [.agg [.bool true, .sl 1 [.int .u32 1]], .agg [.bool false, .sl 1 [.int .u32 1]]] (.agg [.bool true, .sl 1 [.int .u32 1]]) := fF_holds Try.pr_ok (noMemo_holds _) 400 _ _ _ (by kernel_rfl)
theorem aw76 : Runs Try.ir 62 [.sl 3 [.bool true, .sl 1 [.int .u32 1], .bool false, .sl 1 [.int .u32 1], .bool false, .sl 0 []]] (.int .i64 1) := fF_holds Try.pr_ok (noMemo_holds _) 400 _ _ _ (by kernel_rfl)
theorem aw77 : Runs Try.ir 92 [.sl 3 [.bool true, .sl 1 [.int .u32 1], .bool false, .sl 1 [.int .u32 1], .bool false, .sl 0 []]] (.fresh 2 2 [.bool true, .sl 1 [.int .u32 1], .bool false, .sl 1 [.int .u32 1]]) := fF_holds Try.pr_ok (memC_holds aw76 (noMemo_holds _)) 400 _ _ _ (by kernel_rfl)
theorem aw78 : Runs Try.ir 86 [.sl 3 [.bool true, .sl 1 [.int .u32 1], .bool false, .sl 1 [.int .u32 1], .bool false, .sl 0 []]] (.fresh 2 2 [.bool true, .sl 1 [.int .u32 1], .bool false, .sl 1 [.int .u32 1]]) := fF_holds Try.pr_ok (memC_holds aw77 (memC_holds aw8 (noMemo_holds _))) 400 _ _ _ (by kernel_rfl)
theorem aw79 : Runs Try.ir 148 [.bool true, .sl 1 [.int .u32 1], .bool false, .sl 1 [.int .u32 1]] (.agg [.bool false, .sl 0 []]) := fF_holds Try.pr_ok (noMemo_holds _) 400 _ _ _ (by kernel_rfl)
theorem aw80 : Runs Try.ir 114 [.agg [.bool true, .sl 1 [.int .u32 1]], .agg [.bool true, .sl 1 [.int .u32 1]]] (.agg [.bool false, .sl 0 []]) := fF_holds Try.pr_ok (memC_holds aw79 (noMemo_holds _)) 400 _ _ _ (by kernel_rfl)
theorem aw81 : Runs Try.ir 62 [.sl 2 [.bool false, .sl 0 [], .bool false, .sl 0 []]] (.int .i64 (-1)) := fF_holds Try.pr_ok (noMemo_holds _) 400 _ _ _ (by kernel_rfl)
theorem aw82 : Runs Try.ir 86 [.sl 2 [.bool false, .sl 0 [], .bool false, .sl 0 []]] (.fresh 2 0 []) := fF_holds Try.pr_ok (memC_holds aw81 (noMemo_holds _)) 400 _ _ _ (by kernel_rfl)
theorem aw83 : Runs Try.ir 64 [.sl 3 [.bool true, .sl 1 [.int .u32 1], .bool false, .sl 0 [], .bool false, .sl 1 [.int .u32 1]], .sl 2 [.bool true, .sl 1 [.int .u32 1], .bool false, .sl 1 [.int .u32 1]]] (.fresh 2 0 []) := fF_holds Try.pr_ok (memC_holds aw82 (memC_holds aw80 (memC_holds aw78 (memC_holds aw75 (memC_holds aw68 (memC_holds aw19 (memC_holds aw17 (memC_holds aw16 (memC_holds aw14 (memC_holds aw13 (memC_holds aw12 (memC_holds aw10 (memC_holds aw9 (noMemo_holds _)))))))))))))) 400 _ _ _ (by kernel_rfl)
theorem aw84 : Runs Try.ir 65 [.sl 3 [.bool true, .sl 1 [.int .u32 1], .bool false, .sl 0 [], .bool false, .sl 1 [.int .u32 1]], .sl 2 [.bool true, .sl 1 [.int .u32 2], .bool false, .sl 1 [.int .u32 2]]] (.sl 2 [.bool true, .sl 1 [.int .u32 1], .bool false, .sl 1 [.int .u32 1]]) := fF_holds Try.pr_ok (memC_holds aw83 (memC_holds aw74 (memC_holds aw68 (noMemo_holds _)))) 400 _ _ _ (by kernel_rfl)
theorem aw85 : Runs Try.ir 61 [.sl 1 [.sl 2 [.bool true, .sl 1 [.int .u32 1], .bool false, .sl 1 [.int .u32 1]]]] (.bool false) := fF_holds Try.pr_ok (noMemo_holds _) 400 _ _ _ (by kernel_rfl)
theorem aw86 : Runs Try.ir 92 [.sl 4 [.bool false, .sl 0 [], .bool false, .sl 0 [], .bool true, .sl 1 [.int .u32 4], .bool false, .sl 1 [.int .u32 4]]] (.fresh 2 4 [.bool false, .sl 0 [], .bool false, .sl 0 [], .bool true, .sl 1 [.int .u32 4], .bool false, .sl 1 [.int .u32 4]]) := fF_holds Try.pr_ok (noMemo_holds _) 400 _ _ _ (by kernel_rfl)
theorem aw87 : Runs Try.ir 74 [.sl 4 [.int .i64 0, .int .i64 0, .int .i64 (-4), .int .i64 4]] (.fresh 2 4 [.bool false, .sl 0 [], .bool false, .sl 0 [], .bool true, .sl 1 [.int .u32 4], .bool false, .sl 1 [.int .u32 4]]) := fF_holds Try.pr_ok (memC_holds aw86 (noMemo_holds _)) 400 _ _ _ (by kernel_rfl)
theorem aw88 : Runs Try.ir 61 [.sl 1 [.sl 4 [.bool false, .sl 0 [], .bool false, .sl 0 [], .bool true, .sl 1 [.int .u32 4], .bool false, .sl 1 [.int .u32 4]]]] (.bool false) := fF_holds Try.pr_ok (noMemo_holds _) 400 _ _ _ (by kernel_rfl)
theorem aw89 : Runs Try.ir 109 [.agg [.bool false, .sl 0 []], .agg [.bool false, .sl 1 [.int .u32 4]]] (.agg [.bool false, .sl 1 [.int .u32 4]]) := fF_holds Try.pr_ok (noMemo_holds _) 400 _ _ _ (by kernel_rfl)
theorem aw90 : Runs Try.ir 109 [.agg [.bool false, .sl 1 [.int .u32 4]], .agg [.bool true, .sl 1 [.int .u32 4]]] (.agg [.bool false, .sl 1 [.int .u32 4]]) := fF_holds Try.pr_ok (noMemo_holds _) 400 _ _ _ (by kernel_rfl)
theorem aw91 : Runs Try.ir 109 [.agg [.bool false, .sl 1 [.int .u32 4]], .agg [.bool false, .sl 0 []]] (.agg [.bool false, .sl 1 [.int .u32 4]]) := fF_holds Try.pr_ok (noMemo_holds _) 400 _ _ _ (by kernel_rfl)
theorem aw92 : Runs Try.ir 85 [.sl 4 [.bool false, .sl 0 [], .bool false, .sl 0 [], .bool true, .sl 1 [.int .u32 4], .bool false, .sl 1 [.int .u32 4]]] (.agg [.bool false, .sl 1 [.int .u32 4]]) := fF_holds Try.pr_ok (memC_holds aw91 (memC_holds aw90 (memC_holds aw89 (noMemo_holds _)))) 400 _ _ _ (by kernel_rfl)
theorem aw93 : Runs Try.ir 110 [.agg [.bool false, .sl 0 []], .agg [.bool false, .sl 1 [.int .u32 4]]] (.tup [.agg [.bool false, .sl 0 []], .agg [.bool false, .sl 0 []]]) := fF_holds Try.pr_ok (noMemo_holds _) 400 _ _ _ (by kernel_rfl)
theorem aw94 : Runs Try.ir 147 [.sl 1 [.int .u32 4], .sl 1 [.int .u32 4]] (.tup [.sl 1 [.int .u32 1], .sl 1 [.int .u32 0]]) := fF_holds Try.pr_ok (noMemo_holds _) 400 _ _ _ (by kernel_rfl)
theorem aw95 : Runs Try.ir 110 [.agg [.bool true, .sl 1 [.int .u32 4]], .agg [.bool false, .sl 1 [.int .u32 4]]] (.tup [.agg [.bool true, .sl 1 [.int .u32 1]], .agg [.bool false, .sl 0 []]]) := fF_holds Try.pr_ok (memC_holds aw94 (noMemo_holds _)) 400 _ _ _ (by kernel_rfl)
theorem aw96 : Runs Try.ir 110 [.agg [.bool false, .sl 1 [.int .u32 4]], .agg [.bool false, .sl 1 [.int .u32 4]]] (.tup [.agg [.bool false, .sl 1 [.int .u32 1]], .agg [.bool false, .sl 0 []]]) := fF_holds Try.pr_ok (memC_holds aw94 (noMemo_holds _)) 400 _ _ _ (by kernel_rfl)
theorem aw97 : Runs Try.ir 86 [.sl 4 [.bool false, .sl 0 [], .bool false, .sl 0 [], .bool true, .sl 1 [.int .u32 4], .bool false, .sl 1 [.int .u32 4]]] (.fresh 2 4 [.bool false, .sl 0 [], .bool false, .sl 0 [], .bool true, .sl 1 [.int .u32 1], .bool false, .sl 1 [.int .u32 1]]) := fF_holds Try.pr_ok (memC_holds aw96 (memC_holds aw95 (memC_holds aw93 (memC_holds aw92 (memC_holds aw86 (noMemo_holds _)))))) 400 _ _ _ (by kernel_rfl)
theorem aw98 : Runs Try.ir 113 [.agg [.bool false, .sl 1 [.int .u32 1]], .agg [.bool false, .sl 1 [.int .u32 3]]] (.agg [.bool false, .sl 1 [.int .u32 3]]) := fF_holds Try.pr_ok (noMemo_holds _) 400 _ _ _ (by kernel_rfl)
theorem aw99 : Runs Try.ir 92 [.sl 3 [.bool false, .sl 0 [], .bool true, .sl 1 [.int .u32 2], .bool false, .sl 1 [.int .u32 3]]] (.fresh 2 3 [.bool false, .sl 0 [], .bool true, .sl 1 [.int .u32 2], .bool false, .sl 1 [.int .u32 3]]) := fF_holds Try.pr_ok (noMemo_holds _) 400 _ _ _ (by kernel_rfl)
theorem aw100 : Runs Try.ir 75 [.sl 4 [.bool false, .sl 0 [], .bool false, .sl 0 [], .bool true, .sl 1 [.int .u32 1], .bool false, .sl 1 [.int .u32 1]]] (.fresh 2 3 [.bool false, .sl 0 [], .bool true, .sl 1 [.int .u32 2], .bool false, .sl 1 [.int .u32 3]]) := fF_holds Try.pr_ok (memC_holds aw99 (memC_holds aw98 (memC_holds aw49 (memC_holds aw13 (noMemo_holds _))))) 400 _ _ _ (by kernel_rfl)
theorem aw101 : Runs Try.ir 92 [.sl 4 [.bool false, .sl 0 [], .bool false, .sl 0 [], .bool true, .sl 1 [.int .u32 1], .bool false, .sl 1 [.int .u32 1]]] (.fresh 2 4 [.bool false, .sl 0 [], .bool false, .sl 0 [], .bool true, .sl 1 [.int .u32 1], .bool false, .sl 1 [.int .u32 1]]) := fF_holds Try.pr_ok (noMemo_holds _) 400 _ _ _ (by kernel_rfl)
theorem aw102 : Runs Try.ir 85 [.sl 4 [.bool false, .sl 0 [], .bool false, .sl 0 [], .bool true, .sl 1 [.int .u32 1], .bool false, .sl 1 [.int .u32 1]]] (.agg [.bool false, .sl 1 [.int .u32 1]]) := fF_holds Try.pr_ok (memC_holds aw5 (noMemo_holds _)) 400 _ _ _ (by kernel_rfl)
theorem aw103 : Runs Try.ir 86 [.sl 4 [.bool false, .sl 0 [], .bool false, .sl 0 [], .bool true, .sl 1 [.int .u32 1], .bool false, .sl 1 [.int .u32 1]]] (.fresh 2 4 [.bool false, .sl 0 [], .bool false, .sl 0 [], .bool true, .sl 1 [.int .u32 1], .bool false, .sl 1 [.int .u32 1]]) := fF_holds Try.pr_ok (memC_holds aw102 (memC_holds aw101 (noMemo_holds _))) 400 _ _ _ (by kernel_rfl)
theorem aw104 : Runs Try.ir 109 [.agg [.bool false, .sl 0 []], .agg [.bool false, .sl 1 [.int .u32 3]]] (.agg [.bool false, .sl 1 [.int .u32 3]]) := fF_holds Try.pr_ok (noMemo_holds _) 400 _ _ _ (by kernel_rfl)
theorem aw105 : Runs Try.ir 109 [.agg [.bool false, .sl 1 [.int .u32 3]], .agg [.bool true, .sl 1 [.int .u32 2]]] (.agg [.bool false, .sl 1 [.int .u32 1]]) := fF_holds Try.pr_ok (noMemo_holds _) 400 _ _ _ (by kernel_rfl)
theorem aw106 : Runs Try.ir 85 [.sl 3 [.bool false, .sl 0 [], .bool true, .sl 1 [.int .u32 2], .bool false, .sl 1 [.int .u32 3]]] (.agg [.bool false, .sl 1 [.int .u32 1]]) := fF_holds Try.pr_ok (memC_holds aw105 (memC_holds aw104 (noMemo_holds _))) 400 _ _ _ (by kernel_rfl)
theorem aw107 : Runs Try.ir 86 [.sl 3 [.bool false, .sl 0 [], .bool true, .sl 1 [.int .u32 2], .bool false, .sl 1 [.int .u32 3]]] (.fresh 2 3 [.bool false, .sl 0 [], .bool true, .sl 1 [.int .u32 2], .bool false, .sl 1 [.int .u32 3]]) := fF_holds Try.pr_ok (memC_holds aw106 (memC_holds aw99 (noMemo_holds _))) 400 _ _ _ (by kernel_rfl)
theorem aw108 : Runs Try.ir 109 [.agg [.bool false, .sl 1 [.int .u32 3]], .agg [.bool false, .sl 1 [.int .u32 1]]] (.agg [.bool false, .sl 1 [.int .u32 1]]) := fF_holds Try.pr_ok (noMemo_holds _) 400 _ _ _ (by kernel_rfl)
theorem aw109 : Runs Try.ir 147 [.sl 1 [.int .u32 3], .sl 1 [.int .u32 1]] (.tup [.sl 1 [.int .u32 3], .sl 1 [.int .u32 0]]) := fF_holds Try.pr_ok (noMemo_holds _) 400 _ _ _ (by kernel_rfl)
theorem aw110 : Runs Try.ir 110 [.agg [.bool false, .sl 1 [.int .u32 3]], .agg [.bool false, .sl 1 [.int .u32 1]]] (.tup [.agg [.bool false, .sl 1 [.int .u32 3]], .agg [.bool false, .sl 0 []]]) := fF_holds Try.pr_ok (memC_holds aw109 (noMemo_holds _)) 400 _ _ _ (by kernel_rfl)
theorem aw111 : Runs Try.ir 113 [.agg [.bool false, .sl 0 []], .agg [.bool false, .sl 1 [.int .u32 3]]] (.agg [.bool false, .sl 0 []]) := fF_holds Try.pr_ok (noMemo_holds _) 400 _ _ _ (by kernel_rfl)
end Go.Proofs.Ythnnfemologhfaa

namespace Go.Proofs.Ythnnfemologhfaa
open Go.Ai
set_option maxRecDepth 100000
theorem aw112 : Runs Try.ir 113 [.agg [.bool false, .sl 1 [.int .u32 1]], .agg [.bool false, .sl 0 []]] (.agg [.bool false, .sl 0 []]) := fF_holds Try.pr_ok (noMemo_holds _) 400 _ _ _ (by kernel_rfl)
theorem aw113 : Runs Try.ir 114 [.agg [.bool false, .sl 0 []], .agg [.bool false, .sl 0 []]] (.agg [.bool false, .sl 0 []]) := fF_holds Try.pr_ok (noMemo_holds _) 400 _ _ _ (by kernel_rfl)
theorem aw114 : Runs Try.ir 113 [.agg [.bool true, .sl 1 [.int .u32 1]], .agg [.bool false, .sl 1 [.int .u32 3]]] (.agg [.bool true, .sl 1 [.int .u32 3]]) := fF_holds Try.pr_ok (noMemo_holds _) 400 _ _ _ (by kernel_rfl)
theorem aw115 : Runs Try.ir 113 [.agg [.bool false, .sl 1 [.int .u32 1]], .agg [.bool true, .sl 1 [.int .u32 2]]] (.agg [.bool true, .sl 1 [.int .u32 2]]) := fF_holds Try.pr_ok (noMemo_holds _) 400 _ _ _ (by kernel_rfl)
theorem aw116 : Runs Try.ir 148 [.bool true, .sl 1 [.int .u32 3], .bool false, .sl 1 [.int .u32 2]] (.agg [.bool true, .sl 1 [.int .u32 1]]) := fF_holds Try.pr_ok (noMemo_holds _) 400 _ _ _ (by kernel_rfl)
theorem aw117 : Runs Try.ir 114 [.agg [.bool true, .sl 1 [.int .u32 3]], .agg [.bool true, .sl 1 [.int .u32 2]]] (.agg [.bool true, .sl 1 [.int .u32 1]]) := fF_holds Try.pr_ok (memC_holds aw116 (noMemo_holds _)) 400 _ _ _ (by kernel_rfl)
theorem aw118 : Runs Try.ir 148 [.bool false, .sl 1 [.int .u32 3], .bool true, .sl 1 [.int .u32 3]] (.agg [.bool false, .sl 0 []]) := fF_holds Try.pr_ok (noMemo_holds _) 400 _ _ _ (by kernel_rfl)
theorem aw119 : Runs Try.ir 114 [.agg [.bool false, .sl 1 [.int .u32 3]], .agg [.bool false, .sl 1 [.int .u32 3]]] (.agg [.bool false, .sl 0 []]) := fF_holds Try.pr_ok (memC_holds aw118 (noMemo_holds _)) 400 _ _ _ (by kernel_rfl)
theorem aw120 : Runs Try.ir 62 [.sl 4 [.bool false, .sl 0 [], .bool false, .sl 0 [], .bool true, .sl 1 [.int .u32 1], .bool false, .sl 0 []]] (.int .i64 2) := fF_holds Try.pr_ok (noMemo_holds _) 400 _ _ _ (by kernel_rfl)
theorem aw121 : Runs Try.ir 92 [.sl 4 [.bool false, .sl 0 [], .bool false, .sl 0 [], .bool true, .sl 1 [.int .u32 1], .bool false, .sl 0 []]] (.fresh 2 3 [.bool false, .sl 0 [], .bool false, .sl 0 [], .bool true, .sl 1 [.int .u32 1]]) := fF_holds Try.pr_ok (memC_holds aw120 (noMemo_holds _)) 400 _ _ _ (by kernel_rfl)
theorem aw122 : Runs Try.ir 86 [.sl 4 [.bool false, .sl 0 [], .bool false, .sl 0 [], .bool true, .sl 1 [.int .u32 1], .bool false, .sl 0 []]] (.fresh 2 3 [.bool false, .sl 0 [], .bool false, .sl 0 [], .bool true, .sl 1 [.int .u32 1]]) := fF_holds Try.pr_ok (memC_holds aw121 (memC_holds aw36 (noMemo_holds _))) 400 _ _ _ (by kernel_rfl)
theorem aw123 : Runs Try.ir 109 [.agg [.bool false, .sl 1 [.int .u32 3]], .agg [.bool true, .sl 1 [.int .u32 1]]] (.agg [.bool false, .sl 1 [.int .u32 1]]) := fF_holds Try.pr_ok (noMemo_holds _) 400 _ _ _ (by kernel_rfl)
theorem aw124 : Runs Try.ir 113 [.agg [.bool true, .sl 1 [.int .u32 1]], .agg [.bool false, .sl 0 []]] (.agg [.bool false, .sl 0 []]) := fF_holds Try.pr_ok (noMemo_holds _) 400 _ _ _ (by kernel_rfl)
theorem aw125 : Runs Try.ir 113 [.agg [.bool true, .sl 1 [.int .u32 1]], .agg [.bool true, .sl 1 [.int .u32 2]]] (.agg [.bool false, .sl 1 [.int .u32 2]]) := fF_holds Try.pr_ok (noMemo_holds _) 400 _ _ _ (by kernel_rfl)
theorem aw126 : Runs Try.ir 148 [.bool false, .sl 0 [], .bool true, .sl 1 [.int .u32 2]] (.agg [.bool true, .sl 1 [.int .u32 2]]) := fF_holds Try.pr_ok (noMemo_holds _) 400 _ _ _ (by kernel_rfl)
theorem aw127 : Runs Try.ir 114 [.agg [.bool false, .sl 0 []], .agg [.bool false, .sl 1 [.int .u32 2]]] (.agg [.bool true, .sl 1 [.int .u32 2]]) := fF_holds Try.pr_ok (memC_holds aw126 (noMemo_holds _)) 400 _ _ _ (by kernel_rfl)
theorem aw128 : Runs Try.ir 148 [.bool true, .sl 1 [.int .u32 3], .bool false, .sl 1 [.int .u32 3]] (.agg [.bool false, .sl 0 []]) := fF_holds Try.pr_ok (noMemo_holds _) 400 _ _ _ (by kernel_rfl)
theorem aw129 : Runs Try.ir 114 [.agg [.bool true, .sl 1 [.int .u32 3]], .agg [.bool true, .sl 1 [.int .u32 3]]] (.agg [.bool false, .sl 0 []]) := fF_holds Try.pr_ok (memC_holds aw128 (noMemo_holds _)) 400 _ _ _ (by kernel_rfl)
theorem aw130 : Runs Try.ir 62 [.sl 3 [.bool false, .sl 0 [], .bool true, .sl 1 [.int .u32 2], .bool false, .sl 0 []]] (.int .i64 1) := fF_holds Try.pr_ok (noMemo_holds _) 400 _ _ _ (by kernel_rfl)
theorem aw131 : Runs Try.ir 92 [.sl 3 [.bool false, .sl 0 [], .bool true, .sl 1 [.int .u32 2], .bool false, .sl 0 []]] (.fresh 2 2 [.bool false, .sl 0 [], .bool true, .sl 1 [.int .u32 2]]) := fF_holds Try.pr_ok (memC_holds aw130 (noMemo_holds _)) 400 _ _ _ (by kernel_rfl)
theorem aw132 : Runs Try.ir 109 [.agg [.bool false, .sl 0 []], .agg [.bool true, .sl 1 [.int .u32 2]]] (.agg [.bool false, .sl 1 [.int .u32 2]]) := fF_holds Try.pr_ok (noMemo_holds _) 400 _ _ _ (by kernel_rfl)
theorem aw133 : Runs Try.ir 109 [.agg [.bool false, .sl 1 [.int .u32 2]], .agg [.bool false, .sl 0 []]] (.agg [.bool false, .sl 1 [.int .u32 2]]) := fF_holds Try.pr_ok (noMemo_holds _) 400 _ _ _ (by kernel_rfl)
theorem aw134 : Runs Try.ir 85 [.sl 2 [.bool false, .sl 0 [], .bool true, .sl 1 [.int .u32 2]]] (.agg [.bool false, .sl 1 [.int .u32 2]]) := fF_holds Try.pr_ok (memC_holds aw133 (memC_holds aw132 (noMemo_holds _))) 400 _ _ _ (by kernel_rfl)
theorem aw135 : Runs Try.ir 110 [.agg [.bool false, .sl 0 []], .agg [.bool false, .sl 1 [.int .u32 2]]] (.tup [.agg [.bool false, .sl 0 []], .agg [.bool false, .sl 0 []]]) := fF_holds Try.pr_ok (noMemo_holds _) 400 _ _ _ (by kernel_rfl)
theorem aw136 : Runs Try.ir 86 [.sl 3 [.bool false, .sl 0 [], .bool true, .sl 1 [.int .u32 2], .bool false, .sl 0 []]] (.fresh 2 2 [.bool false, .sl 0 [], .bool true, .sl 1 [.int .u32 1]]) := fF_holds Try.pr_ok (memC_holds aw135 (memC_holds aw134 (memC_holds aw131 (memC_holds aw72 (noMemo_holds _))))) 400 _ _ _ (by kernel_rfl)
theorem aw137 : Runs Try.ir 64 [.sl 4 [.bool false, .sl 0 [], .bool false, .sl 0 [], .bool true, .sl 1 [.int .u32 1], .bool false, .sl 1 [.int .u32 1]], .sl 3 [.bool false, .sl 0 [], .bool true, .sl 1 [.int .u32 2], .bool false, .sl 1 [.int .u32 3]]] (.fresh 2 2 [.bool false, .sl 0 [], .bool true, .sl 1 [.int .u32 1]]) := fF_holds Try.pr_ok (memC_holds aw136 (memC_holds aw129 (memC_holds aw127 (memC_holds aw125 (memC_holds aw124 (memC_holds aw123 (memC_holds aw122 (memC_holds aw119 (memC_holds aw117 (memC_holds aw115 (memC_holds aw114 (memC_holds aw113 (memC_holds aw112 (memC_holds aw111 (memC_holds aw110 (memC_holds aw108 (memC_holds aw107 (memC_holds aw103 (memC_holds aw98 (memC_holds aw44 (memC_holds aw12 (noMemo_holds _)))))))))))))))))))))) 400 _ _ _ (by kernel_rfl)
theorem aw138 : Runs Try.ir 92 [.sl 2 [.bool false, .sl 0 [], .bool true, .sl 1 [.int .u32 1]]] (.fresh 2 2 [.bool false, .sl 0 [], .bool true, .sl 1 [.int .u32 1]]) := fF_holds Try.pr_ok (noMemo_holds _) 400 _ _ _ (by kernel_rfl)
theorem aw139 : Runs Try.ir 86 [.sl 2 [.bool false, .sl 0 [], .bool true, .sl 1 [.int .u32 1]]] (.fresh 2 2 [.bool false, .sl 0 [], .bool true, .sl 1 [.int .u32 1]]) := fF_holds Try.pr_ok (memC_holds aw138 (memC_holds aw54 (noMemo_holds _))) 400 _ _ _ (by kernel_rfl)
theorem aw140 : Runs Try.ir 109 [.agg [.bool true, .sl 1 [.int .u32 1]], .agg [.bool false, .sl 1 [.int .u32 3]]] (.agg [.bool false, .sl 1 [.int .u32 1]]) := fF_holds Try.pr_ok (noMemo_holds _) 400 _ _ _ (by kernel_rfl)
theorem aw141 : Runs Try.ir 113 [.agg [.bool true, .sl 1 [.int .u32 2]], .agg [.bool false, .sl 1 [.int .u32 1]]] (.agg [.bool true, .sl 1 [.int .u32 2]]) := fF_holds Try.pr_ok (noMemo_holds _) 400 _ _ _ (by kernel_rfl)
theorem aw142 : Runs Try.ir 113 [.agg [.bool true, .sl 1 [.int .u32 3]], .agg [.bool false, .sl 0 []]] (.agg [.bool false, .sl 0 []]) := fF_holds Try.pr_ok (noMemo_holds _) 400 _ _ _ (by kernel_rfl)
theorem aw143 : Runs Try.ir 148 [.bool true, .sl 1 [.int .u32 2], .bool true, .sl 0 []] (.agg [.bool true, .sl 1 [.int .u32 2]]) := fF_holds Try.pr_ok (noMemo_holds _) 400 _ _ _ (by kernel_rfl)
theorem aw144 : Runs Try.ir 114 [.agg [.bool true, .sl 1 [.int .u32 2]], .agg [.bool false, .sl 0 []]] (.agg [.bool true, .sl 1 [.int .u32 2]]) := fF_holds Try.pr_ok (memC_holds aw143 (noMemo_holds _)) 400 _ _ _ (by kernel_rfl)
theorem aw145 : Runs Try.ir 113 [.agg [.bool false, .sl 1 [.int .u32 3]], .agg [.bool false, .sl 1 [.int .u32 1]]] (.agg [.bool false, .sl 1 [.int .u32 3]]) := fF_holds Try.pr_ok (noMemo_holds _) 400 _ _ _ (by kernel_rfl)
theorem aw146 : Runs Try.ir 113 [.agg [.bool true, .sl 1 [.int .u32 3]], .agg [.bool true, .sl 1 [.int .u32 1]]] (.agg [.bool false, .sl 1 [.int .u32 3]]) := fF_holds Try.pr_ok (noMemo_holds _) 400 _ _ _ (by kernel_rfl)
theorem aw147 : Runs Try.ir 109 [.agg [.bool true, .sl 1 [.int .u32 1]], .agg [.bool true, .sl 1 [.int .u32 1]]] (.agg [.bool false, .sl 1 [.int .u32 1]]) := fF_holds Try.pr_ok (noMemo_holds _) 400 _ _ _ (by kernel_rfl)
theorem aw148 : Runs Try.ir 64 [.sl 3 [.bool false, .sl 0 [], .bool true, .sl 1 [.int .u32 2], .bool false, .sl 1 [.int .u32 3]], .sl 2 [.bool false, .sl 0 [], .bool true, .sl 1 [.int .u32 1]]] (.fresh 2 0 []) := fF_holds Try.pr_ok (memC_holds aw147 (memC_holds aw146 (memC_holds aw145 (memC_holds aw144 (memC_holds aw142 (memC_holds aw141 (memC_holds aw140 (memC_holds aw139 (memC_holds aw136 (memC_holds aw119 (memC_holds aw113 (memC_holds aw112 (memC_holds aw110 (memC_holds aw107 (memC_holds aw82 (memC_holds aw80 (memC_holds aw75 (memC_holds aw44 (memC_holds aw14 (memC_holds aw13 (memC_holds aw12 (noMemo_holds _)))))))))))))))))))))) 400 _ _ _ (by kernel_rfl)
theorem aw149 : Runs Try.ir 127 [.sl 2 [.bool false, .sl 0 [], .bool true, .sl 1 [.int .u32 1]]] (.fresh 2 2 [.bool false, .sl 0 [], .bool false, .sl 1 [.int .u32 1]]) := fF_holds Try.pr_ok (noMemo_holds _) 400 _ _ _ (by kernel_rfl)
theorem aw150 : Runs Try.ir 65 [.sl 4 [.bool false, .sl 0 [], .bool false, .sl 0 [], .bool true, .sl 1 [.int .u32 1], .bool false, .sl 1 [.int .u32 1]], .sl 3 [.bool false, .sl 0 [], .bool true, .sl 1 [.int .u32 2], .bool false, .sl 1 [.int .u32 3]]] (.fresh 2 2 [.bool false, .sl 0 [], .bool false, .sl 1 [.int .u32 1]]) := fF_holds Try.pr_ok (memC_holds aw149 (memC_holds aw148 (memC_holds aw137 (memC_holds aw107 (memC_holds aw103 (noMemo_holds _)))))) 400 _ _ _ (by kernel_rfl)
theorem aw151 : Runs Try.ir 148 [.bool true, .sl 1 [.int .u32 1], .bool true, .sl 0 []] (.agg [.bool true, .sl 1 [.int .u32 1]]) := fF_holds Try.pr_ok (noMemo_holds _) 400 _ _ _ (by kernel_rfl)
theorem aw152 : Runs Try.ir 114 [.agg [.bool true, .sl 1 [.int .u32 1]], .agg [.bool false, .sl 0 []]] (.agg [.bool true, .sl 1 [.int .u32 1]]) := fF_holds Try.pr_ok (memC_holds aw151 (noMemo_holds _)) 400 _ _ _ (by kernel_rfl)
theorem aw153 : Runs Try.ir 113 [.agg [.bool false, .sl 0 []], .agg [.bool false, .sl 0 []]] (.agg [.bool false, .sl 0 []]) := fF_holds Try.pr_ok (noMemo_holds _) 400 _ _ _ (by kernel_rfl)
theorem aw154 : Runs Try.ir 92 [.sl 3 [.bool false, .sl 0 [], .bool true, .sl 1 [.int .u32 1], .bool false, .sl 1 [.int .u32 1]]] (.fresh 2 3 [.bool false, .sl 0 [], .bool true, .sl 1 [.int .u32 1], .bool false, .sl 1 [.int .u32 1]]) := fF_holds Try.pr_ok (noMemo_holds _) 400 _ _ _ (by kernel_rfl)
theorem aw155 : Runs Try.ir 85 [.sl 3 [.bool false, .sl 0 [], .bool true, .sl 1 [.int .u32 1], .bool false, .sl 1 [.int .u32 1]]] (.agg [.bool false, .sl 1 [.int .u32 1]]) := fF_holds Try.pr_ok (memC_holds aw5 (noMemo_holds _)) 400 _ _ _ (by kernel_rfl)
theorem aw156 : Runs Try.ir 86 [.sl 3 [.bool false, .sl 0 [], .bool true, .sl 1 [.int .u32 1], .bool false, .sl 1 [.int .u32 1]]] (.fresh 2 3 [.bool false, .sl 0 [], .bool true, .sl 1 [.int .u32 1], .bool false, .sl 1 [.int .u32 1]]) := fF_holds Try.pr_ok (memC_holds aw155 (memC_holds aw154 (noMemo_holds _))) 400 _ _ _ (by kernel_rfl)
theorem aw157 : Runs Try.ir 116 [.sl 4 [.bool false, .sl 0 [], .bool false, .sl 0 [], .bool true, .sl 1 [.int .u32 1], .bool false, .sl 1 [.int .u32 1]], .sl 2 [.bool false, .sl 0 [], .bool false, .sl 1 [.int .u32 1]]] (.fresh 2 3 [.bool false, .sl 0 [], .bool true, .sl 1 [.int .u32 1], .bool false, .sl 1 [.int .u32 1]]) := fF_holds Try.pr_ok (memC_holds aw156 (memC_holds aw153 (memC_holds aw152 (memC_holds aw124 (memC_holds aw113 (memC_holds aw112 (memC_holds aw101 (memC_holds aw80 (memC_holds aw75 (memC_holds aw19 (memC_holds aw17 (memC_holds aw13 (noMemo_holds _))))))))))))) 400 _ _ _ (by kernel_rfl)
theorem aw158 : Runs Try.ir 66 [.sl 4 [.bool false, .sl 0 [], .bool false, .sl 0 [], .bool true, .sl 1 [.int .u32 4], .bool false, .sl 1 [.int .u32 4]]] (.fresh 2 3 [.bool false, .sl 0 [], .bool true, .sl 1 [.int .u32 1], .bool false, .sl 1 [.int .u32 1]]) := fF_holds Try.pr_ok (memC_holds aw157 (memC_holds aw150 (memC_holds aw100 (memC_holds aw97 (noMemo_holds _))))) 400 _ _ _ (by kernel_rfl)
theorem aw159 : Runs Try.ir 61 [.sl 1 [.sl 3 [.bool false, .sl 0 [], .bool true, .sl 1 [.int .u32 1], .bool false, .sl 1 [.int .u32 1]]]] (.bool false) := fF_holds Try.pr_ok (noMemo_holds _) 400 _ _ _ (by kernel_rfl)
theorem aw160 : Runs Try.ir 92 [.sl 2 [.bool false, .sl 1 [.int .u32 6], .bool true, .sl 1 [.int .u32 4]]] (.fresh 2 2 [.bool false, .sl 1 [.int .u32 6], .bool true, .sl 1 [.int .u32 4]]) := fF_holds Try.pr_ok (noMemo_holds _) 400 _ _ _ (by kernel_rfl)
theorem aw161 : Runs Try.ir 74 [.sl 2 [.int .i64 6, .int .i64 (-4)]] (.fresh 2 2 [.bool false, .sl 1 [.int .u32 6], .bool true, .sl 1 [.int .u32 4]]) := fF_holds Try.pr_ok (memC_holds aw160 (noMemo_holds _)) 400 _ _ _ (by kernel_rfl)
theorem aw162 : Runs Try.ir 61 [.sl 1 [.sl 2 [.bool false, .sl 1 [.int .u32 6], .bool true, .sl 1 [.int .u32 4]]]] (.bool false) := fF_holds Try.pr_ok (noMemo_holds _) 400 _ _ _ (by kernel_rfl)
theorem aw163 : Runs Try.ir 109 [.agg [.bool false, .sl 0 []], .agg [.bool true, .sl 1 [.int .u32 4]]] (.agg [.bool false, .sl 1 [.int .u32 4]]) := fF_holds Try.pr_ok (noMemo_holds _) 400 _ _ _ (by kernel_rfl)
theorem aw164 : Runs Try.ir 109 [.agg [.bool false, .sl 1 [.int .u32 4]], .agg [.bool false, .sl 1 [.int .u32 6]]] (.agg [.bool false, .sl 1 [.int .u32 2]]) := fF_holds Try.pr_ok (noMemo_holds _) 400 _ _ _ (by kernel_rfl)
theorem aw165 : Runs Try.ir 85 [.sl 2 [.bool false, .sl 1 [.int .u32 6], .bool true, .sl 1 [.int .u32 4]]] (.agg [.bool false, .sl 1 [.int .u32 2]]) := fF_holds Try.pr_ok (memC_holds aw164 (memC_holds aw163 (noMemo_holds _))) 400 _ _ _ (by kernel_rfl)
theorem aw166 : Runs Try.ir 147 [.sl 1 [.int .u32 6], .sl 1 [.int .u32 2]] (.tup [.sl 1 [.int .u32 3], .sl 1 [.int .u32 0]]) := fF_holds Try.pr_ok (noMemo_holds _) 400 _ _ _ (by kernel_rfl)
theorem aw167 : Runs Try.ir 110 [.agg [.bool false, .sl 1 [.int .u32 6]], .agg [.bool false, .sl 1 [.int .u32 2]]] (.tup [.agg [.bool false, .sl 1 [.int .u32 3]], .agg [.bool false, .sl 0 []]]) := fF_holds Try.pr_ok (memC_holds aw166 (noMemo_holds _)) 400 _ _ _ (by kernel_rfl)
theorem aw168 : Runs Try.ir 147 [.sl 1 [.int .u32 4], .sl 1 [.int .u32 2]] (.tup [.sl 1 [.int .u32 2], .sl 1 [.int .u32 0]]) := fF_holds Try.pr_ok (noMemo_holds _) 400 _ _ _ (by kernel_rfl)
theorem aw169 : Runs Try.ir 110 [.agg [.bool true, .sl 1 [.int .u32 4]], .agg [.bool false, .sl 1 [.int .u32 2]]] (.tup [.agg [.bool true, .sl 1 [.int .u32 2]], .agg [.bool false, .sl 0 []]]) := fF_holds Try.pr_ok (memC_holds aw168 (noMemo_holds _)) 400 _ _ _ (by kernel_rfl)
theorem aw170 : Runs Try.ir 86 [.sl 2 [.bool false, .sl 1 [.int .u32 6], .bool true, .sl 1 [.int .u32 4]]] (.fresh 2 2 [.bool false, .sl 1 [.int .u32 3], .bool true, .sl 1 [.int .u32 2]]) := fF_holds Try.pr_ok (memC_holds aw169 (memC_holds aw167 (memC_holds aw165 (memC_holds aw160 (noMemo_holds _))))) 400 _ _ _ (by kernel_rfl)
theorem aw171 : Runs Try.ir 43 [.sl 1 [.bool false, .sl 1 [.int .u32 1]]] (.fresh 2 1 [.bool false, .sl 1 [.int .u32 1]]) := fF_holds Try.pr_ok (noMemo_holds _) 400 _ _ _ (by kernel_rfl)
theorem aw172 : Runs Try.ir 52 [.sl 1 [.int .i64 1]] (.fresh 2 1 [.bool false, .sl 1 [.int .u32 1]]) := fF_holds Try.pr_ok (memC_holds aw171 (noMemo_holds _)) 400 _ _ _ (by kernel_rfl)
theorem aw173 : Runs Try.ir 43 [.sl 1 [.bool true, .sl 1 [.int .u32 1]]] (.fresh 2 1 [.bool true, .sl 1 [.int .u32 1]]) := fF_holds Try.pr_ok (noMemo_holds _) 400 _ _ _ (by kernel_rfl)
theorem aw174 : Runs Try.ir 52 [.sl 1 [.int .i64 (-1)]] (.fresh 2 1 [.bool true, .sl 1 [.int .u32 1]]) := fF_holds Try.pr_ok (memC_holds aw173 (noMemo_holds _)) 400 _ _ _ (by kernel_rfl)
theorem aw175 : Runs Try.ir 43 [.sl 2 [.bool true, .sl 1 [.int .u32 1], .bool false, .sl 1 [.int .u32 1]]] (.fresh 2 2 [.bool true, .sl 1 [.int .u32 1], .bool false, .sl 1 [.int .u32 1]]) := fF_holds Try.pr_ok (noMemo_holds _) 400 _ _ _ (by kernel_rfl)
theorem aw176 : Runs Try.ir 52 [.sl 2 [.int .i64 (-1), .int .i64 1]] (.fresh 2 2 [.bool true, .sl 1 [.int .u32 1], .bool false, .sl 1 [.int .u32 1]]) := fF_holds Try.pr_ok (memC_holds aw175 (noMemo_holds _)) 400 _ _ _ (by kernel_rfl)
theorem aw177 : Runs Try.ir 28 [.sl 2 [.bool true, .sl 1 [.int .u32 1], .bool false, .sl 1 [.int .u32 1]], .sl 2 [.bool true, .sl 1 [.int .u32 1], .bool false, .sl 1 [.int .u32 1]]] (.bool true) := fF_holds Try.pr_ok (noMemo_holds _) 400 _ _ _ (by kernel_rfl)
theorem aw178 : Runs Try.ir 43 [.sl 3 [.bool false, .sl 0 [], .bool true, .sl 1 [.int .u32 1], .bool false, .sl 1 [.int .u32 1]]] (.fresh 2 3 [.bool false, .sl 0 [], .bool true, .sl 1 [.int .u32 1], .bool false, .sl 1 [.int .u32 1]]) := fF_holds Try.pr_ok (noMemo_holds _) 400 _ _ _ (by kernel_rfl)
theorem aw179 : Runs Try.ir 52 [.sl 3 [.int .i64 0, .int .i64 (-1), .int .i64 1]] (.fresh 2 3 [.bool false, .sl 0 [], .bool true, .sl 1 [.int .u32 1], .bool false, .sl 1 [.int .u32 1]]) := fF_holds Try.pr_ok (memC_holds aw178 (noMemo_holds _)) 400 _ _ _ (by kernel_rfl)
theorem aw180 : Runs Try.ir 28 [.sl 3 [.bool false, .sl 0 [], .bool true, .sl 1 [.int .u32 1], .bool false, .sl 1 [.int .u32 1]], .sl 3 [.bool false, .sl 0 [], .bool true, .sl 1 [.int .u32 1], .bool false, .sl 1 [.int .u32 1]]] (.bool true) := fF_holds Try.pr_ok (noMemo_holds _) 400 _ _ _ (by kernel_rfl)
theorem aw181 : Runs Try.ir 43 [.sl 2 [.bool false, .sl 1 [.int .u32 3], .bool true, .sl 1 [.int .u32 2]]] (.fresh 2 2 [.bool false, .sl 1 [.int .u32 3], .bool true, .sl 1 [.int .u32 2]]) := fF_holds Try.pr_ok (noMemo_holds _) 400 _ _ _ (by kernel_rfl)
theorem aw182 : Runs Try.ir 52 [.sl 2 [.int .i64 3, .int .i64 (-2)]] (.fresh 2 2 [.bool false, .sl 1 [.int .u32 3], .bool true, .sl 1 [.int .u32 2]]) := fF_holds Try.pr_ok (memC_holds aw181 (noMemo_holds _)) 400 _ _ _ (by kernel_rfl)
theorem aw183 : Runs Try.ir 28 [.sl 2 [.bool false, .sl 1 [.int .u32 3], .bool true, .sl 1 [.int .u32 2]], .sl 2 [.bool false, .sl 1 [.int .u32 3], .bool true, .sl 1 [.int .u32 2]]] (.bool true) := fF_holds Try.pr_ok (noMemo_holds _) 400 _ _ _ (by kernel_rfl)
theorem aw184 : Runs Try.ir 13 [] (.bool true) := fF_holds Try.pr_ok (memC_holds aw183 (memC_holds aw182 (memC_holds aw180 (memC_holds aw179 (memC_holds aw177 (memC_holds aw176 (memC_holds aw174 (memC_holds aw172 (memC_holds aw170 (memC_holds aw162 (memC_holds aw161 (memC_holds aw159 (memC_holds aw158 (memC_holds aw88 (memC_holds aw87 (memC_holds aw85 (memC_holds aw84 (memC_holds aw66 (memC_holds aw65 (memC_holds aw63 (memC_holds aw61 (memC_holds aw33 (memC_holds aw31 (memC_holds aw29 (memC_holds aw3 (memC_holds aw1 (noMemo_holds _))))))))))))))))))))))))))) 400 _ _ _ (by kernel_rfl)
theorem Try.run13 : Runs Try.ir 13 [] (.bool true) := aw184
end Go.Proofs.Ythnnfemologhfaa
