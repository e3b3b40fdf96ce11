/- Texts of the proof of PolyCommon, packed by pack.py: part 14 of 17. -/
import Derived.KernelRfl
import Derived.Test.YthnnfemologhfaaPcm13
namespace Go.Proofs.Ythnnfemologhfaa
open Go.Ai
set_option maxRecDepth 100000
theorem aw0 : Runs Try.ir 92 [.sl 3 [.bool false, .sl 0 [], .bool false, .sl 0 [], .bool false, .sl 1 [.int .u32 1]]] (.fresh 2 3 [.bool false, .sl 0 [], .bool false, .sl 0 [], .bool false, .sl 1 [.int .u32 1]]) := fF_holds Try.pr_ok (noMemo_holds _) 400 _ _ _ (by kernel_rfl)
theorem aw1 : Runs Try.ir 74 [.sl 3 [.int .i64 0, .int .i64 0, .int .i64 1]] (.fresh 2 3 [.bool false, .sl 0 [], .bool false, .sl 0 [], .bool false, .sl 1 [.int .u32 1]]) := fF_holds Try.pr_ok (memC_holds aw0 (noMemo_holds _)) 400 _ _ _ (by kernel_rfl)
theorem aw2 : Runs Try.ir 92 [.sl 2 [.bool true, .sl 1 [.int .u32 1], .bool false, .sl 1 [.int .u32 1]]] (.fresh 2 2 [.bool true, .sl 1 [.int .u32 1], .bool false, .sl 1 [.int .u32 1]]) := fF_holds Try.pr_ok (noMemo_holds _) 400 _ _ _ (by kernel_rfl)
theorem aw3 : Runs Try.ir 74 [.sl 2 [.int .i64 (-1), .int .i64 1]] (.fresh 2 2 [.bool true, .sl 1 [.int .u32 1], .bool false, .sl 1 [.int .u32 1]]) := fF_holds Try.pr_ok (memC_holds aw2 (noMemo_holds _)) 400 _ _ _ (by kernel_rfl)
theorem aw4 : Runs Try.ir 61 [.sl 2 [.sl 3 [.bool false, .sl 0 [], .bool false, .sl 0 [], .bool false, .sl 1 [.int .u32 1]], .sl 2 [.bool true, .sl 1 [.int .u32 1], .bool false, .sl 1 [.int .u32 1]]]] (.bool false) := fF_holds Try.pr_ok (noMemo_holds _) 400 _ _ _ (by kernel_rfl)
theorem aw5 : Runs Try.ir 109 [.agg [.bool false, .sl 0 []], .agg [.bool false, .sl 1 [.int .u32 1]]] (.agg [.bool false, .sl 1 [.int .u32 1]]) := fF_holds Try.pr_ok (noMemo_holds _) 400 _ _ _ (by kernel_rfl)
theorem aw6 : Runs Try.ir 85 [.sl 3 [.bool false, .sl 0 [], .bool false, .sl 0 [], .bool false, .sl 1 [.int .u32 1]]] (.agg [.bool false, .sl 1 [.int .u32 1]]) := fF_holds Try.pr_ok (memC_holds aw5 (noMemo_holds _)) 400 _ _ _ (by kernel_rfl)
theorem aw7 : Runs Try.ir 86 [.sl 3 [.bool false, .sl 0 [], .bool false, .sl 0 [], .bool false, .sl 1 [.int .u32 1]]] (.fresh 2 3 [.bool false, .sl 0 [], .bool false, .sl 0 [], .bool false, .sl 1 [.int .u32 1]]) := fF_holds Try.pr_ok (memC_holds aw6 (memC_holds aw0 (noMemo_holds _))) 400 _ _ _ (by kernel_rfl)
theorem aw8 : Runs Try.ir 85 [.sl 2 [.bool true, .sl 1 [.int .u32 1], .bool false, .sl 1 [.int .u32 1]]] (.agg [.bool false, .sl 1 [.int .u32 1]]) := fF_holds Try.pr_ok (memC_holds aw5 (noMemo_holds _)) 400 _ _ _ (by kernel_rfl)
theorem aw9 : Runs Try.ir 86 [.sl 2 [.bool true, .sl 1 [.int .u32 1], .bool false, .sl 1 [.int .u32 1]]] (.fresh 2 2 [.bool true, .sl 1 [.int .u32 1], .bool false, .sl 1 [.int .u32 1]]) := fF_holds Try.pr_ok (memC_holds aw8 (memC_holds aw2 (noMemo_holds _))) 400 _ _ _ (by kernel_rfl)
theorem aw10 : Runs Try.ir 109 [.agg [.bool false, .sl 1 [.int .u32 1]], .agg [.bool false, .sl 1 [.int .u32 1]]] (.agg [.bool false, .sl 1 [.int .u32 1]]) := fF_holds Try.pr_ok (noMemo_holds _) 400 _ _ _ (by kernel_rfl)
theorem aw11 : Runs Try.ir 147 [.sl 1 [.int .u32 1], .sl 1 [.int .u32 1]] (.tup [.sl 1 [.int .u32 1], .sl 1 [.int .u32 0]]) := fF_holds Try.pr_ok (noMemo_holds _) 400 _ _ _ (by kernel_rfl)
theorem aw12 : Runs Try.ir 110 [.agg [.bool false, .sl 1 [.int .u32 1]], .agg [.bool false, .sl 1 [.int .u32 1]]] (.tup [.agg [.bool false, .sl 1 [.int .u32 1]], .agg [.bool false, .sl 0 []]]) := fF_holds Try.pr_ok (memC_holds aw11 (noMemo_holds _)) 400 _ _ _ (by kernel_rfl)
theorem aw13 : Runs Try.ir 113 [.agg [.bool false, .sl 0 []], .agg [.bool false, .sl 1 [.int .u32 1]]] (.agg [.bool false, .sl 0 []]) := fF_holds Try.pr_ok (noMemo_holds _) 400 _ _ _ (by kernel_rfl)
theorem aw14 : Runs Try.ir 113 [.agg [.bool false, .sl 1 [.int .u32 1]], .agg [.bool true, .sl 1 [.int .u32 1]]] (.agg [.bool true, .sl 1 [.int .u32 1]]) := fF_holds Try.pr_ok (noMemo_holds _) 400 _ _ _ (by kernel_rfl)
theorem aw15 : Runs Try.ir 148 [.bool false, .sl 0 [], .bool false, .sl 1 [.int .u32 1]] (.agg [.bool false, .sl 1 [.int .u32 1]]) := fF_holds Try.pr_ok (noMemo_holds _) 400 _ _ _ (by kernel_rfl)
theorem aw16 : Runs Try.ir 114 [.agg [.bool false, .sl 0 []], .agg [.bool true, .sl 1 [.int .u32 1]]] (.agg [.bool false, .sl 1 [.int .u32 1]]) := fF_holds Try.pr_ok (memC_holds aw15 (noMemo_holds _)) 400 _ _ _ (by kernel_rfl)
theorem aw17 : Runs Try.ir 113 [.agg [.bool false, .sl 1 [.int .u32 1]], .agg [.bool false, .sl 1 [.int .u32 1]]] (.agg [.bool false, .sl 1 [.int .u32 1]]) := fF_holds Try.pr_ok (noMemo_holds _) 400 _ _ _ (by kernel_rfl)
theorem aw18 : Runs Try.ir 148 [.bool false, .sl 1 [.int .u32 1], .bool true, .sl 1 [.int .u32 1]] (.agg [.bool false, .sl 0 []]) := fF_holds Try.pr_ok (noMemo_holds _) 400 _ _ _ (by kernel_rfl)
theorem aw19 : Runs Try.ir 114 [.agg [.bool false, .sl 1 [.int .u32 1]], .agg [.bool false, .sl 1 [.int .u32 1]]] (.agg [.bool false, .sl 0 []]) := fF_holds Try.pr_ok (memC_holds aw18 (noMemo_holds _)) 400 _ _ _ (by kernel_rfl)
theorem aw20 : Runs Try.ir 62 [.sl 3 [.bool false, .sl 0 [], .bool false, .sl 1 [.int .u32 1], .bool false, .sl 0 []]] (.int .i64 1) := fF_holds Try.pr_ok (noMemo_holds _) 400 _ _ _ (by kernel_rfl)
theorem aw21 : Runs Try.ir 92 [.sl 3 [.bool false, .sl 0 [], .bool false, .sl 1 [.int .u32 1], .bool false, .sl 0 []]] (.fresh 2 2 [.bool false, .sl 0 [], .bool false, .sl 1 [.int .u32 1]]) := fF_holds Try.pr_ok (memC_holds aw20 (noMemo_holds _)) 400 _ _ _ (by kernel_rfl)
theorem aw22 : Runs Try.ir 85 [.sl 2 [.bool false, .sl 0 [], .bool false, .sl 1 [.int .u32 1]]] (.agg [.bool false, .sl 1 [.int .u32 1]]) := fF_holds Try.pr_ok (memC_holds aw5 (noMemo_holds _)) 400 _ _ _ (by kernel_rfl)
theorem aw23 : Runs Try.ir 86 [.sl 3 [.bool false, .sl 0 [], .bool false, .sl 1 [.int .u32 1], .bool false, .sl 0 []]] (.fresh 2 2 [.bool false, .sl 0 [], .bool false, .sl 1 [.int .u32 1]]) := fF_holds Try.pr_ok (memC_holds aw22 (memC_holds aw21 (noMemo_holds _))) 400 _ _ _ (by kernel_rfl)
theorem aw24 : Runs Try.ir 62 [.sl 2 [.bool false, .sl 1 [.int .u32 1], .bool false, .sl 0 []]] (.int .i64 0) := fF_holds Try.pr_ok (noMemo_holds _) 400 _ _ _ (by kernel_rfl)
theorem aw25 : Runs Try.ir 92 [.sl 2 [.bool false, .sl 1 [.int .u32 1], .bool false, .sl 0 []]] (.fresh 2 1 [.bool false, .sl 1 [.int .u32 1]]) := fF_holds Try.pr_ok (memC_holds aw24 (noMemo_holds _)) 400 _ _ _ (by kernel_rfl)
theorem aw26 : Runs Try.ir 86 [.sl 2 [.bool false, .sl 1 [.int .u32 1], .bool false, .sl 0 []]] (.fresh 2 1 [.bool false, .sl 1 [.int .u32 1]]) := fF_holds Try.pr_ok (memC_holds aw25 (memC_holds aw5 (noMemo_holds _))) 400 _ _ _ (by kernel_rfl)
theorem aw27 : Runs Try.ir 64 [.sl 3 [.bool false, .sl 0 [], .bool false, .sl 0 [], .bool false, .sl 1 [.int .u32 1]], .sl 2 [.bool true, .sl 1 [.int .u32 1], .bool false, .sl 1 [.int .u32 1]]] (.fresh 2 1 [.bool false, .sl 1 [.int .u32 1]]) := fF_holds Try.pr_ok (memC_holds aw26 (memC_holds aw23 (memC_holds aw19 (memC_holds aw17 (memC_holds aw16 (memC_holds aw14 (memC_holds aw13 (memC_holds aw12 (memC_holds aw10 (memC_holds aw9 (memC_holds aw7 (noMemo_holds _)))))))))))) 400 _ _ _ (by kernel_rfl)
theorem aw28 : Runs Try.ir 61 [.sl 1 [.sl 1 [.bool false, .sl 1 [.int .u32 1]]]] (.bool false) := fF_holds Try.pr_ok (noMemo_holds _) 400 _ _ _ (by kernel_rfl)
theorem aw29 : Runs Try.ir 15 [.sl 3 [.bool false, .sl 0 [], .bool false, .sl 0 [], .bool false, .sl 1 [.int .u32 1]], .sl 2 [.bool true, .sl 1 [.int .u32 1], .bool false, .sl 1 [.int .u32 1]]] (.tup [.sl 1 [.bool false, .sl 1 [.int .u32 1]], .int .i64 0]) := fF_holds Try.pr_ok (memC_holds aw28 (memC_holds aw27 (memC_holds aw4 (noMemo_holds _)))) 400 _ _ _ (by kernel_rfl)
theorem aw30 : Runs Try.ir 92 [.sl 3 [.bool false, .sl 0 [], .bool false, .sl 0 [], .bool true, .sl 1 [.int .u32 1]]] (.fresh 2 3 [.bool false, .sl 0 [], .bool false, .sl 0 [], .bool true, .sl 1 [.int .u32 1]]) := fF_holds Try.pr_ok (noMemo_holds _) 400 _ _ _ (by kernel_rfl)
theorem aw31 : Runs Try.ir 74 [.sl 3 [.int .i64 0, .int .i64 0, .int .i64 (-1)]] (.fresh 2 3 [.bool false, .sl 0 [], .bool false, .sl 0 [], .bool true, .sl 1 [.int .u32 1]]) := fF_holds Try.pr_ok (memC_holds aw30 (noMemo_holds _)) 400 _ _ _ (by kernel_rfl)
theorem aw32 : Runs Try.ir 92 [.sl 2 [.bool true, .sl 1 [.int .u32 1], .bool false, .sl 1 [.int .u32 2]]] (.fresh 2 2 [.bool true, .sl 1 [.int .u32 1], .bool false, .sl 1 [.int .u32 2]]) := fF_holds Try.pr_ok (noMemo_holds _) 400 _ _ _ (by kernel_rfl)
theorem aw33 : Runs Try.ir 74 [.sl 2 [.int .i64 (-1), .int .i64 2]] (.fresh 2 2 [.bool true, .sl 1 [.int .u32 1], .bool false, .sl 1 [.int .u32 2]]) := fF_holds Try.pr_ok (memC_holds aw32 (noMemo_holds _)) 400 _ _ _ (by kernel_rfl)
theorem aw34 : Runs Try.ir 61 [.sl 2 [.sl 3 [.bool false, .sl 0 [], .bool false, .sl 0 [], .bool true, .sl 1 [.int .u32 1]], .sl 2 [.bool true, .sl 1 [.int .u32 1], .bool false, .sl 1 [.int .u32 2]]]] (.bool false) := fF_holds Try.pr_ok (noMemo_holds _) 400 _ _ _ (by kernel_rfl)
theorem aw35 : Runs Try.ir 109 [.agg [.bool false, .sl 0 []], .agg [.bool true, .sl 1 [.int .u32 1]]] (.agg [.bool false, .sl 1 [.int .u32 1]]) := fF_holds Try.pr_ok (noMemo_holds _) 400 _ _ _ (by kernel_rfl)
theorem aw36 : Runs Try.ir 85 [.sl 3 [.bool false, .sl 0 [], .bool false, .sl 0 [], .bool true, .sl 1 [.int .u32 1]]] (.agg [.bool false, .sl 1 [.int .u32 1]]) := fF_holds Try.pr_ok (memC_holds aw35 (noMemo_holds _)) 400 _ _ _ (by kernel_rfl)
theorem aw37 : Runs Try.ir 86 [.sl 3 [.bool false, .sl 0 [], .bool false, .sl 0 [], .bool true, .sl 1 [.int .u32 1]]] (.fresh 2 3 [.bool false, .sl 0 [], .bool false, .sl 0 [], .bool true, .sl 1 [.int .u32 1]]) := fF_holds Try.pr_ok (memC_holds aw36 (memC_holds aw30 (noMemo_holds _))) 400 _ _ _ (by kernel_rfl)
theorem aw38 : Runs Try.ir 109 [.agg [.bool false, .sl 0 []], .agg [.bool false, .sl 1 [.int .u32 2]]] (.agg [.bool false, .sl 1 [.int .u32 2]]) := fF_holds Try.pr_ok (noMemo_holds _) 400 _ _ _ (by kernel_rfl)
theorem aw39 : Runs Try.ir 109 [.agg [.bool false, .sl 1 [.int .u32 2]], .agg [.bool true, .sl 1 [.int .u32 1]]] (.agg [.bool false, .sl 1 [.int .u32 1]]) := fF_holds Try.pr_ok (noMemo_holds _) 400 _ _ _ (by kernel_rfl)
theorem aw40 : Runs Try.ir 85 [.sl 2 [.bool true, .sl 1 [.int .u32 1], .bool false, .sl 1 [.int .u32 2]]] (.agg [.bool false, .sl 1 [.int .u32 1]]) := fF_holds Try.pr_ok (memC_holds aw39 (memC_holds aw38 (noMemo_holds _))) 400 _ _ _ (by kernel_rfl)
theorem aw41 : Runs Try.ir 86 [.sl 2 [.bool true, .sl 1 [.int .u32 1], .bool false, .sl 1 [.int .u32 2]]] (.fresh 2 2 [.bool true, .sl 1 [.int .u32 1], .bool false, .sl 1 [.int .u32 2]]) := fF_holds Try.pr_ok (memC_holds aw40 (memC_holds aw32 (noMemo_holds _))) 400 _ _ _ (by kernel_rfl)
theorem aw42 : Runs Try.ir 147 [.sl 1 [.int .u32 2], .sl 1 [.int .u32 1]] (.tup [.sl 1 [.int .u32 2], .sl 1 [.int .u32 0]]) := fF_holds Try.pr_ok (noMemo_holds _) 400 _ _ _ (by kernel_rfl)
theorem aw43 : Runs Try.ir 110 [.agg [.bool false, .sl 1 [.int .u32 2]], .agg [.bool false, .sl 1 [.int .u32 1]]] (.tup [.agg [.bool false, .sl 1 [.int .u32 2]], .agg [.bool false, .sl 0 []]]) := fF_holds Try.pr_ok (memC_holds aw42 (noMemo_holds _)) 400 _ _ _ (by kernel_rfl)
theorem aw44 : Runs Try.ir 110 [.agg [.bool true, .sl 1 [.int .u32 1]], .agg [.bool false, .sl 1 [.int .u32 1]]] (.tup [.agg [.bool true, .sl 1 [.int .u32 1]], .agg [.bool false, .sl 0 []]]) := fF_holds Try.pr_ok (memC_holds aw11 (noMemo_holds _)) 400 _ _ _ (by kernel_rfl)
theorem aw45 : Runs Try.ir 113 [.agg [.bool false, .sl 0 []], .agg [.bool false, .sl 1 [.int .u32 2]]] (.agg [.bool false, .sl 0 []]) := fF_holds Try.pr_ok (noMemo_holds _) 400 _ _ _ (by kernel_rfl)
theorem aw46 : Runs Try.ir 113 [.agg [.bool true, .sl 1 [.int .u32 1]], .agg [.bool true, .sl 1 [.int .u32 1]]] (.agg [.bool false, .sl 1 [.int .u32 1]]) := fF_holds Try.pr_ok (noMemo_holds _) 400 _ _ _ (by kernel_rfl)
theorem aw47 : Runs Try.ir 148 [.bool false, .sl 0 [], .bool true, .sl 1 [.int .u32 1]] (.agg [.bool true, .sl 1 [.int .u32 1]]) := fF_holds Try.pr_ok (noMemo_holds _) 400 _ _ _ (by kernel_rfl)
theorem aw48 : Runs Try.ir 114 [.agg [.bool false, .sl 0 []], .agg [.bool false, .sl 1 [.int .u32 1]]] (.agg [.bool true, .sl 1 [.int .u32 1]]) := fF_holds Try.pr_ok (memC_holds aw47 (noMemo_holds _)) 400 _ _ _ (by kernel_rfl)
theorem aw49 : Runs Try.ir 113 [.agg [.bool true, .sl 1 [.int .u32 1]], .agg [.bool false, .sl 1 [.int .u32 2]]] (.agg [.bool true, .sl 1 [.int .u32 2]]) := fF_holds Try.pr_ok (noMemo_holds _) 400 _ _ _ (by kernel_rfl)
theorem aw50 : Runs Try.ir 148 [.bool true, .sl 1 [.int .u32 2], .bool false, .sl 1 [.int .u32 2]] (.agg [.bool false, .sl 0 []]) := fF_holds Try.pr_ok (noMemo_holds _) 400 _ _ _ (by kernel_rfl)
theorem aw51 : Runs Try.ir 114 [.agg [.bool true, .sl 1 [.int .u32 2]], .agg [.bool true, .sl 1 [.int .u32 2]]] (.agg [.bool false, .sl 0 []]) := fF_holds Try.pr_ok (memC_holds aw50 (noMemo_holds _)) 400 _ _ _ (by kernel_rfl)
theorem aw52 : Runs Try.ir 62 [.sl 3 [.bool false, .sl 0 [], .bool true, .sl 1 [.int .u32 1], .bool false, .sl 0 []]] (.int .i64 1) := fF_holds Try.pr_ok (noMemo_holds _) 400 _ _ _ (by kernel_rfl)
theorem aw53 : Runs Try.ir 92 [.sl 3 [.bool false, .sl 0 [], .bool true, .sl 1 [.int .u32 1], .bool false, .sl 0 []]] (.fresh 2 2 [.bool false, .sl 0 [], .bool true, .sl 1 [.int .u32 1]]) := fF_holds Try.pr_ok (memC_holds aw52 (noMemo_holds _)) 400 _ _ _ (by kernel_rfl)
theorem aw54 : Runs Try.ir 85 [.sl 2 [.bool false, .sl 0 [], .bool true, .sl 1 [.int .u32 1]]] (.agg [.bool false, .sl 1 [.int .u32 1]]) := fF_holds Try.pr_ok (memC_holds aw35 (noMemo_holds _)) 400 _ _ _ (by kernel_rfl)
theorem aw55 : Runs Try.ir 86 [.sl 3 [.bool false, .sl 0 [], .bool true, .sl 1 [.int .u32 1], .bool false, .sl 0 []]] (.fresh 2 2 [.bool false, .sl 0 [], .bool true, .sl 1 [.int .u32 1]]) := fF_holds Try.pr_ok (memC_holds aw54 (memC_holds aw53 (noMemo_holds _))) 400 _ _ _ (by kernel_rfl)
theorem aw56 : Runs Try.ir 62 [.sl 2 [.bool true, .sl 1 [.int .u32 1], .bool false, .sl 0 []]] (.int .i64 0) := fF_holds Try.pr_ok (noMemo_holds _) 400 _ _ _ (by kernel_rfl)
theorem aw57 : Runs Try.ir 92 [.sl 2 [.bool true, .sl 1 [.int .u32 1], .bool false, .sl 0 []]] (.fresh 2 1 [.bool true, .sl 1 [.int .u32 1]]) := fF_holds Try.pr_ok (memC_holds aw56 (noMemo_holds _)) 400 _ _ _ (by kernel_rfl)
theorem aw58 : Runs Try.ir 86 [.sl 2 [.bool true, .sl 1 [.int .u32 1], .bool false, .sl 0 []]] (.fresh 2 1 [.bool true, .sl 1 [.int .u32 1]]) := fF_holds Try.pr_ok (memC_holds aw57 (memC_holds aw35 (noMemo_holds _))) 400 _ _ _ (by kernel_rfl)
theorem aw59 : Runs Try.ir 64 [.sl 3 [.bool false, .sl 0 [], .bool false, .sl 0 [], .bool true, .sl 1 [.int .u32 1]], .sl 2 [.bool true, .sl 1 [.int .u32 1], .bool false, .sl 1 [.int .u32 2]]] (.fresh 2 1 [.bool true, .sl 1 [.int .u32 1]]) := fF_holds Try.pr_ok (memC_holds aw58 (memC_holds aw55 (memC_holds aw51 (memC_holds aw49 (memC_holds aw48 (memC_holds aw46 (memC_holds aw45 (memC_holds aw44 (memC_holds aw43 (memC_holds aw41 (memC_holds aw39 (memC_holds aw37 (noMemo_holds _))))))))))))) 400 _ _ _ (by kernel_rfl)
theorem aw60 : Runs Try.ir 61 [.sl 1 [.sl 1 [.bool true, .sl 1 [.int .u32 1]]]] (.bool false) := fF_holds Try.pr_ok (noMemo_holds _) 400 _ _ _ (by kernel_rfl)
theorem aw61 : Runs Try.ir 15 [.sl 3 [.bool false, .sl 0 [], .bool false, .sl 0 [], .bool true, .sl 1 [.int .u32 1]], .sl 2 [.bool true, .sl 1 [.int .u32 1], .bool false, .sl 1 [.int .u32 2]]] (.tup [.sl 1 [.bool true, .sl 1 [.int .u32 1]], .int .i64 0]) := fF_holds Try.pr_ok (memC_holds aw60 (memC_holds aw59 (memC_holds aw34 (noMemo_holds _)))) 400 _ _ _ (by kernel_rfl)
theorem aw62 : Runs Try.ir 92 [.sl 3 [.bool true, .sl 1 [.int .u32 1], .bool false, .sl 0 [], .bool false, .sl 1 [.int .u32 1]]] (.fresh 2 3 [.bool true, .sl 1 [.int .u32 1], .bool false, .sl 0 [], .bool false, .sl 1 [.int .u32 1]]) := fF_holds Try.pr_ok (noMemo_holds _) 400 _ _ _ (by kernel_rfl)
theorem aw63 : Runs Try.ir 74 [.sl 3 [.int .i64 (-1), .int .i64 0, .int .i64 1]] (.fresh 2 3 [.bool true, .sl 1 [.int .u32 1], .bool false, .sl 0 [], .bool false, .sl 1 [.int .u32 1]]) := fF_holds Try.pr_ok (memC_holds aw62 (noMemo_holds _)) 400 _ _ _ (by kernel_rfl)
theorem aw64 : Runs Try.ir 92 [.sl 2 [.bool true, .sl 1 [.int .u32 2], .bool false, .sl 1 [.int .u32 2]]] (.fresh 2 2 [.bool true, .sl 1 [.int .u32 2], .bool false, .sl 1 [.int .u32 2]]) := fF_holds Try.pr_ok (noMemo_holds _) 400 _ _ _ (by kernel_rfl)
theorem aw65 : Runs Try.ir 74 [.sl 2 [.int .i64 (-2), .int .i64 2]] (.fresh 2 2 [.bool true, .sl 1 [.int .u32 2], .bool false, .sl 1 [.int .u32 2]]) := fF_holds Try.pr_ok (memC_holds aw64 (noMemo_holds _)) 400 _ _ _ (by kernel_rfl)
theorem aw66 : Runs Try.ir 61 [.sl 2 [.sl 3 [.bool true, .sl 1 [.int .u32 1], .bool false, .sl 0 [], .bool false, .sl 1 [.int .u32 1]], .sl 2 [.bool true, .sl 1 [.int .u32 2], .bool false, .sl 1 [.int .u32 2]]]] (.bool false) := fF_holds Try.pr_ok (noMemo_holds _) 400 _ _ _ (by kernel_rfl)
theorem aw67 : Runs Try.ir 85 [.sl 3 [.bool true, .sl 1 [.int .u32 1], .bool false, .sl 0 [], .bool false, .sl 1 [.int .u32 1]]] (.agg [.bool false, .sl 1 [.int .u32 1]]) := fF_holds Try.pr_ok (memC_holds aw5 (noMemo_holds _)) 400 _ _ _ (by kernel_rfl)
theorem aw68 : Runs Try.ir 86 [.sl 3 [.bool true, .sl 1 [.int .u32 1], .bool false, .sl 0 [], .bool false, .sl 1 [.int .u32 1]]] (.fresh 2 3 [.bool true, .sl 1 [.int .u32 1], .bool false, .sl 0 [], .bool false, .sl 1 [.int .u32 1]]) := fF_holds Try.pr_ok (memC_holds aw67 (memC_holds aw62 (noMemo_holds _))) 400 _ _ _ (by kernel_rfl)
theorem aw69 : Runs Try.ir 109 [.agg [.bool false, .sl 1 [.int .u32 2]], .agg [.bool true, .sl 1 [.int .u32 2]]] (.agg [.bool false, .sl 1 [.int .u32 2]]) := fF_holds Try.pr_ok (noMemo_holds _) 400 _ _ _ (by kernel_rfl)
theorem aw70 : Runs Try.ir 85 [.sl 2 [.bool true, .sl 1 [.int .u32 2], .bool false, .sl 1 [.int .u32 2]]] (.agg [.bool false, .sl 1 [.int .u32 2]]) := fF_holds Try.pr_ok (memC_holds aw69 (memC_holds aw38 (noMemo_holds _))) 400 _ _ _ (by kernel_rfl)
theorem aw71 : Runs Try.ir 147 [.sl 1 [.int .u32 2], .sl 1 [.int .u32 2]] (.tup [.sl 1 [.int .u32 1], .sl 1 [.int .u32 0]]) := fF_holds Try.pr_ok (noMemo_holds _) 400 _ _ _ (by kernel_rfl)
theorem aw72 : Runs Try.ir 110 [.agg [.bool true, .sl 1 [.int .u32 2]], .agg [.bool false, .sl 1 [.int .u32 2]]] (.tup [.agg [.bool true, .sl 1 [.int .u32 1]], .agg [.bool false, .sl 0 []]]) := fF_holds Try.pr_ok (memC_holds aw71 (noMemo_holds _)) 400 _ _ _ (by kernel_rfl)
theorem aw73 : Runs Try.ir 110 [.agg [.bool false, .sl 1 [.int .u32 2]], .agg [.bool false, .sl 1 [.int .u32 2]]] (.tup [.agg [.bool false, .sl 1 [.int .u32 1]], .agg [.bool false, .sl 0 []]]) := fF_holds Try.pr_ok (memC_holds aw71 (noMemo_holds _)) 400 _ _ _ (by kernel_rfl)
theorem aw74 : Runs Try.ir 86 [.sl 2 [.bool true, .sl 1 [.int .u32 2], .bool false, .sl 1 [.int .u32 2]]] (.fresh 2 2 [.bool true, .sl 1 [.int .u32 1], .bool false, .sl 1 [.int .u32 1]]) := fF_holds Try.pr_ok (memC_holds aw73 (memC_holds aw72 (memC_holds aw70 (memC_holds aw64 (noMemo_holds _))))) 400 _ _ _ (by kernel_rfl)
theorem aw75 : Runs Try.ir 113 [.agg [.bool true, .sl 1 [.int .u32 1]], .agg [.bool false, .sl 1 [.int .u32 1]]] (.agg [.bool true, .sl 1 [.int .u32 1]]) := fF_holds Try.pr_ok (noMemo_holds _) 400 _ _ _ (by kernel_rfl)
theorem aw76 : Runs Try.ir 62 [.sl 3 [.bool true, .sl 1 [.int .u32 1], .bool false, .sl 1 [.int .u32 1], .bool false, .sl 0 []]] (.int .i64 1) := fF_holds Try.pr_ok (noMemo_holds _) 400 _ _ _ (by kernel_rfl)
theorem aw77 : Runs Try.ir 92 [.sl 3 [.bool true, .sl 1 [.int .u32 1], .bool false, .sl 1 [.int .u32 1], .bool false, .sl 0 []]] (.fresh 2 2 [.bool true, .sl 1 [.int .u32 1], .bool false, .sl 1 [.int .u32 1]]) := fF_holds Try.pr_ok (memC_holds aw76 (noMemo_holds _)) 400 _ _ _ (by kernel_rfl)
theorem aw78 : Runs Try.ir 86 [.sl 3 [.bool true, .sl 1 [.int .u32 1], .bool false, .sl 1 [.int .u32 1], .bool false, .sl 0 []]] (.fresh 2 2 [.bool true, .sl 1 [.int .u32 1], .bool false, .sl 1 [.int .u32 1]]) := fF_holds Try.pr_ok (memC_holds aw77 (memC_holds aw8 (noMemo_holds _))) 400 _ _ _ (by kernel_rfl)
theorem aw79 : Runs Try.ir 148 [.bool true, .sl 1 [.int .u32 1], .bool false, .sl 1 [.int .u32 1]] (.agg [.bool false, .sl 0 []]) := fF_holds Try.pr_ok (noMemo_holds _) 400 _ _ _ (by kernel_rfl)
theorem aw80 : Runs Try.ir 114 [.agg [.bool true, .sl 1 [.int .u32 1]], .agg [.bool true, .sl 1 [.int .u32 1]]] (.agg [.bool false, .sl 0 []]) := fF_holds Try.pr_ok (memC_holds aw79 (noMemo_holds _)) 400 _ _ _ (by kernel_rfl)
theorem aw81 : Runs Try.ir 62 [.sl 2 [.bool false, .sl 0 [], .bool false, .sl 0 []]] (.int .i64 (-1)) := fF_holds Try.pr_ok (noMemo_holds _) 400 _ _ _ (by kernel_rfl)
theorem aw82 : Runs Try.ir 86 [.sl 2 [.bool false, .sl 0 [], .bool false, .sl 0 []]] (.fresh 2 0 []) := fF_holds Try.pr_ok (memC_holds aw81 (noMemo_holds _)) 400 _ _ _ (by kernel_rfl)
theorem aw83 : Runs Try.ir 64 [.sl 3 [.bool true, .sl 1 [.int .u32 1], .bool false, .sl 0 [], .bool false, .sl 1 [.int .u32 1]], .sl 2 [.bool true, .sl 1 [.int .u32 1], .bool false, .sl 1 [.int .u32 1]]] (.fresh 2 0 []) := fF_holds Try.pr_ok (memC_holds aw82 (memC_holds aw80 (memC_holds aw78 (memC_holds aw75 (memC_holds aw68 (memC_holds aw19 (memC_holds aw17 (memC_holds aw16 (memC_holds aw14 (memC_holds aw13 (memC_holds aw12 (memC_holds aw10 (memC_holds aw9 (noMemo_holds _)))))))))))))) 400 _ _ _ (by kernel_rfl)
theorem aw84 : Runs Try.ir 65 [.sl 3 [.bool true, .sl 1 [.int .u32 1], .bool false, .sl 0 [], .bool false, .sl 1 [.int .u32 1]], .sl 2 [.bool true, .sl 1 [.int .u32 2], .bool false, .sl 1 [.int .u32 2]]] (.sl 2 [.bool true, .sl 1 [.int .u32 1], .bool false, .sl 1 [.int .u32 1]]) := fF_holds Try.pr_ok (memC_holds aw83 (memC_holds aw74 (memC_holds aw68 (noMemo_holds _)))) 400 _ _ _ (by kernel_rfl)
theorem aw85 : Runs Try.ir 61 [.sl 1 [.sl 2 [.bool true, .sl 1 [.int .u32 1], .bool false, .sl 1 [.int .u32 1]]]] (.bool false) := fF_holds Try.pr_ok (noMemo_holds _) 400 _ _ _ (by kernel_rfl)
theorem aw86 : Runs Try.ir 92 [.sl 4 [.bool false, .sl 0 [], .bool false, .sl 0 [], .bool true, .sl 1 [.int .u32 4], .bool false, .sl 1 [.int .u32 4]]] (.fresh 2 4 [.bool false, .sl 0 [], .bool false, .sl 0 [], .bool true, .sl 1 [.int .u32 4], .bool false, .sl 1 [.int .u32 4]]) := fF_holds Try.pr_ok (noMemo_holds _) 400 _ _ _ (by kernel_rfl)
theorem aw87 : Runs Try.ir 74 [.sl 4 [.int .i64 0, .int .i64 0, .int .i64 (-4), .int .i64 4]] (.fresh 2 4 [.bool false, .sl 0 [], .bool false, .sl 0 [], .bool true, .sl 1 [.int .u32 4], .bool false, .sl 1 [.int .u32 4]]) := fF_holds Try.pr_ok (memC_holds aw86 (noMemo_holds _)) 400 _ _ _ (by kernel_rfl)
theorem aw88 : Runs Try.ir 61 [.sl 1 [.sl 4 [.bool false, .sl 0 [], .bool false, .sl 0 [], .bool true, .sl 1 [.int .u32 4], .bool false, .sl 1 [.int .u32 4]]]] (.bool false) := fF_holds Try.pr_ok (noMemo_holds _) 400 _ _ _ (by kernel_rfl)
theorem aw89 : Runs Try.ir 109 [.agg [.bool false, .sl 0 []], .agg [.bool false, .sl 1 [.int .u32 4]]] (.agg [.bool false, .sl 1 [.int .u32 4]]) := fF_holds Try.pr_ok (noMemo_holds _) 400 _ _ _ (by kernel_rfl)
theorem aw90 : Runs Try.ir 109 [.agg [.bool false, .sl 1 [.int .u32 4]], .agg [.bool true, .sl 1 [.int .u32 4]]] (.agg [.bool false, .sl 1 [.int .u32 4]]) := fF_holds Try.pr_ok (noMemo_holds _) 400 _ _ _ (by kernel_rfl)
theorem aw91 : Runs Try.ir 109 [.agg [.bool false, .sl 1 [.int .u32 4]], .agg [.bool false, .sl 0 []]] (.agg [.bool false, .sl 1 [.int .u32 4]]) := fF_holds Try.pr_ok (noMemo_holds _) 400 _ _ _ (by kernel_rfl)
theorem aw92 : Runs Try.ir 85 [.sl 4 [.bool false, .sl 0 [], .bool false, .sl 0 [], .bool true, .sl 1 [.int .u32 4], .bool false, .sl 1 [.int .u32 4]]] (.agg [.bool false, .sl 1 [.int .u32 4]]) := fF_holds Try.pr_ok (memC_holds aw91 (memC_holds aw90 (memC_holds aw89 (noMemo_holds _)))) 400 _ _ _ (by kernel_rfl)
theorem aw93 : Runs Try.ir 110 [.agg [.bool false, .sl 0 []], .agg [.bool false, .sl 1 [.int .u32 4]]] (.tup [.agg [.bool false, .sl 0 []], .agg [.bool false, .sl 0 []]]) := fF_holds Try.pr_ok (noMemo_holds _) 400 _ _ _ (by kernel_rfl)
theorem aw94 : Runs Try.ir 147 [.sl 1 [.int .u32 4], .sl 1 [.int .u32 4]] (.tup [.sl 1 [.int .u32 1], .sl 1 [.int .u32 0]]) := fF_holds Try.pr_ok (noMemo_holds _) 400 _ _ _ (by kernel_rfl)
theorem aw95 : Runs Try.ir 110 [.agg [.bool true, .sl 1 [.int .u32 4]], .agg [.bool false, .sl 1 [.int .u32 4]]] (.tup [.agg [.bool true, .sl 1 [.int .u32 1]], .agg [.bool false, .sl 0 []]]) := fF_holds Try.pr_ok (memC_holds aw94 (noMemo_holds _)) 400 _ _ _ (by kernel_rfl)
theorem aw96 : Runs Try.ir 110 [.agg [.bool false, .sl 1 [.int .u32 4]], .agg [.bool false, .sl 1 [.int .u32 4]]] (.tup [.agg [.bool false, .sl 1 [.int .u32 1]], .agg [.bool false, .sl 0 []]]) := fF_holds Try.pr_ok (memC_holds aw94 (noMemo_holds _)) 400 _ _ _ (by kernel_rfl)
theorem aw97 : Runs Try.ir 86 [.sl 4 [.bool false, .sl 0 [], .bool false, .sl 0 [], .bool true, .sl 1 [.int .u32 4], .bool false, .sl 1 [.int .u32 4]]] (.fresh 2 4 [.bool false, .sl 0 [], .bool false, .sl 0 [], .bool true, .sl 1 [.int .u32 1], .bool false, .sl 1 [.int .u32 1]]) := fF_holds Try.pr_ok (memC_holds aw96 (memC_holds aw95 (memC_holds aw93 (memC_holds aw92 (memC_holds aw86 (noMemo_holds _)))))) 400 _ _ _ (by kernel_rfl)
theorem aw98 : Runs Try.ir 113 [.agg [.bool false, .sl 1 [.int .u32 1]], .agg [.bool false, .sl 1 [.int .u32 3]]] (.agg [.bool false, .sl 1 [.int .u32 3]]) := fF_holds Try.pr_ok (noMemo_holds _) 400 _ _ _ (by kernel_rfl)
theorem aw99 : Runs Try.ir 92 [.sl 3 [.bool false, .sl 0 [], .bool true, .sl 1 [.int .u32 2], .bool false, .sl 1 [.int .u32 3]]] (.fresh 2 3 [.bool false, .sl 0 [], .bool true, .sl 1 [.int .u32 2], .bool false, .sl 1 [.int .u32 3]]) := fF_holds Try.pr_ok (noMemo_holds _) 400 _ _ _ (by kernel_rfl)
theorem aw100 : Runs Try.ir 75 [.sl 4 [.bool false, .sl 0 [], .bool false, .sl 0 [], .bool true, .sl 1 [.int .u32 1], .bool false, .sl 1 [.int .u32 1]]] (.fresh 2 3 [.bool false, .sl 0 [], .bool true, .sl 1 [.int .u32 2], .bool false, .sl 1 [.int .u32 3]]) := fF_holds Try.pr_ok (memC_holds aw99 (memC_holds aw98 (memC_holds aw49 (memC_holds aw13 (noMemo_holds _))))) 400 _ _ _ (by kernel_rfl)
theorem aw101 : Runs Try.ir 92 [.sl 4 [.bool false, .sl 0 [], .bool false, .sl 0 [], .bool true, .sl 1 [.int .u32 1], .bool false, .sl 1 [.int .u32 1]]] (.fresh 2 4 [.bool false, .sl 0 [], .bool false, .sl 0 [], .bool true, .sl 1 [.int .u32 1], .bool false, .sl 1 [.int .u32 1]]) := fF_holds Try.pr_ok (noMemo_holds _) 400 _ _ _ (by kernel_rfl)
theorem aw102 : Runs Try.ir 85 [.sl 4 [.bool false, .sl 0 [], .bool false, .sl 0 [], .bool true, .sl 1 [.int .u32 1], .bool false, .sl 1 [.int .u32 1]]] (.agg [.bool false, .sl 1 [.int .u32 1]]) := fF_holds Try.pr_ok (memC_holds aw5 (noMemo_holds _)) 400 _ _ _ (by kernel_rfl)
theorem aw103 : Runs Try.ir 86 [.sl 4 [.bool false, .sl 0 [], .bool false, .sl 0 [], .bool true, .sl 1 [.int .u32 1], .bool false, .sl 1 [.int .u32 1]]] (.fresh 2 4 [.bool false, .sl 0 [], .bool false, .sl 0 [], .bool true, .sl 1 [.int .u32 1], .bool false, .sl 1 [.int .u32 1]]) := fF_holds Try.pr_ok (memC_holds aw102 (memC_holds aw101 (noMemo_holds _))) 400 _ _ _ (by kernel_rfl)
theorem aw104 : Runs Try.ir 109 [.agg [.bool false, .sl 0 []], .agg [.bool false, .sl 1 [.int .u32 3]]] (.agg [.bool false, .sl 1 [.int .u32 3]]) := fF_holds Try.pr_ok (noMemo_holds _) 400 _ _ _ (by kernel_rfl)
theorem aw105 : Runs Try.ir 109 [.agg [.bool false, .sl 1 [.int .u32 3]], .agg [.bool true, .sl 1 [.int .u32 2]]] (.agg [.bool false, .sl 1 [.int .u32 1]]) := fF_holds Try.pr_ok (noMemo_holds _) 400 _ _ _ (by kernel_rfl)
theorem aw106 : Runs Try.ir 85 [.sl 3 [.bool false, .sl 0 [], .bool true, .sl 1 [.int .u32 2], .bool false, .sl 1 [.int .u32 3]]] (.agg [.bool false, .sl 1 [.int .u32 1]]) := fF_holds Try.pr_ok (memC_holds aw105 (memC_holds aw104 (noMemo_holds _))) 400 _ _ _ (by kernel_rfl)
theorem aw107 : Runs Try.ir 86 [.sl 3 [.bool false, .sl 0 [], .bool true, .sl 1 [.int .u32 2], .bool false, .sl 1 [.int .u32 3]]] (.fresh 2 3 [.bool false, .sl 0 [], .bool true, .sl 1 [.int .u32 2], .bool false, .sl 1 [.int .u32 3]]) := fF_holds Try.pr_ok (memC_holds aw106 (memC_holds aw99 (noMemo_holds _))) 400 _ _ _ (by kernel_rfl)
theorem aw108 : Runs Try.ir 109 [.agg [.bool false, .sl 1 [.int .u32 3]], .agg [.bool false, .sl 1 [.int .u32 1]]] (.agg [.bool false, .sl 1 [.int .u32 1]]) := fF_holds Try.pr_ok (noMemo_holds _) 400 _ _ _ (by kernel_rfl)
theorem aw109 : Runs Try.ir 147 [.sl 1 [.int .u32 3], .sl 1 [.int .u32 1]] (.tup [.sl 1 [.int .u32 3], .sl 1 [.int .u32 0]]) := fF_holds Try.pr_ok (noMemo_holds _) 400 _ _ _ (by kernel_rfl)
theorem aw110 : Runs Try.ir 110 [.agg [.bool false, .sl 1 [.int .u32 3]], .agg [.bool false, .sl 1 [.int .u32 1]]] (.tup [.agg [.bool false, .sl 1 [.int .u32 3]], .agg [.bool false, .sl 0 []]]) := fF_holds Try.pr_ok (memC_holds aw109 (noMemo_holds _)) 400 _ _ _ (by kernel_rfl)
theorem aw111 : Runs Try.ir 113 [.agg [.bool false, .sl 0 []], .agg [.bool false, .sl 1 [.int .u32 3]]] (.agg [.bool false, .sl 0 []]) := fF_holds Try.pr_ok (noMemo_holds _) 400 _ _ _ (by kernel_rfl)
end Go.Proofs.Ythnnfemologhfaa

namespace Go.Proofs.Ythnnfemologhfaa
open Go.Ai
set_option maxRecDepth 100000
theorem aw112 : Runs Try.ir 113 [.agg [.bool false, .sl 1 [.int .u32 1]], .agg [.bool false, .sl 0 []]] (.agg [.bool false, .sl 0 []]) := fF_holds Try.pr_ok (noMemo_holds _) 400 _ _ _ (by kernel_rfl)
theorem aw113 : Runs Try.ir 114 [.agg [.bool false, .sl 0 []], .agg [.bool false, .sl 0 []]] (.agg [.bool false, .sl 0 []]) := fF_holds Try.pr_ok (noMemo_holds _) 400 _ _ _ (by kernel_rfl)
theorem aw114 : Runs Try.ir 113 [.agg [.bool true, .sl 1 [.int .u32 1]], .agg [.bool false, .sl 1 [.int .u32 3]]] (.agg [.bool true, .sl 1 [.int .u32 3]]) := fF_holds Try.pr_ok (noMemo_holds _) 400 _ _ _ (by kernel_rfl)
theorem aw115 : Runs Try.ir 113 [.agg [.bool false, .sl 1 [.int .u32 1]], .agg [.bool true, .sl 1 [.int .u32 2]]] (.agg [.bool true, .sl 1 [.int .u32 2]]) := fF_holds Try.pr_ok (noMemo_holds _) 400 _ _ _ (by kernel_rfl)
theorem aw116 : Runs Try.ir 148 [.bool true, .sl 1 [.int .u32 3], .bool false, .sl 1 [.int .u32 2]] (.agg [.bool true, .sl 1 [.int .u32 1]]) := fF_holds Try.pr_ok (noMemo_holds _) 400 _ _ _ (by kernel_rfl)
theorem aw117 : Runs Try.ir 114 [.agg [.bool true, .sl 1 [.int .u32 3]], .agg [.bool true, .sl 1 [.int .u32 2]]] (.agg [.bool true, .sl 1 [.int .u32 1]]) := fF_holds Try.pr_ok (memC_holds aw116 (noMemo_holds _)) 400 _ _ _ (by kernel_rfl)
theorem aw118 : Runs Try.ir 148 [.bool false, .sl 1 [.int .u32 3], .bool true, .sl 1 [.int .u32 3]] (.agg [.bool false, .sl 0 []]) := fF_holds Try.pr_ok (noMemo_holds _) 400 _ _ _ (by kernel_rfl)
theorem aw119 : Runs Try.ir 114 [.agg [.bool false, .sl 1 [.int .u32 3]], .agg [.bool false, .sl 1 [.int .u32 3]]] (.agg [.bool false, .sl 0 []]) := fF_holds Try.pr_ok (memC_holds aw118 (noMemo_holds _)) 400 _ _ _ (by kernel_rfl)
theorem aw120 : Runs Try.ir 62 [.sl 4 [.bool false, .sl 0 [], .bool false, .sl 0 [], .bool true, .sl 1 [.int .u32 1], .bool false, .sl 0 []]] (.int .i64 2) := fF_holds Try.pr_ok (noMemo_holds _) 400 _ _ _ (by kernel_rfl)
theorem aw121 : Runs Try.ir 92 [.sl 4 [.bool false, .sl 0 [], .bool false, .sl 0 [], .bool true, .sl 1 [.int .u32 1], .bool false, .sl 0 []]] (.fresh 2 3 [.bool false, .sl 0 [], .bool false, .sl 0 [], .bool true, .sl 1 [.int .u32 1]]) := fF_holds Try.pr_ok (memC_holds aw120 (noMemo_holds _)) 400 _ _ _ (by kernel_rfl)
theorem aw122 : Runs Try.ir 86 [.sl 4 [.bool false, .sl 0 [], .bool false, .sl 0 [], .bool true, .sl 1 [.int .u32 1], .bool false, .sl 0 []]] (.fresh 2 3 [.bool false, .sl 0 [], .bool false, .sl 0 [], .bool true, .sl 1 [.int .u32 1]]) := fF_holds Try.pr_ok (memC_holds aw121 (memC_holds aw36 (noMemo_holds _))) 400 _ _ _ (by kernel_rfl)
theorem aw123 : Runs Try.ir 109 [.agg [.bool false, .sl 1 [.int .u32 3]], .agg [.bool true, .sl 1 [.int .u32 1]]] (.agg [.bool false, .sl 1 [.int .u32 1]]) := fF_holds Try.pr_ok (noMemo_holds _) 400 _ _ _ (by kernel_rfl)
theorem aw124 : Runs Try.ir 113 [.agg [.bool true, .sl 1 [.int .u32 1]], .agg [.bool false, .sl 0 []]] (.agg [.bool false, .sl 0 []]) := fF_holds Try.pr_ok (noMemo_holds _) 400 _ _ _ (by kernel_rfl)
theorem aw125 : Runs Try.ir 113 [.agg [.bool true, .sl 1 [.int .u32 1]], .agg [.bool true, .sl 1 [.int .u32 2]]] (.agg [.bool false, .sl 1 [.int .u32 2]]) := fF_holds Try.pr_ok (noMemo_holds _) 400 _ _ _ (by kernel_rfl)
theorem aw126 : Runs Try.ir 148 [.bool false, .sl 0 [], .bool true, .sl 1 [.int .u32 2]] (.agg [.bool true, .sl 1 [.int .u32 2]]) := fF_holds Try.pr_ok (noMemo_holds _) 400 _ _ _ (by kernel_rfl)
theorem aw127 : Runs Try.ir 114 [.agg [.bool false, .sl 0 []], .agg [.bool false, .sl 1 [.int .u32 2]]] (.agg [.bool true, .sl 1 [.int .u32 2]]) := fF_holds Try.pr_ok (memC_holds aw126 (noMemo_holds _)) 400 _ _ _ (by kernel_rfl)
theorem aw128 : Runs Try.ir 148 [.bool true, .sl 1 [.int .u32 3], .bool false, .sl 1 [.int .u32 3]] (.agg [.bool false, .sl 0 []]) := fF_holds Try.pr_ok (noMemo_holds _) 400 _ _ _ (by kernel_rfl)
theorem aw129 : Runs Try.ir 114 [.agg [.bool true, .sl 1 [.int .u32 3]], .agg [.bool true, .sl 1 [.int .u32 3]]] (.agg [.bool false, .sl 0 []]) := fF_holds Try.pr_ok (memC_holds aw128 (noMemo_holds _)) 400 _ _ _ (by kernel_rfl)
theorem aw130 : Runs Try.ir 62 [.sl 3 [.bool false, .sl 0 [], .bool true, .sl 1 [.int .u32 2], .bool false, .sl 0 []]] (.int .i64 1) := fF_holds Try.pr_ok (noMemo_holds _) 400 _ _ _ (by kernel_rfl)
theorem aw131 : Runs Try.ir 92 [.sl 3 [.bool false, .sl 0 [], .bool true, .sl 1 [.int .u32 2], .bool false, .sl 0 []]] (.fresh 2 2 [.bool false, .sl 0 [], .bool true, .sl 1 [.int .u32 2]]) := fF_holds Try.pr_ok (memC_holds aw130 (noMemo_holds _)) 400 _ _ _ (by kernel_rfl)
theorem aw132 : Runs Try.ir 109 [.agg [.bool false, .sl 0 []], .agg [.bool true, .sl 1 [.int .u32 2]]] (.agg [.bool false, .sl 1 [.int .u32 2]]) := fF_holds Try.pr_ok (noMemo_holds _) 400 _ _ _ (by kernel_rfl)
theorem aw133 : Runs Try.ir 109 [.agg [.bool false, .sl 1 [.int .u32 2]], .agg [.bool false, .sl 0 []]] (.agg [.bool false, .sl 1 [.int .u32 2]]) := fF_holds Try.pr_ok (noMemo_holds _) 400 _ _ _ (by kernel_rfl)
theorem aw134 : Runs Try.ir 85 [.sl 2 [.bool false, .sl 0 [], .bool true, .sl 1 [.int .u32 2]]] (.agg [.bool false, .sl 1 [.int .u32 2]]) := fF_holds Try.pr_ok (memC_holds aw133 (memC_holds aw132 (noMemo_holds _))) 400 _ _ _ (by kernel_rfl)
theorem aw135 : Runs Try.ir 110 [.agg [.bool false, .sl 0 []], .agg [.bool false, .sl 1 [.int .u32 2]]] (.tup [.agg [.bool false, .sl 0 []], .agg [.bool false, .sl 0 []]]) := fF_holds Try.pr_ok (noMemo_holds _) 400 _ _ _ (by kernel_rfl)
theorem aw136 : Runs Try.ir 86 [.sl 3 [.bool false, .sl 0 [], .bool true, .sl 1 [.int .u32 2], .bool false, .sl 0 []]] (.fresh 2 2 [.bool false, .sl 0 [], .bool true, .sl 1 [.int .u32 1]]) := fF_holds Try.pr_ok (memC_holds aw135 (memC_holds aw134 (memC_holds aw131 (memC_holds aw72 (noMemo_holds _))))) 400 _ _ _ (by kernel_rfl)
theorem aw137 : Runs Try.ir 64 [.sl 4 [.bool false, .sl 0 [], .bool false, .sl 0 [], .bool true, .sl 1 [.int .u32 1], .bool false, .sl 1 [.int .u32 1]], .sl 3 [.bool false, .sl 0 [], .bool true, .sl 1 [.int .u32 2], .bool false, .sl 1 [.int .u32 3]]] (.fresh 2 2 [.bool false, .sl 0 [], .bool true, .sl 1 [.int .u32 1]]) := fF_holds Try.pr_ok (memC_holds aw136 (memC_holds aw129 (memC_holds aw127 (memC_holds aw125 (memC_holds aw124 (memC_holds aw123 (memC_holds aw122 (memC_holds aw119 (memC_holds aw117 (memC_holds aw115 (memC_holds aw114 (memC_holds aw113 (memC_holds aw112 (memC_holds aw111 (memC_holds aw110 (memC_holds aw108 (memC_holds aw107 (memC_holds aw103 (memC_holds aw98 (memC_holds aw44 (memC_holds aw12 (noMemo_holds _)))))))))))))))))))))) 400 _ _ _ (by kernel_rfl)
theorem aw138 : Runs Try.ir 92 [.sl 2 [.bool false, .sl 0 [], .bool true, .sl 1 [.int .u32 1]]] (.fresh 2 2 [.bool false, .sl 0 [], .bool true, .sl 1 [.int .u32 1]]) := fF_holds Try.pr_ok (noMemo_holds _) 400 _ _ _ (by kernel_rfl)
theorem aw139 : Runs Try.ir 86 [.sl 2 [.bool false, .sl 0 [], .bool true, .sl 1 [.int .u32 1]]] (.fresh 2 2 [.bool false, .sl 0 [], .bool true, .sl 1 [.int .u32 1]]) := fF_holds Try.pr_ok (memC_holds aw138 (memC_holds aw54 (noMemo_holds _))) 400 _ _ _ (by kernel_rfl)
theorem aw140 : Runs Try.ir 109 [.agg [.bool true, .sl 1 [.int .u32 1]], .agg [.bool false, .sl 1 [.int .u32 3]]] (.agg [.bool false, .sl 1 [.int .u32 1]]) := fF_holds Try.pr_ok (noMemo_holds _) 400 _ _ _ (by kernel_rfl)
theorem aw141 : Runs Try.ir 113 [.agg [.bool true, .sl 1 [.int .u32 2]], .agg [.bool false, .sl 1 [.int .u32 1]]] (.agg [.bool true, .sl 1 [.int .u32 2]]) := fF_holds Try.pr_ok (noMemo_holds _) 400 _ _ _ (by kernel_rfl)
theorem aw142 : Runs Try.ir 113 [.agg [.bool true, .sl 1 [.int .u32 3]], .agg [.bool false, .sl 0 []]] (.agg [.bool false, .sl 0 []]) := fF_holds Try.pr_ok (noMemo_holds _) 400 _ _ _ (by kernel_rfl)
theorem aw143 : Runs Try.ir 148 [.bool true, .sl 1 [.int .u32 2], .bool true, .sl 0 []] (.agg [.bool true, .sl 1 [.int .u32 2]]) := fF_holds Try.pr_ok (noMemo_holds _) 400 _ _ _ (by kernel_rfl)
theorem aw144 : Runs Try.ir 114 [.agg [.bool true, .sl 1 [.int .u32 2]], .agg [.bool false, .sl 0 []]] (.agg [.bool true, .sl 1 [.int .u32 2]]) := fF_holds Try.pr_ok (memC_holds aw143 (noMemo_holds _)) 400 _ _ _ (by kernel_rfl)
theorem aw145 : Runs Try.ir 113 [.agg [.bool false, .sl 1 [.int .u32 3]], .agg [.bool false, .sl 1 [.int .u32 1]]] (.agg [.bool false, .sl 1 [.int .u32 3]]) := fF_holds Try.pr_ok (noMemo_holds _) 400 _ _ _ (by kernel_rfl)
theorem aw146 : Runs Try.ir 113 [.agg [.bool true, .sl 1 [.int .u32 3]], .agg [.bool true, .sl 1 [.int .u32 1]]] (.agg [.bool false, .sl 1 [.int .u32 3]]) := fF_holds Try.pr_ok (noMemo_holds _) 400 _ _ _ (by kernel_rfl)
theorem aw147 : Runs Try.ir 109 [.agg [.bool true, .sl 1 [.int .u32 1]], .agg [.bool true, .sl 1 [.int .u32 1]]] (.agg [.bool false, .sl 1 [.int .u32 1]]) := fF_holds Try.pr_ok (noMemo_holds _) 400 _ _ _ (by kernel_rfl)
theorem aw148 : Runs Try.ir 64 [.sl 3 [.bool false, .sl 0 [], .bool true, .sl 1 [.int .u32 2], .bool false, .sl 1 [.int .u32 3]], .sl 2 [.bool false, .sl 0 [], .bool true, .sl 1 [.int .u32 1]]] (.fresh 2 0 []) := fF_holds Try.pr_ok (memC_holds aw147 (memC_holds aw146 (memC_holds aw145 (memC_holds aw144 (memC_holds aw142 (memC_holds aw141 (memC_holds aw140 (memC_holds aw139 (memC_holds aw136 (memC_holds aw119 (memC_holds aw113 (memC_holds aw112 (memC_holds aw110 (memC_holds aw107 (memC_holds aw82 (memC_holds aw80 (memC_holds aw75 (memC_holds aw44 (memC_holds aw14 (memC_holds aw13 (memC_holds aw12 (noMemo_holds _)))))))))))))))))))))) 400 _ _ _ (by kernel_rfl)
theorem aw149 : Runs Try.ir 127 [.sl 2 [.bool false, .sl 0 [], .bool true, .sl 1 [.int .u32 1]]] (.fresh 2 2 [.bool false, .sl 0 [], .bool false, .sl 1 [.int .u32 1]]) := fF_holds Try.pr_ok (noMemo_holds _) 400 _ _ _ (by kernel_rfl)
theorem aw150 : Runs Try.ir 65 [.sl 4 [.bool false, .sl 0 [], .bool false, .sl 0 [], .bool true, .sl 1 [.int .u32 1], .bool false, .sl 1 [.int .u32 1]], .sl 3 [.bool false, .sl 0 [], .bool true, .sl 1 [.int .u32 2], .bool false, .sl 1 [.int .u32 3]]] (.fresh 2 2 [.bool false, .sl 0 [], .bool false, .sl 1 [.int .u32 1]]) := fF_holds Try.pr_ok (memC_holds aw149 (memC_holds aw148 (memC_holds aw137 (memC_holds aw107 (memC_holds aw103 (noMemo_holds _)))))) 400 _ _ _ (by kernel_rfl)
theorem aw151 : Runs Try.ir 148 [.bool true, .sl 1 [.int .u32 1], .bool true, .sl 0 []] (.agg [.bool true, .sl 1 [.int .u32 1]]) := fF_holds Try.pr_ok (noMemo_holds _) 400 _ _ _ (by kernel_rfl)
theorem aw152 : Runs Try.ir 114 [.agg [.bool true, .sl 1 [.int .u32 1]], .agg [.bool false, .sl 0 []]] (.agg [.bool true, .sl 1 [.int .u32 1]]) := fF_holds Try.pr_ok (memC_holds aw151 (noMemo_holds _)) 400 _ _ _ (by kernel_rfl)
theorem aw153 : Runs Try.ir 113 [.agg [.bool false, .sl 0 []], .agg [.bool false, .sl 0 []]] (.agg [.bool false, .sl 0 []]) := fF_holds Try.pr_ok (noMemo_holds _) 400 _ _ _ (by kernel_rfl)
theorem aw154 : Runs Try.ir 92 [.sl 3 [.bool false, .sl 0 [], .bool true, .sl 1 [.int .u32 1], .bool false, .sl 1 [.int .u32 1]]] (.fresh 2 3 [.bool false, .sl 0 [], .bool true, .sl 1 [.int .u32 1], .bool false, .sl 1 [.int .u32 1]]) := fF_holds Try.pr_ok (noMemo_holds _) 400 _ _ _ (by kernel_rfl)
theorem aw155 : Runs Try.ir 85 [.sl 3 [.bool false, .sl 0 [], .bool true, .sl 1 [.int .u32 1], .bool false, .sl 1 [.int .u32 1]]] (.agg [.bool false, .sl 1 [.int .u32 1]]) := fF_holds Try.pr_ok (memC_holds aw5 (noMemo_holds _)) 400 _ _ _ (by kernel_rfl)
theorem aw156 : Runs Try.ir 86 [.sl 3 [.bool false, .sl 0 [], .bool true, .sl 1 [.int .u32 1], .bool false, .sl 1 [.int .u32 1]]] (.fresh 2 3 [.bool false, .sl 0 [], .bool true, .sl 1 [.int .u32 1], .bool false, .sl 1 [.int .u32 1]]) := fF_holds Try.pr_ok (memC_holds aw155 (memC_holds aw154 (noMemo_holds _))) 400 _ _ _ (by kernel_rfl)
theorem aw157 : Runs Try.ir 116 [.sl 4 [.bool false, .sl 0 [], .bool false, .sl 0 [], .bool true, .sl 1 [.int .u32 1], .bool false, .sl 1 [.int .u32 1]], .sl 2 [.bool false, .sl 0 [], .bool false, .sl 1 [.int .u32 1]]] (.fresh 2 3 [.bool false, .sl 0 [], .bool true, .sl 1 [.int .u32 1], .bool false, .sl 1 [.int .u32 1]]) := fF_holds Try.pr_ok (memC_holds aw156 (memC_holds aw153 (memC_holds aw152 (memC_holds aw124 (memC_holds aw113 (memC_holds aw112 (memC_holds aw101 (memC_holds aw80 (memC_holds aw75 (memC_holds aw19 (memC_holds aw17 (memC_holds aw13 (noMemo_holds _))))))))))))) 400 _ _ _ (by kernel_rfl)
theorem aw158 : Runs Try.ir 66 [.sl 4 [.bool false, .sl 0 [], .bool false, .sl 0 [], .bool true, .sl 1 [.int .u32 4], .bool false, .sl 1 [.int .u32 4]]] (.fresh 2 3 [.bool false, .sl 0 [], .bool true, .sl 1 [.int .u32 1], .bool false, .sl 1 [.int .u32 1]]) := fF_holds Try.pr_ok (memC_holds aw157 (memC_holds aw150 (memC_holds aw100 (memC_holds aw97 (noMemo_holds _))))) 400 _ _ _ (by kernel_rfl)
theorem aw159 : Runs Try.ir 61 [.sl 1 [.sl 3 [.bool false, .sl 0 [], .bool true, .sl 1 [.int .u32 1], .bool false, .sl 1 [.int .u32 1]]]] (.bool false) := fF_holds Try.pr_ok (noMemo_holds _) 400 _ _ _ (by kernel_rfl)
theorem aw160 : Runs Try.ir 92 [.sl 2 [.bool false, .sl 1 [.int .u32 6], .bool true, .sl 1 [.int .u32 4]]] (.fresh 2 2 [.bool false, .sl 1 [.int .u32 6], .bool true, .sl 1 [.int .u32 4]]) := fF_holds Try.pr_ok (noMemo_holds _) 400 _ _ _ (by kernel_rfl)
theorem aw161 : Runs Try.ir 74 [.sl 2 [.int .i64 6, .int .i64 (-4)]] (.fresh 2 2 [.bool false, .sl 1 [.int .u32 6], .bool true, .sl 1 [.int .u32 4]]) := fF_holds Try.pr_ok (memC_holds aw160 (noMemo_holds _)) 400 _ _ _ (by kernel_rfl)
theorem aw162 : Runs Try.ir 61 [.sl 1 [.sl 2 [.bool false, .sl 1 [.int .u32 6], .bool true, .sl 1 [.int .u32 4]]]] (.bool false) := fF_holds Try.pr_ok (noMemo_holds _) 400 _ _ _ (by kernel_rfl)
theorem aw163 : Runs Try.ir 109 [.agg [.bool false, .sl 0 []], .agg [.bool true, .sl 1 [.int .u32 4]]] (.agg [.bool false, .sl 1 [.int .u32 4]]) := fF_holds Try.pr_ok (noMemo_holds _) 400 _ _ _ (by kernel_rfl)
theorem aw164 : Runs Try.ir 109 [.agg [.bool false, .sl 1 [.int .u32 4]], .agg [.bool false, .sl 1 [.int .u32 6]]] (.agg [.bool false, .sl 1 [.int .u32 2]]) := fF_holds Try.pr_ok (noMemo_holds _) 400 _ _ _ (by kernel_rfl)
theorem aw165 : Runs Try.ir 85 [.sl 2 [.bool false, .sl 1 [.int .u32 6], .bool true, .sl 1 [.int .u32 4]]] (.agg [.bool false, .sl 1 [.int .u32 2]]) := fF_holds Try.pr_ok (memC_holds aw164 (memC_holds aw163 (noMemo_holds _))) 400 _ _ _ (by kernel_rfl)
theorem aw166 : Runs Try.ir 147 [.sl 1 [.int .u32 6], .sl 1 [.int .u32 2]] (.tup [.sl 1 [.int .u32 3], .sl 1 [.int .u32 0]]) := fF_holds Try.pr_ok (noMemo_holds _) 400 _ _ _ (by kernel_rfl)
theorem aw167 : Runs Try.ir 110 [.agg [.bool false, .sl 1 [.int .u32 6]], .agg [.bool false, .sl 1 [.int .u32 2]]] (.tup [.agg [.bool false, .sl 1 [.int .u32 3]], .agg [.bool false, .sl 0 []]]) := fF_holds Try.pr_ok (memC_holds aw166 (noMemo_holds _)) 400 _ _ _ (by kernel_rfl)
theorem aw168 : Runs Try.ir 147 [.sl 1 [.int .u32 4], .sl 1 [.int .u32 2]] (.tup [.sl 1 [.int .u32 2], .sl 1 [.int .u32 0]]) := fF_holds Try.pr_ok (noMemo_holds _) 400 _ _ _ (by kernel_rfl)
theorem aw169 : Runs Try.ir 110 [.agg [.bool true, .sl 1 [.int .u32 4]], .agg [.bool false, .sl 1 [.int .u32 2]]] (.tup [.agg [.bool true, .sl 1 [.int .u32 2]], .agg [.bool false, .sl 0 []]]) := fF_holds Try.pr_ok (memC_holds aw168 (noMemo_holds _)) 400 _ _ _ (by kernel_rfl)
theorem aw170 : Runs Try.ir 86 [.sl 2 [.bool false, .sl 1 [.int .u32 6], .bool true, .sl 1 [.int .u32 4]]] (.fresh 2 2 [.bool false, .sl 1 [.int .u32 3], .bool true, .sl 1 [.int .u32 2]]) := fF_holds Try.pr_ok (memC_holds aw169 (memC_holds aw167 (memC_holds aw165 (memC_holds aw160 (noMemo_holds _))))) 400 _ _ _ (by kernel_rfl)
theorem aw171 : Runs Try.ir 43 [.sl 1 [.bool false, .sl 1 [.int .u32 1]]] (.fresh 2 1 [.bool false, .sl 1 [.int .u32 1]]) := fF_holds Try.pr_ok (noMemo_holds _) 400 _ _ _ (by kernel_rfl)
theorem aw172 : Runs Try.ir 52 [.sl 1 [.int .i64 1]] (.fresh 2 1 [.bool false, .sl 1 [.int .u32 1]]) := fF_holds Try.pr_ok (memC_holds aw171 (noMemo_holds _)) 400 _ _ _ (by kernel_rfl)
theorem aw173 : Runs Try.ir 43 [.sl 1 [.bool true, .sl 1 [.int .u32 1]]] (.fresh 2 1 [.bool true, .sl 1 [.int .u32 1]]) := fF_holds Try.pr_ok (noMemo_holds _) 400 _ _ _ (by kernel_rfl)
theorem aw174 : Runs Try.ir 52 [.sl 1 [.int .i64 (-1)]] (.fresh 2 1 [.bool true, .sl 1 [.int .u32 1]]) := fF_holds Try.pr_ok (memC_holds aw173 (noMemo_holds _)) 400 _ _ _ (by kernel_rfl)
theorem aw175 : Runs Try.ir 43 [.sl 2 [.bool true, .sl 1 [.int .u32 1], .bool false, .sl 1 [.int .u32 1]]] (.fresh 2 2 [.bool true, .sl 1 [.int .u32 1], .bool false, .sl 1 [.int .u32 1]]) := fF_holds Try.pr_ok (noMemo_holds _) 400 _ _ _ (by kernel_rfl)
theorem aw176 : Runs Try.ir 52 [.sl 2 [.int .i64 (-1), .int .i64 1]] (.fresh 2 2 [.bool true, .sl 1 [.int .u32 1], .bool false, .sl 1 [.int .u32 1]]) := fF_holds Try.pr_ok (memC_holds aw175 (noMemo_holds _)) 400 _ _ _ (by kernel_rfl)
theorem aw177 : Runs Try.ir 28 [.sl 2 [.bool true, .sl 1 [.int .u32 1], .bool false, .sl 1 [.int .u32 1]], .sl 2 [.bool true, .sl 1 [.int .u32 1], .bool false, .sl 1 [.int .u32 1]]] (.bool true) := fF_holds Try.pr_ok (noMemo_holds _) 400 _ _ _ (by kernel_rfl)
theorem aw178 : Runs Try.ir 43 [.sl 3 [.bool false, .sl 0 [], .bool true, .sl 1 [.int .u32 1], .bool false, .sl 1 [.int .u32 1]]] (.fresh 2 3 [.bool false, .sl 0 [], .bool true, .sl 1 [.int .u32 1], .bool false, .sl 1 [.int .u32 1]]) := fF_holds Try.pr_ok (noMemo_holds _) 400 _ _ _ (by kernel_rfl)
theorem aw179 : Runs Try.ir 52 [.sl 3 [.int .i64 0, .int .i64 (-1), .int .i64 1]] (.fresh 2 3 [.bool false, .sl 0 [], .bool true, .sl 1 [.int .u32 1], .bool false, .sl 1 [.int .u32 1]]) := fF_holds Try.pr_ok (memC_holds aw178 (noMemo_holds _)) 400 _ _ _ (by kernel_rfl)
theorem aw180 : Runs Try.ir 28 [.sl 3 [.bool false, .sl 0 [], .bool true, .sl 1 [.int .u32 1], .bool false, .sl 1 [.int .u32 1]], .sl 3 [.bool false, .sl 0 [], .bool true, .sl 1 [.int .u32 1], .bool false, .sl 1 [.int .u32 1]]] (.bool true) := fF_holds Try.pr_ok (noMemo_holds _) 400 _ _ _ (by kernel_rfl)
theorem aw181 : Runs Try.ir 43 [.sl 2 [.bool false, .sl 1 [.int .u32 3], .bool true, .sl 1 [.int .u32 2]]] (.fresh 2 2 [.bool false, .sl 1 [.int .u32 3], .bool true, .sl 1 [.int .u32 2]]) := fF_holds Try.pr_ok (noMemo_holds _) 400 _ _ _ (by kernel_rfl)
theorem aw182 : Runs Try.ir 52 [.sl 2 [.int .i64 3, .int .i64 (-2)]] (.fresh 2 2 [.bool false, .sl 1 [.int .u32 3], .bool true, .sl 1 [.int .u32 2]]) := fF_holds Try.pr_ok (memC_holds aw181 (noMemo_holds _)) 400 _ _ _ (by kernel_rfl)
theorem aw183 : Runs Try.ir 28 [.sl 2 [.bool false, .sl 1 [.int .u32 3], .bool true, .sl 1 [.int .u32 2]], .sl 2 [.bool false, .sl 1 [.int .u32 3], .bool true, .sl 1 [.int .u32 2]]] (.bool true) := fF_holds Try.pr_ok (noMemo_holds _) 400 _ _ _ (by kernel_rfl)
theorem aw184 : Runs Try.ir 13 [] (.bool true) := fF_holds Try.pr_ok (memC_holds aw183 (memC_holds aw182 (memC_holds aw180 (memC_holds aw179 (memC_holds aw177 (memC_holds aw176 (memC_holds aw174 (memC_holds aw172 (memC_holds aw170 (memC_holds aw162 (memC_holds aw161 (memC_holds aw159 (memC_holds aw158 (memC_holds aw88 (memC_holds aw87 (memC_holds aw85 (memC_holds aw84 (memC_holds aw66 (memC_holds aw65 (memC_holds aw63 (memC_holds aw61 (memC_holds aw33 (memC_holds aw31 (memC_holds aw29 (memC_holds aw3 (memC_holds aw1 (noMemo_holds _))))))))))))))))))))))))))) 400 _ _ _ (by kernel_rfl)
theorem Try.run13 : Runs Try.ir 13 [] (.bool true) := aw184
end Go.Proofs.Ythnnfemologhfaa

namespace Go.Proofs.Ythnnfemologhfaa
open Go.Ai
set_option maxRecDepth 100000
theorem Try.run4_1 (rs ss ts : List Rn) (c6 : (decide (((rs.length : Nat) : Int) > 4)) = true)
    (n1 : Runs Try.ir 13 [] (.bool true)) : Runs Try.ir 4 [.sl rs.length (pc rs), .sl ss.length (pc ss), .sl ts.length (pc ts)] (.bool true) :=
  Runs.go (fn := Try.i4) TPW_holds rfl 400 rfl [.r (.bool true), .b false, .b true, .b true, .b true, .b true, .b true, .b true, .b true, .b true, .b true, .r (.bool true)] (ac n1 (ac (show false = false from rfl) (ac c6 (ac (show true = true from rfl) (ac (show true = true from rfl) (ac (show true = true from rfl) (ac (show true = true from rfl) (ac (show true = true from rfl) (ac (show true = true from rfl) (ac (show true = true from rfl) (ac (show true = true from rfl) (ac n1 a0)))))))))))) (by kernel_rfl)
theorem Try.run4_2 (rs ss ts : List Rn) (c6 : (decide (((rs.length : Nat) : Int) > 4)) = false)
    (c7 : (decide (((ss.length : Nat) : Int) > 4)) = true)
    (n1 : Runs Try.ir 13 [] (.bool true)) : Runs Try.ir 4 [.sl rs.length (pc rs), .sl ss.length (pc ss), .sl ts.length (pc ts)] (.bool true) :=
  Runs.go (fn := Try.i4) TPW_holds rfl 400 rfl [.r (.bool true), .b false, .b false, .b true, .b true, .b true, .b true, .b true, .b true, .b true, .b true, .r (.bool true)] (ac n1 (ac (show false = false from rfl) (ac c6 (ac c7 (ac (show true = true from rfl) (ac (show true = true from rfl) (ac (show true = true from rfl) (ac (show true = true from rfl) (ac (show true = true from rfl) (ac (show true = true from rfl) (ac (show true = true from rfl) (ac n1 a0)))))))))))) (by kernel_rfl)
theorem Try.run4_3 (rs ss ts : List Rn) (c6 : (decide (((rs.length : Nat) : Int) > 4)) = false)
    (c7 : (decide (((ss.length : Nat) : Int) > 4)) = false)
    (c8 : (decide (((ts.length : Nat) : Int) > 4)) = true)
    (n1 : Runs Try.ir 13 [] (.bool true)) : Runs Try.ir 4 [.sl rs.length (pc rs), .sl ss.length (pc ss), .sl ts.length (pc ts)] (.bool true) :=
  Runs.go (fn := Try.i4) TPW_holds rfl 400 rfl [.r (.bool true), .b false, .b false, .b false, .b true, .b true, .b true, .b true, .b true, .b true, .b true, .r (.bool true)] (ac n1 (ac (show false = false from rfl) (ac c6 (ac c7 (ac c8 (ac (show true = true from rfl) (ac (show true = true from rfl) (ac (show true = true from rfl) (ac (show true = true from rfl) (ac (show true = true from rfl) (ac (show true = true from rfl) (ac n1 a0)))))))))))) (by kernel_rfl)
theorem Try.run4_4 (rs ss ts : List Rn) (s_rs s_ss s_ts : Bool) (d_rs : Int) (c6 : (decide (((rs.length : Nat) : Int) > 4)) = false)
    (c7 : (decide (((ss.length : Nat) : Int) > 4)) = false)
    (c8 : (decide (((ts.length : Nat) : Int) > 4)) = false)
    (c9 : (s_rs) = true)
    (c10 : (s_ss) = true)
    (c11 : (s_ts) = true)
    (c12 : (decide (d_rs < 0)) = true)
    (n1 : Runs Try.ir 13 [] (.bool true))
    (n2 : Runs Try.ir 22 [.sl rs.length (pc rs)] (.bool s_rs))
    (n3 : Runs Try.ir 22 [.sl ss.length (pc ss)] (.bool s_ss))
    (n4 : Runs Try.ir 22 [.sl ts.length (pc ts)] (.bool s_ts))
    (n5 : Runs Try.ir 23 [.sl rs.length (pc rs)] (.int .i64 d_rs)) : Runs Try.ir 4 [.sl rs.length (pc rs), .sl ss.length (pc ss), .sl ts.length (pc ts)] (.bool true) :=
  Runs.go (fn := Try.i4) TPW_holds rfl 400 rfl [.r (.bool true), .b false, .b false, .b false, .b false, .r (.bool s_rs), .b false, .r (.bool s_ss), .b false, .r (.bool s_ts), .b false, .r (.int .i64 d_rs), .b true, .b true, .b true, .r (.bool true)] (ac n1 (ac (show false = false from rfl) (ac c6 (ac c7 (ac c8 (ac n2 (ac (show (!s_rs) = false from (by rw [c9]; rfl)) (ac n3 (ac (show (!s_ss) = false from (by rw [c10]; rfl)) (ac n4 (ac (show (!s_ts) = false from (by rw [c11]; rfl)) (ac n5 (ac c12 (ac (show true = true from rfl) (ac (show true = true from rfl) (ac n1 a0)))))))))))))))) (by kernel_rfl)
theorem Try.run4_5 (rs ss ts : List Rn) (s_rs s_ss s_ts : Bool) (d_rs d_ss : Int) (c6 : (decide (((rs.length : Nat) : Int) > 4)) = false)
    (c7 : (decide (((ss.length : Nat) : Int) > 4)) = false)
    (c8 : (decide (((ts.length : Nat) : Int) > 4)) = false)
    (c9 : (s_rs) = true)
    (c10 : (s_ss) = true)
    (c11 : (s_ts) = true)
    (c12 : (decide (d_rs < 0)) = false)
    (c13 : (decide (d_ss < 0)) = true)
    (n1 : Runs Try.ir 13 [] (.bool true))
    (n2 : Runs Try.ir 22 [.sl rs.length (pc rs)] (.bool s_rs))
    (n3 : Runs Try.ir 22 [.sl ss.length (pc ss)] (.bool s_ss))
    (n4 : Runs Try.ir 22 [.sl ts.length (pc ts)] (.bool s_ts))
    (n5 : Runs Try.ir 23 [.sl rs.length (pc rs)] (.int .i64 d_rs))
    (n6 : Runs Try.ir 23 [.sl ss.length (pc ss)] (.int .i64 d_ss)) : Runs Try.ir 4 [.sl rs.length (pc rs), .sl ss.length (pc ss), .sl ts.length (pc ts)] (.bool true) :=
  Runs.go (fn := Try.i4) TPW_holds rfl 400 rfl [.r (.bool true), .b false, .b false, .b false, .b false, .r (.bool s_rs), .b false, .r (.bool s_ss), .b false, .r (.bool s_ts), .b false, .r (.int .i64 d_rs), .b false, .r (.int .i64 d_ss), .b true, .b true, .r (.bool true)] (ac n1 (ac (show false = false from rfl) (ac c6 (ac c7 (ac c8 (ac n2 (ac (show (!s_rs) = false from (by rw [c9]; rfl)) (ac n3 (ac (show (!s_ss) = false from (by rw [c10]; rfl)) (ac n4 (ac (show (!s_ts) = false from (by rw [c11]; rfl)) (ac n5 (ac c12 (ac n6 (ac c13 (ac (show true = true from rfl) (ac n1 a0))))))))))))))))) (by kernel_rfl)
theorem Try.run4_6 (rs ss ts : List Rn) (s_rs s_ss s_ts : Bool) (d_rs d_ss d_ts : Int) (c6 : (decide (((rs.length : Nat) : Int) > 4)) = false)
    (c7 : (decide (((ss.length : Nat) : Int) > 4)) = false)
    (c8 : (decide (((ts.length : Nat) : Int) > 4)) = false)
    (c9 : (s_rs) = true)
    (c10 : (s_ss) = true)
    (c11 : (s_ts) = true)
    (c12 : (decide (d_rs < 0)) = false)
    (c13 : (decide (d_ss < 0)) = false)
    (c14 : (decide (d_ts < 0)) = true)
    (n1 : Runs Try.ir 13 [] (.bool true))
    (n2 : Runs Try.ir 22 [.sl rs.length (pc rs)] (.bool s_rs))
    (n3 : Runs Try.ir 22 [.sl ss.length (pc ss)] (.bool s_ss))
    (n4 : Runs Try.ir 22 [.sl ts.length (pc ts)] (.bool s_ts))
    (n5 : Runs Try.ir 23 [.sl rs.length (pc rs)] (.int .i64 d_rs))
    (n6 : Runs Try.ir 23 [.sl ss.length (pc ss)] (.int .i64 d_ss))
    (n7 : Runs Try.ir 23 [.sl ts.length (pc ts)] (.int .i64 d_ts)) : Runs Try.ir 4 [.sl rs.length (pc rs), .sl ss.length (pc ss), .sl ts.length (pc ts)] (.bool true) :=
  Runs.go (fn := Try.i4) TPW_holds rfl 400 rfl [.r (.bool true), .b false, .b false, .b false, .b false, .r (.bool s_rs), .b false, .r (.bool s_ss), .b false, .r (.bool s_ts), .b false, .r (.int .i64 d_rs), .b false, .r (.int .i64 d_ss), .b false, .r (.int .i64 d_ts), .b true, .r (.bool true)] (ac n1 (ac (show false = false from rfl) (ac c6 (ac c7 (ac c8 (ac n2 (ac (show (!s_rs) = false from (by rw [c9]; rfl)) (ac n3 (ac (show (!s_ss) = false from (by rw [c10]; rfl)) (ac n4 (ac (show (!s_ts) = false from (by rw [c11]; rfl)) (ac n5 (ac c12 (ac n6 (ac c13 (ac n7 (ac c14 (ac n1 a0)))))))))))))))))) (by kernel_rfl)
theorem Try.run4_7 (rs ss ts xs ys gs ds as1 bs zs : List Rn) (s_rs s_ss s_ts : Bool) (d_rs d_ss d_ts d_gs d_ds sg : Int) (c1 : (0 == 0) = true)
    (c2 : (((as1.length : Nat) : Int) == 0) = true)
    (c3 : (((bs.length : Nat) : Int) == 0) = true)
    (c4 : (((zs.length : Nat) : Int) == 0) = true)
    (c5 : (d_gs == (IntKind.i64.wrap (d_ds + d_ts))) = true)
    (c6 : (decide (((rs.length : Nat) : Int) > 4)) = false)
    (c7 : (decide (((ss.length : Nat) : Int) > 4)) = false)
    (c8 : (decide (((ts.length : Nat) : Int) > 4)) = false)
    (c9 : (s_rs) = true)
    (c10 : (s_ss) = true)
    (c11 : (s_ts) = true)
    (c12 : (decide (d_rs < 0)) = false)
    (c13 : (decide (d_ss < 0)) = false)
    (c14 : (decide (d_ts < 0)) = false)
    (n1 : 0 ≤ (IntKind.i64.wrap (((gs.length : Nat) : Int) - 1)) ∧ (IntKind.i64.wrap (((gs.length : Nat) : Int) - 1)) < ((gs.length : Nat) : Int))
    (n2 : Runs Try.ir 13 [] (.bool true))
    (n3 : Runs Try.ir 22 [.sl rs.length (pc rs)] (.bool s_rs))
    (n4 : Runs Try.ir 22 [.sl ss.length (pc ss)] (.bool s_ss))
    (n5 : Runs Try.ir 22 [.sl ts.length (pc ts)] (.bool s_ts))
    (n6 : Runs Try.ir 23 [.sl rs.length (pc rs)] (.int .i64 d_rs))
    (n7 : Runs Try.ir 23 [.sl ss.length (pc ss)] (.int .i64 d_ss))
    (n8 : Runs Try.ir 23 [.sl ts.length (pc ts)] (.int .i64 d_ts))
    (n9 : Runs Try.ir 24 [.sl rs.length (pc rs), .sl ts.length (pc ts)] (.tup [.sl xs.length (pc xs), .int .i64 0]))
    (n10 : Runs Try.ir 24 [.sl ss.length (pc ss), .sl ts.length (pc ts)] (.tup [.sl ys.length (pc ys), .int .i64 0]))
    (n11 : Runs Try.ir 16 [.sl xs.length (pc xs), .sl ys.length (pc ys)] (.tup [.sl gs.length (pc gs), .int .i64 0]))
    (n12 : Runs Try.ir 16 [.sl rs.length (pc rs), .sl ss.length (pc ss)] (.tup [.sl ds.length (pc ds), .int .i64 0]))
    (n13 : Runs Try.ir 15 [.sl xs.length (pc xs), .sl gs.length (pc gs)] (.tup [.sl as1.length (pc as1), .int .i64 0]))
    (n14 : Runs Try.ir 15 [.sl ys.length (pc ys), .sl gs.length (pc gs)] (.tup [.sl bs.length (pc bs), .int .i64 0]))
    (n15 : Runs Try.ir 15 [.sl gs.length (pc gs), .sl ts.length (pc ts)] (.tup [.sl zs.length (pc zs), .int .i64 0]))
    (n16 : Runs Try.ir 23 [.sl gs.length (pc gs)] (.int .i64 d_gs))
    (n17 : Runs Try.ir 23 [.sl ds.length (pc ds)] (.int .i64 d_ds))
    (n18 : Runs Try.ir 25 [rawAV (gs.getD (Int.toNat (IntKind.i64.wrap (((gs.length : Nat) : Int) - 1))) z0)] (.int .i64 sg)) : Runs Try.ir 4 [.sl rs.length (pc rs), .sl ss.length (pc ss), .sl ts.length (pc ts)] (.bool (decide (sg > 0))) :=
  Runs.go (fn := Try.i4) TPW_holds rfl 400 rfl ((.r (.bool true)) :: (.b false) :: (.b false) :: (.b false) :: (.b false) :: (.r (.bool s_rs)) :: (.b false) :: (.r (.bool s_ss)) :: (.b false) :: (.r (.bool s_ts)) :: (.b false) :: (.r (.int .i64 d_rs)) :: (.b false) :: (.r (.int .i64 d_ss)) :: (.b false) :: (.r (.int .i64 d_ts)) :: (.b false) :: (.r (.tup [.sl xs.length (pc xs), .int .i64 0])) :: (.r (.tup [.sl ys.length (pc ys), .int .i64 0])) :: (.r (.tup [.sl gs.length (pc gs), .int .i64 0])) :: (.r (.tup [.sl ds.length (pc ds), .int .i64 0])) :: (.r (.tup [.sl as1.length (pc as1), .int .i64 0])) :: (.r (.tup [.sl bs.length (pc bs), .int .i64 0])) :: (.r (.tup [.sl zs.length (pc zs), .int .i64 0])) :: (.b true) :: (.b true) :: (.b true) :: (.b true) :: (.b true) :: (.b true) :: (.b true) :: (.b true) :: (.b true) :: (.b true) :: (.r (.int .i64 d_gs)) :: (.r (.int .i64 d_ds)) :: (.r (.int .i64 d_ts)) :: (.b true) :: (.v (rawAV (gs.getD (Int.toNat (IntKind.i64.wrap (((gs.length : Nat) : Int) - 1))) z0))) :: (.r (.int .i64 sg)) :: []) (ac n2 (ac (show false = false from rfl) (ac c6 (ac c7 (ac c8 (ac n3 (ac (show (!s_rs) = false from (by rw [c9]; rfl)) (ac n4 (ac (show (!s_ss) = false from (by rw [c10]; rfl)) (ac n5 (ac (show (!s_ts) = false from (by rw [c11]; rfl)) (ac n6 (ac c12 (ac n7 (ac c13 (ac n8 (ac c14 (ac n9 (ac n10 (ac n11 (ac n12 (ac n13 (ac n14 (ac n15 (ac c1 (ac c1 (ac c1 (ac c1 (ac c1 (ac c1 (ac c1 (ac c2 (ac c3 (ac c4 (ac n16 (ac n17 (ac n8 (ac c5 (ac n1 (ac (show takeA (List.drop (Int.toNat (IntKind.i64.wrap (((gs.length : Nat) : Int) - 1)) * 2) (pc gs)) 0 2 false = some (rawAV (gs.getD (Int.toNat (IntKind.i64.wrap (((gs.length : Nat) : Int) - 1))) z0)) from (take_pcI n1)) (ac n18 a0))))))))))))))))))))))))))))))))))))))))) (by kernel_rfl)
theorem Try.run4_8 (rs ss ts : List Rn) (s_rs s_ss s_ts : Bool) (c6 : (decide (((rs.length : Nat) : Int) > 4)) = false)
    (c7 : (decide (((ss.length : Nat) : Int) > 4)) = false)
    (c8 : (decide (((ts.length : Nat) : Int) > 4)) = false)
    (c9 : (s_rs) = true)
    (c10 : (s_ss) = true)
    (c11 : (s_ts) = false)
    (n1 : Runs Try.ir 13 [] (.bool true))
    (n2 : Runs Try.ir 22 [.sl rs.length (pc rs)] (.bool s_rs))
    (n3 : Runs Try.ir 22 [.sl ss.length (pc ss)] (.bool s_ss))
    (n4 : Runs Try.ir 22 [.sl ts.length (pc ts)] (.bool s_ts)) : Runs Try.ir 4 [.sl rs.length (pc rs), .sl ss.length (pc ss), .sl ts.length (pc ts)] (.bool true) :=
  Runs.go (fn := Try.i4) TPW_holds rfl 400 rfl [.r (.bool true), .b false, .b false, .b false, .b false, .r (.bool s_rs), .b false, .r (.bool s_ss), .b false, .r (.bool s_ts), .b true, .b true, .b true, .b true, .r (.bool true)] (ac n1 (ac (show false = false from rfl) (ac c6 (ac c7 (ac c8 (ac n2 (ac (show (!s_rs) = false from (by rw [c9]; rfl)) (ac n3 (ac (show (!s_ss) = false from (by rw [c10]; rfl)) (ac n4 (ac (show (!s_ts) = true from (by rw [c11]; rfl)) (ac (show true = true from rfl) (ac (show true = true from rfl) (ac (show true = true from rfl) (ac n1 a0))))))))))))))) (by kernel_rfl)
theorem Try.run4_9 (rs ss ts : List Rn) (s_rs s_ss : Bool) (c6 : (decide (((rs.length : Nat) : Int) > 4)) = false)
    (c7 : (decide (((ss.length : Nat) : Int) > 4)) = false)
    (c8 : (decide (((ts.length : Nat) : Int) > 4)) = false)
    (c9 : (s_rs) = true)
    (c10 : (s_ss) = false)
    (n1 : Runs Try.ir 13 [] (.bool true))
    (n2 : Runs Try.ir 22 [.sl rs.length (pc rs)] (.bool s_rs))
    (n3 : Runs Try.ir 22 [.sl ss.length (pc ss)] (.bool s_ss)) : Runs Try.ir 4 [.sl rs.length (pc rs), .sl ss.length (pc ss), .sl ts.length (pc ts)] (.bool true) :=
  Runs.go (fn := Try.i4) TPW_holds rfl 400 rfl [.r (.bool true), .b false, .b false, .b false, .b false, .r (.bool s_rs), .b false, .r (.bool s_ss), .b true, .b true, .b true, .b true, .b true, .r (.bool true)] (ac n1 (ac (show false = false from rfl) (ac c6 (ac c7 (ac c8 (ac n2 (ac (show (!s_rs) = false from (by rw [c9]; rfl)) (ac n3 (ac (show (!s_ss) = true from (by rw [c10]; rfl)) (ac (show true = true from rfl) (ac (show true = true from rfl) (ac (show true = true from rfl) (ac (show true = true from rfl) (ac n1 a0)))))))))))))) (by kernel_rfl)
theorem Try.run4_10 (rs ss ts : List Rn) (s_rs : Bool) (c6 : (decide (((rs.length : Nat) : Int) > 4)) = false)
    (c7 : (decide (((ss.length : Nat) : Int) > 4)) = false)
    (c8 : (decide (((ts.length : Nat) : Int) > 4)) = false)
    (c9 : (s_rs) = false)
    (n1 : Runs Try.ir 13 [] (.bool true))
    (n2 : Runs Try.ir 22 [.sl rs.length (pc rs)] (.bool s_rs)) : Runs Try.ir 4 [.sl rs.length (pc rs), .sl ss.length (pc ss), .sl ts.length (pc ts)] (.bool true) :=
  Runs.go (fn := Try.i4) TPW_holds rfl 400 rfl [.r (.bool true), .b false, .b false, .b false, .b false, .r (.bool s_rs), .b true, .b true, .b true, .b true, .b true, .b true, .r (.bool true)] (ac n1 (ac (show false = false from rfl) (ac c6 (ac c7 (ac c8 (ac n2 (ac (show (!s_rs) = true from (by rw [c9]; rfl)) (ac (show true = true from rfl) (ac (show true = true from rfl) (ac (show true = true from rfl) (ac (show true = true from rfl) (ac (show true = true from rfl) (ac n1 a0))))))))))))) (by kernel_rfl)
theorem pcommon_run {rs ss ts : List Rn} (h1 : ∀ r ∈ rs, U32 r.2) (h2 : ∀ r ∈ ss, U32 r.2) (h3 : ∀ r ∈ ts, U32 r.2) : Runs Try.ir 4 [.sl rs.length (pc rs), .sl ss.length (pc ss), .sl ts.length (pc ts)] (.bool true) := by
  have haw := Try.run13
  by_cases l1 : rs.length > 4
  · exact Try.run4_1 rs ss ts (by rw [decide_eq_true_eq]; omega) haw
  have c1 : decide (((rs.length : Nat) : Int) > 4) = false := by rw [decide_eq_false_iff_not]; omega
  by_cases l2 : ss.length > 4
  · exact Try.run4_2 rs ss ts c1 (by rw [decide_eq_true_eq]; omega) haw
  have c2 : decide (((ss.length : Nat) : Int) > 4) = false := by rw [decide_eq_false_iff_not]; omega
  by_cases l3 : ts.length > 4
  · exact Try.run4_3 rs ss ts c1 c2 (by rw [decide_eq_true_eq]; omega) haw
  have c3 : decide (((ts.length : Nat) : Int) > 4) = false := by rw [decide_eq_false_iff_not]; omega
  have r1 := short_run (rs := rs) (by omega)
  have r2 := short_run (rs := ss) (by omega)
  have r3 := short_run (rs := ts) (by omega)
  cases s1 : shortB rs with
  | false => rw [s1] at r1; exact Try.run4_10 rs ss ts false c1 c2 c3 rfl haw r1
  | true =>
  rw [s1] at r1
  cases s2 : shortB ss with
  | false => rw [s2] at r2; exact Try.run4_9 rs ss ts true false c1 c2 c3 rfl rfl haw r1 r2
  | true =>
  rw [s2] at r2
  cases s3 : shortB ts with
  | false => rw [s3] at r3; exact Try.run4_8 rs ss ts true true false c1 c2 c3 rfl rfl rfl haw r1 r2 r3
  | true =>
  rw [s3] at r3
  have g1 := shortB_yes s1 h1
  have g2 := shortB_yes s2 h2
  have g3 := shortB_yes s3 h3
  have d1 := pdeg_run (rs := rs) (fun r h => (g1 r h).mono (by omega)) (by omega)
  have d2 := pdeg_run (rs := ss) (fun r h => (g2 r h).mono (by omega)) (by omega)
  have d3 := pdeg_run (rs := ts) (fun r h => (g3 r h).mono (by omega)) (by omega)
  by_cases n1 : trimL (vals rs) = []
  · exact Try.run4_4 rs ss ts true true true _ c1 c2 c3 rfl rfl rfl (by rw [n1]; rfl) haw r1 r2 r3 d1
  have k1 := List.length_pos_iff.2 n1
  have e1 : decide ((((trimL (vals rs)).length : Nat) - 1 : Int) < 0) = false := by rw [decide_eq_false_iff_not]; omega
  by_cases n2 : trimL (vals ss) = []
  · exact Try.run4_5 rs ss ts true true true _ _ c1 c2 c3 rfl rfl rfl e1 (by rw [n2]; rfl) haw r1 r2 r3 d1 d2
  have k2 := List.length_pos_iff.2 n2
  have e2 : decide ((((trimL (vals ss)).length : Nat) - 1 : Int) < 0) = false := by rw [decide_eq_false_iff_not]; omega
  by_cases n3 : trimL (vals ts) = []
  · exact Try.run4_6 rs ss ts true true true _ _ _ c1 c2 c3 rfl rfl rfl e1 e2 (by rw [n3]; rfl) haw r1 r2 r3 d1 d2 d3
  have k3 := List.length_pos_iff.2 n3
  have e3 : decide ((((trimL (vals ts)).length : Nat) - 1 : Int) < 0) = false := by rw [decide_eq_false_iff_not]; omega
  -- the products
  obtain ⟨mx, kx, lx⟩ := pmulT_run g1 g3 (by omega) (by omega)
  obtain ⟨my, ky, ly⟩ := pmulT_run g2 g3 (by omega) (by omega)
  have kx' := kx.mono (show 2 * 3 + rs.length ≤ 10 by omega)
  have ky' := ky.mono (show 2 * 3 + ss.length ≤ 10 by omega)
  have nx : trimL (pmul (vals rs) (vals ts)) ≠ [] := by
    intro h
    have := pmul_ne n1 n3
    rw [h] at this
    simp at this
    omega
  obtain ⟨cm1, cm2⟩ := pcom_mul (q := vals ss) n1 n3
  -- the divisors
  have hg := pgcdT_run (rs := (pmul (vals rs) (vals ts)).map cn) (ss := (pmul (vals ss) (vals ts)).map cn) (c := 8) (mcn_good kx') (mcn_good ky') (by rw [List.length_map]; omega) (by rw [List.length_map]; omega) (by decide) (by decide) (by decide) (by rw [vals_cn]; exact nx)
  rw [vals_cn, vals_cn] at hg
  obtain ⟨hg1, hg2, hg3⟩ := hg
  obtain ⟨hd1, hd2, hd3⟩ := pgcdT_run (c := 4) g1 g2 (by omega) (by omega) (by decide) (by decide) (by decide) n1
  have isG := pcom_isG (pmul (vals rs) (vals ts)) (pmul (vals ss) (vals ts))
  have lg := lead_pcom (pmul (vals rs) (vals ts)) (pmul (vals ss) (vals ts))
  have ng := pcom_ne (t := pmul (vals ss) (vals ts)) nx
  have tg := top_pcom (t := pmul (vals ss) (vals ts)) nx
  have ld := lead_pcom (vals rs) (vals ss)
  have hxl := trim_len (pmul (vals rs) (vals ts))
  have htl := trim_vals_len rs
  generalize pcom (pmul (vals rs) (vals ts)) (pmul (vals ss) (vals ts)) = g at *
  generalize pcom (vals rs) (vals ss) = d at *
  have gl := List.length_pos_iff.2 ng
  -- the remainders
  have q1 := premT_run (rs := (pmul (vals rs) (vals ts)).map cn) (ss := g.map cn) (mcn_good kx') (mcn_good hg2) (by decide) (by decide) (by rw [List.length_map]; omega) (by rw [List.length_map]; omega) (by rw [vals_cn, lg]; exact ng) (by rw [vals_cn, vals_cn]; exact isG.1)
  have q2 := premT_run (rs := (pmul (vals ss) (vals ts)).map cn) (ss := g.map cn) (mcn_good ky') (mcn_good hg2) (by decide) (by decide) (by rw [List.length_map]; omega) (by rw [List.length_map]; omega) (by rw [vals_cn, lg]; exact ng) (by rw [vals_cn, vals_cn]; exact isG.2.1)
  have q3 := premT_run (rs := g.map cn) (ss := ts) (mcn_good hg2) g3 (by decide) (by decide) (by rw [List.length_map]; omega) (by omega) n3 (by rw [vals_cn]; exact cm2)
  -- the degrees and the sign
  have dg := pdeg_run (rs := g.map cn) (fun r h => (mcn_good hg2 r h).mono (by decide)) (by rw [List.length_map]; omega)
  have dd := pdeg_run (rs := d.map cn) (fun r h => (mcn_good hd2 r h).mono (by decide)) (by rw [List.length_map]; omega)
  rw [vals_cn, lg] at dg
  rw [vals_cn, ld] at dd
  have ei : IntKind.i64.wrap ((((g.map cn).length : Nat) : Int) - 1) = ((g.length - 1 : Nat) : Int) := by rw [List.length_map, w64 (by omega) (by omega)]; omega
  have ew : IntKind.i64.wrap (((d.length : Nat) - 1 : Int) + (((trimL (vals ts)).length : Nat) - 1 : Int)) = ((d.length : Nat) - 1 : Int) + (((trimL (vals ts)).length : Nat) - 1 : Int) := w64 (by have := trim_vals_len ts; omega) (by have := trim_vals_len ts; omega)
  have gt := good_cn (hg2 (g.length - 1))
  have sg := wsign_run (neg := (cn (g.getD (g.length - 1) 0)).1) gt.1 (by have := gt.2; omega)
  have k := Try.run4_7 rs ss ts _ _ (g.map cn) (d.map cn) ([].map cn) ([].map cn) ([].map cn) true true true _ _ _ _ _ _ rfl rfl rfl rfl (by rw [ew, beq_iff_eq]; omega) c1 c2 c3 rfl rfl rfl e1 e2 e3 (by rw [ei, List.length_map]; omega) haw r1 r2 r3 d1 d2 d3 mx my hg1 hd1 q1 q2 q3 dg dd (by
    rw [ei, Int.toNat_natCast, mcn_getD (by omega)]
    exact Try.run25 (cn (g.getD (g.length - 1) 0)) _ sg)
  have e : sgnI (rv (cn (g.getD (g.length - 1) 0)).1 (cn (g.getD (g.length - 1) 0)).2) = 1 := by
    rw [show rv (cn (g.getD (g.length - 1) 0)).1 (cn (g.getD (g.length - 1) 0)).2 = g.getD (g.length - 1) 0 from rval_cn _]
    unfold top at tg
    unfold sgnI
    rw [if_neg (by omega), if_pos tg]
  rw [e] at k
  exact k
end Go.Proofs.Ythnnfemologhfaa
