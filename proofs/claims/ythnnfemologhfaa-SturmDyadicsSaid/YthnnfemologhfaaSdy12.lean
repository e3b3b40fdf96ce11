/- Texts of the proof of SturmDyadics, packed by pack.py: part 12 of 15. -/
import Derived.KernelRfl
import Derived.Test.YthnnfemologhfaaSdy11
namespace Go.Proofs.Ythnnfemologhfaa
open Go.IntKind (i64 u64 u32)
open Go.Ai
set_option maxRecDepth 100000
theorem ax0:Runs Yir 43 [.sl 3 [.bool true, .sl 1 [.int .u32 2], .bool false, .sl 0 [], .bool false, .sl 1 [.int .u32 1]]] (.fresh 2 3 [.bool true, .sl 1 [.int .u32 2], .bool false, .sl 0 [], .bool false, .sl 1 [.int .u32 1]]):=fF_holds Ypr_ok (noMemo_holds _) 400 _ _ _ (by kernel_rfl)
theorem ax1:Runs Yir 52 [.sl 3 [.int .i64 (-2), .int .i64 0, .int .i64 1]] (.fresh 2 3 [.bool true, .sl 1 [.int .u32 2], .bool false, .sl 0 [], .bool false, .sl 1 [.int .u32 1]]):=fF_holds Ypr_ok (memC_holds ax0 (noMemo_holds _)) 400 _ _ _ (by kernel_rfl)
theorem ax2:Runs Yir 43 [.sl 3 [.bool false, .sl 0 [], .bool true, .sl 1 [.int .u32 1], .bool false, .sl 1 [.int .u32 1]]] (.fresh 2 3 [.bool false, .sl 0 [], .bool true, .sl 1 [.int .u32 1], .bool false, .sl 1 [.int .u32 1]]):=fF_holds Ypr_ok (noMemo_holds _) 400 _ _ _ (by kernel_rfl)
theorem ax3:Runs Yir 52 [.sl 3 [.int .i64 0, .int .i64 (-1), .int .i64 1]] (.fresh 2 3 [.bool false, .sl 0 [], .bool true, .sl 1 [.int .u32 1], .bool false, .sl 1 [.int .u32 1]]):=fF_holds Ypr_ok (memC_holds ax2 (noMemo_holds _)) 400 _ _ _ (by kernel_rfl)
theorem ax4:Runs Yir 61 [.sl 1 [.sl 3 [.bool true, .sl 1 [.int .u32 2], .bool false, .sl 0 [], .bool false, .sl 1 [.int .u32 1]]]] (.bool false):=fF_holds Ypr_ok (noMemo_holds _) 400 _ _ _ (by kernel_rfl)
theorem ax5:Runs Yir 92 [.sl 3 [.bool true, .sl 1 [.int .u32 2], .bool false, .sl 0 [], .bool false, .sl 1 [.int .u32 1]]] (.fresh 2 3 [.bool true, .sl 1 [.int .u32 2], .bool false, .sl 0 [], .bool false, .sl 1 [.int .u32 1]]):=fF_holds Ypr_ok (noMemo_holds _) 400 _ _ _ (by kernel_rfl)
theorem ax6:Runs Yir 109 [.agg [.bool false, .sl 0 []], .agg [.bool false, .sl 1 [.int .u32 1]]] (.agg [.bool false, .sl 1 [.int .u32 1]]):=fF_holds Ypr_ok (noMemo_holds _) 400 _ _ _ (by kernel_rfl)
theorem ax7:Runs Yir 85 [.sl 3 [.bool true, .sl 1 [.int .u32 2], .bool false, .sl 0 [], .bool false, .sl 1 [.int .u32 1]]] (.agg [.bool false, .sl 1 [.int .u32 1]]):=fF_holds Ypr_ok (memC_holds ax6 (noMemo_holds _)) 400 _ _ _ (by kernel_rfl)
theorem ax8:Runs Yir 86 [.sl 3 [.bool true, .sl 1 [.int .u32 2], .bool false, .sl 0 [], .bool false, .sl 1 [.int .u32 1]]] (.fresh 2 3 [.bool true, .sl 1 [.int .u32 2], .bool false, .sl 0 [], .bool false, .sl 1 [.int .u32 1]]):=fF_holds Ypr_ok (memC_holds ax7 (memC_holds ax5 (noMemo_holds _))) 400 _ _ _ (by kernel_rfl)
theorem ax9:Runs Yir 113 [.agg [.bool false, .sl 0 []], .agg [.bool false, .sl 1 [.int .u32 1]]] (.agg [.bool false, .sl 0 []]):=fF_holds Ypr_ok (noMemo_holds _) 400 _ _ _ (by kernel_rfl)
theorem ax10:Runs Yir 113 [.agg [.bool false, .sl 1 [.int .u32 1]], .agg [.bool false, .sl 1 [.int .u32 2]]] (.agg [.bool false, .sl 1 [.int .u32 2]]):=fF_holds Ypr_ok (noMemo_holds _) 400 _ _ _ (by kernel_rfl)
theorem ax11:Runs Yir 92 [.sl 2 [.bool false, .sl 0 [], .bool false, .sl 1 [.int .u32 2]]] (.fresh 2 2 [.bool false, .sl 0 [], .bool false, .sl 1 [.int .u32 2]]):=fF_holds Ypr_ok (noMemo_holds _) 400 _ _ _ (by kernel_rfl)
theorem ax12:Runs Yir 75 [.sl 3 [.bool true, .sl 1 [.int .u32 2], .bool false, .sl 0 [], .bool false, .sl 1 [.int .u32 1]]] (.fresh 2 2 [.bool false, .sl 0 [], .bool false, .sl 1 [.int .u32 2]]):=fF_holds Ypr_ok (memC_holds ax11 (memC_holds ax10 (memC_holds ax9 (noMemo_holds _)))) 400 _ _ _ (by kernel_rfl)
theorem ax13:Runs Yir 109 [.agg [.bool false, .sl 0 []], .agg [.bool false, .sl 1 [.int .u32 2]]] (.agg [.bool false, .sl 1 [.int .u32 2]]):=fF_holds Ypr_ok (noMemo_holds _) 400 _ _ _ (by kernel_rfl)
theorem ax14:Runs Yir 109 [.agg [.bool false, .sl 1 [.int .u32 2]], .agg [.bool false, .sl 0 []]] (.agg [.bool false, .sl 1 [.int .u32 2]]):=fF_holds Ypr_ok (noMemo_holds _) 400 _ _ _ (by kernel_rfl)
theorem ax15:Runs Yir 85 [.sl 2 [.bool false, .sl 0 [], .bool false, .sl 1 [.int .u32 2]]] (.agg [.bool false, .sl 1 [.int .u32 2]]):=fF_holds Ypr_ok (memC_holds ax14 (memC_holds ax13 (noMemo_holds _))) 400 _ _ _ (by kernel_rfl)
theorem ax16:Runs Yir 110 [.agg [.bool false, .sl 0 []], .agg [.bool false, .sl 1 [.int .u32 2]]] (.tup [.agg [.bool false, .sl 0 []], .agg [.bool false, .sl 0 []]]):=fF_holds Ypr_ok (noMemo_holds _) 400 _ _ _ (by kernel_rfl)
theorem ax17:Runs Yir 147 [.sl 1 [.int .u32 2], .sl 1 [.int .u32 2]] (.tup [.sl 1 [.int .u32 1], .sl 1 [.int .u32 0]]):=fF_holds Ypr_ok (noMemo_holds _) 400 _ _ _ (by kernel_rfl)
theorem ax18:Runs Yir 110 [.agg [.bool false, .sl 1 [.int .u32 2]], .agg [.bool false, .sl 1 [.int .u32 2]]] (.tup [.agg [.bool false, .sl 1 [.int .u32 1]], .agg [.bool false, .sl 0 []]]):=fF_holds Ypr_ok (memC_holds ax17 (noMemo_holds _)) 400 _ _ _ (by kernel_rfl)
theorem ax19:Runs Yir 86 [.sl 2 [.bool false, .sl 0 [], .bool false, .sl 1 [.int .u32 2]]] (.fresh 2 2 [.bool false, .sl 0 [], .bool false, .sl 1 [.int .u32 1]]):=fF_holds Ypr_ok (memC_holds ax18 (memC_holds ax16 (memC_holds ax15 (memC_holds ax11 (noMemo_holds _))))) 400 _ _ _ (by kernel_rfl)
theorem ax20:Runs Yir 92 [.sl 2 [.bool false, .sl 0 [], .bool false, .sl 1 [.int .u32 1]]] (.fresh 2 2 [.bool false, .sl 0 [], .bool false, .sl 1 [.int .u32 1]]):=fF_holds Ypr_ok (noMemo_holds _) 400 _ _ _ (by kernel_rfl)
theorem ax21:Runs Yir 85 [.sl 2 [.bool false, .sl 0 [], .bool false, .sl 1 [.int .u32 1]]] (.agg [.bool false, .sl 1 [.int .u32 1]]):=fF_holds Ypr_ok (memC_holds ax6 (noMemo_holds _)) 400 _ _ _ (by kernel_rfl)
theorem ax22:Runs Yir 86 [.sl 2 [.bool false, .sl 0 [], .bool false, .sl 1 [.int .u32 1]]] (.fresh 2 2 [.bool false, .sl 0 [], .bool false, .sl 1 [.int .u32 1]]):=fF_holds Ypr_ok (memC_holds ax21 (memC_holds ax20 (noMemo_holds _))) 400 _ _ _ (by kernel_rfl)
theorem ax23:Runs Yir 109 [.agg [.bool false, .sl 1 [.int .u32 1]], .agg [.bool false, .sl 1 [.int .u32 1]]] (.agg [.bool false, .sl 1 [.int .u32 1]]):=fF_holds Ypr_ok (noMemo_holds _) 400 _ _ _ (by kernel_rfl)
theorem ax24:Runs Yir 147 [.sl 1 [.int .u32 1], .sl 1 [.int .u32 1]] (.tup [.sl 1 [.int .u32 1], .sl 1 [.int .u32 0]]):=fF_holds Ypr_ok (noMemo_holds _) 400 _ _ _ (by kernel_rfl)
theorem ax25:Runs Yir 110 [.agg [.bool false, .sl 1 [.int .u32 1]], .agg [.bool false, .sl 1 [.int .u32 1]]] (.tup [.agg [.bool false, .sl 1 [.int .u32 1]], .agg [.bool false, .sl 0 []]]):=fF_holds Ypr_ok (memC_holds ax24 (noMemo_holds _)) 400 _ _ _ (by kernel_rfl)
theorem ax26:Runs Yir 113 [.agg [.bool true, .sl 1 [.int .u32 2]], .agg [.bool false, .sl 1 [.int .u32 1]]] (.agg [.bool true, .sl 1 [.int .u32 2]]):=fF_holds Ypr_ok (noMemo_holds _) 400 _ _ _ (by kernel_rfl)
theorem ax27:Runs Yir 113 [.agg [.bool false, .sl 1 [.int .u32 1]], .agg [.bool false, .sl 0 []]] (.agg [.bool false, .sl 0 []]):=fF_holds Ypr_ok (noMemo_holds _) 400 _ _ _ (by kernel_rfl)
theorem ax28:Runs Yir 114 [.agg [.bool false, .sl 0 []], .agg [.bool false, .sl 0 []]] (.agg [.bool false, .sl 0 []]):=fF_holds Ypr_ok (noMemo_holds _) 400 _ _ _ (by kernel_rfl)
theorem ax29:Runs Yir 113 [.agg [.bool false, .sl 1 [.int .u32 1]], .agg [.bool false, .sl 1 [.int .u32 1]]] (.agg [.bool false, .sl 1 [.int .u32 1]]):=fF_holds Ypr_ok (noMemo_holds _) 400 _ _ _ (by kernel_rfl)
theorem ax30:Runs Yir 148 [.bool false, .sl 1 [.int .u32 1], .bool true, .sl 1 [.int .u32 1]] (.agg [.bool false, .sl 0 []]):=fF_holds Ypr_ok (noMemo_holds _) 400 _ _ _ (by kernel_rfl)
theorem ax31:Runs Yir 114 [.agg [.bool false, .sl 1 [.int .u32 1]], .agg [.bool false, .sl 1 [.int .u32 1]]] (.agg [.bool false, .sl 0 []]):=fF_holds Ypr_ok (memC_holds ax30 (noMemo_holds _)) 400 _ _ _ (by kernel_rfl)
theorem ax32:Runs Yir 62 [.sl 3 [.bool true, .sl 1 [.int .u32 2], .bool false, .sl 0 [], .bool false, .sl 0 []]] (.int .i64 0):=fF_holds Ypr_ok (noMemo_holds _) 400 _ _ _ (by kernel_rfl)
theorem ax33:Runs Yir 92 [.sl 3 [.bool true, .sl 1 [.int .u32 2], .bool false, .sl 0 [], .bool false, .sl 0 []]] (.fresh 2 1 [.bool true, .sl 1 [.int .u32 2]]):=fF_holds Ypr_ok (memC_holds ax32 (noMemo_holds _)) 400 _ _ _ (by kernel_rfl)
theorem ax34:Runs Yir 109 [.agg [.bool false, .sl 0 []], .agg [.bool true, .sl 1 [.int .u32 2]]] (.agg [.bool false, .sl 1 [.int .u32 2]]):=fF_holds Ypr_ok (noMemo_holds _) 400 _ _ _ (by kernel_rfl)
theorem ax35:Runs Yir 110 [.agg [.bool true, .sl 1 [.int .u32 2]], .agg [.bool false, .sl 1 [.int .u32 2]]] (.tup [.agg [.bool true, .sl 1 [.int .u32 1]], .agg [.bool false, .sl 0 []]]):=fF_holds Ypr_ok (memC_holds ax17 (noMemo_holds _)) 400 _ _ _ (by kernel_rfl)
theorem ax36:Runs Yir 86 [.sl 3 [.bool true, .sl 1 [.int .u32 2], .bool false, .sl 0 [], .bool false, .sl 0 []]] (.fresh 2 1 [.bool true, .sl 1 [.int .u32 1]]):=fF_holds Ypr_ok (memC_holds ax35 (memC_holds ax34 (memC_holds ax33 (noMemo_holds _)))) 400 _ _ _ (by kernel_rfl)
theorem ax37:Runs Yir 64 [.sl 3 [.bool true, .sl 1 [.int .u32 2], .bool false, .sl 0 [], .bool false, .sl 1 [.int .u32 1]], .sl 2 [.bool false, .sl 0 [], .bool false, .sl 1 [.int .u32 1]]] (.fresh 2 1 [.bool true, .sl 1 [.int .u32 1]]):=fF_holds Ypr_ok (memC_holds ax36 (memC_holds ax31 (memC_holds ax29 (memC_holds ax28 (memC_holds ax27 (memC_holds ax26 (memC_holds ax25 (memC_holds ax23 (memC_holds ax22 (memC_holds ax9 (memC_holds ax8 (noMemo_holds _)))))))))))) 400 _ _ _ (by kernel_rfl)
theorem ax38:Runs Yir 92 [.sl 1 [.bool true, .sl 1 [.int .u32 1]]] (.fresh 2 1 [.bool true, .sl 1 [.int .u32 1]]):=fF_holds Ypr_ok (noMemo_holds _) 400 _ _ _ (by kernel_rfl)
theorem ax39:Runs Yir 109 [.agg [.bool false, .sl 0 []], .agg [.bool true, .sl 1 [.int .u32 1]]] (.agg [.bool false, .sl 1 [.int .u32 1]]):=fF_holds Ypr_ok (noMemo_holds _) 400 _ _ _ (by kernel_rfl)
theorem ax40:Runs Yir 86 [.sl 1 [.bool true, .sl 1 [.int .u32 1]]] (.fresh 2 1 [.bool true, .sl 1 [.int .u32 1]]):=fF_holds Ypr_ok (memC_holds ax39 (memC_holds ax38 (noMemo_holds _))) 400 _ _ _ (by kernel_rfl)
theorem ax41:Runs Yir 109 [.agg [.bool true, .sl 1 [.int .u32 1]], .agg [.bool false, .sl 1 [.int .u32 1]]] (.agg [.bool false, .sl 1 [.int .u32 1]]):=fF_holds Ypr_ok (noMemo_holds _) 400 _ _ _ (by kernel_rfl)
theorem ax42:Runs Yir 113 [.agg [.bool true, .sl 1 [.int .u32 1]], .agg [.bool true, .sl 1 [.int .u32 1]]] (.agg [.bool false, .sl 1 [.int .u32 1]]):=fF_holds Ypr_ok (noMemo_holds _) 400 _ _ _ (by kernel_rfl)
theorem ax43:Runs Yir 62 [.sl 2 [.bool false, .sl 0 [], .bool false, .sl 0 []]] (.int .i64 (-1)):=fF_holds Ypr_ok (noMemo_holds _) 400 _ _ _ (by kernel_rfl)
theorem ax44:Runs Yir 86 [.sl 2 [.bool false, .sl 0 [], .bool false, .sl 0 []]] (.fresh 2 0 []):=fF_holds Ypr_ok (memC_holds ax43 (noMemo_holds _)) 400 _ _ _ (by kernel_rfl)
theorem ax45:Runs Yir 64 [.sl 2 [.bool false, .sl 0 [], .bool false, .sl 1 [.int .u32 1]], .sl 1 [.bool true, .sl 1 [.int .u32 1]]] (.fresh 2 0 []):=fF_holds Ypr_ok (memC_holds ax44 (memC_holds ax42 (memC_holds ax41 (memC_holds ax40 (memC_holds ax31 (memC_holds ax29 (memC_holds ax25 (memC_holds ax22 (memC_holds ax9 (noMemo_holds _)))))))))) 400 _ _ _ (by kernel_rfl)
theorem ax46:Runs Yir 127 [.sl 1 [.bool true, .sl 1 [.int .u32 1]]] (.fresh 2 1 [.bool false, .sl 1 [.int .u32 1]]):=fF_holds Ypr_ok (noMemo_holds _) 400 _ _ _ (by kernel_rfl)
theorem ax47:Runs Yir 65 [.sl 3 [.bool true, .sl 1 [.int .u32 2], .bool false, .sl 0 [], .bool false, .sl 1 [.int .u32 1]], .sl 2 [.bool false, .sl 0 [], .bool false, .sl 1 [.int .u32 2]]] (.fresh 2 1 [.bool false, .sl 1 [.int .u32 1]]):=fF_holds Ypr_ok (memC_holds ax46 (memC_holds ax45 (memC_holds ax37 (memC_holds ax19 (memC_holds ax8 (noMemo_holds _)))))) 400 _ _ _ (by kernel_rfl)
theorem ax48:Runs Yir 66 [.sl 3 [.bool true, .sl 1 [.int .u32 2], .bool false, .sl 0 [], .bool false, .sl 1 [.int .u32 1]]] (.sl 3 [.bool true, .sl 1 [.int .u32 2], .bool false, .sl 0 [], .bool false, .sl 1 [.int .u32 1]]):=fF_holds Ypr_ok (memC_holds ax47 (memC_holds ax12 (memC_holds ax8 (noMemo_holds _)))) 400 _ _ _ (by kernel_rfl)
theorem ax49:Runs Yir 92 [.sl 1 [.bool false, .sl 1 [.int .u32 1]]] (.fresh 2 1 [.bool false, .sl 1 [.int .u32 1]]):=fF_holds Ypr_ok (noMemo_holds _) 400 _ _ _ (by kernel_rfl)
theorem ax50:Runs Yir 86 [.sl 1 [.bool false, .sl 1 [.int .u32 1]]] (.fresh 2 1 [.bool false, .sl 1 [.int .u32 1]]):=fF_holds Ypr_ok (memC_holds ax49 (memC_holds ax6 (noMemo_holds _))) 400 _ _ _ (by kernel_rfl)
theorem ax51:Runs Yir 64 [.sl 2 [.bool false, .sl 0 [], .bool false, .sl 1 [.int .u32 1]], .sl 1 [.bool false, .sl 1 [.int .u32 1]]] (.fresh 2 0 []):=fF_holds Ypr_ok (memC_holds ax50 (memC_holds ax44 (memC_holds ax31 (memC_holds ax29 (memC_holds ax25 (memC_holds ax23 (memC_holds ax22 (memC_holds ax9 (noMemo_holds _))))))))) 400 _ _ _ (by kernel_rfl)
theorem ax52:Runs Yir 124 [.agg [.bool false, .sl 1 [.int .u32 2]], .int .i64 0] (.agg [.bool false, .sl 1 [.int .u32 2]]):=fF_holds Ypr_ok (noMemo_holds _) 400 _ _ _ (by kernel_rfl)
theorem ax53:Runs Yir 134 [.agg [.bool false, .sl 0 []], .agg [.bool false, .sl 1 [.int .u32 2]]] (.int .i64 (-1)):=fF_holds Ypr_ok (noMemo_holds _) 400 _ _ _ (by kernel_rfl)
theorem ax54:Runs Yir 113 [.agg [.bool false, .sl 0 []], .agg [.bool false, .sl 0 []]] (.agg [.bool false, .sl 0 []]):=fF_holds Ypr_ok (noMemo_holds _) 400 _ _ _ (by kernel_rfl)
theorem ax55:Runs Yir 124 [.agg [.bool false, .sl 1 [.int .u32 1]], .int .i64 0] (.agg [.bool false, .sl 1 [.int .u32 1]]):=fF_holds Ypr_ok (noMemo_holds _) 400 _ _ _ (by kernel_rfl)
theorem ax56:Runs Yir 148 [.bool false, .sl 0 [], .bool false, .sl 1 [.int .u32 1]] (.agg [.bool false, .sl 1 [.int .u32 1]]):=fF_holds Ypr_ok (noMemo_holds _) 400 _ _ _ (by kernel_rfl)
theorem ax57:Runs Yir 121 [.agg [.bool false, .sl 0 []], .agg [.bool false, .sl 1 [.int .u32 1]]] (.agg [.bool false, .sl 1 [.int .u32 1]]):=fF_holds Ypr_ok (memC_holds ax56 (noMemo_holds _)) 400 _ _ _ (by kernel_rfl)
theorem ax58:Runs Yir 121 [.agg [.bool false, .sl 0 []], .agg [.bool false, .sl 0 []]] (.agg [.bool false, .sl 0 []]):=fF_holds Ypr_ok (noMemo_holds _) 400 _ _ _ (by kernel_rfl)
theorem ax59:Runs Yir 124 [.agg [.bool true, .sl 1 [.int .u32 2]], .int .i64 0] (.agg [.bool true, .sl 1 [.int .u32 2]]):=fF_holds Ypr_ok (noMemo_holds _) 400 _ _ _ (by kernel_rfl)
theorem ax60:Runs Yir 148 [.bool false, .sl 0 [], .bool true, .sl 1 [.int .u32 2]] (.agg [.bool true, .sl 1 [.int .u32 2]]):=fF_holds Ypr_ok (noMemo_holds _) 400 _ _ _ (by kernel_rfl)
theorem ax61:Runs Yir 121 [.agg [.bool false, .sl 0 []], .agg [.bool true, .sl 1 [.int .u32 2]]] (.agg [.bool true, .sl 1 [.int .u32 2]]):=fF_holds Ypr_ok (memC_holds ax60 (noMemo_holds _)) 400 _ _ _ (by kernel_rfl)
theorem ax62:Runs Yir 78 [.sl 3 [.bool true, .sl 1 [.int .u32 2], .bool false, .sl 0 [], .bool false, .sl 1 [.int .u32 1]], .agg [.bool false, .sl 0 [], .int .i64 0]] (.int .i64 (-1)):=fF_holds Ypr_ok (memC_holds ax61 (memC_holds ax59 (memC_holds ax58 (memC_holds ax57 (memC_holds ax55 (memC_holds ax54 (memC_holds ax27 (noMemo_holds _)))))))) 400 _ _ _ (by kernel_rfl)
theorem ax63:Runs Yir 78 [.sl 2 [.bool false, .sl 0 [], .bool false, .sl 1 [.int .u32 1]], .agg [.bool false, .sl 0 [], .int .i64 0]] (.int .i64 0):=fF_holds Ypr_ok (memC_holds ax58 (memC_holds ax57 (memC_holds ax55 (memC_holds ax54 (memC_holds ax27 (noMemo_holds _)))))) 400 _ _ _ (by kernel_rfl)
theorem ax64:Runs Yir 78 [.sl 1 [.bool false, .sl 1 [.int .u32 1]], .agg [.bool false, .sl 0 [], .int .i64 0]] (.int .i64 1):=fF_holds Ypr_ok (memC_holds ax57 (memC_holds ax55 (memC_holds ax54 (noMemo_holds _)))) 400 _ _ _ (by kernel_rfl)
theorem ax65:Runs Yir 100 [.sl 3 [.sl 3 [.bool true, .sl 1 [.int .u32 2], .bool false, .sl 0 [], .bool false, .sl 1 [.int .u32 1]], .sl 2 [.bool false, .sl 0 [], .bool false, .sl 1 [.int .u32 1]], .sl 1 [.bool false, .sl 1 [.int .u32 1]]], .agg [.bool false, .sl 0 [], .int .i64 0]] (.int .i64 1):=fF_holds Ypr_ok (memC_holds ax64 (memC_holds ax63 (memC_holds ax62 (noMemo_holds _)))) 400 _ _ _ (by kernel_rfl)
theorem ax66:Runs Yir 113 [.agg [.bool false, .sl 0 []], .agg [.bool false, .sl 1 [.int .u32 2]]] (.agg [.bool false, .sl 0 []]):=fF_holds Ypr_ok (noMemo_holds _) 400 _ _ _ (by kernel_rfl)
theorem ax67:Runs Yir 148 [.bool false, .sl 1 [.int .u32 2], .bool false, .sl 0 []] (.agg [.bool false, .sl 1 [.int .u32 2]]):=fF_holds Ypr_ok (noMemo_holds _) 400 _ _ _ (by kernel_rfl)
theorem ax68:Runs Yir 121 [.agg [.bool false, .sl 1 [.int .u32 2]], .agg [.bool false, .sl 0 []]] (.agg [.bool false, .sl 1 [.int .u32 2]]):=fF_holds Ypr_ok (memC_holds ax67 (noMemo_holds _)) 400 _ _ _ (by kernel_rfl)
theorem ax69:Runs Yir 113 [.agg [.bool false, .sl 1 [.int .u32 2]], .agg [.bool false, .sl 1 [.int .u32 2]]] (.agg [.bool false, .sl 1 [.int .u32 4]]):=fF_holds Ypr_ok (noMemo_holds _) 400 _ _ _ (by kernel_rfl)
theorem ax70:Runs Yir 148 [.bool false, .sl 1 [.int .u32 4], .bool true, .sl 1 [.int .u32 2]] (.agg [.bool false, .sl 1 [.int .u32 2]]):=fF_holds Ypr_ok (noMemo_holds _) 400 _ _ _ (by kernel_rfl)
theorem ax71:Runs Yir 121 [.agg [.bool false, .sl 1 [.int .u32 4]], .agg [.bool true, .sl 1 [.int .u32 2]]] (.agg [.bool false, .sl 1 [.int .u32 2]]):=fF_holds Ypr_ok (memC_holds ax70 (noMemo_holds _)) 400 _ _ _ (by kernel_rfl)
theorem ax72:Runs Yir 78 [.sl 3 [.bool true, .sl 1 [.int .u32 2], .bool false, .sl 0 [], .bool false, .sl 1 [.int .u32 1]], .agg [.bool false, .sl 1 [.int .u32 2], .int .i64 0]] (.int .i64 1):=fF_holds Ypr_ok (memC_holds ax71 (memC_holds ax69 (memC_holds ax68 (memC_holds ax66 (memC_holds ax59 (memC_holds ax57 (memC_holds ax55 (memC_holds ax10 (noMemo_holds _))))))))) 400 _ _ _ (by kernel_rfl)
theorem ax73:Runs Yir 78 [.sl 2 [.bool false, .sl 0 [], .bool false, .sl 1 [.int .u32 1]], .agg [.bool false, .sl 1 [.int .u32 2], .int .i64 0]] (.int .i64 1):=fF_holds Ypr_ok (memC_holds ax68 (memC_holds ax66 (memC_holds ax57 (memC_holds ax55 (memC_holds ax10 (noMemo_holds _)))))) 400 _ _ _ (by kernel_rfl)
theorem ax74:Runs Yir 78 [.sl 1 [.bool false, .sl 1 [.int .u32 1]], .agg [.bool false, .sl 1 [.int .u32 2], .int .i64 0]] (.int .i64 1):=fF_holds Ypr_ok (memC_holds ax66 (memC_holds ax57 (memC_holds ax55 (noMemo_holds _)))) 400 _ _ _ (by kernel_rfl)
theorem ax75:Runs Yir 99 [.agg [.bool false, .sl 1 [.int .u32 2], .int .i64 0], .pt [.sl 3 [.sl 3 [.bool true, .sl 1 [.int .u32 2], .bool false, .sl 0 [], .bool false, .sl 1 [.int .u32 1]], .sl 2 [.bool false, .sl 0 [], .bool false, .sl 1 [.int .u32 1]], .sl 1 [.bool false, .sl 1 [.int .u32 1]]]]] (.int .i64 0):=fF_holds Ypr_ok (memC_holds ax74 (memC_holds ax73 (memC_holds ax72 (noMemo_holds _)))) 400 _ _ _ (by kernel_rfl)
theorem ax76:Runs Yir 50 [.sl 3 [.bool true, .sl 1 [.int .u32 2], .bool false, .sl 0 [], .bool false, .sl 1 [.int .u32 1]], .agg [.bool false, .sl 0 [], .int .i64 0], .agg [.bool false, .sl 1 [.int .u32 2], .int .i64 0]] (.tup [.int .i64 1, .int .i64 0]):=fF_holds Ypr_ok (memC_holds ax75 (memC_holds ax65 (memC_holds ax53 (memC_holds ax52 (memC_holds ax51 (memC_holds ax48 (memC_holds ax46 (memC_holds ax37 (memC_holds ax19 (memC_holds ax12 (memC_holds ax8 (memC_holds ax4 (noMemo_holds _))))))))))))) 400 _ _ _ (by kernel_rfl)
theorem ax77:Runs Yir 61 [.sl 1 [.sl 3 [.bool false, .sl 0 [], .bool true, .sl 1 [.int .u32 1], .bool false, .sl 1 [.int .u32 1]]]] (.bool false):=fF_holds Ypr_ok (noMemo_holds _) 400 _ _ _ (by kernel_rfl)
theorem ax78:Runs Yir 92 [.sl 3 [.bool false, .sl 0 [], .bool true, .sl 1 [.int .u32 1], .bool false, .sl 1 [.int .u32 1]]] (.fresh 2 3 [.bool false, .sl 0 [], .bool true, .sl 1 [.int .u32 1], .bool false, .sl 1 [.int .u32 1]]):=fF_holds Ypr_ok (noMemo_holds _) 400 _ _ _ (by kernel_rfl)
theorem ax79:Runs Yir 85 [.sl 3 [.bool false, .sl 0 [], .bool true, .sl 1 [.int .u32 1], .bool false, .sl 1 [.int .u32 1]]] (.agg [.bool false, .sl 1 [.int .u32 1]]):=fF_holds Ypr_ok (memC_holds ax6 (noMemo_holds _)) 400 _ _ _ (by kernel_rfl)
theorem ax80:Runs Yir 86 [.sl 3 [.bool false, .sl 0 [], .bool true, .sl 1 [.int .u32 1], .bool false, .sl 1 [.int .u32 1]]] (.fresh 2 3 [.bool false, .sl 0 [], .bool true, .sl 1 [.int .u32 1], .bool false, .sl 1 [.int .u32 1]]):=fF_holds Ypr_ok (memC_holds ax79 (memC_holds ax78 (noMemo_holds _))) 400 _ _ _ (by kernel_rfl)
theorem ax81:Runs Yir 113 [.agg [.bool true, .sl 1 [.int .u32 1]], .agg [.bool false, .sl 1 [.int .u32 1]]] (.agg [.bool true, .sl 1 [.int .u32 1]]):=fF_holds Ypr_ok (noMemo_holds _) 400 _ _ _ (by kernel_rfl)
theorem ax82:Runs Yir 92 [.sl 2 [.bool true, .sl 1 [.int .u32 1], .bool false, .sl 1 [.int .u32 2]]] (.fresh 2 2 [.bool true, .sl 1 [.int .u32 1], .bool false, .sl 1 [.int .u32 2]]):=fF_holds Ypr_ok (noMemo_holds _) 400 _ _ _ (by kernel_rfl)
theorem ax83:Runs Yir 75 [.sl 3 [.bool false, .sl 0 [], .bool true, .sl 1 [.int .u32 1], .bool false, .sl 1 [.int .u32 1]]] (.fresh 2 2 [.bool true, .sl 1 [.int .u32 1], .bool false, .sl 1 [.int .u32 2]]):=fF_holds Ypr_ok (memC_holds ax82 (memC_holds ax81 (memC_holds ax10 (noMemo_holds _)))) 400 _ _ _ (by kernel_rfl)
theorem ax84:Runs Yir 109 [.agg [.bool false, .sl 1 [.int .u32 2]], .agg [.bool true, .sl 1 [.int .u32 1]]] (.agg [.bool false, .sl 1 [.int .u32 1]]):=fF_holds Ypr_ok (noMemo_holds _) 400 _ _ _ (by kernel_rfl)
theorem ax85:Runs Yir 85 [.sl 2 [.bool true, .sl 1 [.int .u32 1], .bool false, .sl 1 [.int .u32 2]]] (.agg [.bool false, .sl 1 [.int .u32 1]]):=fF_holds Ypr_ok (memC_holds ax84 (memC_holds ax13 (noMemo_holds _))) 400 _ _ _ (by kernel_rfl)
theorem ax86:Runs Yir 86 [.sl 2 [.bool true, .sl 1 [.int .u32 1], .bool false, .sl 1 [.int .u32 2]]] (.fresh 2 2 [.bool true, .sl 1 [.int .u32 1], .bool false, .sl 1 [.int .u32 2]]):=fF_holds Ypr_ok (memC_holds ax85 (memC_holds ax82 (noMemo_holds _))) 400 _ _ _ (by kernel_rfl)
theorem ax87:Runs Yir 109 [.agg [.bool false, .sl 1 [.int .u32 2]], .agg [.bool false, .sl 1 [.int .u32 1]]] (.agg [.bool false, .sl 1 [.int .u32 1]]):=fF_holds Ypr_ok (noMemo_holds _) 400 _ _ _ (by kernel_rfl)
theorem ax88:Runs Yir 147 [.sl 1 [.int .u32 2], .sl 1 [.int .u32 1]] (.tup [.sl 1 [.int .u32 2], .sl 1 [.int .u32 0]]):=fF_holds Ypr_ok (noMemo_holds _) 400 _ _ _ (by kernel_rfl)
theorem ax89:Runs Yir 110 [.agg [.bool false, .sl 1 [.int .u32 2]], .agg [.bool false, .sl 1 [.int .u32 1]]] (.tup [.agg [.bool false, .sl 1 [.int .u32 2]], .agg [.bool false, .sl 0 []]]):=fF_holds Ypr_ok (memC_holds ax88 (noMemo_holds _)) 400 _ _ _ (by kernel_rfl)
theorem ax90:Runs Yir 113 [.agg [.bool true, .sl 1 [.int .u32 1]], .agg [.bool false, .sl 1 [.int .u32 2]]] (.agg [.bool true, .sl 1 [.int .u32 2]]):=fF_holds Ypr_ok (noMemo_holds _) 400 _ _ _ (by kernel_rfl)
theorem ax91:Runs Yir 113 [.agg [.bool false, .sl 1 [.int .u32 1]], .agg [.bool true, .sl 1 [.int .u32 1]]] (.agg [.bool true, .sl 1 [.int .u32 1]]):=fF_holds Ypr_ok (noMemo_holds _) 400 _ _ _ (by kernel_rfl)
theorem ax92:Runs Yir 148 [.bool true, .sl 1 [.int .u32 2], .bool false, .sl 1 [.int .u32 1]] (.agg [.bool true, .sl 1 [.int .u32 1]]):=fF_holds Ypr_ok (noMemo_holds _) 400 _ _ _ (by kernel_rfl)
theorem ax93:Runs Yir 114 [.agg [.bool true, .sl 1 [.int .u32 2]], .agg [.bool true, .sl 1 [.int .u32 1]]] (.agg [.bool true, .sl 1 [.int .u32 1]]):=fF_holds Ypr_ok (memC_holds ax92 (noMemo_holds _)) 400 _ _ _ (by kernel_rfl)
theorem ax94:Runs Yir 148 [.bool false, .sl 1 [.int .u32 2], .bool true, .sl 1 [.int .u32 2]] (.agg [.bool false, .sl 0 []]):=fF_holds Ypr_ok (noMemo_holds _) 400 _ _ _ (by kernel_rfl)
theorem ax95:Runs Yir 114 [.agg [.bool false, .sl 1 [.int .u32 2]], .agg [.bool false, .sl 1 [.int .u32 2]]] (.agg [.bool false, .sl 0 []]):=fF_holds Ypr_ok (memC_holds ax94 (noMemo_holds _)) 400 _ _ _ (by kernel_rfl)
theorem ax96:Runs Yir 62 [.sl 3 [.bool false, .sl 0 [], .bool true, .sl 1 [.int .u32 1], .bool false, .sl 0 []]] (.int .i64 1):=fF_holds Ypr_ok (noMemo_holds _) 400 _ _ _ (by kernel_rfl)
theorem ax97:Runs Yir 92 [.sl 3 [.bool false, .sl 0 [], .bool true, .sl 1 [.int .u32 1], .bool false, .sl 0 []]] (.fresh 2 2 [.bool false, .sl 0 [], .bool true, .sl 1 [.int .u32 1]]):=fF_holds Ypr_ok (memC_holds ax96 (noMemo_holds _)) 400 _ _ _ (by kernel_rfl)
theorem ax98:Runs Yir 85 [.sl 2 [.bool false, .sl 0 [], .bool true, .sl 1 [.int .u32 1]]] (.agg [.bool false, .sl 1 [.int .u32 1]]):=fF_holds Ypr_ok (memC_holds ax39 (noMemo_holds _)) 400 _ _ _ (by kernel_rfl)
theorem ax99:Runs Yir 86 [.sl 3 [.bool false, .sl 0 [], .bool true, .sl 1 [.int .u32 1], .bool false, .sl 0 []]] (.fresh 2 2 [.bool false, .sl 0 [], .bool true, .sl 1 [.int .u32 1]]):=fF_holds Ypr_ok (memC_holds ax98 (memC_holds ax97 (noMemo_holds _))) 400 _ _ _ (by kernel_rfl)
theorem ax100:Runs Yir 110 [.agg [.bool true, .sl 1 [.int .u32 1]], .agg [.bool false, .sl 1 [.int .u32 1]]] (.tup [.agg [.bool true, .sl 1 [.int .u32 1]], .agg [.bool false, .sl 0 []]]):=fF_holds Ypr_ok (memC_holds ax24 (noMemo_holds _)) 400 _ _ _ (by kernel_rfl)
theorem ax101:Runs Yir 148 [.bool false, .sl 0 [], .bool true, .sl 1 [.int .u32 1]] (.agg [.bool true, .sl 1 [.int .u32 1]]):=fF_holds Ypr_ok (noMemo_holds _) 400 _ _ _ (by kernel_rfl)
theorem ax102:Runs Yir 114 [.agg [.bool false, .sl 0 []], .agg [.bool false, .sl 1 [.int .u32 1]]] (.agg [.bool true, .sl 1 [.int .u32 1]]):=fF_holds Ypr_ok (memC_holds ax101 (noMemo_holds _)) 400 _ _ _ (by kernel_rfl)
theorem ax103:Runs Yir 148 [.bool true, .sl 1 [.int .u32 2], .bool false, .sl 1 [.int .u32 2]] (.agg [.bool false, .sl 0 []]):=fF_holds Ypr_ok (noMemo_holds _) 400 _ _ _ (by kernel_rfl)
theorem ax104:Runs Yir 114 [.agg [.bool true, .sl 1 [.int .u32 2]], .agg [.bool true, .sl 1 [.int .u32 2]]] (.agg [.bool false, .sl 0 []]):=fF_holds Ypr_ok (memC_holds ax103 (noMemo_holds _)) 400 _ _ _ (by kernel_rfl)
theorem ax105:Runs Yir 62 [.sl 2 [.bool true, .sl 1 [.int .u32 1], .bool false, .sl 0 []]] (.int .i64 0):=fF_holds Ypr_ok (noMemo_holds _) 400 _ _ _ (by kernel_rfl)
theorem ax106:Runs Yir 92 [.sl 2 [.bool true, .sl 1 [.int .u32 1], .bool false, .sl 0 []]] (.fresh 2 1 [.bool true, .sl 1 [.int .u32 1]]):=fF_holds Ypr_ok (memC_holds ax105 (noMemo_holds _)) 400 _ _ _ (by kernel_rfl)
theorem ax107:Runs Yir 86 [.sl 2 [.bool true, .sl 1 [.int .u32 1], .bool false, .sl 0 []]] (.fresh 2 1 [.bool true, .sl 1 [.int .u32 1]]):=fF_holds Ypr_ok (memC_holds ax106 (memC_holds ax39 (noMemo_holds _))) 400 _ _ _ (by kernel_rfl)
theorem ax108:Runs Yir 64 [.sl 3 [.bool false, .sl 0 [], .bool true, .sl 1 [.int .u32 1], .bool false, .sl 1 [.int .u32 1]], .sl 2 [.bool true, .sl 1 [.int .u32 1], .bool false, .sl 1 [.int .u32 2]]] (.fresh 2 1 [.bool true, .sl 1 [.int .u32 1]]):=fF_holds Ypr_ok (memC_holds ax107 (memC_holds ax104 (memC_holds ax102 (memC_holds ax100 (memC_holds ax99 (memC_holds ax95 (memC_holds ax93 (memC_holds ax91 (memC_holds ax90 (memC_holds ax89 (memC_holds ax87 (memC_holds ax86 (memC_holds ax84 (memC_holds ax80 (memC_holds ax66 (memC_holds ax42 (memC_holds ax25 (memC_holds ax10 (noMemo_holds _))))))))))))))))))) 400 _ _ _ (by kernel_rfl)
theorem ax109:Runs Yir 109 [.agg [.bool true, .sl 1 [.int .u32 1]], .agg [.bool false, .sl 1 [.int .u32 2]]] (.agg [.bool false, .sl 1 [.int .u32 1]]):=fF_holds Ypr_ok (noMemo_holds _) 400 _ _ _ (by kernel_rfl)
theorem ax110:Runs Yir 113 [.agg [.bool false, .sl 1 [.int .u32 2]], .agg [.bool false, .sl 1 [.int .u32 1]]] (.agg [.bool false, .sl 1 [.int .u32 2]]):=fF_holds Ypr_ok (noMemo_holds _) 400 _ _ _ (by kernel_rfl)
theorem ax111:Runs Yir 113 [.agg [.bool true, .sl 1 [.int .u32 2]], .agg [.bool true, .sl 1 [.int .u32 1]]] (.agg [.bool false, .sl 1 [.int .u32 2]]):=fF_holds Ypr_ok (noMemo_holds _) 400 _ _ _ (by kernel_rfl)
theorem ax112:Runs Yir 109 [.agg [.bool true, .sl 1 [.int .u32 1]], .agg [.bool true, .sl 1 [.int .u32 1]]] (.agg [.bool false, .sl 1 [.int .u32 1]]):=fF_holds Ypr_ok (noMemo_holds _) 400 _ _ _ (by kernel_rfl)
theorem ax113:Runs Yir 148 [.bool true, .sl 1 [.int .u32 1], .bool false, .sl 1 [.int .u32 1]] (.agg [.bool false, .sl 0 []]):=fF_holds Ypr_ok (noMemo_holds _) 400 _ _ _ (by kernel_rfl)
theorem ax114:Runs Yir 114 [.agg [.bool true, .sl 1 [.int .u32 1]], .agg [.bool true, .sl 1 [.int .u32 1]]] (.agg [.bool false, .sl 0 []]):=fF_holds Ypr_ok (memC_holds ax113 (noMemo_holds _)) 400 _ _ _ (by kernel_rfl)
theorem ax115:Runs Yir 92 [.sl 1 [.bool false, .sl 0 []]] (.fresh 2 0 []):=fF_holds Ypr_ok (noMemo_holds _) 400 _ _ _ (by kernel_rfl)
theorem ax116:Runs Yir 64 [.sl 2 [.bool true, .sl 1 [.int .u32 1], .bool false, .sl 1 [.int .u32 2]], .sl 1 [.bool true, .sl 1 [.int .u32 1]]] (.fresh 2 0 []):=fF_holds Ypr_ok (memC_holds ax115 (memC_holds ax114 (memC_holds ax112 (memC_holds ax111 (memC_holds ax110 (memC_holds ax109 (memC_holds ax107 (memC_holds ax100 (memC_holds ax95 (memC_holds ax91 (memC_holds ax89 (memC_holds ax86 (memC_holds ax81 (memC_holds ax40 (memC_holds ax25 (noMemo_holds _)))))))))))))))) 400 _ _ _ (by kernel_rfl)
theorem ax117:Runs Yir 65 [.sl 3 [.bool false, .sl 0 [], .bool true, .sl 1 [.int .u32 1], .bool false, .sl 1 [.int .u32 1]], .sl 2 [.bool true, .sl 1 [.int .u32 1], .bool false, .sl 1 [.int .u32 2]]] (.fresh 2 1 [.bool false, .sl 1 [.int .u32 1]]):=fF_holds Ypr_ok (memC_holds ax116 (memC_holds ax108 (memC_holds ax86 (memC_holds ax80 (memC_holds ax46 (noMemo_holds _)))))) 400 _ _ _ (by kernel_rfl)
theorem ax118:Runs Yir 66 [.sl 3 [.bool false, .sl 0 [], .bool true, .sl 1 [.int .u32 1], .bool false, .sl 1 [.int .u32 1]]] (.sl 3 [.bool false, .sl 0 [], .bool true, .sl 1 [.int .u32 1], .bool false, .sl 1 [.int .u32 1]]):=fF_holds Ypr_ok (memC_holds ax117 (memC_holds ax83 (memC_holds ax80 (noMemo_holds _)))) 400 _ _ _ (by kernel_rfl)
theorem ax119:Runs Yir 109 [.agg [.bool false, .sl 1 [.int .u32 1]], .agg [.bool false, .sl 1 [.int .u32 2]]] (.agg [.bool false, .sl 1 [.int .u32 1]]):=fF_holds Ypr_ok (noMemo_holds _) 400 _ _ _ (by kernel_rfl)
theorem ax120:Runs Yir 109 [.agg [.bool false, .sl 1 [.int .u32 1]], .agg [.bool true, .sl 1 [.int .u32 1]]] (.agg [.bool false, .sl 1 [.int .u32 1]]):=fF_holds Ypr_ok (noMemo_holds _) 400 _ _ _ (by kernel_rfl)
end Go.Proofs.Ythnnfemologhfaa

namespace Go.Proofs.Ythnnfemologhfaa
open Go.IntKind (i64 u64 u32)
open Go.Ai
set_option maxRecDepth 100000
theorem ax121:Runs Yir 64 [.sl 2 [.bool true, .sl 1 [.int .u32 1], .bool false, .sl 1 [.int .u32 2]], .sl 1 [.bool false, .sl 1 [.int .u32 1]]] (.fresh 2 0 []):=fF_holds Ypr_ok (memC_holds ax120 (memC_holds ax119 (memC_holds ax115 (memC_holds ax114 (memC_holds ax110 (memC_holds ax107 (memC_holds ax100 (memC_holds ax95 (memC_holds ax89 (memC_holds ax86 (memC_holds ax81 (memC_holds ax50 (memC_holds ax25 (noMemo_holds _)))))))))))))) 400 _ _ _ (by kernel_rfl)
theorem ax122:Runs Yir 134 [.agg [.bool false, .sl 0 []], .agg [.bool false, .sl 1 [.int .u32 1]]] (.int .i64 (-1)):=fF_holds Ypr_ok (noMemo_holds _) 400 _ _ _ (by kernel_rfl)
theorem ax123:Runs Yir 124 [.agg [.bool true, .sl 1 [.int .u32 1]], .int .i64 0] (.agg [.bool true, .sl 1 [.int .u32 1]]):=fF_holds Ypr_ok (noMemo_holds _) 400 _ _ _ (by kernel_rfl)
theorem ax124:Runs Yir 121 [.agg [.bool false, .sl 0 []], .agg [.bool true, .sl 1 [.int .u32 1]]] (.agg [.bool true, .sl 1 [.int .u32 1]]):=fF_holds Ypr_ok (memC_holds ax101 (noMemo_holds _)) 400 _ _ _ (by kernel_rfl)
theorem ax125:Runs Yir 113 [.agg [.bool true, .sl 1 [.int .u32 1]], .agg [.bool false, .sl 0 []]] (.agg [.bool false, .sl 0 []]):=fF_holds Ypr_ok (noMemo_holds _) 400 _ _ _ (by kernel_rfl)
theorem ax126:Runs Yir 78 [.sl 3 [.bool false, .sl 0 [], .bool true, .sl 1 [.int .u32 1], .bool false, .sl 1 [.int .u32 1]], .agg [.bool false, .sl 0 [], .int .i64 0]] (.int .i64 0):=fF_holds Ypr_ok (memC_holds ax125 (memC_holds ax124 (memC_holds ax123 (memC_holds ax58 (memC_holds ax57 (memC_holds ax55 (memC_holds ax54 (memC_holds ax27 (noMemo_holds _))))))))) 400 _ _ _ (by kernel_rfl)
theorem ax127:Runs Yir 148 [.bool false, .sl 0 [], .bool false, .sl 1 [.int .u32 2]] (.agg [.bool false, .sl 1 [.int .u32 2]]):=fF_holds Ypr_ok (noMemo_holds _) 400 _ _ _ (by kernel_rfl)
theorem ax128:Runs Yir 121 [.agg [.bool false, .sl 0 []], .agg [.bool false, .sl 1 [.int .u32 2]]] (.agg [.bool false, .sl 1 [.int .u32 2]]):=fF_holds Ypr_ok (memC_holds ax127 (noMemo_holds _)) 400 _ _ _ (by kernel_rfl)
theorem ax129:Runs Yir 113 [.agg [.bool false, .sl 1 [.int .u32 2]], .agg [.bool false, .sl 0 []]] (.agg [.bool false, .sl 0 []]):=fF_holds Ypr_ok (noMemo_holds _) 400 _ _ _ (by kernel_rfl)
theorem ax130:Runs Yir 78 [.sl 2 [.bool true, .sl 1 [.int .u32 1], .bool false, .sl 1 [.int .u32 2]], .agg [.bool false, .sl 0 [], .int .i64 0]] (.int .i64 (-1)):=fF_holds Ypr_ok (memC_holds ax129 (memC_holds ax128 (memC_holds ax124 (memC_holds ax123 (memC_holds ax54 (memC_holds ax52 (noMemo_holds _))))))) 400 _ _ _ (by kernel_rfl)
theorem ax131:Runs Yir 100 [.sl 3 [.sl 3 [.bool false, .sl 0 [], .bool true, .sl 1 [.int .u32 1], .bool false, .sl 1 [.int .u32 1]], .sl 2 [.bool true, .sl 1 [.int .u32 1], .bool false, .sl 1 [.int .u32 2]], .sl 1 [.bool false, .sl 1 [.int .u32 1]]], .agg [.bool false, .sl 0 [], .int .i64 0]] (.int .i64 1):=fF_holds Ypr_ok (memC_holds ax130 (memC_holds ax126 (memC_holds ax64 (noMemo_holds _)))) 400 _ _ _ (by kernel_rfl)
theorem ax132:Runs Yir 121 [.agg [.bool false, .sl 1 [.int .u32 1]], .agg [.bool true, .sl 1 [.int .u32 1]]] (.agg [.bool false, .sl 0 []]):=fF_holds Ypr_ok (memC_holds ax30 (noMemo_holds _)) 400 _ _ _ (by kernel_rfl)
theorem ax133:Runs Yir 78 [.sl 3 [.bool false, .sl 0 [], .bool true, .sl 1 [.int .u32 1], .bool false, .sl 1 [.int .u32 1]], .agg [.bool false, .sl 1 [.int .u32 1], .int .i64 0]] (.int .i64 0):=fF_holds Ypr_ok (memC_holds ax132 (memC_holds ax123 (memC_holds ax58 (memC_holds ax57 (memC_holds ax55 (memC_holds ax29 (memC_holds ax9 (noMemo_holds _)))))))) 400 _ _ _ (by kernel_rfl)
theorem ax134:Runs Yir 148 [.bool false, .sl 1 [.int .u32 2], .bool true, .sl 1 [.int .u32 1]] (.agg [.bool false, .sl 1 [.int .u32 1]]):=fF_holds Ypr_ok (noMemo_holds _) 400 _ _ _ (by kernel_rfl)
theorem ax135:Runs Yir 121 [.agg [.bool false, .sl 1 [.int .u32 2]], .agg [.bool true, .sl 1 [.int .u32 1]]] (.agg [.bool false, .sl 1 [.int .u32 1]]):=fF_holds Ypr_ok (memC_holds ax134 (noMemo_holds _)) 400 _ _ _ (by kernel_rfl)
theorem ax136:Runs Yir 78 [.sl 2 [.bool true, .sl 1 [.int .u32 1], .bool false, .sl 1 [.int .u32 2]], .agg [.bool false, .sl 1 [.int .u32 1], .int .i64 0]] (.int .i64 1):=fF_holds Ypr_ok (memC_holds ax135 (memC_holds ax128 (memC_holds ax123 (memC_holds ax110 (memC_holds ax52 (memC_holds ax9 (noMemo_holds _))))))) 400 _ _ _ (by kernel_rfl)
theorem ax137:Runs Yir 78 [.sl 1 [.bool false, .sl 1 [.int .u32 1]], .agg [.bool false, .sl 1 [.int .u32 1], .int .i64 0]] (.int .i64 1):=fF_holds Ypr_ok (memC_holds ax57 (memC_holds ax55 (memC_holds ax9 (noMemo_holds _)))) 400 _ _ _ (by kernel_rfl)
theorem ax138:Runs Yir 99 [.agg [.bool false, .sl 1 [.int .u32 1], .int .i64 0], .pt [.sl 3 [.sl 3 [.bool false, .sl 0 [], .bool true, .sl 1 [.int .u32 1], .bool false, .sl 1 [.int .u32 1]], .sl 2 [.bool true, .sl 1 [.int .u32 1], .bool false, .sl 1 [.int .u32 2]], .sl 1 [.bool false, .sl 1 [.int .u32 1]]]]] (.int .i64 0):=fF_holds Ypr_ok (memC_holds ax137 (memC_holds ax136 (memC_holds ax133 (noMemo_holds _)))) 400 _ _ _ (by kernel_rfl)
theorem ax139:Runs Yir 50 [.sl 3 [.bool false, .sl 0 [], .bool true, .sl 1 [.int .u32 1], .bool false, .sl 1 [.int .u32 1]], .agg [.bool false, .sl 0 [], .int .i64 0], .agg [.bool false, .sl 1 [.int .u32 1], .int .i64 0]] (.tup [.int .i64 1, .int .i64 0]):=fF_holds Ypr_ok (memC_holds ax138 (memC_holds ax131 (memC_holds ax122 (memC_holds ax121 (memC_holds ax118 (memC_holds ax108 (memC_holds ax86 (memC_holds ax83 (memC_holds ax80 (memC_holds ax77 (memC_holds ax55 (memC_holds ax46 (noMemo_holds _))))))))))))) 400 _ _ _ (by kernel_rfl)
theorem ax140:Runs Yir 61 [.sl 1 [.sl 2 [.bool false, .sl 0 [], .bool false, .sl 1 [.int .u32 1]]]] (.bool false):=fF_holds Ypr_ok (noMemo_holds _) 400 _ _ _ (by kernel_rfl)
theorem ax141:Runs Yir 61 [.sl 1 [.sl 1 [.bool false, .sl 1 [.int .u32 1]]]] (.bool false):=fF_holds Ypr_ok (noMemo_holds _) 400 _ _ _ (by kernel_rfl)
theorem ax142:Runs Yir 95 [.sl 3 [.bool true, .sl 1 [.int .u32 2], .bool false, .sl 0 [], .bool false, .sl 1 [.int .u32 1]]] (.tup [.sl 3 [.sl 3 [.bool true, .sl 1 [.int .u32 2], .bool false, .sl 0 [], .bool false, .sl 1 [.int .u32 1]], .sl 2 [.bool false, .sl 0 [], .bool false, .sl 1 [.int .u32 1]], .sl 1 [.bool false, .sl 1 [.int .u32 1]]], .int .i64 0]):=fF_holds Ypr_ok (memC_holds ax141 (memC_holds ax140 (memC_holds ax51 (memC_holds ax50 (memC_holds ax48 (memC_holds ax46 (memC_holds ax37 (memC_holds ax22 (memC_holds ax19 (memC_holds ax12 (memC_holds ax8 (memC_holds ax4 (noMemo_holds _))))))))))))) 400 _ _ _ (by kernel_rfl)
theorem ax143:Runs Yir 148 [.bool false, .sl 1 [.int .u32 1], .bool false, .sl 1 [.int .u32 2]] (.agg [.bool false, .sl 1 [.int .u32 3]]):=fF_holds Ypr_ok (noMemo_holds _) 400 _ _ _ (by kernel_rfl)
theorem ax144:Runs Yir 121 [.agg [.bool false, .sl 1 [.int .u32 1]], .agg [.bool false, .sl 1 [.int .u32 2]]] (.agg [.bool false, .sl 1 [.int .u32 3]]):=fF_holds Ypr_ok (memC_holds ax143 (noMemo_holds _)) 400 _ _ _ (by kernel_rfl)
theorem ax145:Runs Yir 151 [.agg [.bool false, .sl 1 [.int .u32 3]], .int .i64 0] (.agg [.bool false, .sl 1 [.int .u32 3]]):=fF_holds Ypr_ok (noMemo_holds _) 400 _ _ _ (by kernel_rfl)
theorem ax146:Runs Yir 142 [.agg [.bool false, .sl 1 [.int .u32 3]], .int .i64 1] (.agg [.bool false, .sl 1 [.int .u32 3], .int .i64 1]):=fF_holds Ypr_ok (memC_holds ax145 (noMemo_holds _)) 400 _ _ _ (by kernel_rfl)
theorem ax147:Runs Yir 59 [.agg [.bool false, .sl 1 [.int .u32 1], .int .i64 0], .agg [.bool false, .sl 1 [.int .u32 2], .int .i64 0]] (.tup [.agg [.bool false, .sl 1 [.int .u32 3], .int .i64 1], .int .i64 0]):=fF_holds Ypr_ok (memC_holds ax146 (memC_holds ax144 (memC_holds ax55 (memC_holds ax52 (noMemo_holds _))))) 400 _ _ _ (by kernel_rfl)
theorem ax148:Runs Yir 43 [.sl 1 [.bool false, .sl 1 [.int .u32 1]]] (.fresh 2 1 [.bool false, .sl 1 [.int .u32 1]]):=fF_holds Ypr_ok (noMemo_holds _) 400 _ _ _ (by kernel_rfl)
theorem ax149:Runs Yir 52 [.sl 1 [.int .i64 1]] (.fresh 2 1 [.bool false, .sl 1 [.int .u32 1]]):=fF_holds Ypr_ok (memC_holds ax148 (noMemo_holds _)) 400 _ _ _ (by kernel_rfl)
theorem ax150:Runs Yir 47 [] (.bool true):=fF_holds Ypr_ok (memC_holds ax149 (memC_holds ax147 (memC_holds ax142 (memC_holds ax139 (memC_holds ax76 (memC_holds ax3 (memC_holds ax1 (noMemo_holds _)))))))) 400 _ _ _ (by kernel_rfl)
theorem Yrun47:Runs Yir 47 [] (.bool true):=ax150
end Go.Proofs.Ythnnfemologhfaa

namespace Go.Proofs.Ythnnfemologhfaa
open Go.IntKind (i64 u64 u32)
open Go.Ai
set_option maxRecDepth 100000
def TQE:Table:=TQD
theorem TQE_holds:THolds Yir TQE:=TQD_holds
end Go.Proofs.Ythnnfemologhfaa

namespace Go.Proofs.Ythnnfemologhfaa
open Go.IntKind (i64 u64 u32)
open Go.Ai
set_option maxRecDepth 100000
def TRA:Table:=TQE
theorem TRA_holds:THolds Yir TRA:=TQE_holds
end Go.Proofs.Ythnnfemologhfaa

namespace Go.Ai
open Go.IntKind (i64 u64 u32)
theorem trim_psmul {k:Int} (hk:k ≠ 0) (xs:List Int):trimL (psmul k xs)=psmul k (trimL xs):=by
 have e:∀ n,topN (psmul k xs) n=topN xs n:=by
  intro n
  induction n with
  | zero=>rfl
  | succ n ih =>
   simp only [topN,ih,getD_psmul]
   by_cases h:xs.getD n 0=0
   ·rw [h,Int.mul_zero]
   ·rw [if_neg h,if_neg (Int.mul_ne_zero hk h)]
 simp only [trimL]
 rw [e,show (psmul k xs).length=xs.length by simp [psmul]]
 simp [psmul,List.map_take]
def Lead (xs:List Int):Prop:=trimL xs=xs
theorem lead_trim (xs:List Int):Lead (trimL xs):=trim_trim xs
theorem lead_top {xs:List Int} (h:Lead xs) (hn:xs ≠ []):xs.getD (xs.length-1) 0 ≠ 0:=by
 have e:=congrArg List.length h
 rw [trim_length] at e
 rcases topN_top xs xs.length with g | g
 ·rw [g] at e
  exact absurd (List.eq_nil_of_length_eq_zero e.symm) hn
 ·rw [e] at g;exact g
end Go.Ai

namespace Go.Ai
open Go.IntKind (i64 u64 u32)
def Kb (K:Nat) (r:List Int):Prop:=∀ i,Fits K (r.getD i 0)
theorem Kb.mono {J K:Nat} {r:List Int} (h:Kb J r) (hk:J≤K):Kb K r:=fun i=>(h i).mono hk
theorem Kb.mem {K:Nat} {r:List Int} (h:Kb K r):∀ x∈r,Fits K x:=fun x hx=>by
 obtain ⟨i,hi,rfl⟩:=List.mem_iff_getElem.1 hx
 have:=h i
 rwa [List.getD_eq_getElem?_getD,List.getElem?_eq_getElem hi] at this
def top (r:List Int):Int:=r.getD (r.length-1) 0
end Go.Ai

namespace Go.Ai
open Go.IntKind (i64 u64 u32)
def shiftP (k:Nat) (q:List Int):List Int:=List.replicate k 0++q
theorem getD_shiftP (k:Nat) (q:List Int) (i:Nat):(shiftP k q).getD i 0=if k≤i then q.getD (i-k) 0 else 0:=by
 simp only [shiftP,List.getD_eq_getElem?_getD,List.getElem?_append,List.length_replicate]
 split
 ·rename_i h
  rw [if_neg (by omega),List.getElem?_replicate_of_lt h];rfl
 ·rename_i h
  rw [if_pos (by omega)]
theorem getD_pmul_cons (a:Int) (p q:List Int) (i:Nat):(pmul (a::p) q).getD i 0=a*q.getD i 0+(shiftP 1 (pmul p q)).getD i 0:=by
 simp only [pmul]
 rw [getD_padd,getD_psmul];rfl
theorem pmul_top:∀ (p q:List Int),p ≠ []→q ≠ []→(pmul p q).getD (p.length+q.length-2) 0=top p*top q∧∀ i,p.length+q.length-1≤i→(pmul p q).getD i 0=0
 | [],q,h,_=>absurd rfl h
 | [a],q,_,hq=>by
  have hq1:=List.length_pos_iff.2 hq
  refine ⟨?_,fun i hi => ?_⟩
  ·rw [getD_pmul_cons,getD_shiftP,show [a].length+q.length-2=q.length-1 by simp;omega]
   simp [pmul,top]
  ·rw [getD_pmul_cons,getD_shiftP,getD_end (show q.length≤i by simp at hi;omega)]
   simp [pmul]
 | a::b::p,q,_,hq=>by
  have hq1:=List.length_pos_iff.2 hq
  obtain ⟨h1,h2⟩:=pmul_top (b::p) q (by simp) hq
  refine ⟨?_,fun i hi => ?_⟩
  ·rw [getD_pmul_cons,getD_shiftP,if_pos (by simp;omega)]
   simp only [List.length_cons] at *
   rw [getD_end (show q.length≤p.length+1+1+q.length-2 by omega),show p.length+1+1+q.length-2-1=p.length+1+q.length-2 by omega,h1]
   simp [top]
  ·rw [getD_pmul_cons,getD_shiftP]
   simp only [List.length_cons] at *
   rw [getD_end (show q.length≤i by omega)]
   split
   ·rw [h2 _ (by omega)];simp
   ·simp
theorem peval_zero_of_trim {p:List Int} (h:trimL p=[]) (x:Int):peval p x=0:=by rw [← peval_trim,h];rfl
theorem psmul_length (a:Int) (q:List Int):(psmul a q).length=q.length:=by simp [psmul]
end Go.Ai

namespace Go.Proofs.Ythnnfemologhfaa
open Go.IntKind (i64 u64 u32)
open Go.Ai
set_option maxRecDepth 100000
def TRB:Table:=TRA
theorem TRB_holds:THolds Yir TRB:=TRA_holds
end Go.Proofs.Ythnnfemologhfaa

namespace Go.Proofs.Ythnnfemologhfaa
open Go.IntKind (i64 u64 u32)
open Go.Ai
set_option maxRecDepth 100000
def TMA:Table:=TRB
theorem TMA_holds:THolds Yir TMA:=TRB_holds
end Go.Proofs.Ythnnfemologhfaa

namespace Go.Ai
open Go.IntKind (i64 u64 u32)
def Dv (g t:List Int):Prop:=∃ (c:Int) (k:List Int),c ≠ 0∧∀ x,c*peval t x=peval g x*peval k x
theorem Dv.refl (g:List Int):Dv g g:=⟨1,[1],by decide,fun x=>by simp [peval]⟩
theorem Dv.zero (g:List Int):Dv g []:=⟨1,[],by decide,fun x=>by simp [peval]⟩
theorem Dv.trans {a b c:List Int} (h1:Dv a b) (h2:Dv b c):Dv a c:=by
 obtain ⟨m,k,hm,h⟩:=h1
 obtain ⟨n,l,hn,g⟩:=h2
 refine ⟨m*n,pmul k l,Int.mul_ne_zero hm hn,fun x => ?_⟩
 have h':=h x;have g':=g x
 rw [peval_pmul,Int.mul_assoc,g']
 rw [← Int.mul_assoc,h']
 grind
theorem Dv.comb {g s t r:List Int} {m:Int} (u v:List Int) (hm:m ≠ 0) (h1:Dv g s) (h2:Dv g t) (h:∀ x,m*peval r x=peval u x*peval s x+peval v x*peval t x):Dv g r:=by
 obtain ⟨c,k,hc,hk⟩:=h1
 obtain ⟨d,l,hd,hl⟩:=h2
 refine ⟨c*d*m,padd (psmul d (pmul u k)) (psmul c (pmul v l)),Int.mul_ne_zero (Int.mul_ne_zero hc hd) hm,fun x => ?_⟩
 rw [peval_padd,peval_psmul,peval_psmul,peval_pmul,peval_pmul]
 have a:=hk x;have b:=hl x;have e:=h x
 rw [Int.mul_assoc,e]
 generalize peval s x=s at *
 generalize peval t x=t at *
 generalize peval g x=g at *
 generalize peval k x=k at *
 generalize peval l x=l at *
 generalize peval u x=u at *
 generalize peval v x=v at *
 have e1:c*d*(u*s+v*t)=d*u*(c*s)+c*v*(d*t):=by grind
 rw [e1,a,b];grind
theorem Dv.left {g f t:List Int} {m n:Int} (_:m ≠ 0) (hn:n ≠ 0) (h1:Dv g t) (h:∀ x,m*peval f x=n*peval g x):Dv f t:=by
 obtain ⟨c,k,hc,hk⟩:=h1
 refine ⟨n*c,psmul m k,Int.mul_ne_zero hn hc,fun x => ?_⟩
 have a:=hk x;have b:=h x
 rw [peval_psmul]
 have e1:n*c*peval t x=n*(c*peval t x):=by grind
 rw [e1,a]
 have e2:n*(peval g x*peval k x)=(n*peval g x)*peval k x:=by grind
 rw [e2,← b];grind
theorem pmul_ne {p q:List Int} (hp:trimL p ≠ []) (hq:trimL q ≠ []):(trimL (pmul p q)).length=(trimL p).length+(trimL q).length-1:=by
 have e:trimL (pmul p q)=trimL (pmul (trimL p) (trimL q)):=peval_inj fun x=>by rw [peval_pmul,peval_pmul,peval_trim,peval_trim]
 rw [e]
 have lp:=lead_trim p
 have lq:=lead_trim q
 generalize trimL p=P at *
 generalize trimL q=Q at *
 have h1:=List.length_pos_iff.2 hp
 have h2:=List.length_pos_iff.2 hq
 obtain ⟨t1,t2⟩:=pmul_top P Q hp hq
 have t3:(pmul P Q).getD (P.length+Q.length-2) 0 ≠ 0:=by rw [t1];exact Int.mul_ne_zero (lead_top lp hp) (lead_top lq hq)
 rw [pmul_trim]
 have a1:¬ (pmul P Q).length≤P.length+Q.length-2:=fun h=>t3 (getD_end h)
 have a2:¬ P.length+Q.length-1<(pmul P Q).length:=fun h=>by
  have hne:pmul P Q ≠ []:=by intro h0;rw [h0] at h;simp at h
  exact lead_top (show Lead (pmul P Q) from pmul_trim P Q) hne (t2 _ (by omega))
 omega
theorem Dv.length {g t:List Int} (h:Dv g t) (ht:trimL t ≠ []):(trimL g).length≤(trimL t).length∧trimL g ≠ []:=by
 obtain ⟨c,k,hc,hk⟩:=h
 have e:trimL (psmul c t)=trimL (pmul g k):=peval_inj fun x=>by rw [peval_psmul,peval_pmul];exact hk x
 rw [trim_psmul hc] at e
 have e2:=congrArg List.length e
 rw [psmul_length] at e2
 have ht1:=List.length_pos_iff.2 ht
 by_cases hg:trimL g=[]
 ·have:trimL (pmul g k)=trimL []:=peval_inj fun x=>by rw [peval_pmul,peval_zero_of_trim hg];simp [peval]
  have h0:(trimL []).length=0:=rfl
  rw [this,h0] at e2
  omega
 ·by_cases hk0:trimL k=[]
  ·have:trimL (pmul g k)=trimL []:=peval_inj fun x=>by rw [peval_pmul,peval_zero_of_trim hk0];simp [peval]
   have h0:(trimL []).length=0:=rfl
   rw [this,h0] at e2
   omega
  ·rw [pmul_ne hg hk0] at e2
   have:=List.length_pos_iff.2 hk0
   exact ⟨by omega,hg⟩
def IsG (g s t:List Int):Prop:=Dv g s∧Dv g t∧∃ (c:Int) (u v:List Int),c ≠ 0∧∀ x,c*peval g x=peval u x*peval s x+peval v x*peval t x
theorem IsG.dv {g s t f:List Int} (h:IsG g s t) (h1:Dv f s) (h2:Dv f t):Dv f g:=by
 obtain ⟨_,_,c,u,v,hc,h⟩:=h
 exact Dv.comb u v hc h1 h2 h
theorem IsG.length {f g s t:List Int} (h1:IsG f s t) (h2:IsG g s t) (hf:trimL f ≠ []):(trimL f).length=(trimL g).length:=by
 have a:=(h1.dv h2.1 h2.2.1).length hf
 have b:=(h2.dv h1.1 h1.2.1).length a.2
 omega
theorem IsG.step {g r d e q:List Int} {a m:Int} (ha:a ≠ 0) (hm:m ≠ 0) (hr:∀ x,a*peval r x=peval q x*peval d x+m*peval e x) (h:IsG g d e):IsG g r d:=by
 obtain ⟨h1,h2,c,u,v,hc,h⟩:=h
 refine ⟨Dv.comb q [m] ha h1 h2 (fun x=>by rw [hr x];simp [peval]),h1,c*m,psmul a v,psub (psmul m u) (pmul v q),Int.mul_ne_zero hc hm,fun x => ?_⟩
 have e1:=hr x;have e2:=h x
 rw [peval_psmul,peval_psub,peval_psmul,peval_pmul]
 generalize peval g x=g at *
 generalize peval d x=d at *
 generalize peval e x=e at *
 generalize peval r x=r at *
 generalize peval q x=q at *
 generalize peval u x=u at *
 generalize peval v x=v at *
 have e3:c*m*g=m*(c*g):=by grind
 rw [e3,e2]
 have e4:a*v*r=v*(a*r):=by grind
 rw [e4,e1];grind
theorem IsG.mul {d p q:List Int} (c:List Int) {d' p' q':List Int} (hd:∀ x,peval d' x=peval c x*peval d x) (hp:∀ x,peval p' x=peval c x*peval p x) (hq:∀ x,peval q' x=peval c x*peval q x) (h:IsG d p q):IsG d' p' q':=by
 obtain ⟨⟨m,k,hm,hk⟩,⟨n,l,hn,hl⟩,e,u,v,he,h⟩:=h
 refine ⟨⟨m,k,hm,fun x => ?_⟩,⟨n,l,hn,fun x => ?_⟩,e,u,v,he,fun x => ?_⟩
 ·have:=hk x;rw [hd,hp];grind
 ·have:=hl x;rw [hd,hq];grind
 ·have:=h x;rw [hd,hp,hq];grind
end Go.Ai

namespace Go.Proofs.Ythnnfemologhfaa
open Go.IntKind (i64 u64 u32)
open Go.Ai
set_option maxRecDepth 100000
section
variable {p d:List Int} {J Kd:Nat}
end
def TMB:Table:=TMA
theorem TMB_holds:THolds Yir TMB:=TMA_holds
end Go.Proofs.Ythnnfemologhfaa

namespace Go.Proofs.Ythnnfemologhfaa
open Go.IntKind (i64 u64 u32)
open Go.Ai
set_option maxRecDepth 100000
section
variable {p q:List Int} {J Kq:Nat}
end
def TMC:Table:=TMB
theorem TMC_holds:THolds Yir TMC:=TMB_holds
end Go.Proofs.Ythnnfemologhfaa

namespace Go.Proofs.Ythnnfemologhfaa
open Go.IntKind (i64 u64 u32)
open Go.Ai
set_option maxRecDepth 100000
def TPW:Table:=TMC
theorem TPW_holds:THolds Yir TPW:=TMC_holds
end Go.Proofs.Ythnnfemologhfaa

namespace Go.Proofs.Ythnnfemologhfaa
open Go.IntKind (i64 u64 u32)
open Go.Ai
set_option maxRecDepth 100000
def Ys41 (o:Bool) (r:Rn) (i:Int):State:=(dds 2 (.box [.bool r.1, .sl r.2.length (lm r.2)]::(.box [.bool r.1, .sl r.2.length (lm r.2)]::(.val (.bool o)::(.val (.int .i64 i)::(dds 32 []))))))
theorem Yk41_2 (o:Bool) (r:Rn) (i:Int)  (c1:(decide (i<(r.2.length:Int)))=true) (c2:((r.2.getD (Int.toNat i) 0) != (r.2.getD (Int.toNat i) 0))=false) (n1:0≤i∧i<(r.2.length:Int)):RunsW Yir Yc41 (Ys41 o r i) .norm (Ys41 o r (i64.wrap (i+1))):=(RunsW.go TPW_holds 400 [.b true, .v (.int .u32 (r.2.getD (Int.toNat i) 0)), .v (.int .u32 (r.2.getD (Int.toNat i) 0)), .b false] [2,3,4,5] (ac c1 (ac n1 (ac (take_limI n1) (ac n1 (ac (take_limI n1) (ac c2 a0)))))) (by kernel_rfl))
theorem Yk41_3 (o:Bool) (r:Rn) (i:Int)  (c1:(decide (i<(r.2.length:Int)))=false):RunsW Yir Yc41 (Ys41 o r i) (.exit 0) (Ys41 o r i):=(RunsW.go TPW_holds 400 [.b false] [2,3,4,5] (ac c1 a0) (by kernel_rfl))
theorem Yrun41_2 (r:Rn) (i:Int) (c1:(r.1==r.1)=true) (c2:((r.2.length:Int) != (r.2.length:Int))=false) (hl1:RunsW Yir (.loop Yc41) (Ys41 false r 0) (.exit 0) (Ys41 false r i)):Runs Yir 41 [rawAV r,rawAV r] (.bool true):=Runs.of_bodyW (fn:=Yi41) (s:=(dds 4 (.val (.bool true)::(dds 33 [])))) (ex := .ret) rfl rfl (RunsW.seq (RunsW.go (t:=(.val (rawAV r)::(.val (rawAV r)::(bR r::(bR r::(.val (.bool false)::(dds 33 []))))))) (ex := .norm) TPW_holds 400 [] [0,1,2,3,4] a0 (by kernel_rfl)) (RunsW.seq (RunsW.go (t:=(.val (rawAV r)::(.val (rawAV r)::(bR r::(bR r::(.val (.bool false)::(dds 33 []))))))) (ex := .norm) TPW_holds 400 [.b false, .b false] [0,1,2,3,4] (ac (show (!(r.1==r.1))=false from (by rw [c1];rfl)) (ac c2 a0)) (by kernel_rfl)) (RunsW.seq (RunsW.seq (RunsW.go TPW_holds 400 [] [2,3,4,5] a0 (by kernel_rfl)) (RunsW.block hl1)) (RunsW.go TPW_holds 400 [] [4] a0 (by kernel_rfl))))) (by intro i e;cases e) rfl
def Yc5:ICode := .seq (.seq (.region false [oM 61 11,oM 62 1,oB 63 .lss 61 62]) (.cond (.t 63) (.skip) (.exit 0))) (.seq (.block 1 (.seq (.region false [oM 67 9,oM 68 7,o1 69 (.un .neg (.t 68)),o1 70 (.bls 2 [.int .i64 0, .int .i64 0] [(0,1, .t 69),(1,1, .c (.int .i64 1))]),oC 71 26 [70],oC 72 24 [67,71],oM 66 72,o1 73 (.ext (.t 66) 0),o1 74 (.ext (.t 66) 1),oM 9 73]) (.region false [oM 76 9,oM 77 8,o1 78 (.un .neg (.t 77)),o1 79 (.bls 2 [.int .i64 0, .int .i64 0] [(0,1, .t 78),(1,1, .c (.int .i64 2))]),oC 80 26 [79],oC 81 24 [76,80],oM 75 81,o1 82 (.ext (.t 75) 0),o1 83 (.ext (.t 75) 1),oM 9 82]))) (.region false [oM 64 11,o1 65 (.bin .add (.t 64) (.c (.int .i64 1))),oM 11 65]))
theorem same1_run (r:Rn) (hN:r.2.length≤1048576):Runs Yir 41 [.agg [.bool r.1, .sl r.2.length (lm r.2)], .agg [.bool r.1, .sl r.2.length (lm r.2)]] (.bool true):=by
 refine Yrun41_2 r (r.2.length:Nat) (by simp) (by simp) ?_
 exact RunsW.upTo (prog:=Yir) (c:=Yc41) (ex := .exit 0) (fun t=>Ys41 false r (t:Nat)) r.2.length (by intro e;cases e) (Yk41_3 false r _ (by simp)) 0 (Nat.zero_le _) (fun t _ h=>by
  have ei:i64.wrap ((t:Int)+1)=((t+1:Nat):Int):=by rw [w64 (by omega) (by omega)];omega
  have k:=Yk41_2 false r (t:Nat) (by simp;omega) (by simp) (by omega)
  rwa [ei] at k)
end Go.Proofs.Ythnnfemologhfaa

namespace Go.Proofs.Ythnnfemologhfaa
open Go.IntKind (i64 u64 u32)
open Go.Ai
set_option maxRecDepth 100000
theorem fits_pow2 {n k:Nat} (h:n<32*k):Fits k ((2:Int)^n):=by
 unfold Fits
 rw [Int.natAbs_pow]
 show 2^n<4294967296^k
 rw [show (4294967296:Nat)=2^32 by decide,← Nat.pow_mul]
 exact Nat.pow_lt_pow_right (by decide) h
theorem fits_exact {K:Nat} {N:Int} {z:Nat} (hd:(2:Int)^z∣N) (h:Fits K N):Fits K (N / 2^z):=by
 obtain ⟨q,hq⟩:=hd
 have hp:=pow2_pos z
 have e:N / 2^z=q:=by
  conv=>lhs;rw [hq]
  exact Int.mul_ediv_cancel_left _ (by omega)
 rw [e]
 unfold Fits at *
 rw [hq,Int.natAbs_mul] at h
 have:1*q.natAbs≤((2:Int)^z).natAbs*q.natAbs:=Nat.mul_le_mul_right _ (by omega)
 omega
theorem max_sub1 {a b:Nat} (ha:a≤4096) (hb:b≤4096):i64.wrap ((if (b:Int)>(a:Int) then (b:Int) else (a:Int))-(a:Int))=((max a b-a:Nat):Int):=by
 split <;> rw [w64 (by omega) (by omega)] <;> omega
theorem max_sub2 {a b:Nat} (ha:a≤4096) (hb:b≤4096):i64.wrap ((if (b:Int)>(a:Int) then (b:Int) else (a:Int))-(b:Int))=((max a b-b:Nat):Int):=by
 split <;> rw [w64 (by omega) (by omega)] <;> omega
theorem max_add {a b:Nat} (ha:a≤4096) (hb:b≤4096):i64.wrap ((if (b:Int)>(a:Int) then (b:Int) else (a:Int))+1)=((max a b+1:Nat):Int):=by
 split <;> rw [w64 (by omega) (by omega)] <;> omega
theorem cmpI_scale {a b c:Int} (hc:0<c):cmpI (a*c) (b*c)=cmpI a b:=by
 unfold cmpI
 have h1:a*c<b*c↔a<b:=Int.mul_lt_mul_right hc
 have h2:b*c<a*c↔b<a:=Int.mul_lt_mul_right hc
 simp only [h1,h2]
theorem cmp_max (X Y:Int) (a b:Nat):cmpI (X*2^(max a b-a)) (Y*2^(max a b-b))=cmpI (X*2^b) (Y*2^a):=by
 have h:=cmpI_scale (a:=X*2^(max a b-a)) (b:=Y*2^(max a b-b)) (pow2_pos (min a b))
 rw [← h,Int.mul_assoc,Int.mul_assoc,← Int.pow_add,← Int.pow_add,show max a b-a+min a b=b by omega,show max a b-b+min a b=a by omega]
def dyR (r:Rn) (e:Int):AV := .agg [.bool r.1, .sl r.2.length (lm r.2), .int .i64 e]
def vE (e:Int):Bool:=decide (e≥0)&&decide (e≤4096)
theorem valid_run {r:Rn} {e:Int} (hg:Good 200 r):Runs Yir 97 [dyR r e] (.bool (vE e)):=by
 unfold vE
 by_cases h1:e≥0
 ·by_cases h2:e≤4096
  ·have hs:=wsize_run (neg:=r.1) hg.1 (by have:=hg.2;omega)
   have hl:=rv_len (neg:=r.1) hg.1
   have h2':=hg.2
   have k:=Yrun97_1 r e _ (decide_eq_true h1) (decide_eq_true h2) hs
   rw [decide_eq_true (show (((limbs (rv r.1 r.2).natAbs).length:Nat):Int)≤256 by omega)] at k
   rw [decide_eq_true h1,decide_eq_true h2]
   exact k
  ·rw [decide_eq_true h1,decide_eq_false h2]
   exact Yrun97_2 r e (decide_eq_true h1) (decide_eq_false h2)
 ·rw [decide_eq_false h1,Bool.false_and]
  exact Yrun97_3 r e (decide_eq_false h1)
theorem rvalid_run {r:Rn} {e:Int} (hg:Good 200 r):Runs Yir 101 [dyR r e] (.bool (vE e)):=by
 unfold vE
 by_cases h1:e≥0
 ·by_cases h2:e≤4096
  ·have h2':=hg.2
   have hs:=rlarge_run (neg:=r.1) (xs:=r.2) (by omega)
   have ht:=trim_len r.2
   rw [decide_eq_false (show ¬ 256<(trimL r.2).length by omega)] at hs
   rw [decide_eq_true h1,decide_eq_true h2]
   exact Yrun101_1 r e false (decide_eq_true h1) (decide_eq_true h2) hs
  ·rw [decide_eq_true h1,decide_eq_false h2]
   exact Yrun101_2 r e (decide_eq_true h1) (decide_eq_false h2)
 ·rw [decide_eq_false h1,Bool.false_and]
  exact Yrun101_3 r e (decide_eq_false h1)
theorem vE_nat {e:Int} (h:vE e=true):∃ a:Nat,e=(a:Nat)∧a≤4096:=by
 unfold vE at h
 rw [Bool.and_eq_true,decide_eq_true_eq,decide_eq_true_eq] at h
 exact ⟨e.toNat,by omega,by omega⟩
theorem shl_raw {r:Rn} (hr:Good 8 r) {n:Nat} (hn:n≤4096):Runs Yir 124 [rawAV r, .int .i64 (n:Nat)] (bigAV (rval r*2^n))∧Runs Yir 126 [rawAV r, .int .i64 (n:Nat)] (bigF (rval r*2^n))∧Fits 137 (rval r*2^n):=by
 have h2:=hr.2
 exact ⟨wshl_run hr.1 n (by omega) (by omega),rup_run hr.1 n (by omega),(hr.fits.mul (fits_pow2 (k:=129) (by omega))).mono (by omega)⟩
section
variable {r t:Rn} (hr:Good 8 r) (ht:Good 8 t)
include hr ht
theorem dcmp_both (e f:Int):∃ c h:Int,Runs Yir 57 [dyR r e,dyR t f] (.tup [.int .i64 c, .int .i64 h])∧Runs Yir 58 [dyR r e,dyR t f] (.tup [.int .i64 c, .int .i64 h]):=by
 have v1:=valid_run (e:=e) (hr.mono (show 8≤200 by omega))
 have v2:=valid_run (e:=f) (ht.mono (show 8≤200 by omega))
 have w1:=rvalid_run (e:=e) (hr.mono (show 8≤200 by omega))
 have w2:=rvalid_run (e:=f) (ht.mono (show 8≤200 by omega))
 cases c1:vE e with
 | false =>
  rw [c1] at v1 w1
  exact ⟨0,1,Yrun57_3 r t e f false rfl v1,Yrun58_3 r t e f false rfl w1⟩
 | true =>
  cases c2:vE f with
  | false =>
   rw [c1] at v1 w1
   rw [c2] at v2 w2
   exact ⟨0,1,Yrun57_2 r t e f true false rfl rfl v1 v2,Yrun58_2 r t e f true false rfl rfl w1 w2⟩
  | true =>
   obtain ⟨a,rfl,ha⟩:=vE_nat c1
   obtain ⟨b,rfl,hb⟩:=vE_nat c2
   rw [c1] at v1 w1
   rw [c2] at v2 w2
   obtain ⟨x1,_,x3⟩:=shl_raw hr (n:=max a b-a) (by omega)
   obtain ⟨y1,_,y3⟩:=shl_raw ht (n:=max a b-b) (by omega)
   obtain ⟨_,x2,x4⟩:=shl_raw hr (n:=b) hb
   obtain ⟨_,y2,y4⟩:=shl_raw ht (n:=a) ha
   have g1:=good_cn x3
   have g2:=good_cn y3
   have g3:=good_cn x4
   have g4:=good_cn y4
   have p:=wcmp_run (na:=(cn (rval r*2^(max a b-a))).1) (nb:=(cn (rval t*2^(max a b-b))).1) g1.1 g2.1 (by have:=g1.2;omega) (by have:=g2.2;omega)
   have q:=rcmp_run (na:=(cn (rval r*2^b)).1) (nb:=(cn (rval t*2^a)).1) g3.1 g4.1 (by have:=g3.2;omega) (by have:=g4.2;omega)
   rw [show ∀ n,rv (cn n).1 (cn n).2=n from rval_cn,show ∀ n,rv (cn n).1 (cn n).2=n from rval_cn,cmp_max] at p
   rw [show ∀ n,rv (cn n).1 (cn n).2=n from rval_cn,show ∀ n,rv (cn n).1 (cn n).2=n from rval_cn] at q
   have k1:=Yrun98 r t (a:Nat) (b:Nat) _ _ _ (by rw [max_sub1 ha hb];exact x1) (by rw [max_sub2 ha hb];exact y1) p
   have k2:=Yrun102 r t (a:Nat) (b:Nat) _ _ _ x2 y2 q
   exact ⟨_,0,Yrun57_1 r t _ _ _ true true rfl rfl v1 v2 k1,Yrun58_1 r t _ _ _ true true rfl rfl w1 w2 k2⟩
theorem dmid_both (e f:Int):∃ n m g:Int,Fits 138 n∧Runs Yir 59 [dyR r e,dyR t f] (.tup [dyA n m, .int .i64 g])∧Runs Yir 60 [dyR r e,dyR t f] (.tup [dyA n m, .int .i64 g]):=by
 have v1:=valid_run (e:=e) (hr.mono (show 8≤200 by omega))
 have v2:=valid_run (e:=f) (ht.mono (show 8≤200 by omega))
 have w1:=rvalid_run (e:=e) (hr.mono (show 8≤200 by omega))
 have w2:=rvalid_run (e:=f) (ht.mono (show 8≤200 by omega))
 cases c1:vE e with
 | false =>
  rw [c1] at v1 w1
  exact ⟨0,0,1,fits_zero _,Yrun59_4 r t e f false rfl v1,Yrun60_4 r t e f false rfl w1⟩
 | true =>
  cases c2:vE f with
  | false =>
   rw [c1] at v1 w1
   rw [c2] at v2 w2
   exact ⟨0,0,1,fits_zero _,Yrun59_3 r t e f true false rfl rfl v1 v2,Yrun60_3 r t e f true false rfl rfl w1 w2⟩
  | true =>
   obtain ⟨a,rfl,ha⟩:=vE_nat c1
   obtain ⟨b,rfl,hb⟩:=vE_nat c2
   rw [c1] at v1 w1
   rw [c2] at v2 w2
   obtain ⟨x1,x2,x3⟩:=shl_raw hr (n:=max a b-a) (by omega)
   obtain ⟨y1,y2,y3⟩:=shl_raw ht (n:=max a b-b) (by omega)
   have hX:=x3.len
   have hY:=y3.len
   have p:=wadd_big (a:=rval r*2^(max a b-a)) (b:=rval t*2^(max a b-b)) (by omega) (by omega)
   have q:=rplus_run (na:=(cn (rval r*2^(max a b-a))).1) (nb:=(cn (rval t*2^(max a b-b))).1) (good_cn x3).1 (good_cn y3).1 (by have:=(good_cn x3).2;omega) (by have:=(good_cn y3).2;omega)
   rw [show ∀ n,rv (cn n).1 (cn n).2=n from rval_cn,show ∀ n,rv (cn n).1 (cn n).2=n from rval_cn] at q
   have hZ:Fits 138 (rval r*2^(max a b-a)+rval t*2^(max a b-b)):=x3.add y3
   have hZl:=hZ.len
   have k1:=reduced_run (N:=rval r*2^(max a b-a)+rval t*2^(max a b-b)) (e:=max a b+1) (by omega) (by omega)
   have k2:=reduce_run (N:=rval r*2^(max a b-a)+rval t*2^(max a b-b)) (e:=max a b+1) (by omega) (by omega)
   have hf:Fits 138 ((rval r*2^(max a b-a)+rval t*2^(max a b-b)) / 2^redZ (rval r*2^(max a b-a)+rval t*2^(max a b-b)) (max a b+1)):=fits_exact (redZ_dvd _ _) hZ
   have m1:=Yrun107 r t (a:Nat) (b:Nat) _ _ _ _ _ (by rw [max_sub1 ha hb];exact x1) (by rw [max_sub2 ha hb];exact y1) p (by rw [max_add ha hb];exact k1)
   have m2:=Yrun108 r t (a:Nat) (b:Nat) _ _ _ _ _ (by rw [max_sub1 ha hb];exact x2) (by rw [max_sub2 ha hb];exact y2) q (by rw [max_add ha hb];exact k2)
   generalize (rval r*2^(max a b-a)+rval t*2^(max a b-b)) / 2^redZ (rval r*2^(max a b-a)+rval t*2^(max a b-b)) (max a b+1)=N' at *
   generalize ((max a b+1-redZ (rval r*2^(max a b-a)+rval t*2^(max a b-b)) (max a b+1):Nat):Int)=m at *
   have gN:Good 200 (cn N'):=(good_cn hf).mono (by omega)
   have v3:=valid_run (e:=m) gN
   have w3:=rvalid_run (e:=m) gN
   cases c3:vE m with
   | true =>
    rw [c3] at v3 w3
    exact ⟨N',m,0,hf,Yrun59_1 r t _ _ N' m true true true rfl rfl rfl v1 v2 m1 v3,Yrun60_1 r t _ _ N' m true true true rfl rfl rfl w1 w2 m2 w3⟩
   | false =>
    rw [c3] at v3 w3
    exact ⟨0,0,2,fits_zero _,Yrun59_2 r t _ _ N' m true true false rfl rfl rfl v1 v2 m1 v3,Yrun60_2 r t _ _ N' m true true false rfl rfl rfl w1 w2 m2 w3⟩
end
theorem dya_run {r t:Rn} (e f:Int) (hr:U32 r.2) (ht:U32 t.2):Runs Yir 12 [.agg [.bool r.1, .sl r.2.length (lm r.2), .int .i64 e], .agg [.bool t.1, .sl t.2.length (lm t.2), .int .i64 f]] (.bool true):=by
 have haw:=Yrun47
 have s1:=Yrun49 r e
 have s2:=Yrun49 t f
 by_cases c1:(r.2.length:Int)≤8
 ·rw [decide_eq_true c1] at s1
  by_cases c2:(t.2.length:Int)≤8
  ·rw [decide_eq_true c2] at s2
   have gr:Good 8 r:=⟨hr,by omega⟩
   have gt:Good 8 t:=⟨ht,by omega⟩
   obtain ⟨c,h,x1,x2⟩:=dcmp_both gr gt e f
   obtain ⟨n,m,g,hf,y1,y2⟩:=dmid_both gr gt e f
   have hs:=same1_run (cn n) (by have:=(good_cn hf).2;omega)
   exact Yrun12_1 r t e f c h n m g true true (beq_self_eq_true _) (beq_self_eq_true _) (beq_self_eq_true _) (beq_self_eq_true _) rfl rfl haw s1 s2 x1 x2 y1 y2 hs
  ·rw [decide_eq_false c2] at s2
   exact Yrun12_2 r t e f true false rfl rfl haw s1 s2
 ·rw [decide_eq_false c1] at s1
  exact Yrun12_3 r t e f false rfl haw s1
end Go.Proofs.Ythnnfemologhfaa
