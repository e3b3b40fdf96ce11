/- Texts of the proof of RootSquares, packed by pack.py: part 16 of 18. -/
import Derived.KernelRfl
import Derived.Test.YthdpfjffdipipaaRsq15
namespace Go.Proofs.Ythdpfjffdipipaa
open Go.IntKind (i64 u64 u32)
open Go.Ai
set_option maxRecDepth 100000
theorem aw30:Zc Yir 38 [.sl 5 [.bool true,.sl 1 [.int .u32 4],.bool false,.sl 0 [],.bool false,.sl 0 [],.bool false,.sl 0 [],.bool false,.sl 1 [.int .u32 1]],.agg [.bool false,.sl 1 [.int .u32 5],.int .i64 0]] (.int .i64 1):=Zz Qk (Zl _) 400 _ _ _ (by kernel_rfl)
theorem aw31:Zc Yir 38 [.sl 4 [.bool false,.sl 0 [],.bool false,.sl 0 [],.bool false,.sl 0 [],.bool false,.sl 1 [.int .u32 1]],.agg [.bool false,.sl 1 [.int .u32 5],.int .i64 0]] (.int .i64 1):=Zz Qk (Zl _) 400 _ _ _ (by kernel_rfl)
theorem aw32:Zc Yir 62 [.sl 5 [.bool true,.sl 1 [.int .u32 4],.bool false,.sl 0 [],.bool false,.sl 0 [],.bool false,.sl 0 [],.bool false,.sl 1 [.int .u32 1]],.agg [.bool false,.sl 0 [],.int .i64 0],.agg [.bool false,.sl 1 [.int .u32 5],.int .i64 0],.int .i64 896] (.tup [.sl 1 [.sl 5 [.bool true,.sl 1 [.int .u32 4],.bool false,.sl 0 [],.bool false,.sl 0 [],.bool false,.sl 0 [],.bool false,.sl 1 [.int .u32 1]],.bool false,.sl 0 [],.int .i64 0,.bool false,.sl 1 [.int .u32 5],.int .i64 0],.bool true]):=Zz Qk (Zh aw31 (Zh aw30 (Zh aw29 (Zh aw27 (Zh aw26 (Zh aw24 (Zh aw23 (Zl _)))))))) 400 _ _ _ (by kernel_rfl)
theorem aw33:Zc Yir 22 [.sl 5 [.bool true,.sl 1 [.int .u32 4],.bool false,.sl 0 [],.bool false,.sl 0 [],.bool false,.sl 0 [],.bool false,.sl 1 [.int .u32 1]],.agg [.bool false,.sl 0 [],.int .i64 0],.agg [.bool false,.sl 1 [.int .u32 5],.int .i64 0]] (.tup [.sl 1 [.sl 5 [.bool true,.sl 1 [.int .u32 4],.bool false,.sl 0 [],.bool false,.sl 0 [],.bool false,.sl 0 [],.bool false,.sl 1 [.int .u32 1]],.bool false,.sl 0 [],.int .i64 0,.bool false,.sl 1 [.int .u32 5],.int .i64 0],.int .i64 0]):=Zz Qk (Zh aw32 (Zl _)) 400 _ _ _ (by kernel_rfl)
theorem aw34:Zc Yir 94 [.agg [.sl 3 [.bool true,.sl 1 [.int .u32 2],.bool false,.sl 0 [],.bool false,.sl 1 [.int .u32 1]],.bool false,.sl 0 [],.int .i64 0,.bool false,.sl 1 [.int .u32 2],.int .i64 0],.agg [.bool false,.sl 1 [.int .u32 1],.int .i64 0]] (.int .i64 1):=Zz Qk (Zl _) 400 _ _ _ (by kernel_rfl)
theorem aw35:Zc Yir 94 [.agg [.sl 3 [.bool true,.sl 1 [.int .u32 2],.bool false,.sl 0 [],.bool false,.sl 1 [.int .u32 1]],.bool false,.sl 1 [.int .u32 1],.int .i64 0,.bool false,.sl 1 [.int .u32 2],.int .i64 0],.agg [.bool false,.sl 1 [.int .u32 3],.int .i64 1]] (.int .i64 (-1)):=Zz Qk (Zl _) 400 _ _ _ (by kernel_rfl)
theorem aw36:Zc Yir 94 [.agg [.sl 3 [.bool true,.sl 1 [.int .u32 2],.bool false,.sl 0 [],.bool false,.sl 1 [.int .u32 1]],.bool false,.sl 1 [.int .u32 1],.int .i64 0,.bool false,.sl 1 [.int .u32 3],.int .i64 1],.agg [.bool false,.sl 1 [.int .u32 3],.int .i64 1]] (.int .i64 (-1)):=Zz Qk (Zl _) 400 _ _ _ (by kernel_rfl)
end Go.Proofs.Ythdpfjffdipipaa

namespace Go.Proofs.Ythdpfjffdipipaa
open Go.IntKind (i64 u64 u32)
open Go.Ai
set_option maxRecDepth 100000
theorem aw37:Zc Yir 67 [.agg [.sl 3 [.bool true,.sl 1 [.int .u32 2],.bool false,.sl 0 [],.bool false,.sl 1 [.int .u32 1]],.bool false,.sl 0 [],.int .i64 0,.bool false,.sl 1 [.int .u32 2],.int .i64 0],.int .i64 1] (.agg [.bool false,.sl 1 [.int .u32 2]]):=Zz Qk (Zh aw36 (Zh aw35 (Zh aw34 (Zl _)))) 400 _ _ _ (by kernel_rfl)
theorem aw38:Zc Yir 59 [.agg [.sl 5 [.bool true,.sl 1 [.int .u32 4],.bool false,.sl 0 [],.bool false,.sl 0 [],.bool false,.sl 0 [],.bool false,.sl 1 [.int .u32 1]],.bool false,.sl 0 [],.int .i64 0,.bool false,.sl 1 [.int .u32 5],.int .i64 0]] (.bool true):=Zz Qk (Zh aw31 (Zh aw30 (Zh aw29 (Zh aw27 (Zh aw26 (Zh aw24 (Zh aw23 (Zl _)))))))) 400 _ _ _ (by kernel_rfl)
theorem aw39:Zc Yir 69 [.sl 3 [.bool true,.sl 1 [.int .u32 2],.bool false,.sl 0 [],.bool false,.sl 1 [.int .u32 1]],.sl 5 [.bool true,.sl 1 [.int .u32 4],.bool false,.sl 0 [],.bool false,.sl 0 [],.bool false,.sl 0 [],.bool false,.sl 1 [.int .u32 1]]] (.fresh 2 3 [.bool true,.sl 1 [.int .u32 2],.bool false,.sl 0 [],.bool false,.sl 1 [.int .u32 1]]):=Zz Qk (Zl _) 400 _ _ _ (by kernel_rfl)
theorem aw40:Zc Yir 73 [.sl 5 [.bool true,.sl 1 [.int .u32 4],.bool false,.sl 0 [],.bool false,.sl 1 [.int .u32 2],.bool false,.sl 0 [],.bool false,.sl 0 []]] (.fresh 2 3 [.bool true,.sl 1 [.int .u32 2],.bool false,.sl 0 [],.bool false,.sl 1 [.int .u32 1]]):=Zz Qk (Zl _) 400 _ _ _ (by kernel_rfl)
theorem aw41:Zc Yir 69 [.sl 5 [.bool true,.sl 1 [.int .u32 4],.bool false,.sl 0 [],.bool false,.sl 0 [],.bool false,.sl 0 [],.bool false,.sl 1 [.int .u32 1]],.sl 3 [.bool true,.sl 1 [.int .u32 2],.bool false,.sl 0 [],.bool false,.sl 1 [.int .u32 1]]] (.fresh 2 0 []):=Zz Qk (Zh aw40 (Zl _)) 400 _ _ _ (by kernel_rfl)
end Go.Proofs.Ythdpfjffdipipaa

namespace Go.Proofs.Ythdpfjffdipipaa
open Go.IntKind (i64 u64 u32)
open Go.Ai
set_option maxRecDepth 100000
theorem aw42:Zc Yir 71 [.sl 3 [.bool true,.sl 1 [.int .u32 2],.bool false,.sl 0 [],.bool false,.sl 1 [.int .u32 1]],.sl 5 [.bool true,.sl 1 [.int .u32 4],.bool false,.sl 0 [],.bool false,.sl 0 [],.bool false,.sl 0 [],.bool false,.sl 1 [.int .u32 1]]] (.sl 3 [.bool true,.sl 1 [.int .u32 2],.bool false,.sl 0 [],.bool false,.sl 1 [.int .u32 1]]):=Zz Qk (Zh aw41 (Zh aw39 (Zl _))) 400 _ _ _ (by kernel_rfl)
theorem aw43:Zc Yir 65 [.agg [.sl 3 [.bool true,.sl 1 [.int .u32 2],.bool false,.sl 0 [],.bool false,.sl 1 [.int .u32 1]],.bool false,.sl 0 [],.int .i64 0,.bool false,.sl 1 [.int .u32 2],.int .i64 0],.agg [.sl 5 [.bool true,.sl 1 [.int .u32 4],.bool false,.sl 0 [],.bool false,.sl 0 [],.bool false,.sl 0 [],.bool false,.sl 1 [.int .u32 1]],.bool false,.sl 0 [],.int .i64 0,.bool false,.sl 1 [.int .u32 5],.int .i64 0]] (.int .i64 0):=Zz Qk (Zh aw42 (Zh aw21 (Zh aw20 (Zh aw19 (Zl _))))) 400 _ _ _ (by kernel_rfl)
theorem aw44:Zc Yir 59 [.agg [.sl 4 [.bool false,.sl 0 [],.bool true,.sl 1 [.int .u32 1],.bool false,.sl 0 [],.bool false,.sl 1 [.int .u32 1]],.bool false,.sl 1 [.int .u32 1],.int .i64 1,.bool false,.sl 1 [.int .u32 2],.int .i64 0]] (.bool true):=Zz Qk (Zh aw13 (Zh aw11 (Zh aw7 (Zl _)))) 400 _ _ _ (by kernel_rfl)
theorem aw45:Zc Yir 38 [.sl 4 [.bool false,.sl 0 [],.bool true,.sl 1 [.int .u32 1],.bool false,.sl 0 [],.bool false,.sl 1 [.int .u32 1]],.agg [.bool false,.sl 1 [.int .u32 1],.int .i64 0]] (.int .i64 0):=Zz Qk (Zl _) 400 _ _ _ (by kernel_rfl)
theorem aw46:Zc Yir 59 [.agg [.sl 4 [.bool false,.sl 0 [],.bool true,.sl 1 [.int .u32 1],.bool false,.sl 0 [],.bool false,.sl 1 [.int .u32 1]],.bool true,.sl 1 [.int .u32 1],.int .i64 0,.bool false,.sl 1 [.int .u32 1],.int .i64 1]] (.bool true):=Zz Qk (Zh aw13 (Zh aw9 (Zh aw7 (Zl _)))) 400 _ _ _ (by kernel_rfl)
theorem aw47:Zc Yir 21 [] (.bool true):=Zz Qk (Zh aw46 (Zh aw45 (Zh aw44 (Zh aw43 (Zh aw38 (Zh aw37 (Zh aw33 (Zh aw26 (Zh aw22 (Zh aw21 (Zh aw20 (Zh aw19 (Zh aw18 (Zh aw14 (Zh aw10 (Zh aw4 (Zl _))))))))))))))))) 400 _ _ _ (by kernel_rfl)
theorem Yrun21:Zc Yir 21 [] (.bool true):=aw47
end Go.Proofs.Ythdpfjffdipipaa
