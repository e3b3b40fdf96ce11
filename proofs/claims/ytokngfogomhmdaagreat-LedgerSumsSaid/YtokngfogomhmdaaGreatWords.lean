/- Wrapping of words. -/
import Derived.Test.YtokngfogomhmdaaGreatAbs15
namespace Go.Proofs.YtokngfogomhmdaaGreat
open Go.Ai
theorem Runs.to {prog : Nat → Option IFunc} {f : Nat} {args : List AV} {r r' : AV} (h : Runs prog f args r) (e : r = r') : Runs prog f args r' := e ▸ h
theorem w64 {n : Int} (h1 : -9223372036854775808 ≤ n) (h2 : n ≤ 9223372036854775807) : IntKind.i64.wrap n = n := by
  simp only [IntKind.wrap, IntKind.bits, IntKind.signed]
  simp
  omega
theorem wu64m (n : Int) : IntKind.u64.wrap n = n % 18446744073709551616 := by
  simp only [IntKind.wrap, IntKind.bits, IntKind.signed, Bool.false_and, Bool.false_eq_true, if_false]
  omega
theorem wu32 (n : Int) : IntKind.u32.wrap n = n % 4294967296 := by
  simp only [IntKind.wrap, IntKind.bits, IntKind.signed, Bool.false_and, Bool.false_eq_true, if_false]
  omega
end Go.Proofs.YtokngfogomhmdaaGreat
