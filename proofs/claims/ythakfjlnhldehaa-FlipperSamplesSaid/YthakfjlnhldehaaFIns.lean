/- flipper.Inside, as a function of whole numbers. -/
import Derived.Test.YthakfjlnhldehaaFlip
namespace Go.Proofs.Ythakfjlnhldehaa
open Go.Ai
set_option maxRecDepth 100000

def insideB (qx qy px py ln : Int) (mi : Bool) (lo hi up dn mx k reach : Int) : Bool :=
  match permB px py ln lo hi up dn mx && inR (-256) 256 k with
  | true => (match inR 1 524288 reach with
  | true => (match inR (-2097152) 2097152 qx && inR (-2097152) 2097152 qy with
  | true => (match decide ((dotI ((subV qx qy px py).1) ((subV qx qy px py).2) ((turnedI mi k 256).1) ((turnedI mi k 256).2.1)) ≤ 0) with
  | true => ((decide ((dotI ((subV qx qy px py).1) ((subV qx qy px py).2) ((subV qx qy px py).1) ((subV qx qy px py).2)) < (IntKind.i64.wrap (reach * reach)))))
  | false => (match decide ((dotI ((subV qx qy px py).1) ((subV qx qy px py).2) ((turnedI mi k 256).1) ((turnedI mi k 256).2.1)) ≥ (IntKind.i64.wrap (ln * ((turnedI mi k 256).2.2)))) with
  | true => ((decide ((IntKind.i64.wrap (((turnedI mi k 256).2.2) * (IntKind.i64.wrap ((IntKind.i64.wrap ((dotI ((subV qx qy px py).1) ((subV qx qy px py).2) ((subV qx qy px py).1) ((subV qx qy px py).2)) + (IntKind.i64.wrap (ln * ln)))) - (IntKind.i64.wrap (reach * reach)))))) < (IntKind.i64.wrap ((IntKind.i64.wrap (2 * ln)) * (dotI ((subV qx qy px py).1) ((subV qx qy px py).2) ((turnedI mi k 256).1) ((turnedI mi k 256).2.1)))))))
  | false => ((decide ((if (IntKind.i64.wrap (0 - (crossI ((turnedI mi k 256).1) ((turnedI mi k 256).2.1) ((subV qx qy px py).1) ((subV qx qy px py).2)))) > (crossI ((turnedI mi k 256).1) ((turnedI mi k 256).2.1) ((subV qx qy px py).1) ((subV qx qy px py).2)) then (IntKind.i64.wrap (0 - (crossI ((turnedI mi k 256).1) ((turnedI mi k 256).2.1) ((subV qx qy px py).1) ((subV qx qy px py).2)))) else (crossI ((turnedI mi k 256).1) ((turnedI mi k 256).2.1) ((subV qx qy px py).1) ((subV qx qy px py).2))) < (IntKind.i64.wrap (reach * ((turnedI mi k 256).2.2))))))))
  | false => (false))
  | false => (false))
  | false => (false)
theorem Try.run34 (qx qy : Int) (nm : ByteArray) (lv px py ln : Int) (mi : Bool) (lo hi up dn mx rs gr co sw k reach : Int)  : Runs Try.ir 34 [.agg [.int .i64 qx, .int .i64 qy], .agg [.str nm, .int .i64 lv, .int .i64 px, .int .i64 py, .int .i64 ln, .bool mi, .int .i64 lo, .int .i64 hi, .int .i64 up, .int .i64 dn, .int .i64 mx, .int .i64 rs, .int .i64 gr, .int .i64 co, .int .i64 sw], .int .i64 k, .int .i64 reach] (.bool (insideB qx qy px py ln mi lo hi up dn mx k reach)) := by
  unfold insideB
  cases c1 : (permB px py ln lo hi up dn mx && inR (-256) 256 k)
  · exact Runs.script (r := .bool false) (ps := [(!(permB px py ln lo hi up dn mx && inR (-256) 256 k)) = true, true = true, true = true]) TFlip_holds rfl 300 rfl [.b true, .b true, .b true] (by kernel_rfl) ⟨(by rw [c1]; rfl), rfl, rfl, trivial⟩
  · cases c2 : (inR 1 524288 reach)
    · exact Runs.script (r := .bool false) (ps := [(!(permB px py ln lo hi up dn mx && inR (-256) 256 k)) = false, (!(inR 1 524288 reach)) = true, true = true]) TFlip_holds rfl 300 rfl [.b false, .b true, .b true] (by kernel_rfl) ⟨(by rw [c1]; rfl), (by rw [c2]; rfl), rfl, trivial⟩
    · cases c3 : (inR (-2097152) 2097152 qx && inR (-2097152) 2097152 qy)
      · exact Runs.script (r := .bool false) (ps := [(!(permB px py ln lo hi up dn mx && inR (-256) 256 k)) = false, (!(inR 1 524288 reach)) = false, (!(inR (-2097152) 2097152 qx && inR (-2097152) 2097152 qy)) = true]) TFlip_holds rfl 300 rfl [.b false, .b false, .b true] (by kernel_rfl) ⟨(by rw [c1]; rfl), (by rw [c2]; rfl), (by rw [c3]; rfl), trivial⟩
      · cases c4 : (decide ((dotI ((subV qx qy px py).1) ((subV qx qy px py).2) ((turnedI mi k 256).1) ((turnedI mi k 256).2.1)) ≤ 0))
        · cases c5 : (decide ((dotI ((subV qx qy px py).1) ((subV qx qy px py).2) ((turnedI mi k 256).1) ((turnedI mi k 256).2.1)) ≥ (IntKind.i64.wrap (ln * ((turnedI mi k 256).2.2)))))
          · exact Runs.script (r := .bool (decide ((if (IntKind.i64.wrap (0 - (crossI ((turnedI mi k 256).1) ((turnedI mi k 256).2.1) ((subV qx qy px py).1) ((subV qx qy px py).2)))) > (crossI ((turnedI mi k 256).1) ((turnedI mi k 256).2.1) ((subV qx qy px py).1) ((subV qx qy px py).2)) then (IntKind.i64.wrap (0 - (crossI ((turnedI mi k 256).1) ((turnedI mi k 256).2.1) ((subV qx qy px py).1) ((subV qx qy px py).2)))) else (crossI ((turnedI mi k 256).1) ((turnedI mi k 256).2.1) ((subV qx qy px py).1) ((subV qx qy px py).2))) < (IntKind.i64.wrap (reach * ((turnedI mi k 256).2.2)))))) (ps := [(!(permB px py ln lo hi up dn mx && inR (-256) 256 k)) = false, (!(inR 1 524288 reach)) = false, (!(inR (-2097152) 2097152 qx && inR (-2097152) 2097152 qy)) = false, (decide ((dotI ((subV qx qy px py).1) ((subV qx qy px py).2) ((turnedI mi k 256).1) ((turnedI mi k 256).2.1)) ≤ 0)) = false, (decide ((dotI ((subV qx qy px py).1) ((subV qx qy px py).2) ((turnedI mi k 256).1) ((turnedI mi k 256).2.1)) ≥ (IntKind.i64.wrap (ln * ((turnedI mi k 256).2.2))))) = false]) TFlip_holds rfl 300 rfl [.b false, .b false, .b false, .b false, .b false] (by kernel_rfl) ⟨(by rw [c1]; rfl), (by rw [c2]; rfl), (by rw [c3]; rfl), c4, c5, trivial⟩
          · exact Runs.script (r := .bool (decide ((IntKind.i64.wrap (((turnedI mi k 256).2.2) * (IntKind.i64.wrap ((IntKind.i64.wrap ((dotI ((subV qx qy px py).1) ((subV qx qy px py).2) ((subV qx qy px py).1) ((subV qx qy px py).2)) + (IntKind.i64.wrap (ln * ln)))) - (IntKind.i64.wrap (reach * reach)))))) < (IntKind.i64.wrap ((IntKind.i64.wrap (2 * ln)) * (dotI ((subV qx qy px py).1) ((subV qx qy px py).2) ((turnedI mi k 256).1) ((turnedI mi k 256).2.1))))))) (ps := [(!(permB px py ln lo hi up dn mx && inR (-256) 256 k)) = false, (!(inR 1 524288 reach)) = false, (!(inR (-2097152) 2097152 qx && inR (-2097152) 2097152 qy)) = false, (decide ((dotI ((subV qx qy px py).1) ((subV qx qy px py).2) ((turnedI mi k 256).1) ((turnedI mi k 256).2.1)) ≤ 0)) = false, (decide ((dotI ((subV qx qy px py).1) ((subV qx qy px py).2) ((turnedI mi k 256).1) ((turnedI mi k 256).2.1)) ≥ (IntKind.i64.wrap (ln * ((turnedI mi k 256).2.2))))) = true]) TFlip_holds rfl 300 rfl [.b false, .b false, .b false, .b false, .b true] (by kernel_rfl) ⟨(by rw [c1]; rfl), (by rw [c2]; rfl), (by rw [c3]; rfl), c4, c5, trivial⟩
        · exact Runs.script (r := .bool (decide ((dotI ((subV qx qy px py).1) ((subV qx qy px py).2) ((subV qx qy px py).1) ((subV qx qy px py).2)) < (IntKind.i64.wrap (reach * reach))))) (ps := [(!(permB px py ln lo hi up dn mx && inR (-256) 256 k)) = false, (!(inR 1 524288 reach)) = false, (!(inR (-2097152) 2097152 qx && inR (-2097152) 2097152 qy)) = false, (decide ((dotI ((subV qx qy px py).1) ((subV qx qy px py).2) ((turnedI mi k 256).1) ((turnedI mi k 256).2.1)) ≤ 0)) = true]) TFlip_holds rfl 300 rfl [.b false, .b false, .b false, .b true] (by kernel_rfl) ⟨(by rw [c1]; rfl), (by rw [c2]; rfl), (by rw [c3]; rfl), c4, trivial⟩

def g34i : List AV → Option (AV × List Prop)
  | [.agg [.int .i64 qx, .int .i64 qy], .agg [.str _, .int .i64 _, .int .i64 px, .int .i64 py, .int .i64 ln, .bool mi, .int .i64 lo, .int .i64 hi, .int .i64 up, .int .i64 dn, .int .i64 mx, .int .i64 _, .int .i64 _, .int .i64 _, .int .i64 _], .int .i64 k, .int .i64 reach] => some (.bool (insideB qx qy px py ln mi lo hi up dn mx k reach), [])
  | _ => none
def TFi1 : Table := (34, g34i) :: TFlip
theorem TFi1_holds : THolds Try.ir TFi1 := THolds.cons TFlip_holds (by
  intro args r ps h hp
  unfold g34i at h
  split at h
  · cases h; exact Try.run34 _ _ _ _ _ _ _ _ _ _ _ _ _ _ _ _ _ _ _ 
  · cases h)

def TFIns : Table := TFi1
theorem TFIns_holds : THolds Try.ir TFIns := TFi1_holds
end Go.Proofs.Ythakfjlnhldehaa
