/- Lists of accounts: three words each. -/
import Derived.Test.YtokngfogomhmdaaGreatWalk2
namespace Go.Ai

abbrev E3 := Int × Int × Int
def z3 : E3 := (0, 0, 0)
def ecs (x : E3) : List AV := [.int .i64 x.1, .int .i64 x.2.1, .int .i64 x.2.2]
def en : List E3 → List AV
  | [] => []
  | x :: l => ecs x ++ en l
theorem en_length : ∀ l : List E3, (en l).length = l.length * 3
  | [] => rfl
  | x :: l => by
    have h := en_length l
    have e : (ecs x).length = 3 := rfl
    simp only [en, List.length_append, List.length_cons, Nat.add_mul]
    omega
theorem en_append : ∀ l k : List E3, en (l ++ k) = en l ++ en k
  | [], _ => rfl
  | x :: l, k => by rw [List.cons_append, en, en, en_append l k, List.append_assoc]
theorem en_drop : ∀ (l : List E3) (i : Nat), (en l).drop (i * 3) = en (l.drop i)
  | [], i => by simp [en]
  | x :: l, 0 => rfl
  | x :: l, i + 1 => by
    rw [List.drop_succ_cons, ← en_drop l i]
    have e : en (x :: l) = .int .i64 x.1 :: .int .i64 x.2.1 :: .int .i64 x.2.2 :: en l := rfl
    rw [e, show (i + 1) * 3 = i * 3 + 1 + 1 + 1 by omega]
    simp only [List.drop_succ_cons]
theorem en_at {l : List E3} {X : Int} (h : 0 ≤ X ∧ X < ((l.length : Nat) : Int)) : List.drop (Int.toNat X * 3) (en l) = .int .i64 (l.getD (Int.toNat X) z3).1 :: .int .i64 (l.getD (Int.toNat X) z3).2.1 :: .int .i64 (l.getD (Int.toNat X) z3).2.2 :: en (l.drop (Int.toNat X + 1)) := by
  have hl := toNat_lt h
  rw [en_drop, List.drop_eq_getElem_cons hl]
  have e : l.getD (Int.toNat X) z3 = l[Int.toNat X] := by rw [List.getD_eq_getElem?_getD, List.getElem?_eq_getElem hl]; rfl
  rw [e]
  rfl
theorem take_enI {l : List E3} {X : Int} (h : 0 ≤ X ∧ X < ((l.length : Nat) : Int)) : takeA (List.drop (Int.toNat X * 3) (en l)) 0 3 false = some (.agg (ecs (l.getD (Int.toNat X) z3))) := by
  rw [en_at h]; rfl
theorem take_en0 {l : List E3} {X : Int} (h : 0 ≤ X ∧ X < ((l.length : Nat) : Int)) : takeA (List.drop (Int.toNat X * 3) (en l)) 0 1 true = some (.int .i64 (l.getD (Int.toNat X) z3).1) := by
  rw [en_at h]; rfl
theorem take_en1 {l : List E3} {X : Int} (h : 0 ≤ X ∧ X < ((l.length : Nat) : Int)) : takeA (List.drop 1 (List.drop (Int.toNat X * 3) (en l))) 0 1 true = some (.int .i64 (l.getD (Int.toNat X) z3).2.1) := by
  rw [en_at h]; rfl
theorem take_en2 {l : List E3} {X : Int} (h : 0 ≤ X ∧ X < ((l.length : Nat) : Int)) : takeA (List.drop 2 (List.drop (Int.toNat X * 3) (en l))) 0 1 true = some (.int .i64 (l.getD (Int.toNat X) z3).2.2) := by
  rw [en_at h]; rfl
end Go.Ai
