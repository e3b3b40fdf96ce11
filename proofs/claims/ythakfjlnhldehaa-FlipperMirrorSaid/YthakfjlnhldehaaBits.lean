/- math/bits.Len64, LeadingZeros64: what they return. -/
import Derived.Test.YthakfjlnhldehaaMul
namespace Go.Proofs.Ythakfjlnhldehaa
open Go.Ai
set_option maxRecDepth 100000

def len8N (n : Nat) : Nat := if n = 0 then 0 else Nat.log2 n + 1
def len8 (i : Int) : Int := (len8N i.toNat : Nat)
theorem len8_all : ∀ n : Nat, n < 256 → (text_14a5d850[n]?).map (fun c => ((c.toNat : Nat) : Int)) = some ((len8N n : Nat) : Int) := by
  have h : (List.range 256).all (fun n => decide ((text_14a5d850[n]?).map (fun c => ((c.toNat : Nat) : Int)) = some ((len8N n : Nat) : Int))) = true := by decide +kernel
  intro n hn
  have := List.all_eq_true.1 h n (by simpa using hn)
  simpa using this
theorem len8_ok (x : Int) : ((if 0 ≤ (IntKind.u8.wrap x) then (text_14a5d850)[(Int.toNat (IntKind.u8.wrap x))]? else none).map fun c => ((c.toNat : Nat) : Int)) = some (len8 (IntKind.u8.wrap x)) := by
  have hw : 0 ≤ IntKind.u8.wrap x ∧ IntKind.u8.wrap x < 256 := by
    simp only [IntKind.wrap, IntKind.bits, IntKind.signed, Bool.false_and, Bool.false_eq_true, if_false]
    omega
  rw [if_pos hw.1]
  exact len8_all _ (by omega)

def len64W (x : Int) : Int :=
  match decide (x ≥ 4294967296) with
  | true => (match decide ((Int.fdiv x (2 ^ (min (Int.toNat 32) (IntKind.bits .u64)))) ≥ 65536) with
  | true => (match decide ((Int.fdiv (Int.fdiv x (2 ^ (min (Int.toNat 32) (IntKind.bits .u64)))) (2 ^ (min (Int.toNat 16) (IntKind.bits .u64)))) ≥ 256) with
  | true => (IntKind.i64.wrap (56 + (IntKind.i64.wrap (len8 (IntKind.u8.wrap (Int.fdiv (Int.fdiv (Int.fdiv x (2 ^ (min (Int.toNat 32) (IntKind.bits .u64)))) (2 ^ (min (Int.toNat 16) (IntKind.bits .u64)))) (2 ^ (min (Int.toNat 8) (IntKind.bits .u64)))))))))
  | false => (IntKind.i64.wrap (48 + (IntKind.i64.wrap (len8 (IntKind.u8.wrap (Int.fdiv (Int.fdiv x (2 ^ (min (Int.toNat 32) (IntKind.bits .u64)))) (2 ^ (min (Int.toNat 16) (IntKind.bits .u64))))))))))
  | false => (match decide ((Int.fdiv x (2 ^ (min (Int.toNat 32) (IntKind.bits .u64)))) ≥ 256) with
  | true => (IntKind.i64.wrap (40 + (IntKind.i64.wrap (len8 (IntKind.u8.wrap (Int.fdiv (Int.fdiv x (2 ^ (min (Int.toNat 32) (IntKind.bits .u64)))) (2 ^ (min (Int.toNat 8) (IntKind.bits .u64)))))))))
  | false => (IntKind.i64.wrap (32 + (IntKind.i64.wrap (len8 (IntKind.u8.wrap (Int.fdiv x (2 ^ (min (Int.toNat 32) (IntKind.bits .u64)))))))))))
  | false => (match decide (x ≥ 65536) with
  | true => (match decide ((Int.fdiv x (2 ^ (min (Int.toNat 16) (IntKind.bits .u64)))) ≥ 256) with
  | true => (IntKind.i64.wrap (24 + (IntKind.i64.wrap (len8 (IntKind.u8.wrap (Int.fdiv (Int.fdiv x (2 ^ (min (Int.toNat 16) (IntKind.bits .u64)))) (2 ^ (min (Int.toNat 8) (IntKind.bits .u64)))))))))
  | false => (IntKind.i64.wrap (16 + (IntKind.i64.wrap (len8 (IntKind.u8.wrap (Int.fdiv x (2 ^ (min (Int.toNat 16) (IntKind.bits .u64))))))))))
  | false => (match decide (x ≥ 256) with
  | true => (IntKind.i64.wrap (8 + (IntKind.i64.wrap (len8 (IntKind.u8.wrap (Int.fdiv x (2 ^ (min (Int.toNat 8) (IntKind.bits .u64)))))))))
  | false => (IntKind.i64.wrap (0 + (IntKind.i64.wrap (len8 (IntKind.u8.wrap x)))))))
theorem Try.run106 (x : Int)  : Runs Try.ir 106 [.int .u64 x] (.int .i64 (len64W x)) := by
  unfold len64W
  cases c1 : (decide (x ≥ 4294967296))
  · cases c2 : (decide (x ≥ 65536))
    · cases c3 : (decide (x ≥ 256))
      · exact Runs.script (r := .int .i64 (IntKind.i64.wrap (0 + (IntKind.i64.wrap (len8 (IntKind.u8.wrap x)))))) (ps := [(decide (x ≥ 4294967296)) = false, (decide (x ≥ 65536)) = false, (decide (x ≥ 256)) = false, ((if 0 ≤ (IntKind.u8.wrap x) then (text_14a5d850)[(Int.toNat (IntKind.u8.wrap x))]? else none).map fun c => ((c.toNat : Nat) : Int)) = some (len8 (IntKind.u8.wrap x))]) TFlip_holds rfl 300 rfl [.b false, .b false, .b false, .v (.int .u8 (len8 (IntKind.u8.wrap x)))] (by kernel_rfl) ⟨c1, c2, c3, (len8_ok _), trivial⟩
      · exact Runs.script (r := .int .i64 (IntKind.i64.wrap (8 + (IntKind.i64.wrap (len8 (IntKind.u8.wrap (Int.fdiv x (2 ^ (min (Int.toNat 8) (IntKind.bits .u64)))))))))) (ps := [(decide (x ≥ 4294967296)) = false, (decide (x ≥ 65536)) = false, (decide (x ≥ 256)) = true, ¬ (8 : Int) < 0, ((if 0 ≤ (IntKind.u8.wrap (Int.fdiv x (2 ^ (min (Int.toNat 8) (IntKind.bits .u64))))) then (text_14a5d850)[(Int.toNat (IntKind.u8.wrap (Int.fdiv x (2 ^ (min (Int.toNat 8) (IntKind.bits .u64))))))]? else none).map fun c => ((c.toNat : Nat) : Int)) = some (len8 (IntKind.u8.wrap (Int.fdiv x (2 ^ (min (Int.toNat 8) (IntKind.bits .u64))))))]) TFlip_holds rfl 300 rfl [.b false, .b false, .b true, .v (.int .u8 (len8 (IntKind.u8.wrap (Int.fdiv x (2 ^ (min (Int.toNat 8) (IntKind.bits .u64)))))))] (by kernel_rfl) ⟨c1, c2, c3, (by decide), (len8_ok _), trivial⟩
    · cases c3 : (decide ((Int.fdiv x (2 ^ (min (Int.toNat 16) (IntKind.bits .u64)))) ≥ 256))
      · exact Runs.script (r := .int .i64 (IntKind.i64.wrap (16 + (IntKind.i64.wrap (len8 (IntKind.u8.wrap (Int.fdiv x (2 ^ (min (Int.toNat 16) (IntKind.bits .u64)))))))))) (ps := [(decide (x ≥ 4294967296)) = false, (decide (x ≥ 65536)) = true, ¬ (16 : Int) < 0, (decide ((Int.fdiv x (2 ^ (min (Int.toNat 16) (IntKind.bits .u64)))) ≥ 256)) = false, ((if 0 ≤ (IntKind.u8.wrap (Int.fdiv x (2 ^ (min (Int.toNat 16) (IntKind.bits .u64))))) then (text_14a5d850)[(Int.toNat (IntKind.u8.wrap (Int.fdiv x (2 ^ (min (Int.toNat 16) (IntKind.bits .u64))))))]? else none).map fun c => ((c.toNat : Nat) : Int)) = some (len8 (IntKind.u8.wrap (Int.fdiv x (2 ^ (min (Int.toNat 16) (IntKind.bits .u64))))))]) TFlip_holds rfl 300 rfl [.b false, .b true, .b false, .v (.int .u8 (len8 (IntKind.u8.wrap (Int.fdiv x (2 ^ (min (Int.toNat 16) (IntKind.bits .u64)))))))] (by kernel_rfl) ⟨c1, c2, (by decide), c3, (len8_ok _), trivial⟩
      · exact Runs.script (r := .int .i64 (IntKind.i64.wrap (24 + (IntKind.i64.wrap (len8 (IntKind.u8.wrap (Int.fdiv (Int.fdiv x (2 ^ (min (Int.toNat 16) (IntKind.bits .u64)))) (2 ^ (min (Int.toNat 8) (IntKind.bits .u64)))))))))) (ps := [(decide (x ≥ 4294967296)) = false, (decide (x ≥ 65536)) = true, ¬ (16 : Int) < 0, (decide ((Int.fdiv x (2 ^ (min (Int.toNat 16) (IntKind.bits .u64)))) ≥ 256)) = true, ¬ (8 : Int) < 0, ((if 0 ≤ (IntKind.u8.wrap (Int.fdiv (Int.fdiv x (2 ^ (min (Int.toNat 16) (IntKind.bits .u64)))) (2 ^ (min (Int.toNat 8) (IntKind.bits .u64))))) then (text_14a5d850)[(Int.toNat (IntKind.u8.wrap (Int.fdiv (Int.fdiv x (2 ^ (min (Int.toNat 16) (IntKind.bits .u64)))) (2 ^ (min (Int.toNat 8) (IntKind.bits .u64))))))]? else none).map fun c => ((c.toNat : Nat) : Int)) = some (len8 (IntKind.u8.wrap (Int.fdiv (Int.fdiv x (2 ^ (min (Int.toNat 16) (IntKind.bits .u64)))) (2 ^ (min (Int.toNat 8) (IntKind.bits .u64))))))]) TFlip_holds rfl 300 rfl [.b false, .b true, .b true, .v (.int .u8 (len8 (IntKind.u8.wrap (Int.fdiv (Int.fdiv x (2 ^ (min (Int.toNat 16) (IntKind.bits .u64)))) (2 ^ (min (Int.toNat 8) (IntKind.bits .u64)))))))] (by kernel_rfl) ⟨c1, c2, (by decide), c3, (by decide), (len8_ok _), trivial⟩
  · cases c2 : (decide ((Int.fdiv x (2 ^ (min (Int.toNat 32) (IntKind.bits .u64)))) ≥ 65536))
    · cases c3 : (decide ((Int.fdiv x (2 ^ (min (Int.toNat 32) (IntKind.bits .u64)))) ≥ 256))
      · exact Runs.script (r := .int .i64 (IntKind.i64.wrap (32 + (IntKind.i64.wrap (len8 (IntKind.u8.wrap (Int.fdiv x (2 ^ (min (Int.toNat 32) (IntKind.bits .u64)))))))))) (ps := [(decide (x ≥ 4294967296)) = true, ¬ (32 : Int) < 0, (decide ((Int.fdiv x (2 ^ (min (Int.toNat 32) (IntKind.bits .u64)))) ≥ 65536)) = false, (decide ((Int.fdiv x (2 ^ (min (Int.toNat 32) (IntKind.bits .u64)))) ≥ 256)) = false, ((if 0 ≤ (IntKind.u8.wrap (Int.fdiv x (2 ^ (min (Int.toNat 32) (IntKind.bits .u64))))) then (text_14a5d850)[(Int.toNat (IntKind.u8.wrap (Int.fdiv x (2 ^ (min (Int.toNat 32) (IntKind.bits .u64))))))]? else none).map fun c => ((c.toNat : Nat) : Int)) = some (len8 (IntKind.u8.wrap (Int.fdiv x (2 ^ (min (Int.toNat 32) (IntKind.bits .u64))))))]) TFlip_holds rfl 300 rfl [.b true, .b false, .b false, .v (.int .u8 (len8 (IntKind.u8.wrap (Int.fdiv x (2 ^ (min (Int.toNat 32) (IntKind.bits .u64)))))))] (by kernel_rfl) ⟨c1, (by decide), c2, c3, (len8_ok _), trivial⟩
      · exact Runs.script (r := .int .i64 (IntKind.i64.wrap (40 + (IntKind.i64.wrap (len8 (IntKind.u8.wrap (Int.fdiv (Int.fdiv x (2 ^ (min (Int.toNat 32) (IntKind.bits .u64)))) (2 ^ (min (Int.toNat 8) (IntKind.bits .u64)))))))))) (ps := [(decide (x ≥ 4294967296)) = true, ¬ (32 : Int) < 0, (decide ((Int.fdiv x (2 ^ (min (Int.toNat 32) (IntKind.bits .u64)))) ≥ 65536)) = false, (decide ((Int.fdiv x (2 ^ (min (Int.toNat 32) (IntKind.bits .u64)))) ≥ 256)) = true, ¬ (8 : Int) < 0, ((if 0 ≤ (IntKind.u8.wrap (Int.fdiv (Int.fdiv x (2 ^ (min (Int.toNat 32) (IntKind.bits .u64)))) (2 ^ (min (Int.toNat 8) (IntKind.bits .u64))))) then (text_14a5d850)[(Int.toNat (IntKind.u8.wrap (Int.fdiv (Int.fdiv x (2 ^ (min (Int.toNat 32) (IntKind.bits .u64)))) (2 ^ (min (Int.toNat 8) (IntKind.bits .u64))))))]? else none).map fun c => ((c.toNat : Nat) : Int)) = some (len8 (IntKind.u8.wrap (Int.fdiv (Int.fdiv x (2 ^ (min (Int.toNat 32) (IntKind.bits .u64)))) (2 ^ (min (Int.toNat 8) (IntKind.bits .u64))))))]) TFlip_holds rfl 300 rfl [.b true, .b false, .b true, .v (.int .u8 (len8 (IntKind.u8.wrap (Int.fdiv (Int.fdiv x (2 ^ (min (Int.toNat 32) (IntKind.bits .u64)))) (2 ^ (min (Int.toNat 8) (IntKind.bits .u64)))))))] (by kernel_rfl) ⟨c1, (by decide), c2, c3, (by decide), (len8_ok _), trivial⟩
    · cases c3 : (decide ((Int.fdiv (Int.fdiv x (2 ^ (min (Int.toNat 32) (IntKind.bits .u64)))) (2 ^ (min (Int.toNat 16) (IntKind.bits .u64)))) ≥ 256))
      · exact Runs.script (r := .int .i64 (IntKind.i64.wrap (48 + (IntKind.i64.wrap (len8 (IntKind.u8.wrap (Int.fdiv (Int.fdiv x (2 ^ (min (Int.toNat 32) (IntKind.bits .u64)))) (2 ^ (min (Int.toNat 16) (IntKind.bits .u64)))))))))) (ps := [(decide (x ≥ 4294967296)) = true, ¬ (32 : Int) < 0, (decide ((Int.fdiv x (2 ^ (min (Int.toNat 32) (IntKind.bits .u64)))) ≥ 65536)) = true, ¬ (16 : Int) < 0, (decide ((Int.fdiv (Int.fdiv x (2 ^ (min (Int.toNat 32) (IntKind.bits .u64)))) (2 ^ (min (Int.toNat 16) (IntKind.bits .u64)))) ≥ 256)) = false, ((if 0 ≤ (IntKind.u8.wrap (Int.fdiv (Int.fdiv x (2 ^ (min (Int.toNat 32) (IntKind.bits .u64)))) (2 ^ (min (Int.toNat 16) (IntKind.bits .u64))))) then (text_14a5d850)[(Int.toNat (IntKind.u8.wrap (Int.fdiv (Int.fdiv x (2 ^ (min (Int.toNat 32) (IntKind.bits .u64)))) (2 ^ (min (Int.toNat 16) (IntKind.bits .u64))))))]? else none).map fun c => ((c.toNat : Nat) : Int)) = some (len8 (IntKind.u8.wrap (Int.fdiv (Int.fdiv x (2 ^ (min (Int.toNat 32) (IntKind.bits .u64)))) (2 ^ (min (Int.toNat 16) (IntKind.bits .u64))))))]) TFlip_holds rfl 300 rfl [.b true, .b true, .b false, .v (.int .u8 (len8 (IntKind.u8.wrap (Int.fdiv (Int.fdiv x (2 ^ (min (Int.toNat 32) (IntKind.bits .u64)))) (2 ^ (min (Int.toNat 16) (IntKind.bits .u64)))))))] (by kernel_rfl) ⟨c1, (by decide), c2, (by decide), c3, (len8_ok _), trivial⟩
      · exact Runs.script (r := .int .i64 (IntKind.i64.wrap (56 + (IntKind.i64.wrap (len8 (IntKind.u8.wrap (Int.fdiv (Int.fdiv (Int.fdiv x (2 ^ (min (Int.toNat 32) (IntKind.bits .u64)))) (2 ^ (min (Int.toNat 16) (IntKind.bits .u64)))) (2 ^ (min (Int.toNat 8) (IntKind.bits .u64)))))))))) (ps := [(decide (x ≥ 4294967296)) = true, ¬ (32 : Int) < 0, (decide ((Int.fdiv x (2 ^ (min (Int.toNat 32) (IntKind.bits .u64)))) ≥ 65536)) = true, ¬ (16 : Int) < 0, (decide ((Int.fdiv (Int.fdiv x (2 ^ (min (Int.toNat 32) (IntKind.bits .u64)))) (2 ^ (min (Int.toNat 16) (IntKind.bits .u64)))) ≥ 256)) = true, ¬ (8 : Int) < 0, ((if 0 ≤ (IntKind.u8.wrap (Int.fdiv (Int.fdiv (Int.fdiv x (2 ^ (min (Int.toNat 32) (IntKind.bits .u64)))) (2 ^ (min (Int.toNat 16) (IntKind.bits .u64)))) (2 ^ (min (Int.toNat 8) (IntKind.bits .u64))))) then (text_14a5d850)[(Int.toNat (IntKind.u8.wrap (Int.fdiv (Int.fdiv (Int.fdiv x (2 ^ (min (Int.toNat 32) (IntKind.bits .u64)))) (2 ^ (min (Int.toNat 16) (IntKind.bits .u64)))) (2 ^ (min (Int.toNat 8) (IntKind.bits .u64))))))]? else none).map fun c => ((c.toNat : Nat) : Int)) = some (len8 (IntKind.u8.wrap (Int.fdiv (Int.fdiv (Int.fdiv x (2 ^ (min (Int.toNat 32) (IntKind.bits .u64)))) (2 ^ (min (Int.toNat 16) (IntKind.bits .u64)))) (2 ^ (min (Int.toNat 8) (IntKind.bits .u64))))))]) TFlip_holds rfl 300 rfl [.b true, .b true, .b true, .v (.int .u8 (len8 (IntKind.u8.wrap (Int.fdiv (Int.fdiv (Int.fdiv x (2 ^ (min (Int.toNat 32) (IntKind.bits .u64)))) (2 ^ (min (Int.toNat 16) (IntKind.bits .u64)))) (2 ^ (min (Int.toNat 8) (IntKind.bits .u64)))))))] (by kernel_rfl) ⟨c1, (by decide), c2, (by decide), c3, (by decide), (len8_ok _), trivial⟩

theorem shrN (n : Nat) (k : Nat) (hk : k ≤ 64) : Int.fdiv (n : Int) (2 ^ (min (Int.toNat (k : Int)) (IntKind.bits .u64))) = ((n / 2 ^ k : Nat) : Int) := by
  have e : min (Int.toNat (k : Int)) (IntKind.bits .u64) = k := by
    show min (Int.toNat (k : Int)) 64 = k
    rw [Int.toNat_natCast]; omega
  rw [e, Int.fdiv_eq_ediv_of_nonneg _ (Int.pow_nonneg (by omega))]
  have : (2 : Int) ^ k = ((2 ^ k : Nat) : Int) := by simp
  rw [this, ← Int.natCast_ediv]

theorem log2_shift (n k : Nat) (h : n / 2 ^ k ≠ 0) : Nat.log2 n = Nat.log2 (n / 2 ^ k) + k := by
  have hn : n ≠ 0 := by intro e; subst e; simp at h
  have := (Nat.log2_eq_iff h).1 rfl
  rw [Nat.log2_eq_iff hn]
  generalize Nat.log2 (n / 2 ^ k) = j at *
  have hp : 0 < 2 ^ k := Nat.two_pow_pos k
  constructor
  · rw [Nat.pow_add]
    exact (Nat.le_div_iff_mul_le hp).1 this.1
  · have : n < 2 ^ (j + 1) * 2 ^ k := (Nat.div_lt_iff_lt_mul hp).1 this.2
    rw [← Nat.pow_add] at this
    have e : j + k + 1 = j + 1 + k := by omega
    rw [e]; exact this

theorem len8_nat (v : Nat) (h : v < 256) (h0 : v ≠ 0) : len8 (IntKind.u8.wrap (v : Int)) = ((Nat.log2 v + 1 : Nat) : Int) := by
  have hw : IntKind.u8.wrap (v : Int) = v := by
    simp only [IntKind.wrap, IntKind.bits, IntKind.signed, Bool.false_and, Bool.false_eq_true, if_false]
    omega
  rw [hw]
  unfold len8 len8N
  rw [Int.toNat_natCast, if_neg h0]

theorem log2_lt8 (v : Nat) (h : v < 256) (h0 : v ≠ 0) : Nat.log2 v < 8 := (Nat.log2_lt h0).2 h

theorem len64_eq (n : Nat) (h : n < 18446744073709551616) (h0 : n ≠ 0) : len64W (n : Int) = ((Nat.log2 n + 1 : Nat) : Int) := by
  have s32 (n : Nat) : Int.fdiv (n : Int) (2 ^ (min (Int.toNat 32) (IntKind.bits .u64))) = ((n / 2 ^ 32 : Nat) : Int) := shrN n 32 (by omega)
  have s16 (n : Nat) : Int.fdiv (n : Int) (2 ^ (min (Int.toNat 16) (IntKind.bits .u64))) = ((n / 2 ^ 16 : Nat) : Int) := shrN n 16 (by omega)
  have s8 (n : Nat) : Int.fdiv (n : Int) (2 ^ (min (Int.toNat 8) (IntKind.bits .u64))) = ((n / 2 ^ 8 : Nat) : Int) := shrN n 8 (by omega)
  have fin (v c : Nat) (hv : v < 256) (hv0 : v ≠ 0) (hc : c ≤ 56) : IntKind.i64.wrap ((c : Int) + IntKind.i64.wrap (len8 (IntKind.u8.wrap (v : Int)))) = ((Nat.log2 v + 1 + c : Nat) : Int) := by
    have := log2_lt8 v hv hv0
    rw [len8_nat v hv hv0, w64 (n := ((Nat.log2 v + 1 : Nat) : Int)) (by omega) (by omega), w64 (by omega) (by omega)]
    omega
  unfold len64W
  simp only [s32, s16, s8]
  by_cases a : n < 4294967296
  · have a' : decide ((n : Int) ≥ 4294967296) = false := by simp; omega
    rw [a']
    by_cases b : n < 65536
    · have b' : decide ((n : Int) ≥ 65536) = false := by simp; omega
      rw [b']
      by_cases c : n < 256
      · have c' : decide ((n : Int) ≥ 256) = false := by simp; omega
        rw [c']
        exact fin n 0 c h0 (by omega)
      · have c' : decide ((n : Int) ≥ 256) = true := by simp; omega
        rw [c', log2_shift n 8 (by omega)]
        have := fin (n / 2 ^ 8) 8 (by omega) (by omega) (by omega)
        exact this.trans (by omega)
    · have b' : decide ((n : Int) ≥ 65536) = true := by simp; omega
      rw [b']
      dsimp only
      by_cases c : n / 2 ^ 16 < 256
      · have c' : decide (((n / 2 ^ 16 : Nat) : Int) ≥ 256) = false := by simp; omega
        rw [c', log2_shift n 16 (by omega)]
        have := fin (n / 2 ^ 16) 16 (by omega) (by omega) (by omega)
        exact this.trans (by omega)
      · have c' : decide (((n / 2 ^ 16 : Nat) : Int) ≥ 256) = true := by simp; omega
        rw [c', log2_shift n 16 (by omega), log2_shift (n / 2 ^ 16) 8 (by omega)]
        have := fin (n / 2 ^ 16 / 2 ^ 8) 24 (by omega) (by omega) (by omega)
        exact this.trans (by omega)
  · have a' : decide ((n : Int) ≥ 4294967296) = true := by simp; omega
    rw [a']
    dsimp only
    by_cases b : n / 2 ^ 32 < 65536
    · have b' : decide (((n / 2 ^ 32 : Nat) : Int) ≥ 65536) = false := by simp; omega
      rw [b']
      dsimp only
      by_cases c : n / 2 ^ 32 < 256
      · have c' : decide (((n / 2 ^ 32 : Nat) : Int) ≥ 256) = false := by simp; omega
        rw [c', log2_shift n 32 (by omega)]
        have := fin (n / 2 ^ 32) 32 (by omega) (by omega) (by omega)
        exact this.trans (by omega)
      · have c' : decide (((n / 2 ^ 32 : Nat) : Int) ≥ 256) = true := by simp; omega
        rw [c', log2_shift n 32 (by omega), log2_shift (n / 2 ^ 32) 8 (by omega)]
        have := fin (n / 2 ^ 32 / 2 ^ 8) 40 (by omega) (by omega) (by omega)
        exact this.trans (by omega)
    · have b' : decide (((n / 2 ^ 32 : Nat) : Int) ≥ 65536) = true := by simp; omega
      rw [b']
      dsimp only
      by_cases c : n / 2 ^ 32 / 2 ^ 16 < 256
      · have c' : decide (((n / 2 ^ 32 / 2 ^ 16 : Nat) : Int) ≥ 256) = false := by simp; omega
        rw [c', log2_shift n 32 (by omega), log2_shift (n / 2 ^ 32) 16 (by omega)]
        have := fin (n / 2 ^ 32 / 2 ^ 16) 48 (by omega) (by omega) (by omega)
        exact this.trans (by omega)
      · have c' : decide (((n / 2 ^ 32 / 2 ^ 16 : Nat) : Int) ≥ 256) = true := by simp; omega
        rw [c', log2_shift n 32 (by omega), log2_shift (n / 2 ^ 32) 16 (by omega), log2_shift (n / 2 ^ 32 / 2 ^ 16) 8 (by omega)]
        have := fin (n / 2 ^ 32 / 2 ^ 16 / 2 ^ 8) 56 (by omega) (by omega) (by omega)
        exact this.trans (by omega)

end Go.Proofs.Ythakfjlnhldehaa
