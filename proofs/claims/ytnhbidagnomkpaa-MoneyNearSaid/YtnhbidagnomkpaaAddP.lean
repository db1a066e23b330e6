/-
  The contract of the reference's AddFractions at two valid fractions.
-/
import Derived.Test.YtnhbidagnomkpaaPlus
namespace Go.Proofs.Ytnhbidagnomkpaa
open Go.RowKit Mny

/-- the sum of two fractions in lowest terms -/
def addS (n1 d1 n2 d2 : Int) : Int × Int × Int := lowS (decide (n1 * d2 + n2 * d1 < 0)) (n1 * d2 + n2 * d1).natAbs (d1 * d2).natAbs
theorem lowS_zero (neg : Bool) (d : Nat) : lowS neg 0 d = lowS false 0 d := by
  unfold lowS sgnN
  rw [Nat.gcd_zero_left, Nat.zero_div]
  cases neg <;> simp
section
variable {n1 n2 : Int} {D1 D2 : Nat}
theorem abs_prod (n : Int) (D : Nat) : n * (D : Int) = if n < 0 then -((n.natAbs * D : Nat) : Int) else ((n.natAbs * D : Nat) : Int) := by
  rw [Int.natCast_mul]
  split
  · rw [show ((n.natAbs : Nat) : Int) = -n by omega, Int.neg_mul, Int.neg_neg]
  · rw [show ((n.natAbs : Nat) : Int) = n by omega]
theorem add_same (h : decide (n1 < 0) = decide (n2 < 0)) : addS n1 D1 n2 D2 = lowS (decide (n1 < 0)) (n1.natAbs * D2 + n2.natAbs * D1) (D1 * D2) := by
  unfold addS
  have e1 := abs_prod n1 D2
  have e2 := abs_prod n2 D1
  rw [← Int.natCast_mul, Int.natAbs_natCast]
  generalize n1.natAbs * D2 = X at *
  generalize n2.natAbs * D1 = Y at *
  generalize n1 * (D2 : Int) = x at *
  generalize n2 * (D1 : Int) = y at *
  by_cases hn : n1 < 0
  · have hn2 : n2 < 0 := by simpa [hn] using h
    rw [if_pos hn] at e1
    rw [if_pos hn2] at e2
    rw [show (x + y).natAbs = X + Y by omega]
    rcases Nat.eq_zero_or_pos (X + Y) with h0 | h0
    · rw [h0, lowS_zero _ _, lowS_zero (decide (n1 < 0)) _]
    · rw [decide_eq_true (show x + y < 0 by omega), decide_eq_true hn]
  · have hn2 : ¬ n2 < 0 := by simpa [hn] using h
    rw [if_neg hn] at e1
    rw [if_neg hn2] at e2
    rw [show (x + y).natAbs = X + Y by omega, decide_eq_false (show ¬ x + y < 0 by omega), decide_eq_false hn]
theorem add_diff1 (h : decide (n1 < 0) ≠ decide (n2 < 0)) (hl : n1.natAbs * D2 < n2.natAbs * D1) : addS n1 D1 n2 D2 = lowS (decide (n2 < 0)) (n2.natAbs * D1 - n1.natAbs * D2) (D1 * D2) := by
  unfold addS
  have e1 := abs_prod n1 D2
  have e2 := abs_prod n2 D1
  rw [← Int.natCast_mul, Int.natAbs_natCast]
  generalize n1.natAbs * D2 = X at *
  generalize n2.natAbs * D1 = Y at *
  generalize n1 * (D2 : Int) = x at *
  generalize n2 * (D1 : Int) = y at *
  by_cases hn : n1 < 0
  · have hn2 : ¬ n2 < 0 := by simpa [hn] using h
    rw [if_pos hn] at e1
    rw [if_neg hn2] at e2
    rw [show (x + y).natAbs = Y - X by omega, decide_eq_false (show ¬ x + y < 0 by omega), decide_eq_false hn2]
  · have hn2 : n2 < 0 := by simpa [hn] using h
    rw [if_neg hn] at e1
    rw [if_pos hn2] at e2
    rw [show (x + y).natAbs = Y - X by omega, decide_eq_true (show x + y < 0 by omega), decide_eq_true hn2]
theorem add_diff2 (h : decide (n1 < 0) ≠ decide (n2 < 0)) (hl : ¬ n1.natAbs * D2 < n2.natAbs * D1) : addS n1 D1 n2 D2 = lowS (decide (n1 < 0)) (n1.natAbs * D2 - n2.natAbs * D1) (D1 * D2) := by
  unfold addS
  have e1 := abs_prod n1 D2
  have e2 := abs_prod n2 D1
  rw [← Int.natCast_mul, Int.natAbs_natCast]
  generalize n1.natAbs * D2 = X at *
  generalize n2.natAbs * D1 = Y at *
  generalize n1 * (D2 : Int) = x at *
  generalize n2 * (D1 : Int) = y at *
  by_cases hn : n1 < 0
  · have hn2 : ¬ n2 < 0 := by simpa [hn] using h
    rw [if_pos hn] at e1
    rw [if_neg hn2] at e2
    rw [show (x + y).natAbs = X - Y by omega]
    rcases Nat.eq_zero_or_pos (X - Y) with h0 | h0
    · rw [h0, lowS_zero _ _, lowS_zero (decide (n1 < 0)) _]
    · rw [decide_eq_true (show x + y < 0 by omega), decide_eq_true hn]
  · have hn2 : n2 < 0 := by simpa [hn] using h
    rw [if_neg hn] at e1
    rw [if_pos hn2] at e2
    rw [show (x + y).natAbs = X - Y by omega, decide_eq_false (show ¬ x + y < 0 by omega), decide_eq_false hn]
end

end Go.Proofs.Ytnhbidagnomkpaa
