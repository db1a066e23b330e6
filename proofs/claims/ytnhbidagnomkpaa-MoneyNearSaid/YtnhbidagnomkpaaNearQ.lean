/-
  Plain lemmas for MoneyNear: the difference of a fraction and its rounded value, beside the unit and its half.
-/
import Derived.Test.YtnhbidagnomkpaaNearP
import Derived.Test.YtnhbidagnomkpaaAddP
import Derived.Test.YtnhbidagnomkpaaMade
namespace Go.Proofs.Ytnhbidagnomkpaa
open Go.RowKit Mny

/-- the sign of a number -/
def sg (x : Int) : Int := if x < 0 then -1 else if 0 < x then 1 else 0
theorem cmpF_sg (n1 d1 n2 d2 : Int) : cmpF n1 d1 n2 d2 = sg (n1 * d2 - n2 * d1) := by
  unfold cmpF sg
  generalize n1 * d2 = x
  generalize n2 * d1 = y
  by_cases h : x < y
  · rw [if_pos h, if_pos (show x - y < 0 by omega)]
  · rw [if_neg h, if_neg (show ¬ x - y < 0 by omega)]
    by_cases h2 : y < x
    · rw [if_pos h2, if_pos (show 0 < x - y by omega)]
    · rw [if_neg h2, if_neg (show ¬ 0 < x - y by omega)]
theorem sg_pos {x k : Int} (hk : 0 < k) : sg (x * k) = sg x := by
  unfold sg
  by_cases h : x < 0
  · rw [if_pos h, if_pos (Int.mul_neg_of_neg_of_pos h hk)]
  · rw [if_neg h, if_neg (by have := Int.mul_nonneg (show 0 ≤ x by omega) (show 0 ≤ k by omega); omega)]
    by_cases h2 : 0 < x
    · rw [if_pos h2, if_pos (Int.mul_pos h2 hk)]
    · rw [if_neg h2, if_neg (by have : x = 0 := by omega
                                subst this; simp)]
theorem sg_of {x y k l : Int} (hk : 0 < k) (hl : 0 < l) (h : x * k = y * l) : sg x = sg y := by rw [← sg_pos (x := x) hk, h, sg_pos hl]
theorem mkS_one {n : Int} (h : -1000000000000000 ≤ n ∧ n ≤ 1000000000000000) : mkS n 1 = (n, 1, 0) := by
  rw [mkS_yes (by decide), lowS_in (a := n.natAbs) (b := 1) (by simp) (by simp) (by omega)]
  unfold sgnN
  by_cases hn : n < 0
  · rw [decide_eq_true hn]; simp; omega
  · rw [decide_eq_false hn]; simp; omega
/-- half a unit -/
theorem mkS_two {u : Int} (h : 1 ≤ u ∧ u ≤ 100000) : ∃ h1 h2, mkS u 2 = (h1, h2, 0) ∧ validF h1 h2 = true ∧ h1 * 2 = u * h2 := by
  obtain ⟨h1, h2, e, hm⟩ : ∃ a b c, mkS u 2 = (a, b, c) := ⟨_, _, _, rfl⟩
  have hm' := hm
  rw [mkS_yes (by decide)] at hm
  have he : e = 0 := by
    have hd := Nat.div_le_self u.natAbs (Nat.gcd u.natAbs 2)
    have hd2 := Nat.div_le_self 2 (Nat.gcd u.natAbs 2)
    rw [show (2 : Int).natAbs = 2 from rfl, lowS_in rfl rfl (by omega)] at hm
    exact (congrArg (fun x => x.2.2) hm).symm
  subst he
  obtain ⟨hv, hx⟩ := lowS_ok (by decide) hm
  refine ⟨h1, h2, hm', hv, ?_⟩
  rw [show ((2 : Int).natAbs : Int) = 2 from rfl] at hx
  rw [hx]
  unfold sgnN
  rw [show (decide (u < 0) != decide ((2 : Int) < 0)) = false by rw [decide_eq_false (by omega)]; rfl]
  simp only [Bool.false_eq_true, if_false]
  rw [show ((u.natAbs : Nat) : Int) = u by omega]
/-- the difference: what it is -/
theorem addS_sub {n d a dn dd : Int} (hd : 1 ≤ d) (h : addS n d (-a) 1 = (dn, dd, 0)) : validF dn dd = true ∧ dn * d = (n - a * d) * dd := by
  unfold addS at h
  have e1 : n * 1 + -a * d = n - a * d := by rw [Int.mul_one, Int.neg_mul]; omega
  rw [e1, Int.mul_one] at h
  obtain ⟨hv, hx⟩ := lowS_ok (by omega) h
  refine ⟨hv, ?_⟩
  rw [show ((d.natAbs : Nat) : Int) = d by omega] at hx
  rw [hx]
  unfold sgnN
  by_cases hn : n - a * d < 0
  · rw [decide_eq_true hn]; simp only [if_true]; congr 1; omega
  · rw [decide_eq_false hn]; simp only [Bool.false_eq_true, if_false]; congr 1; omega

section
variable {n d a u dn dd h1 h2 : Int}
/-- d beside the unit -/
theorem near_a (hd : 1 ≤ d) (hdd : 1 ≤ dd) (h : dn * d = (n - a * d) * dd) : cmpF dn dd u 1 = sg (n - a * d - d * u) := by
  rw [cmpF_sg]
  refine sg_of (k := d) (l := dd) (by omega) (by omega) ?_
  rw [Int.mul_one, Int.sub_mul, h, Int.sub_mul (n - a * d), Int.mul_assoc u, Int.mul_comm dd d, ← Int.mul_assoc u, Int.mul_comm u d]
/-- the unit turned, beside d -/
theorem near_b (hd : 1 ≤ d) (hdd : 1 ≤ dd) (h : dn * d = (n - a * d) * dd) : cmpF (-u) 1 dn dd = sg (-(d * u) - (n - a * d)) := by
  rw [cmpF_sg]
  refine sg_of (k := d) (l := dd) (by omega) (by omega) ?_
  rw [Int.mul_one, Int.sub_mul, h, Int.sub_mul (-(d * u)), Int.mul_assoc, Int.mul_comm dd d, ← Int.mul_assoc, Int.neg_mul u d, Int.mul_comm u d]
/-- d beside half a unit -/
theorem near_c (hd : 1 ≤ d) (hdd : 1 ≤ dd) (hh : 1 ≤ h2) (he : h1 * 2 = u * h2) (h : dn * d = (n - a * d) * dd) : cmpF dn dd h1 h2 = sg (2 * (n - a * d) - d * u) := by
  rw [cmpF_sg]
  refine sg_of (k := 2 * d) (l := dd * h2) (by omega) (Int.mul_pos (by omega) (by omega)) ?_
  grind
/-- half a unit turned, beside d -/
theorem near_g (hd : 1 ≤ d) (hdd : 1 ≤ dd) (hh : 1 ≤ h2) (he : h1 * 2 = u * h2) (h : dn * d = (n - a * d) * dd) : cmpF (-h1) h2 dn dd = sg (-(d * u) - 2 * (n - a * d)) := by
  rw [cmpF_sg]
  refine sg_of (k := 2 * d) (l := dd * h2) (by omega) (Int.mul_pos (by omega) (by omega)) ?_
  grind
theorem near_n (hd : 1 ≤ d) (hdd : 1 ≤ dd) (h : dn * d = (n - a * d) * dd) : sg dn = sg (n - a * d) := sg_of (k := d) (l := dd) (by omega) (by omega) h
theorem sg_neg {x : Int} : sg x < 0 ↔ x < 0 := by unfold sg; split <;> (try split) <;> omega
theorem sg_le {x : Int} : sg x ≤ 0 ↔ x ≤ 0 := by unfold sg; split <;> (try split) <;> omega
theorem sg_zero {x : Int} : sg x = 0 ↔ x = 0 := by unfold sg; split <;> (try split) <;> omega
theorem sg_nonneg {x : Int} : 0 ≤ sg x ↔ 0 ≤ x := by unfold sg; split <;> (try split) <;> omega
end
end Go.Proofs.Ytnhbidagnomkpaa
