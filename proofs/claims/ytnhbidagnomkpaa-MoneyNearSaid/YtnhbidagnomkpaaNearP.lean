/-
  Plain lemmas for MoneyNear: how far a rounded number lies from what was rounded; no program is in sight here.
-/
import Derived.Test.YtnhbidagnomkpaaLowest
namespace Go.Proofs.Ytnhbidagnomkpaa
open Go.RowKit Mny

/-- a fraction in lowest terms out of a number with a sign: what it is -/
theorem lowS_ok {neg : Bool} {N d : Nat} {fn fd : Int} (hd : 0 < d) (h : lowS neg N d = (fn, fd, 0)) : validF fn fd = true ∧ fn * (d : Int) = sgnN neg N * fd := by
  unfold lowS at h
  split at h
  · injection h with _ h; injection h with _ h; cases h
  · rename_i hb
    injection h with e1 h
    injection h with e2 _
    have hg : 0 < Nat.gcd N d := Nat.gcd_pos_of_pos_right _ hd
    have hN := Nat.div_mul_cancel (Nat.gcd_dvd_left N d)
    have hD := Nat.div_mul_cancel (Nat.gcd_dvd_right N d)
    have hc : Nat.gcd (N / Nat.gcd N d) (d / Nat.gcd N d) = 1 := by rw [Nat.gcd_div (Nat.gcd_dvd_left N d) (Nat.gcd_dvd_right N d), Nat.div_self hg]
    have hd1 : 1 ≤ d / Nat.gcd N d := Nat.div_pos (Nat.gcd_le_right _ hd) hg
    generalize Nat.gcd N d = g at *
    generalize N / g = a at *
    generalize d / g = b at *
    subst hN hD
    have hs : (sgnN neg a).natAbs = a := by unfold sgnN; cases neg <;> simp
    refine ⟨?_, ?_⟩
    · rw [← e1, ← e2, validF_iff, hs, Int.natAbs_natCast]
      have : -(a : Int) ≤ sgnN neg a ∧ sgnN neg a ≤ a := by unfold sgnN; cases neg <;> simp <;> omega
      exact ⟨by omega, by omega, by omega, by omega, hc⟩
    · rw [← e1, ← e2]
      unfold sgnN
      cases neg
      · simp only [Bool.false_eq_true, if_false]; rw [Int.natCast_mul, Int.natCast_mul]; rw [← Int.mul_assoc, Int.mul_assoc (a : Int) (g : Int) (b : Int), Int.mul_comm (g : Int) (b : Int), ← Int.mul_assoc]
      · simp only [if_true]; rw [Int.natCast_mul, Int.natCast_mul, Int.neg_mul, Int.neg_mul, ← Int.mul_assoc, Int.mul_assoc (a : Int) (g : Int) (b : Int), Int.mul_comm (g : Int) (b : Int), ← Int.mul_assoc]

/-- how far a multiple of P lies from N, by the mode -/
theorem near_bd {m N P : Int} (hP : 0 < P) (hm : 1 ≤ m ∧ m ≤ 4) :
    (m = 1 → 0 ≤ N - units m N P * P ∧ N - units m N P * P < P) ∧
    (m = 2 → N - units m N P * P ≤ 0 ∧ -P < N - units m N P * P) ∧
    (m = 3 → 2 * (N - units m N P * P) < P ∧ -P ≤ 2 * (N - units m N P * P)) ∧
    (m = 4 → 2 * (N - units m N P * P) ≤ P ∧ -P ≤ 2 * (N - units m N P * P) ∧ (2 * (N - units m N P * P) = P ∨ 2 * (N - units m N P * P) = -P → units m N P % 2 = 0)) := by
  have e := Int.mul_ediv_add_emod N P
  have r0 := Int.emod_nonneg N (show P ≠ 0 by omega)
  have r1 := Int.emod_lt_of_pos N hP
  unfold units
  generalize N / P = q at *
  generalize N % P = r at *
  subst e
  have key : ∀ t : Int, P * q + r - (q + t) * P = r - t * P := fun t => by rw [Int.add_mul, Int.mul_comm P q]; omega
  rw [key]
  refine ⟨fun h => ?_, fun h => ?_, fun h => ?_, fun h => ?_⟩
  · subst h
    have : upB 1 r P q = false := by unfold upB; simp
    rw [this]; simp; omega
  · subst h
    by_cases hr : 0 < r
    · have : upB 2 r P q = true := by unfold upB; simp [hr]
      rw [this]; simp; omega
    · have : upB 2 r P q = false := by unfold upB; simp [hr]
      rw [this]; simp; omega
  · subst h
    by_cases hr : P - r ≤ r
    · have : upB 3 r P q = true := by unfold upB; simp [hr]
      rw [this]; simp; omega
    · have : upB 3 r P q = false := by unfold upB; simp [hr]
      rw [this]; simp; omega
  · subst h
    by_cases hr : P - r < r
    · have : upB 4 r P q = true := by unfold upB; simp [hr]
      rw [this]; simp; omega
    · by_cases he : r = P - r
      · by_cases hq : q % 2 = 0
        · have : upB 4 r P q = false := by unfold upB; first | (simp [hr, hq]; done) | (simp [hq]; omega)
          rw [this]; simp; omega
        · have : upB 4 r P q = true := by unfold upB; first | (simp [hr, hq]; omega) | (simp [hq]; omega) | (simp [hr, ← he, hq]; done)
          rw [this]; simp; omega
      · have : upB 4 r P q = false := by unfold upB; first | (simp [hr, he]; done) | (simp [he]; done)
        rw [this]; simp; omega
end Go.Proofs.Ytnhbidagnomkpaa
