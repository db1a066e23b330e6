/-
  The reference's rounding down, its look at a month and rates.
-/
import Derived.Test.YthpknbflmcoanaaDoorDedR
namespace Go.Proofs.YthpknbflmcoanaaDoor
open Go.RowKit Mny

theorem ref_down (w : World) : Calls Tryd.prog 64 #[] w fun e w' => e = .returned (.agg #[.int .i64 1, .int .i64 1]) ∧ Below w.heap.size w w' := by
  go_enter Tryd.func64, Tryd.ntmps64
  go_wp2
  refine bodyPost_ret (v := .agg #[.int .i64 1, .int .i64 1]) (by simp [results, Tryd.results64, go_sem]) rfl ⟨rfl, ?_⟩
  exact (by repeat (first | (with_reducible exact Below.refl _ _) | (with_reducible assumption) | (with_reducible refine below_drewN ?_ _) | (with_reducible refine Below.drew ?_) | (with_reducible refine Below.alloc ?_ ?_ _) | (with_reducible refine Below.setCell ?_ ?_ _) | exact Below.refl _ _ | assumption | (solve | omega | simp | (simp; omega))))
theorem ref_okRates (v : Value) (l : List Rt) (m : Int) (w : World) (hT : Tab w v l) : Calls Tryd.prog 48 #[v, .int .i64 m] w fun e w' => e = .returned (.bool (inB 0 2399 m && decide (chkS l = 0))) ∧ Below w.heap.size w w' := by
  have HT := Lib.hid hT
  clear hT
  cases hm : inB 0 2399 m
  · have hM := fun W => ref_ValidMonth m W
    rw [hm] at hM
    have HM := Lib.hid hM
    clear hM hm
    go_enter Tryd.func48, Tryd.ntmps48
    go_wp2_with fail
    refine (HM.out _).mono ?_
    rintro e _ ⟨rfl, rfl⟩
    go_wp2
    go_ret
    exact ⟨rfl, (by repeat (first | (with_reducible exact Below.refl _ _) | (with_reducible assumption) | (with_reducible refine below_drewN ?_ _) | (with_reducible refine Below.drew ?_) | (with_reducible refine Below.alloc ?_ ?_ _) | (with_reducible refine Below.setCell ?_ ?_ _) | exact Below.refl _ _ | assumption | (solve | omega | simp | (simp; omega))))⟩
  · have hM := fun W => ref_ValidMonth m W
    rw [hm] at hM
    have HM := Lib.hid hM
    clear hM hm
    have hcr := fun (W : World) (h : Below w.heap.size w W) => ref_CheckRates (HT.out.below h)
    by_cases hc : chkS l = 0
    · have c1 : (chkS l == 0) = true := beq_iff_eq.2 hc
      have c2 : decide (chkS l = 0) = true := decide_eq_true hc
      go_enter Tryd.func48, Tryd.ntmps48
      go_wp2_with fail
      refine (HM.out _).mono ?_
      rintro e _ ⟨rfl, rfl⟩
      go_wp2_with fail
      refine (hcr _ (by repeat (first | (with_reducible exact Below.refl _ _) | (with_reducible assumption) | (with_reducible refine below_drewN ?_ _) | (with_reducible refine Below.drew ?_) | (with_reducible refine Below.alloc ?_ ?_ _) | (with_reducible refine Below.setCell ?_ ?_ _) | exact Below.refl _ _ | assumption | (solve | omega | simp | (simp; omega))))).mono ?_
      rintro e w2 ⟨rfl, hb2⟩
      go_wp2
      go_ret
      exact ⟨by simp [c2], hb2⟩
    · have c1 : (chkS l == 0) = false := beq_eq_false_iff_ne.2 hc
      have c2 : decide (chkS l = 0) = false := decide_eq_false hc
      go_enter Tryd.func48, Tryd.ntmps48
      go_wp2_with fail
      refine (HM.out _).mono ?_
      rintro e _ ⟨rfl, rfl⟩
      go_wp2_with fail
      refine (hcr _ (by repeat (first | (with_reducible exact Below.refl _ _) | (with_reducible assumption) | (with_reducible refine below_drewN ?_ _) | (with_reducible refine Below.drew ?_) | (with_reducible refine Below.alloc ?_ ?_ _) | (with_reducible refine Below.setCell ?_ ?_ _) | exact Below.refl _ _ | assumption | (solve | omega | simp | (simp; omega))))).mono ?_
      rintro e w2 ⟨rfl, hb2⟩
      go_wp2
      go_ret
      exact ⟨by simp [c2], hb2⟩
end Go.Proofs.YthpknbflmcoanaaDoor
