/-
  The contract of the program's Deductions at an empty list.
-/
import Derived.Test.YthpknbflmcoanaaDoorDedR
namespace Go.Proofs.YthpknbflmcoanaaDoor
open Go.RowKit Mny

theorem valG_nil : valG [] = true := by decide

set_option maxRecDepth 100000 in
set_option maxHeartbeats 16000000 in
theorem red_Deductions0 (rt : List Rt) (A : Option Addr) (cc : Nat) (v : Value) (m : Int) (w : World) (hT : Tab w v rt) :
    Calls Tryd.prog 29 #[.slice A 0 cc, v, .int .i64 m] w (DedOut w (dedR [] rt m).1 (dedR [] rt m).2) := by
  have HT := Lib.hid hT
  clear hT
  by_cases hm0 : m < 0
  · have m0 : decide (m < 0) = true := decide_eq_true hm0
    have HF := Lib.hid (dedR_2 (l := []) (rt := rt) (show inB 0 2399 m = false by unfold inB; simp; omega))
    go_enter Tryd.func29, Tryd.ntmps29
    go_wp2_with fail
    refine (red_Valid0 A cc w).mono ?_
    rintro e w1 ⟨rfl, hb1⟩
    have HB1 := Lib.hid hb1
    go_wp2
    refine bodyPost_ret (v := .tuple #[.slice none 0 0, .int .i64 1]) (by simp [results, Tryd.results29, go_sem]) rfl ⟨.slice none 0 0, by rw [HF.out], .inl ⟨_, _, rfl, by rw [HF.out]⟩, ?_⟩
    exact (by repeat (first | (with_reducible exact Below.refl _ _) | (with_reducible assumption) | (with_reducible refine below_drewN ?_ _) | (with_reducible refine Below.drew ?_) | (with_reducible refine Below.alloc ?_ ?_ _) | (with_reducible refine Below.setCell ?_ ?_ _) | exact Below.refl _ _ | assumption | (solve | omega | simp | (simp; omega))))
  · have m0 : decide (m < 0) = false := decide_eq_false hm0
    by_cases hm1 : 2399 < m
    · have m1 : decide (2399 < m) = true := decide_eq_true hm1
      have HF := Lib.hid (dedR_2 (l := []) (rt := rt) (show inB 0 2399 m = false by unfold inB; simp; omega))
      go_enter Tryd.func29, Tryd.ntmps29
      go_wp2_with fail
      refine (red_Valid0 A cc w).mono ?_
      rintro e w1 ⟨rfl, hb1⟩
      have HB1 := Lib.hid hb1
      go_wp2
      refine bodyPost_ret (v := .tuple #[.slice none 0 0, .int .i64 1]) (by simp [results, Tryd.results29, go_sem]) rfl ⟨.slice none 0 0, by rw [HF.out], .inl ⟨_, _, rfl, by rw [HF.out]⟩, ?_⟩
      exact (by repeat (first | (with_reducible exact Below.refl _ _) | (with_reducible assumption) | (with_reducible refine below_drewN ?_ _) | (with_reducible refine Below.drew ?_) | (with_reducible refine Below.alloc ?_ ?_ _) | (with_reducible refine Below.setCell ?_ ?_ _) | exact Below.refl _ _ | assumption | (solve | omega | simp | (simp; omega))))
    · have m1 : decide (2399 < m) = false := decide_eq_false hm1
      by_cases hc : chkS rt = 0
      · have hcz : (chkS rt != 0) = false := bne_eq_false_iff_eq.2 hc
        have HF := Lib.hid (dedR_ok (l := []) valG_nil (show inB 0 2399 m = true by unfold inB; simp; omega) hc)
        obtain ⟨i0, hi, hz0, hz1, hz2⟩ := info_parts info_nums
        have hmk := fun W => make_row (P := Tryd.prog) W 70 35 i0 (.slice none 0 0) Tryd.underlying70 hi hz0 0 (by rw [hz2]; omega) (by omega)
        rw [hz1, Nat.mul_one] at hmk
        have hmk2 := hmk
        rw [show ((0 : Nat) : Int) = 0 from rfl] at hmk
        clear hmk2
        go_enter Tryd.func29, Tryd.ntmps29
        go_wp2_with fail
        refine (red_Valid0 A cc w).mono ?_
        rintro e w1 ⟨rfl, hb1⟩
        have HB1 := Lib.hid hb1
        clear hb1
        go_wp2_with fail
        refine (money_CheckRates (HT.out.below HB1.out)).mono ?_
        rintro e w2 ⟨rfl, hb2⟩
        have HB2 := Lib.hid (below_then HB1.out hb2)
        clear hb2
        have hb2 := HB2.out
        have hs2 := hb2.size
        go_wp2
        refine wp_loop_rounds 1 ?_
        rw [rounds_succ]
        go_wp2
        refine wp_loop_rounds 1 ?_
        rw [rounds_succ]
        go_wp2
        refine bodyPost_ret (v := .tuple #[.slice none 0 0, .int .i64 0]) (by simp [results, Tryd.results29, go_sem]) rfl ⟨.slice none 0 0, by rw [HF.out], .inl ⟨_, _, rfl, by rw [HF.out]; rfl⟩, ?_⟩
        exact (by repeat (first | (with_reducible exact Below.refl _ _) | (with_reducible assumption) | (with_reducible refine below_drewN ?_ _) | (with_reducible refine Below.drew ?_) | (with_reducible refine Below.alloc ?_ ?_ _) | (with_reducible refine Below.setCell ?_ ?_ _) | exact Below.refl _ _ | assumption | (solve | omega | simp | (simp; omega))))
      · have hcn : (chkS rt != 0) = true := bne_iff_ne.2 hc
        have HF := Lib.hid (dedR_3 (l := []) (m := m) hc)
        go_enter Tryd.func29, Tryd.ntmps29
        go_wp2_with fail
        refine (red_Valid0 A cc w).mono ?_
        rintro e w1 ⟨rfl, hb1⟩
        have HB1 := Lib.hid hb1
        clear hb1
        go_wp2_with fail
        refine (money_CheckRates (HT.out.below HB1.out)).mono ?_
        rintro e w2 ⟨rfl, hb2⟩
        have HB2 := Lib.hid (below_then HB1.out hb2)
        clear hb2
        have hb2 := HB2.out
        go_wp2
        refine bodyPost_ret (v := .tuple #[.slice none 0 0, .int .i64 1]) (by simp [results, Tryd.results29, go_sem]) rfl ⟨.slice none 0 0, by rw [HF.out], .inl ⟨_, _, rfl, by rw [HF.out]⟩, ?_⟩
        exact (by repeat (first | (with_reducible exact Below.refl _ _) | (with_reducible assumption) | (with_reducible refine below_drewN ?_ _) | (with_reducible refine Below.drew ?_) | (with_reducible refine Below.alloc ?_ ?_ _) | (with_reducible refine Below.setCell ?_ ?_ _) | exact Below.refl _ _ | assumption | (solve | omega | simp | (simp; omega))))
end Go.Proofs.YthpknbflmcoanaaDoor
