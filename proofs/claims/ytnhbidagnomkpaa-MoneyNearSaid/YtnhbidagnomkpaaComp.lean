/-
  The contract of the reference's Compare.
-/
import Derived.Test.YtnhbidagnomkpaaCompare
namespace Go.Proofs.Ytnhbidagnomkpaa
open Go.RowKit Mny

/-- what Compare returns -/
def compS (n1 d1 n2 d2 : Int) : Int × Int := if validF n1 d1 && validF n2 d2 then (cmpF n1 d1 n2 d2, 0) else (0, 1)
section
variable {n1 d1 n2 d2 : Int}
theorem compS_no1 (h : validF n1 d1 = false) : compS n1 d1 n2 d2 = (0, 1) := by unfold compS; rw [h]; rfl
theorem compS_no2 (h : validF n2 d2 = false) : compS n1 d1 n2 d2 = (0, 1) := by unfold compS; rw [h, Bool.and_false]; rfl
theorem compS_yes (h : validF n1 d1 = true) (h2 : validF n2 d2 = true) : compS n1 d1 n2 d2 = (cmpF n1 d1 n2 d2, 0) := by unfold compS; rw [h, h2]; rfl
end

set_option maxRecDepth 100000 in
set_option maxHeartbeats 1000000 in
theorem ref_Compare (n1 d1 n2 d2 : Int) (w : World) :
    Calls Try.prog 21 #[.agg #[.int .i64 n1, .int .i64 d1], .agg #[.int .i64 n2, .int .i64 d2]] w fun e w' => e = IE (compS n1 d1 n2 d2) ∧ Below w.heap.size w w' := by
  cases hv : validF n1 d1
  · have HF := Lib.hid (compS_no1 (n2 := n2) (d2 := d2) hv)
    go_enter Try.func21, Try.ntmps21
    go_wp2_with fail
    refine (ref_ValidFraction n1 d1 _).mono ?_
    rintro e w1 ⟨rfl, hb1⟩
    have HB1 := Lib.hid (below_then (w := w) (by repeat (first | (with_reducible exact Below.refl _ _) | (with_reducible assumption) | (with_reducible refine below_drewN ?_ _) | (with_reducible refine Below.drew ?_) | (with_reducible refine Below.alloc ?_ ?_ _) | (with_reducible refine Below.setCell ?_ ?_ _) | exact Below.refl _ _ | assumption | (solve | omega | simp | (simp; omega)))) hb1)
    go_wp2
    go_ret2
    exact ⟨by rw [HF.out]; rfl, HB1.out⟩
  · cases hr : validF n2 d2
    · have HF := Lib.hid (compS_no2 (n1 := n1) (d1 := d1) hr)
      go_enter Try.func21, Try.ntmps21
      go_wp2_with fail
      refine (ref_ValidFraction n1 d1 _).mono ?_
      rintro e w1 ⟨rfl, hb1⟩
      have HB1 := Lib.hid (below_then (w := w) (by repeat (first | (with_reducible exact Below.refl _ _) | (with_reducible assumption) | (with_reducible refine below_drewN ?_ _) | (with_reducible refine Below.drew ?_) | (with_reducible refine Below.alloc ?_ ?_ _) | (with_reducible refine Below.setCell ?_ ?_ _) | exact Below.refl _ _ | assumption | (solve | omega | simp | (simp; omega)))) hb1)
      have B2 := Lib.hid ((Bx.made (w.alloc (.cells #[.int .i64 n1, .int .i64 d1] 23)) 23 #[.int .i64 n2, .int .i64 d2] (g := w.heap.size + 1) (by simp)).below hb1)
      obtain ⟨c2, r2⟩ := B2.out.of
      clear hb1
      go_wp2_with fail
      refine (ref_ValidFraction n2 d2 _).mono ?_
      rintro e w2 ⟨rfl, hb2⟩
      have HB2 := Lib.hid (below_then HB1.out hb2)
      go_wp2
      go_ret2
      exact ⟨by rw [HF.out]; rfl, HB2.out⟩
    · have HF := Lib.hid (compS_yes hv hr)
      have hor := fun W => ref_order n1 d1 n2 d2 W hv hr
      obtain ⟨C, hC⟩ : ∃ C, cmpF n1 d1 n2 d2 = C := ⟨_, rfl⟩
      rw [hC] at hor HF
      have HOR := Lib.hid hor
      clear hor hC
      go_enter Try.func21, Try.ntmps21
      go_wp2_with fail
      refine (ref_ValidFraction n1 d1 _).mono ?_
      rintro e w1 ⟨rfl, hb1⟩
      have HB1 := Lib.hid (below_then (w := w) (by repeat (first | (with_reducible exact Below.refl _ _) | (with_reducible assumption) | (with_reducible refine below_drewN ?_ _) | (with_reducible refine Below.drew ?_) | (with_reducible refine Below.alloc ?_ ?_ _) | (with_reducible refine Below.setCell ?_ ?_ _) | exact Below.refl _ _ | assumption | (solve | omega | simp | (simp; omega)))) hb1)
      have B1 := Lib.hid (((Bx.made w 23 #[.int .i64 n1, .int .i64 d1] rfl).alloc (.cells #[.int .i64 n2, .int .i64 d2] 23)).below hb1)
      have B2 := Lib.hid ((Bx.made (w.alloc (.cells #[.int .i64 n1, .int .i64 d1] 23)) 23 #[.int .i64 n2, .int .i64 d2] (g := w.heap.size + 1) (by simp)).below hb1)
      obtain ⟨c2, r2⟩ := B2.out.of
      clear hb1
      go_wp2_with fail
      refine (ref_ValidFraction n2 d2 _).mono ?_
      rintro e w2 ⟨rfl, hb2⟩
      have HB2 := Lib.hid (below_then HB1.out hb2)
      obtain ⟨c12, r12⟩ := (B1.out.below hb2).of
      obtain ⟨c22, r22⟩ := (B2.out.below hb2).of
      clear hb2 c2 r2
      go_wp2_with fail
      refine (HOR.out _).mono ?_
      rintro e w3 ⟨rfl, hb3⟩
      have HB3 := Lib.hid (below_then HB2.out hb3)
      go_wp2
      go_ret2
      exact ⟨by rw [HF.out]; rfl, HB3.out⟩
end Go.Proofs.Ytnhbidagnomkpaa
