/-
  The contracts of Round, of the program and of the reference: both are roundS.
-/
import Derived.Test.YtnhbidagnomkpaaChain
namespace Go.Proofs.Ytnhbidagnomkpaa
open Go.RowKit Mny

/-- what Round returns -/
def roundS (n d m u : Int) : Int × Int := if validF n d && validR m u then rnd m u n d else (0, 1)
theorem roundS_no1 {n d m u : Int} (h : validF n d = false) : roundS n d m u = (0, 1) := by unfold roundS; rw [h]; rfl
theorem roundS_no2 {n d m u : Int} (h : validR m u = false) : roundS n d m u = (0, 1) := by unfold roundS; rw [h, Bool.and_false]; rfl
theorem roundS_yes {n d m u : Int} (h : validF n d = true) (h2 : validR m u = true) : roundS n d m u = rnd m u n d := by unfold roundS; rw [h, h2]; rfl

set_option maxRecDepth 100000 in
set_option maxHeartbeats 400000 in
theorem money_Round (n d m u : Int) (w : World) :
    Calls Try.prog 16 #[.agg #[.int .i64 n, .int .i64 d], .agg #[.int .i64 m, .int .i64 u]] w fun e w' => e = IE (roundS n d m u) ∧ Below w.heap.size w w' := by
  cases hv : validF n d
  · have HF := Lib.hid (roundS_no1 (m := m) (u := u) hv)
    go_enter Try.func16, Try.ntmps16
    go_wp2_with fail
    refine (rat_Valid n d _).mono ?_
    rintro e w1 ⟨rfl, hb1⟩
    have HB1 := Lib.hid (below_then (w := w) (by repeat (first | (with_reducible exact Below.refl _ _) | (with_reducible assumption) | (with_reducible refine below_drewN ?_ _) | (with_reducible refine Below.drew ?_) | (with_reducible refine Below.alloc ?_ ?_ _) | (with_reducible refine Below.setCell ?_ ?_ _) | exact Below.refl _ _ | assumption | (solve | omega | simp | (simp; omega)))) hb1)
    go_wp2
    go_ret2
    exact ⟨by rw [HF.out]; rfl, HB1.out⟩
  · cases hr : validR m u
    · have HF := Lib.hid (roundS_no2 (n := n) (d := d) hr)
      go_enter Try.func16, Try.ntmps16
      go_wp2_with fail
      refine (rat_Valid n d _).mono ?_
      rintro e w1 ⟨rfl, hb1⟩
      have HB1 := Lib.hid (below_then (w := w) (by repeat (first | (with_reducible exact Below.refl _ _) | (with_reducible assumption) | (with_reducible refine below_drewN ?_ _) | (with_reducible refine Below.drew ?_) | (with_reducible refine Below.alloc ?_ ?_ _) | (with_reducible refine Below.setCell ?_ ?_ _) | exact Below.refl _ _ | assumption | (solve | omega | simp | (simp; omega)))) hb1)
      have B1 := Lib.hid (((Bx.made w 23 #[.int .i64 n, .int .i64 d] rfl).alloc (.cells #[.int .i64 m, .int .i64 u] 25)).below hb1)
      have B2 := Lib.hid ((Bx.made (w.alloc (.cells #[.int .i64 n, .int .i64 d] 23)) 25 #[.int .i64 m, .int .i64 u] (g := w.heap.size + 1) (by simp)).below hb1)
      have cm : w1.cell? ⟨w.heap.size + 1, 0, none⟩ = some (.int .i64 m) := B2.out.cell 0
      have cu : w1.cell? ⟨w.heap.size + 1, 1, none⟩ = some (.int .i64 u) := B2.out.cell 1
      go_wp2_with fail
      refine (money_ValidRounding m u _).mono ?_
      rintro e w2 ⟨rfl, hb2⟩
      have HB2 := Lib.hid (below_then HB1.out hb2)
      go_wp2
      go_ret2
      exact ⟨by rw [HF.out]; rfl, HB2.out⟩
    · have HF := Lib.hid (roundS_yes hv hr)
      obtain ⟨v1, v2, v3, v4, _⟩ := validF_iff.1 hv
      obtain ⟨r1, r2, r3, r4⟩ := validR_iff.1 hr
      obtain ⟨D, rfl⟩ : ∃ D : Nat, d = (D : Int) := ⟨d.toNat, by omega⟩
      have hmul : D * u.toNat < 9223372036854775808 := by
        have : D * u.toNat ≤ 1000000000 * 100000 := Nat.mul_le_mul (by omega) (by omega)
        omega
      have HDV : Hid (∀ W, Calls Try.prog 42 #[.bool (decide (n < 0)), .int .u64 (0 : Int), .int .u64 (n.natAbs : Int), .int .u64 (D : Int), .agg #[.int .i64 m, .int .i64 u]] W fun e w' =>
        e = Rnd m u (sgnN (decide (n < 0)) (wideN 0 n.natAbs)) D ∧ Below W.heap.size W w') := Lib.hid fun W => money_divide (decide (n < 0)) 0 n.natAbs D m u W hr (by omega) (by omega) hmul
      obtain ⟨A, E, hAE⟩ : ∃ A E, rnd m u n (D : Int) = (A, E) := ⟨_, _, rfl⟩
      have hR : Rnd m u n (D : Int) = .returned (.tuple #[.int .i64 A, .int .i64 E]) := by unfold Rnd; rw [hAE]; rfl
      rw [sgn_nat, hR] at HDV
      rw [hAE] at HF
      clear hmul hAE hR
      go_enter Try.func16, Try.ntmps16
      go_wp2_with fail
      refine (rat_Valid n D _).mono ?_
      rintro e w1 ⟨rfl, hb1⟩
      have HB1 := Lib.hid (below_then (w := w) (by repeat (first | (with_reducible exact Below.refl _ _) | (with_reducible assumption) | (with_reducible refine below_drewN ?_ _) | (with_reducible refine Below.drew ?_) | (with_reducible refine Below.alloc ?_ ?_ _) | (with_reducible refine Below.setCell ?_ ?_ _) | exact Below.refl _ _ | assumption | (solve | omega | simp | (simp; omega)))) hb1)
      have B1 := Lib.hid (((Bx.made w 23 #[.int .i64 n, .int .i64 (D : Int)] rfl).alloc (.cells #[.int .i64 m, .int .i64 u] 25)).below hb1)
      have B2 := Lib.hid ((Bx.made (w.alloc (.cells #[.int .i64 n, .int .i64 (D : Int)] 23)) 25 #[.int .i64 m, .int .i64 u] (g := w.heap.size + 1) (by simp)).below hb1)
      have cm : w1.cell? ⟨w.heap.size + 1, 0, none⟩ = some (.int .i64 m) := B2.out.cell 0
      have cu : w1.cell? ⟨w.heap.size + 1, 1, none⟩ = some (.int .i64 u) := B2.out.cell 1
      go_wp2_with fail
      refine (money_ValidRounding m u _).mono ?_
      rintro e w2 ⟨rfl, hb2⟩
      have HB2 := Lib.hid (below_then HB1.out hb2)
      have cn : ∀ x : BW w2, x.val.cell? ⟨w.heap.size, 0, none⟩ = some (.int .i64 n) := BW.cells (B1.out.below hb2) 0
      have cd : ∀ x : BW w2, x.val.cell? ⟨w.heap.size, 1, none⟩ = some (.int .i64 (D : Int)) := BW.cells (B1.out.below hb2) 1
      have cm2 : ∀ x : BW w2, x.val.cell? ⟨w.heap.size + 1, 0, none⟩ = some (.int .i64 m) := BW.cells (B2.out.below hb2) 0
      have cu2 : ∀ x : BW w2, x.val.cell? ⟨w.heap.size + 1, 1, none⟩ = some (.int .i64 u) := BW.cells (B2.out.below hb2) 1
      clear hb1 hb2 cm cu
      go_wp2
      refine wp_region_below (by kernel_rfl) (by kernel_rfl) ?_
      repeat (go_big_quiet_step (((first | (go_at_call 43; refine bq_same (money_size n _ ?_ ?_) <;> omega) | (go_at_call 42; exact bq_below (HDV.out _))))))
      refine wpQuiet_nil ?_
      intro w3 hw'
      obtain ⟨⟨_, hb3⟩, rfl⟩ := hw'
      have HB3 := Lib.hid (below_then HB2.out hb3)
      go_wp2
      go_ret2
      exact ⟨by rw [HF.out]; rfl, HB3.out⟩

set_option maxRecDepth 100000 in
set_option maxHeartbeats 400000 in
theorem ref_Round (n d m u : Int) (w : World) :
    Calls Try.prog 17 #[.agg #[.int .i64 n, .int .i64 d], .agg #[.int .i64 m, .int .i64 u]] w fun e w' => e = IE (roundS n d m u) ∧ Below w.heap.size w w' := by
  cases hv : validF n d
  · have HF := Lib.hid (roundS_no1 (m := m) (u := u) hv)
    go_enter Try.func17, Try.ntmps17
    go_wp2_with fail
    refine (ref_ValidFraction n d _).mono ?_
    rintro e w1 ⟨rfl, hb1⟩
    have HB1 := Lib.hid (below_then (w := w) (by repeat (first | (with_reducible exact Below.refl _ _) | (with_reducible assumption) | (with_reducible refine below_drewN ?_ _) | (with_reducible refine Below.drew ?_) | (with_reducible refine Below.alloc ?_ ?_ _) | (with_reducible refine Below.setCell ?_ ?_ _) | exact Below.refl _ _ | assumption | (solve | omega | simp | (simp; omega)))) hb1)
    go_wp2
    go_ret2
    exact ⟨by rw [HF.out]; rfl, HB1.out⟩
  · cases hr : validR m u
    · have HF := Lib.hid (roundS_no2 (n := n) (d := d) hr)
      go_enter Try.func17, Try.ntmps17
      go_wp2_with fail
      refine (ref_ValidFraction n d _).mono ?_
      rintro e w1 ⟨rfl, hb1⟩
      have HB1 := Lib.hid (below_then (w := w) (by repeat (first | (with_reducible exact Below.refl _ _) | (with_reducible assumption) | (with_reducible refine below_drewN ?_ _) | (with_reducible refine Below.drew ?_) | (with_reducible refine Below.alloc ?_ ?_ _) | (with_reducible refine Below.setCell ?_ ?_ _) | exact Below.refl _ _ | assumption | (solve | omega | simp | (simp; omega)))) hb1)
      have B1 := Lib.hid (((Bx.made w 23 #[.int .i64 n, .int .i64 d] rfl).alloc (.cells #[.int .i64 m, .int .i64 u] 25)).below hb1)
      have B2 := Lib.hid ((Bx.made (w.alloc (.cells #[.int .i64 n, .int .i64 d] 23)) 25 #[.int .i64 m, .int .i64 u] (g := w.heap.size + 1) (by simp)).below hb1)
      have cm : w1.cell? ⟨w.heap.size + 1, 0, none⟩ = some (.int .i64 m) := B2.out.cell 0
      have cu : w1.cell? ⟨w.heap.size + 1, 1, none⟩ = some (.int .i64 u) := B2.out.cell 1
      go_wp2_with fail
      refine (ref_ValidRounding m u _).mono ?_
      rintro e w2 ⟨rfl, hb2⟩
      have HB2 := Lib.hid (below_then HB1.out hb2)
      go_wp2
      go_ret2
      exact ⟨by rw [HF.out]; rfl, HB2.out⟩
    · have HF := Lib.hid (roundS_yes hv hr)
      obtain ⟨v1, v2, v3, v4, _⟩ := validF_iff.1 hv
      obtain ⟨r1, r2, r3, r4⟩ := validR_iff.1 hr
      obtain ⟨D, rfl⟩ : ∃ D : Nat, d = (D : Int) := ⟨d.toNat, by omega⟩
      have hmul : D * u.toNat < 9223372036854775808 := by
        have : D * u.toNat ≤ 1000000000 * 100000 := Nat.mul_le_mul (by omega) (by omega)
        omega
      have HDV : Hid (∀ W, Calls Try.prog 44 #[.bool (decide (n < 0)), .agg #[.int .u64 (0 : Int), .int .u64 (n.natAbs : Int)], .int .u64 (D : Int), .agg #[.int .i64 m, .int .i64 u]] W fun e w' =>
        e = Rnd m u (sgnN (decide (n < 0)) (wideN 0 n.natAbs)) D ∧ Below W.heap.size W w') := Lib.hid fun W => ref_rounded (decide (n < 0)) 0 n.natAbs D m u W hr (by omega) (by omega) (by omega) hmul
      obtain ⟨A, E, hAE⟩ : ∃ A E, rnd m u n (D : Int) = (A, E) := ⟨_, _, rfl⟩
      have hR : Rnd m u n (D : Int) = .returned (.tuple #[.int .i64 A, .int .i64 E]) := by unfold Rnd; rw [hAE]; rfl
      rw [sgn_nat, hR] at HDV
      rw [hAE] at HF
      clear hmul hAE hR
      go_enter Try.func17, Try.ntmps17
      go_wp2_with fail
      refine (ref_ValidFraction n D _).mono ?_
      rintro e w1 ⟨rfl, hb1⟩
      have HB1 := Lib.hid (below_then (w := w) (by repeat (first | (with_reducible exact Below.refl _ _) | (with_reducible assumption) | (with_reducible refine below_drewN ?_ _) | (with_reducible refine Below.drew ?_) | (with_reducible refine Below.alloc ?_ ?_ _) | (with_reducible refine Below.setCell ?_ ?_ _) | exact Below.refl _ _ | assumption | (solve | omega | simp | (simp; omega)))) hb1)
      have B1 := Lib.hid (((Bx.made w 23 #[.int .i64 n, .int .i64 (D : Int)] rfl).alloc (.cells #[.int .i64 m, .int .i64 u] 25)).below hb1)
      have B2 := Lib.hid ((Bx.made (w.alloc (.cells #[.int .i64 n, .int .i64 (D : Int)] 23)) 25 #[.int .i64 m, .int .i64 u] (g := w.heap.size + 1) (by simp)).below hb1)
      have cm : w1.cell? ⟨w.heap.size + 1, 0, none⟩ = some (.int .i64 m) := B2.out.cell 0
      have cu : w1.cell? ⟨w.heap.size + 1, 1, none⟩ = some (.int .i64 u) := B2.out.cell 1
      go_wp2_with fail
      refine (ref_ValidRounding m u _).mono ?_
      rintro e w2 ⟨rfl, hb2⟩
      have HB2 := Lib.hid (below_then HB1.out hb2)
      have cn : ∀ x : BW w2, x.val.cell? ⟨w.heap.size, 0, none⟩ = some (.int .i64 n) := BW.cells (B1.out.below hb2) 0
      have cd : ∀ x : BW w2, x.val.cell? ⟨w.heap.size, 1, none⟩ = some (.int .i64 (D : Int)) := BW.cells (B1.out.below hb2) 1
      have cm2 : ∀ x : BW w2, x.val.cell? ⟨w.heap.size + 1, 0, none⟩ = some (.int .i64 m) := BW.cells (B2.out.below hb2) 0
      have cu2 : ∀ x : BW w2, x.val.cell? ⟨w.heap.size + 1, 1, none⟩ = some (.int .i64 u) := BW.cells (B2.out.below hb2) 1
      clear hb1 hb2 cm cu
      go_wp2
      refine wp_region_below (by kernel_rfl) (by kernel_rfl) ?_
      repeat (go_big_quiet_step (((first | (go_at_call 45; refine bq_same (ref_size n _ ?_ ?_) <;> omega) | (go_at_call 44; exact bq_below (HDV.out _))))))
      refine wpQuiet_nil ?_
      intro w3 hw'
      obtain ⟨⟨_, hb3⟩, rfl⟩ := hw'
      have HB3 := Lib.hid (below_then HB2.out hb3)
      go_wp2
      go_ret2
      exact ⟨by rw [HF.out]; rfl, HB3.out⟩
end Go.Proofs.Ytnhbidagnomkpaa
