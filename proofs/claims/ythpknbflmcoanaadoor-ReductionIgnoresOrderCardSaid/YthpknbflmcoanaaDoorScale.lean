/-
  The contracts of Scale, of the program and of the reference: both are one plain function.
-/
import Derived.Test.YthpknbflmcoanaaDoorChain
namespace Go.Proofs.YthpknbflmcoanaaDoor
open Go.RowKit Mny

/-- what Scale returns -/
def scaleS (x n d m u : Int) : Int × Int := if inB (-1000000000000) 1000000000000 x && (validF n d && validR m u) then rnd m u (x * n) d else (0, 1)
section
variable {x n d m u : Int}
theorem scaleS_no0 (h : inB (-1000000000000) 1000000000000 x = false) : scaleS x n d m u = (0, 1) := by unfold scaleS; rw [h]; rfl
theorem scaleS_no1 (h : validF n d = false) : scaleS x n d m u = (0, 1) := by unfold scaleS; rw [h, Bool.false_and, Bool.and_false]; rfl
theorem scaleS_no2 (h : validR m u = false) : scaleS x n d m u = (0, 1) := by unfold scaleS; rw [h, Bool.and_false, Bool.and_false]; rfl
theorem scaleS_yes (h0 : inB (-1000000000000) 1000000000000 x = true) (h : validF n d = true) (h2 : validR m u = true) : scaleS x n d m u = rnd m u (x * n) d := by unfold scaleS; rw [h0, h, h2]; rfl
end
theorem sgn_mul2 (x n : Int) : sgnN (decide (x < 0) != decide (n < 0)) (x.natAbs * n.natAbs) = x * n := by
  have ex : ((x.natAbs : Nat) : Int) = if x < 0 then -x else x := by split <;> omega
  have en : ((n.natAbs : Nat) : Int) = if n < 0 then -n else n := by split <;> omega
  unfold sgnN
  by_cases hx : x < 0 <;> by_cases hn : n < 0
  · rw [if_pos hx] at ex; rw [if_pos hn] at en; simp [hx, hn, ex, en, Int.neg_mul, Int.mul_neg]
  · rw [if_pos hx] at ex; rw [if_neg hn] at en; simp [hx, hn, ex, en, Int.neg_mul]
  · rw [if_neg hx] at ex; rw [if_pos hn] at en; simp [hx, hn, ex, en, Int.mul_neg]
  · rw [if_neg hx] at ex; rw [if_neg hn] at en; simp [hx, hn, ex, en]

set_option maxRecDepth 100000 in
set_option maxHeartbeats 1000000 in
theorem money_Scale (x n d m u : Int) (w : World) :
    Calls Tryd.prog 47 #[.int .i64 x, .agg #[.int .i64 n, .int .i64 d], .agg #[.int .i64 m, .int .i64 u]] w fun e w' => e = IE (scaleS x n d m u) ∧ Below w.heap.size w w' := by
  cases ha : inB (-1000000000000) 1000000000000 x
  · have HF := Lib.hid (scaleS_no0 (n := n) (d := d) (m := m) (u := u) ha)
    have hAM := fun W => money_amount x W
    rw [ha] at hAM
    have HAM := Lib.hid hAM
    clear hAM
    go_enter Tryd.func47, Tryd.ntmps47
    go_wp2_with fail
    refine (HAM.out _).mono ?_
    rintro e _ ⟨rfl, rfl⟩
    go_wp2
    go_ret2
    exact ⟨by rw [HF.out]; rfl, (by repeat (first | (with_reducible exact Below.refl _ _) | (with_reducible assumption) | (with_reducible refine below_drewN ?_ _) | (with_reducible refine Below.drew ?_) | (with_reducible refine Below.alloc ?_ ?_ _) | (with_reducible refine Below.setCell ?_ ?_ _) | exact Below.refl _ _ | assumption | (solve | omega | simp | (simp; omega))))⟩
  · have hAM := fun W => money_amount x W
    rw [ha] at hAM
    have HAM := Lib.hid hAM
    clear hAM
    cases hv : validF n d
    · have HF := Lib.hid (scaleS_no1 (x := x) (m := m) (u := u) hv)
      go_enter Tryd.func47, Tryd.ntmps47
      go_wp2_with fail
      refine (HAM.out _).mono ?_
      rintro e _ ⟨rfl, rfl⟩
      go_wp2_with fail
      refine (rat_Valid n d _).mono ?_
      rintro e w1 ⟨rfl, hb1⟩
      have HB1 := Lib.hid (below_then (w := w) (by repeat (first | (with_reducible exact Below.refl _ _) | (with_reducible assumption) | (with_reducible refine below_drewN ?_ _) | (with_reducible refine Below.drew ?_) | (with_reducible refine Below.alloc ?_ ?_ _) | (with_reducible refine Below.setCell ?_ ?_ _) | exact Below.refl _ _ | assumption | (solve | omega | simp | (simp; omega)))) hb1)
      go_wp2
      go_ret2
      exact ⟨by rw [HF.out]; rfl, HB1.out⟩
    · cases hr : validR m u
      · have HF := Lib.hid (scaleS_no2 (x := x) (n := n) (d := d) hr)
        go_enter Tryd.func47, Tryd.ntmps47
        go_wp2_with fail
        refine (HAM.out _).mono ?_
        rintro e _ ⟨rfl, rfl⟩
        go_wp2_with fail
        refine (rat_Valid n d _).mono ?_
        rintro e w1 ⟨rfl, hb1⟩
        have HB1 := Lib.hid (below_then (w := w) (by repeat (first | (with_reducible exact Below.refl _ _) | (with_reducible assumption) | (with_reducible refine below_drewN ?_ _) | (with_reducible refine Below.drew ?_) | (with_reducible refine Below.alloc ?_ ?_ _) | (with_reducible refine Below.setCell ?_ ?_ _) | exact Below.refl _ _ | assumption | (solve | omega | simp | (simp; omega)))) hb1)
        have B1 := Lib.hid (((Bx.made w 25 #[.int .i64 n, .int .i64 d] rfl).alloc (.cells #[.int .i64 m, .int .i64 u] 74)).below hb1)
        have B2 := Lib.hid ((Bx.made (w.alloc (.cells #[.int .i64 n, .int .i64 d] 25)) 74 #[.int .i64 m, .int .i64 u] (g := w.heap.size + 1) (by simp)).below hb1)
        have cm : w1.cell? ⟨w.heap.size + 1, 0, none⟩ = some (.int .i64 m) := B2.out.cell 0
        have cu : w1.cell? ⟨w.heap.size + 1, 1, none⟩ = some (.int .i64 u) := B2.out.cell 1
        go_wp2_with fail
        refine (money_ValidRounding m u _).mono ?_
        rintro e w2 ⟨rfl, hb2⟩
        have HB2 := Lib.hid (below_then HB1.out hb2)
        go_wp2
        go_ret2
        exact ⟨by rw [HF.out]; rfl, HB2.out⟩
      · have HF := Lib.hid (scaleS_yes ha hv hr)
        obtain ⟨x0, x1⟩ := inB_iff.1 ha
        obtain ⟨v1, v2, v3, v4, _⟩ := validF_iff.1 hv
        obtain ⟨r1, r2, r3, r4⟩ := validR_iff.1 hr
        obtain ⟨D, rfl⟩ : ∃ D : Nat, d = (D : Int) := ⟨d.toNat, by omega⟩
        have hmul : D * u.toNat < 9223372036854775808 := by
          have : D * u.toNat ≤ 1000000000 * 100000 := Nat.mul_le_mul (by omega) (by omega)
          omega
        have hsg : sgnN (decide (x < 0) != decide (n < 0)) (x.natAbs * n.natAbs) = x * n := sgn_mul2 x n
        have hSX := fun W => money_size x W (by omega) (by omega)
        have hSZ := fun W => money_size n W (by omega) (by omega)
        obtain ⟨xx, hxx⟩ : ∃ xx, x.natAbs = xx := ⟨_, rfl⟩
        obtain ⟨nn, hnn⟩ : ∃ nn, n.natAbs = nn := ⟨_, rfl⟩
        have hxb : xx ≤ 1000000000000 := by omega
        have hnb : nn ≤ 1000000000000000 := by omega
        rw [hxx] at hSX hsg
        rw [hnn] at hSZ hsg
        clear hnn hxx
        have hPL : xx * nn < 18446744073709551616 * 18446744073709551616 := Nat.mul_lt_mul'' (by omega) (by omega)
        have hMU := fun W => mul64 xx nn (by omega) (by omega) W
        have hWN : wideN (xx * nn / 18446744073709551616) (xx * nn % 18446744073709551616) = xx * nn := by unfold wideN; omega
        have hhb : xx * nn / 18446744073709551616 < 18446744073709551616 := Nat.div_lt_of_lt_mul hPL
        have hlb : xx * nn % 18446744073709551616 < 18446744073709551616 := Nat.mod_lt _ (by decide)
        obtain ⟨hi, hhi⟩ : ∃ hi, xx * nn / 18446744073709551616 = hi := ⟨_, rfl⟩
        obtain ⟨lo, hlo⟩ : ∃ lo, xx * nn % 18446744073709551616 = lo := ⟨_, rfl⟩
        rw [hhi] at hMU hWN hhb
        rw [hlo] at hMU hWN hlb
        clear hhi hlo
        rw [← hWN] at hsg
        clear hWN hPL
        obtain ⟨A, E, hAE⟩ : ∃ A E, rnd m u (x * n) (D : Int) = (A, E) := ⟨_, _, rfl⟩
        have hR : Rnd m u (x * n) (D : Int) = .returned (.tuple #[.int .i64 A, .int .i64 E]) := by unfold Rnd; rw [hAE]; rfl
        rw [hAE] at HF
        have hDV := fun W => money_divide (decide (x < 0) != decide (n < 0)) hi lo D m u W hr (by omega) (by omega) hmul
        rw [hsg, hR] at hDV
        have HSX := Lib.hid hSX
        have HSZ := Lib.hid hSZ
        have HMU := Lib.hid hMU
        have HDV := Lib.hid hDV
        clear hmul hAE hR hsg hSX hSZ hMU hDV hxb hnb hhb hlb
        go_enter Tryd.func47, Tryd.ntmps47
        go_wp2_with fail
        refine (HAM.out _).mono ?_
        rintro e _ ⟨rfl, rfl⟩
        go_wp2_with fail
        refine (rat_Valid n (D : Int) _).mono ?_
        rintro e w1 ⟨rfl, hb1⟩
        have HB1 := Lib.hid (below_then (w := w) (by repeat (first | (with_reducible exact Below.refl _ _) | (with_reducible assumption) | (with_reducible refine below_drewN ?_ _) | (with_reducible refine Below.drew ?_) | (with_reducible refine Below.alloc ?_ ?_ _) | (with_reducible refine Below.setCell ?_ ?_ _) | exact Below.refl _ _ | assumption | (solve | omega | simp | (simp; omega)))) hb1)
        have B1 := Lib.hid (((Bx.made w 25 #[.int .i64 n, .int .i64 (D : Int)] rfl).alloc (.cells #[.int .i64 m, .int .i64 u] 74)).below hb1)
        have B2 := Lib.hid ((Bx.made (w.alloc (.cells #[.int .i64 n, .int .i64 (D : Int)] 25)) 74 #[.int .i64 m, .int .i64 u] (g := w.heap.size + 1) (by simp)).below hb1)
        have cm : w1.cell? ⟨w.heap.size + 1, 0, none⟩ = some (.int .i64 m) := B2.out.cell 0
        have cu : w1.cell? ⟨w.heap.size + 1, 1, none⟩ = some (.int .i64 u) := B2.out.cell 1
        go_wp2_with fail
        refine (money_ValidRounding m u _).mono ?_
        rintro e w2 ⟨rfl, hb2⟩
        have HB2 := Lib.hid (below_then HB1.out hb2)
        have cn : ∀ x : BW w2, x.val.cell? ⟨w.heap.size, 0, none⟩ = some (.int .i64 n) := BW.cells (B1.out.below hb2) 0
        have cd : ∀ x : BW w2, x.val.cell? ⟨w.heap.size, 1, none⟩ = some (.int .i64 (D : Int)) := BW.cells (B1.out.below hb2) 1
        have cm2 : ∀ x : BW w2, x.val.cell? ⟨w.heap.size + 1, 0, none⟩ = some (.int .i64 m) := BW.cells (B2.out.below hb2) 0
        have cu2 : ∀ x : BW w2, x.val.cell? ⟨w.heap.size + 1, 1, none⟩ = some (.int .i64 u) := BW.cells (B2.out.below hb2) 1
        clear hb1 cm cu
        go_wp2
        refine wp_region_below (by kernel_rfl) (by kernel_rfl) ?_
        repeat (go_big_quiet_step (((first | (go_at_call_of 60 (Value.int IntKind.i64 x); exact bq_same (HSX.out _)) | (go_at_call_of 60 (Value.int IntKind.i64 n); exact bq_same (HSZ.out _)) | (go_at_call 62; exact bq_same (HMU.out _))))))
        refine wpQuiet_nil ?_
        intro w3 hw'
        obtain ⟨⟨_, hb3⟩, rfl⟩ := hw'
        have HB3 := Lib.hid (below_then HB2.out hb3)
        obtain ⟨c13, r13⟩ := ((B1.out.below hb2).below hb3).of
        obtain ⟨c23, r23⟩ := ((B2.out.below hb2).below hb3).of
        clear hb2 hb3 cn cd cm2 cu2
        go_wp2_with fail
        refine (HDV.out _).mono ?_
        rintro e w4 ⟨rfl, hb4⟩
        have HB4 := Lib.hid (below_then (w := w) HB3.out hb4)
        go_wp2
        go_ret2
        exact ⟨by rw [HF.out]; rfl, HB4.out⟩

set_option maxRecDepth 100000 in
set_option maxHeartbeats 1000000 in
theorem ref_Scale (x n d m u : Int) (w : World) :
    Calls Tryd.prog 65 #[.int .i64 x, .agg #[.int .i64 n, .int .i64 d], .agg #[.int .i64 m, .int .i64 u]] w fun e w' => e = IE (scaleS x n d m u) ∧ Below w.heap.size w w' := by
  cases ha : inB (-1000000000000) 1000000000000 x
  · have HF := Lib.hid (scaleS_no0 (n := n) (d := d) (m := m) (u := u) ha)
    have hAM := fun W => ref_ValidAmount x W
    rw [ha] at hAM
    have HAM := Lib.hid hAM
    clear hAM
    go_enter Tryd.func65, Tryd.ntmps65
    go_wp2_with fail
    refine (HAM.out _).mono ?_
    rintro e _ ⟨rfl, rfl⟩
    go_wp2
    go_ret2
    exact ⟨by rw [HF.out]; rfl, (by repeat (first | (with_reducible exact Below.refl _ _) | (with_reducible assumption) | (with_reducible refine below_drewN ?_ _) | (with_reducible refine Below.drew ?_) | (with_reducible refine Below.alloc ?_ ?_ _) | (with_reducible refine Below.setCell ?_ ?_ _) | exact Below.refl _ _ | assumption | (solve | omega | simp | (simp; omega))))⟩
  · have hAM := fun W => ref_ValidAmount x W
    rw [ha] at hAM
    have HAM := Lib.hid hAM
    clear hAM
    cases hv : validF n d
    · have HF := Lib.hid (scaleS_no1 (x := x) (m := m) (u := u) hv)
      go_enter Tryd.func65, Tryd.ntmps65
      go_wp2_with fail
      refine (HAM.out _).mono ?_
      rintro e _ ⟨rfl, rfl⟩
      go_wp2_with fail
      refine (ref_ValidFraction n d _).mono ?_
      rintro e w1 ⟨rfl, hb1⟩
      have HB1 := Lib.hid (below_then (w := w) (by repeat (first | (with_reducible exact Below.refl _ _) | (with_reducible assumption) | (with_reducible refine below_drewN ?_ _) | (with_reducible refine Below.drew ?_) | (with_reducible refine Below.alloc ?_ ?_ _) | (with_reducible refine Below.setCell ?_ ?_ _) | exact Below.refl _ _ | assumption | (solve | omega | simp | (simp; omega)))) hb1)
      go_wp2
      go_ret2
      exact ⟨by rw [HF.out]; rfl, HB1.out⟩
    · cases hr : validR m u
      · have HF := Lib.hid (scaleS_no2 (x := x) (n := n) (d := d) hr)
        go_enter Tryd.func65, Tryd.ntmps65
        go_wp2_with fail
        refine (HAM.out _).mono ?_
        rintro e _ ⟨rfl, rfl⟩
        go_wp2_with fail
        refine (ref_ValidFraction n d _).mono ?_
        rintro e w1 ⟨rfl, hb1⟩
        have HB1 := Lib.hid (below_then (w := w) (by repeat (first | (with_reducible exact Below.refl _ _) | (with_reducible assumption) | (with_reducible refine below_drewN ?_ _) | (with_reducible refine Below.drew ?_) | (with_reducible refine Below.alloc ?_ ?_ _) | (with_reducible refine Below.setCell ?_ ?_ _) | exact Below.refl _ _ | assumption | (solve | omega | simp | (simp; omega)))) hb1)
        have B1 := Lib.hid (((Bx.made w 25 #[.int .i64 n, .int .i64 d] rfl).alloc (.cells #[.int .i64 m, .int .i64 u] 74)).below hb1)
        have B2 := Lib.hid ((Bx.made (w.alloc (.cells #[.int .i64 n, .int .i64 d] 25)) 74 #[.int .i64 m, .int .i64 u] (g := w.heap.size + 1) (by simp)).below hb1)
        have cm : w1.cell? ⟨w.heap.size + 1, 0, none⟩ = some (.int .i64 m) := B2.out.cell 0
        have cu : w1.cell? ⟨w.heap.size + 1, 1, none⟩ = some (.int .i64 u) := B2.out.cell 1
        go_wp2_with fail
        refine (ref_ValidRounding m u _).mono ?_
        rintro e w2 ⟨rfl, hb2⟩
        have HB2 := Lib.hid (below_then HB1.out hb2)
        go_wp2
        go_ret2
        exact ⟨by rw [HF.out]; rfl, HB2.out⟩
      · have HF := Lib.hid (scaleS_yes ha hv hr)
        obtain ⟨x0, x1⟩ := inB_iff.1 ha
        obtain ⟨v1, v2, v3, v4, _⟩ := validF_iff.1 hv
        obtain ⟨r1, r2, r3, r4⟩ := validR_iff.1 hr
        obtain ⟨D, rfl⟩ : ∃ D : Nat, d = (D : Int) := ⟨d.toNat, by omega⟩
        have hmul : D * u.toNat < 9223372036854775808 := by
          have : D * u.toNat ≤ 1000000000 * 100000 := Nat.mul_le_mul (by omega) (by omega)
          omega
        have hsg : sgnN (decide (x < 0) != decide (n < 0)) (x.natAbs * n.natAbs) = x * n := sgn_mul2 x n
        have hSX := fun W => ref_size x W (by omega) (by omega)
        have hSZ := fun W => ref_size n W (by omega) (by omega)
        obtain ⟨xx, hxx⟩ : ∃ xx, x.natAbs = xx := ⟨_, rfl⟩
        obtain ⟨nn, hnn⟩ : ∃ nn, n.natAbs = nn := ⟨_, rfl⟩
        have hxb : xx ≤ 1000000000000 := by omega
        have hnb : nn ≤ 1000000000000000 := by omega
        rw [hxx] at hSX hsg
        rw [hnn] at hSZ hsg
        clear hnn hxx
        have hPL : xx * nn < 18446744073709551616 * 18446744073709551616 := Nat.mul_lt_mul'' (by omega) (by omega)
        have hMU := fun W => ref_times xx nn W (by omega) (by omega)
        unfold wideV at hMU
        have hWN : wideN (xx * nn / 18446744073709551616) (xx * nn % 18446744073709551616) = xx * nn := by unfold wideN; omega
        have hhb : xx * nn / 18446744073709551616 < 18446744073709551616 := Nat.div_lt_of_lt_mul hPL
        have hlb : xx * nn % 18446744073709551616 < 18446744073709551616 := Nat.mod_lt _ (by decide)
        obtain ⟨hi, hhi⟩ : ∃ hi, xx * nn / 18446744073709551616 = hi := ⟨_, rfl⟩
        obtain ⟨lo, hlo⟩ : ∃ lo, xx * nn % 18446744073709551616 = lo := ⟨_, rfl⟩
        rw [hhi] at hMU hWN hhb
        rw [hlo] at hMU hWN hlb
        clear hhi hlo
        rw [← hWN] at hsg
        clear hWN hPL
        obtain ⟨A, E, hAE⟩ : ∃ A E, rnd m u (x * n) (D : Int) = (A, E) := ⟨_, _, rfl⟩
        have hR : Rnd m u (x * n) (D : Int) = .returned (.tuple #[.int .i64 A, .int .i64 E]) := by unfold Rnd; rw [hAE]; rfl
        rw [hAE] at HF
        have hDV := fun W => ref_rounded (decide (x < 0) != decide (n < 0)) hi lo D m u W hr (by omega) (by omega) (by omega) hmul
        rw [hsg, hR] at hDV
        have HSX := Lib.hid hSX
        have HSZ := Lib.hid hSZ
        have HMU := Lib.hid hMU
        have HDV := Lib.hid hDV
        clear hmul hAE hR hsg hSX hSZ hMU hDV hxb hnb hhb hlb
        go_enter Tryd.func65, Tryd.ntmps65
        go_wp2_with fail
        refine (HAM.out _).mono ?_
        rintro e _ ⟨rfl, rfl⟩
        go_wp2_with fail
        refine (ref_ValidFraction n (D : Int) _).mono ?_
        rintro e w1 ⟨rfl, hb1⟩
        have HB1 := Lib.hid (below_then (w := w) (by repeat (first | (with_reducible exact Below.refl _ _) | (with_reducible assumption) | (with_reducible refine below_drewN ?_ _) | (with_reducible refine Below.drew ?_) | (with_reducible refine Below.alloc ?_ ?_ _) | (with_reducible refine Below.setCell ?_ ?_ _) | exact Below.refl _ _ | assumption | (solve | omega | simp | (simp; omega)))) hb1)
        have B1 := Lib.hid (((Bx.made w 25 #[.int .i64 n, .int .i64 (D : Int)] rfl).alloc (.cells #[.int .i64 m, .int .i64 u] 74)).below hb1)
        have B2 := Lib.hid ((Bx.made (w.alloc (.cells #[.int .i64 n, .int .i64 (D : Int)] 25)) 74 #[.int .i64 m, .int .i64 u] (g := w.heap.size + 1) (by simp)).below hb1)
        have cm : w1.cell? ⟨w.heap.size + 1, 0, none⟩ = some (.int .i64 m) := B2.out.cell 0
        have cu : w1.cell? ⟨w.heap.size + 1, 1, none⟩ = some (.int .i64 u) := B2.out.cell 1
        go_wp2_with fail
        refine (ref_ValidRounding m u _).mono ?_
        rintro e w2 ⟨rfl, hb2⟩
        have HB2 := Lib.hid (below_then HB1.out hb2)
        have cn : ∀ x : BW w2, x.val.cell? ⟨w.heap.size, 0, none⟩ = some (.int .i64 n) := BW.cells (B1.out.below hb2) 0
        have cd : ∀ x : BW w2, x.val.cell? ⟨w.heap.size, 1, none⟩ = some (.int .i64 (D : Int)) := BW.cells (B1.out.below hb2) 1
        have cm2 : ∀ x : BW w2, x.val.cell? ⟨w.heap.size + 1, 0, none⟩ = some (.int .i64 m) := BW.cells (B2.out.below hb2) 0
        have cu2 : ∀ x : BW w2, x.val.cell? ⟨w.heap.size + 1, 1, none⟩ = some (.int .i64 u) := BW.cells (B2.out.below hb2) 1
        clear hb1 hb2 cm cu
        go_wp2
        refine wp_region_below (by kernel_rfl) (by kernel_rfl) ?_
        repeat (go_big_quiet_step (((first | (go_at_call_of 53 (Value.int IntKind.i64 x); exact bq_same (HSX.out _)) | (go_at_call_of 53 (Value.int IntKind.i64 n); exact bq_same (HSZ.out _)) | (go_at_call 75; exact bq_below (HMU.out _)) | (go_at_call 73; exact bq_below (HDV.out _))))))
        refine wpQuiet_nil ?_
        intro w3 hw'
        obtain ⟨⟨_, hb3⟩, rfl⟩ := hw'
        have HB3 := Lib.hid (below_then HB2.out hb3)
        go_wp2
        go_ret2
        exact ⟨by rw [HF.out]; rfl, HB3.out⟩
end Go.Proofs.YthpknbflmcoanaaDoor
