/-
  The contract of reduction.valid: one element.
-/
import Derived.Test.YthpknbflmcoanaaDoorGross
namespace Go.Proofs.YthpknbflmcoanaaDoor
open Go.RowKit Mny

theorem okG_iff {s b c i p n d : Int} : okG ⟨s, b, c, i, p, n, d⟩ = true ↔ (0 ≤ s ∧ s ≤ 5) ∧ (1 ≤ b ∧ b ≤ 3) ∧ (1 ≤ c ∧ c ≤ 999) ∧ (0 ≤ i ∧ i ≤ 1000000000000) ∧ (0 ≤ p ∧ p ≤ 1000000000000) ∧ validF n d = true ∧ 0 ≤ n ∧ n ≤ d := by
  unfold okG; simp only [Bool.and_eq_true, inB_iff, decide_eq_true_eq]
theorem okG_no {s b c i p n d : Int} (h : ¬ ((0 ≤ s ∧ s ≤ 5) ∧ (1 ≤ b ∧ b ≤ 3) ∧ (1 ≤ c ∧ c ≤ 999) ∧ (0 ≤ i ∧ i ≤ 1000000000000) ∧ (0 ≤ p ∧ p ≤ 1000000000000) ∧ validF n d = true ∧ 0 ≤ n ∧ n ≤ d)) : okG ⟨s, b, c, i, p, n, d⟩ = false := by
  rw [Bool.eq_false_iff]; exact fun h2 => h (okG_iff.1 h2)

set_option maxRecDepth 100000 in
set_option maxHeartbeats 4000000 in
theorem red_valid (s b c i p n d : Int) (w : World) : Calls Tryd.prog 39 #[.agg #[.int .i64 s, .int .i64 b, .int .i64 c, .int .i64 i, .int .i64 p, .int .i64 n, .int .i64 d]] w fun e w' => e = .returned (.bool (okG ⟨s, b, c, i, p, n, d⟩)) ∧ Below w.heap.size w w' := by
  by_cases ts0 : 0 ≤ s
  · have ts0b : decide (0 ≤ s) = true := decide_eq_true ts0
    by_cases ts1 : s < 6
    · have ts1b : decide (s < 6) = true := decide_eq_true ts1
      by_cases hb1 : b = 1
      · have tb1 : (b == 1) = true := beq_iff_eq.2 hb1
        have HBR : Hid (1 ≤ b ∧ b ≤ 3) := Lib.hid ⟨by omega, by omega⟩
        clear hb1
        by_cases tc0 : 1 ≤ c
        · have tc0b : decide (1 ≤ c) = true := decide_eq_true tc0
          by_cases tc1 : c ≤ 999
          · have tc1b : decide (c ≤ 999) = true := decide_eq_true tc1
            go_enter Tryd.func39, Tryd.ntmps39
            have HIIc := fun W => red_amount i W
            rcases Bool.eq_false_or_eq_true (inB 0 1000000000000 i) with hi | hi
            · rw [hi] at HIIc
              have HII := Lib.hid HIIc
              clear HIIc
              go_wp2_with fail
              refine (HII.out _).mono ?_
              rintro e _ ⟨rfl, rfl⟩
              have HI := Lib.hid hi
              clear hi
              have HPPc := fun W => red_amount p W
              rcases Bool.eq_false_or_eq_true (inB 0 1000000000000 p) with hp | hp
              · rw [hp] at HPPc
                have HPP := Lib.hid HPPc
                clear HPPc
                go_wp2_with fail
                refine (HPP.out _).mono ?_
                rintro e _ ⟨rfl, rfl⟩
                have HP := Lib.hid hp
                clear hp
                have HVVc := fun W => rat_Valid n d W
                rcases Bool.eq_false_or_eq_true (validF n d) with hv | hv
                · rw [hv] at HVVc
                  have HVV := Lib.hid HVVc
                  clear HVVc
                  go_wp2_with fail
                  refine (HVV.out _).mono ?_
                  rintro e w1 ⟨rfl, hb1⟩
                  have HB1 := Lib.hid (below_then (w := w) (by repeat (first | (with_reducible exact Below.refl _ _) | (with_reducible assumption) | (with_reducible refine below_drewN ?_ _) | (with_reducible refine Below.drew ?_) | (with_reducible refine Below.alloc ?_ ?_ _) | (with_reducible refine Below.setCell ?_ ?_ _) | exact Below.refl _ _ | assumption | (solve | omega | simp | (simp; omega)))) hb1)
                  have B1 := Lib.hid ((Bx.made w 27 #[.int .i64 s, .int .i64 b, .int .i64 c, .int .i64 i, .int .i64 p, .int .i64 n, .int .i64 d] rfl).below hb1)
                  obtain ⟨c1, q1⟩ := B1.out.of
                  have HV := Lib.hid hv
                  have hB1 := HB1.out
                  clear hb1 hv
                  by_cases tn0 : 0 ≤ n
                  · have tn0b : decide (0 ≤ n) = true := decide_eq_true tn0
                    by_cases tnd : n ≤ d
                    · have tndb : decide (n ≤ d) = true := decide_eq_true tnd
                      have HF := Lib.hid (okG_iff (s := s) (b := b) (c := c) (i := i) (p := p) (n := n) (d := d) |>.2 ⟨⟨ts0, by omega⟩, HBR.out, ⟨tc0, tc1⟩, inB_iff.1 HI.out, inB_iff.1 HP.out, HV.out, tn0, tnd⟩)
                      go_wp2
                      go_ret
                      exact ⟨ret_bool HF.out.symm, (by repeat (first | (with_reducible exact Below.refl _ _) | (with_reducible assumption) | (with_reducible refine below_drewN ?_ _) | (with_reducible refine Below.drew ?_) | (with_reducible refine Below.alloc ?_ ?_ _) | (with_reducible refine Below.setCell ?_ ?_ _) | exact Below.refl _ _ | assumption | (solve | omega | simp | (simp; omega))))⟩
                    · have tndb : decide (n ≤ d) = false := decide_eq_false tnd
                      have HF := Lib.hid (okG_no (s := s) (b := b) (c := c) (i := i) (p := p) (n := n) (d := d) (fun h => absurd h.2.2.2.2.2.2.2 tnd))
                      go_wp2
                      go_ret
                      exact ⟨ret_bool HF.out.symm, (by repeat (first | (with_reducible exact Below.refl _ _) | (with_reducible assumption) | (with_reducible refine below_drewN ?_ _) | (with_reducible refine Below.drew ?_) | (with_reducible refine Below.alloc ?_ ?_ _) | (with_reducible refine Below.setCell ?_ ?_ _) | exact Below.refl _ _ | assumption | (solve | omega | simp | (simp; omega))))⟩
                  · have tn0b : decide (0 ≤ n) = false := decide_eq_false tn0
                    have HF := Lib.hid (okG_no (s := s) (b := b) (c := c) (i := i) (p := p) (n := n) (d := d) (fun h => absurd h.2.2.2.2.2.2.1 tn0))
                    go_wp2
                    go_ret
                    exact ⟨ret_bool HF.out.symm, (by repeat (first | (with_reducible exact Below.refl _ _) | (with_reducible assumption) | (with_reducible refine below_drewN ?_ _) | (with_reducible refine Below.drew ?_) | (with_reducible refine Below.alloc ?_ ?_ _) | (with_reducible refine Below.setCell ?_ ?_ _) | exact Below.refl _ _ | assumption | (solve | omega | simp | (simp; omega))))⟩
                · rw [hv] at HVVc
                  have HVV := Lib.hid HVVc
                  clear HVVc
                  go_wp2_with fail
                  refine (HVV.out _).mono ?_
                  rintro e w1 ⟨rfl, hb1⟩
                  have HB1 := Lib.hid (below_then (w := w) (by repeat (first | (with_reducible exact Below.refl _ _) | (with_reducible assumption) | (with_reducible refine below_drewN ?_ _) | (with_reducible refine Below.drew ?_) | (with_reducible refine Below.alloc ?_ ?_ _) | (with_reducible refine Below.setCell ?_ ?_ _) | exact Below.refl _ _ | assumption | (solve | omega | simp | (simp; omega)))) hb1)
                  clear hb1
                  have HF := Lib.hid (okG_no (s := s) (b := b) (c := c) (i := i) (p := p) (n := n) (d := d) (fun h => absurd h.2.2.2.2.2.1 (by rw [hv]; decide)))
                  have hB1 := HB1.out
                  go_wp2
                  go_ret
                  exact ⟨ret_bool HF.out.symm, (by repeat (first | (with_reducible exact Below.refl _ _) | (with_reducible assumption) | (with_reducible refine below_drewN ?_ _) | (with_reducible refine Below.drew ?_) | (with_reducible refine Below.alloc ?_ ?_ _) | (with_reducible refine Below.setCell ?_ ?_ _) | exact Below.refl _ _ | assumption | (solve | omega | simp | (simp; omega))))⟩
              · rw [hp] at HPPc
                have HPP := Lib.hid HPPc
                clear HPPc
                go_wp2_with fail
                refine (HPP.out _).mono ?_
                rintro e _ ⟨rfl, rfl⟩
                have HF := Lib.hid (okG_no (s := s) (b := b) (c := c) (i := i) (p := p) (n := n) (d := d) (fun h => by have h2 := inB_iff.2 h.2.2.2.2.1; rw [hp] at h2; cases h2))
                go_wp2
                go_ret
                exact ⟨ret_bool HF.out.symm, (by repeat (first | (with_reducible exact Below.refl _ _) | (with_reducible assumption) | (with_reducible refine below_drewN ?_ _) | (with_reducible refine Below.drew ?_) | (with_reducible refine Below.alloc ?_ ?_ _) | (with_reducible refine Below.setCell ?_ ?_ _) | exact Below.refl _ _ | assumption | (solve | omega | simp | (simp; omega))))⟩
            · rw [hi] at HIIc
              have HII := Lib.hid HIIc
              clear HIIc
              go_wp2_with fail
              refine (HII.out _).mono ?_
              rintro e _ ⟨rfl, rfl⟩
              have HF := Lib.hid (okG_no (s := s) (b := b) (c := c) (i := i) (p := p) (n := n) (d := d) (fun h => by have h2 := inB_iff.2 h.2.2.2.1; rw [hi] at h2; cases h2))
              go_wp2
              go_ret
              exact ⟨ret_bool HF.out.symm, (by repeat (first | (with_reducible exact Below.refl _ _) | (with_reducible assumption) | (with_reducible refine below_drewN ?_ _) | (with_reducible refine Below.drew ?_) | (with_reducible refine Below.alloc ?_ ?_ _) | (with_reducible refine Below.setCell ?_ ?_ _) | exact Below.refl _ _ | assumption | (solve | omega | simp | (simp; omega))))⟩
          · have tc1b : decide (c ≤ 999) = false := decide_eq_false tc1
            have HF := Lib.hid (okG_no (s := s) (b := b) (c := c) (i := i) (p := p) (n := n) (d := d) (fun h => absurd h.2.2.1.2 tc1))
            go_enter Tryd.func39, Tryd.ntmps39
            go_wp2
            go_ret
            exact ⟨ret_bool HF.out.symm, (by repeat (first | (with_reducible exact Below.refl _ _) | (with_reducible assumption) | (with_reducible refine below_drewN ?_ _) | (with_reducible refine Below.drew ?_) | (with_reducible refine Below.alloc ?_ ?_ _) | (with_reducible refine Below.setCell ?_ ?_ _) | exact Below.refl _ _ | assumption | (solve | omega | simp | (simp; omega))))⟩
        · have tc0b : decide (1 ≤ c) = false := decide_eq_false tc0
          have HF := Lib.hid (okG_no (s := s) (b := b) (c := c) (i := i) (p := p) (n := n) (d := d) (fun h => absurd h.2.2.1.1 tc0))
          go_enter Tryd.func39, Tryd.ntmps39
          go_wp2
          go_ret
          exact ⟨ret_bool HF.out.symm, (by repeat (first | (with_reducible exact Below.refl _ _) | (with_reducible assumption) | (with_reducible refine below_drewN ?_ _) | (with_reducible refine Below.drew ?_) | (with_reducible refine Below.alloc ?_ ?_ _) | (with_reducible refine Below.setCell ?_ ?_ _) | exact Below.refl _ _ | assumption | (solve | omega | simp | (simp; omega))))⟩
      · have tb1 : (b == 1) = false := beq_eq_false_iff_ne.2 hb1
        by_cases hb2 : b = 2
        · have tb2 : (b == 2) = true := beq_iff_eq.2 hb2
          have HBR : Hid (1 ≤ b ∧ b ≤ 3) := Lib.hid ⟨by omega, by omega⟩
          clear hb1 hb2
          by_cases tc0 : 1 ≤ c
          · have tc0b : decide (1 ≤ c) = true := decide_eq_true tc0
            by_cases tc1 : c ≤ 999
            · have tc1b : decide (c ≤ 999) = true := decide_eq_true tc1
              go_enter Tryd.func39, Tryd.ntmps39
              have HIIc := fun W => red_amount i W
              rcases Bool.eq_false_or_eq_true (inB 0 1000000000000 i) with hi | hi
              · rw [hi] at HIIc
                have HII := Lib.hid HIIc
                clear HIIc
                go_wp2_with fail
                refine (HII.out _).mono ?_
                rintro e _ ⟨rfl, rfl⟩
                have HI := Lib.hid hi
                clear hi
                have HPPc := fun W => red_amount p W
                rcases Bool.eq_false_or_eq_true (inB 0 1000000000000 p) with hp | hp
                · rw [hp] at HPPc
                  have HPP := Lib.hid HPPc
                  clear HPPc
                  go_wp2_with fail
                  refine (HPP.out _).mono ?_
                  rintro e _ ⟨rfl, rfl⟩
                  have HP := Lib.hid hp
                  clear hp
                  have HVVc := fun W => rat_Valid n d W
                  rcases Bool.eq_false_or_eq_true (validF n d) with hv | hv
                  · rw [hv] at HVVc
                    have HVV := Lib.hid HVVc
                    clear HVVc
                    go_wp2_with fail
                    refine (HVV.out _).mono ?_
                    rintro e w1 ⟨rfl, hb1⟩
                    have HB1 := Lib.hid (below_then (w := w) (by repeat (first | (with_reducible exact Below.refl _ _) | (with_reducible assumption) | (with_reducible refine below_drewN ?_ _) | (with_reducible refine Below.drew ?_) | (with_reducible refine Below.alloc ?_ ?_ _) | (with_reducible refine Below.setCell ?_ ?_ _) | exact Below.refl _ _ | assumption | (solve | omega | simp | (simp; omega)))) hb1)
                    have B1 := Lib.hid ((Bx.made w 27 #[.int .i64 s, .int .i64 b, .int .i64 c, .int .i64 i, .int .i64 p, .int .i64 n, .int .i64 d] rfl).below hb1)
                    obtain ⟨c1, q1⟩ := B1.out.of
                    have HV := Lib.hid hv
                    have hB1 := HB1.out
                    clear hb1 hv
                    by_cases tn0 : 0 ≤ n
                    · have tn0b : decide (0 ≤ n) = true := decide_eq_true tn0
                      by_cases tnd : n ≤ d
                      · have tndb : decide (n ≤ d) = true := decide_eq_true tnd
                        have HF := Lib.hid (okG_iff (s := s) (b := b) (c := c) (i := i) (p := p) (n := n) (d := d) |>.2 ⟨⟨ts0, by omega⟩, HBR.out, ⟨tc0, tc1⟩, inB_iff.1 HI.out, inB_iff.1 HP.out, HV.out, tn0, tnd⟩)
                        go_wp2
                        go_ret
                        exact ⟨ret_bool HF.out.symm, (by repeat (first | (with_reducible exact Below.refl _ _) | (with_reducible assumption) | (with_reducible refine below_drewN ?_ _) | (with_reducible refine Below.drew ?_) | (with_reducible refine Below.alloc ?_ ?_ _) | (with_reducible refine Below.setCell ?_ ?_ _) | exact Below.refl _ _ | assumption | (solve | omega | simp | (simp; omega))))⟩
                      · have tndb : decide (n ≤ d) = false := decide_eq_false tnd
                        have HF := Lib.hid (okG_no (s := s) (b := b) (c := c) (i := i) (p := p) (n := n) (d := d) (fun h => absurd h.2.2.2.2.2.2.2 tnd))
                        go_wp2
                        go_ret
                        exact ⟨ret_bool HF.out.symm, (by repeat (first | (with_reducible exact Below.refl _ _) | (with_reducible assumption) | (with_reducible refine below_drewN ?_ _) | (with_reducible refine Below.drew ?_) | (with_reducible refine Below.alloc ?_ ?_ _) | (with_reducible refine Below.setCell ?_ ?_ _) | exact Below.refl _ _ | assumption | (solve | omega | simp | (simp; omega))))⟩
                    · have tn0b : decide (0 ≤ n) = false := decide_eq_false tn0
                      have HF := Lib.hid (okG_no (s := s) (b := b) (c := c) (i := i) (p := p) (n := n) (d := d) (fun h => absurd h.2.2.2.2.2.2.1 tn0))
                      go_wp2
                      go_ret
                      exact ⟨ret_bool HF.out.symm, (by repeat (first | (with_reducible exact Below.refl _ _) | (with_reducible assumption) | (with_reducible refine below_drewN ?_ _) | (with_reducible refine Below.drew ?_) | (with_reducible refine Below.alloc ?_ ?_ _) | (with_reducible refine Below.setCell ?_ ?_ _) | exact Below.refl _ _ | assumption | (solve | omega | simp | (simp; omega))))⟩
                  · rw [hv] at HVVc
                    have HVV := Lib.hid HVVc
                    clear HVVc
                    go_wp2_with fail
                    refine (HVV.out _).mono ?_
                    rintro e w1 ⟨rfl, hb1⟩
                    have HB1 := Lib.hid (below_then (w := w) (by repeat (first | (with_reducible exact Below.refl _ _) | (with_reducible assumption) | (with_reducible refine below_drewN ?_ _) | (with_reducible refine Below.drew ?_) | (with_reducible refine Below.alloc ?_ ?_ _) | (with_reducible refine Below.setCell ?_ ?_ _) | exact Below.refl _ _ | assumption | (solve | omega | simp | (simp; omega)))) hb1)
                    clear hb1
                    have HF := Lib.hid (okG_no (s := s) (b := b) (c := c) (i := i) (p := p) (n := n) (d := d) (fun h => absurd h.2.2.2.2.2.1 (by rw [hv]; decide)))
                    have hB1 := HB1.out
                    go_wp2
                    go_ret
                    exact ⟨ret_bool HF.out.symm, (by repeat (first | (with_reducible exact Below.refl _ _) | (with_reducible assumption) | (with_reducible refine below_drewN ?_ _) | (with_reducible refine Below.drew ?_) | (with_reducible refine Below.alloc ?_ ?_ _) | (with_reducible refine Below.setCell ?_ ?_ _) | exact Below.refl _ _ | assumption | (solve | omega | simp | (simp; omega))))⟩
                · rw [hp] at HPPc
                  have HPP := Lib.hid HPPc
                  clear HPPc
                  go_wp2_with fail
                  refine (HPP.out _).mono ?_
                  rintro e _ ⟨rfl, rfl⟩
                  have HF := Lib.hid (okG_no (s := s) (b := b) (c := c) (i := i) (p := p) (n := n) (d := d) (fun h => by have h2 := inB_iff.2 h.2.2.2.2.1; rw [hp] at h2; cases h2))
                  go_wp2
                  go_ret
                  exact ⟨ret_bool HF.out.symm, (by repeat (first | (with_reducible exact Below.refl _ _) | (with_reducible assumption) | (with_reducible refine below_drewN ?_ _) | (with_reducible refine Below.drew ?_) | (with_reducible refine Below.alloc ?_ ?_ _) | (with_reducible refine Below.setCell ?_ ?_ _) | exact Below.refl _ _ | assumption | (solve | omega | simp | (simp; omega))))⟩
              · rw [hi] at HIIc
                have HII := Lib.hid HIIc
                clear HIIc
                go_wp2_with fail
                refine (HII.out _).mono ?_
                rintro e _ ⟨rfl, rfl⟩
                have HF := Lib.hid (okG_no (s := s) (b := b) (c := c) (i := i) (p := p) (n := n) (d := d) (fun h => by have h2 := inB_iff.2 h.2.2.2.1; rw [hi] at h2; cases h2))
                go_wp2
                go_ret
                exact ⟨ret_bool HF.out.symm, (by repeat (first | (with_reducible exact Below.refl _ _) | (with_reducible assumption) | (with_reducible refine below_drewN ?_ _) | (with_reducible refine Below.drew ?_) | (with_reducible refine Below.alloc ?_ ?_ _) | (with_reducible refine Below.setCell ?_ ?_ _) | exact Below.refl _ _ | assumption | (solve | omega | simp | (simp; omega))))⟩
            · have tc1b : decide (c ≤ 999) = false := decide_eq_false tc1
              have HF := Lib.hid (okG_no (s := s) (b := b) (c := c) (i := i) (p := p) (n := n) (d := d) (fun h => absurd h.2.2.1.2 tc1))
              go_enter Tryd.func39, Tryd.ntmps39
              go_wp2
              go_ret
              exact ⟨ret_bool HF.out.symm, (by repeat (first | (with_reducible exact Below.refl _ _) | (with_reducible assumption) | (with_reducible refine below_drewN ?_ _) | (with_reducible refine Below.drew ?_) | (with_reducible refine Below.alloc ?_ ?_ _) | (with_reducible refine Below.setCell ?_ ?_ _) | exact Below.refl _ _ | assumption | (solve | omega | simp | (simp; omega))))⟩
          · have tc0b : decide (1 ≤ c) = false := decide_eq_false tc0
            have HF := Lib.hid (okG_no (s := s) (b := b) (c := c) (i := i) (p := p) (n := n) (d := d) (fun h => absurd h.2.2.1.1 tc0))
            go_enter Tryd.func39, Tryd.ntmps39
            go_wp2
            go_ret
            exact ⟨ret_bool HF.out.symm, (by repeat (first | (with_reducible exact Below.refl _ _) | (with_reducible assumption) | (with_reducible refine below_drewN ?_ _) | (with_reducible refine Below.drew ?_) | (with_reducible refine Below.alloc ?_ ?_ _) | (with_reducible refine Below.setCell ?_ ?_ _) | exact Below.refl _ _ | assumption | (solve | omega | simp | (simp; omega))))⟩
        · have tb2 : (b == 2) = false := beq_eq_false_iff_ne.2 hb2
          by_cases hb3 : b = 3
          · have tb3 : (b == 3) = true := beq_iff_eq.2 hb3
            have HBR : Hid (1 ≤ b ∧ b ≤ 3) := Lib.hid ⟨by omega, by omega⟩
            clear hb1 hb2 hb3
            by_cases tc0 : 1 ≤ c
            · have tc0b : decide (1 ≤ c) = true := decide_eq_true tc0
              by_cases tc1 : c ≤ 999
              · have tc1b : decide (c ≤ 999) = true := decide_eq_true tc1
                go_enter Tryd.func39, Tryd.ntmps39
                have HIIc := fun W => red_amount i W
                rcases Bool.eq_false_or_eq_true (inB 0 1000000000000 i) with hi | hi
                · rw [hi] at HIIc
                  have HII := Lib.hid HIIc
                  clear HIIc
                  go_wp2_with fail
                  refine (HII.out _).mono ?_
                  rintro e _ ⟨rfl, rfl⟩
                  have HI := Lib.hid hi
                  clear hi
                  have HPPc := fun W => red_amount p W
                  rcases Bool.eq_false_or_eq_true (inB 0 1000000000000 p) with hp | hp
                  · rw [hp] at HPPc
                    have HPP := Lib.hid HPPc
                    clear HPPc
                    go_wp2_with fail
                    refine (HPP.out _).mono ?_
                    rintro e _ ⟨rfl, rfl⟩
                    have HP := Lib.hid hp
                    clear hp
                    have HVVc := fun W => rat_Valid n d W
                    rcases Bool.eq_false_or_eq_true (validF n d) with hv | hv
                    · rw [hv] at HVVc
                      have HVV := Lib.hid HVVc
                      clear HVVc
                      go_wp2_with fail
                      refine (HVV.out _).mono ?_
                      rintro e w1 ⟨rfl, hb1⟩
                      have HB1 := Lib.hid (below_then (w := w) (by repeat (first | (with_reducible exact Below.refl _ _) | (with_reducible assumption) | (with_reducible refine below_drewN ?_ _) | (with_reducible refine Below.drew ?_) | (with_reducible refine Below.alloc ?_ ?_ _) | (with_reducible refine Below.setCell ?_ ?_ _) | exact Below.refl _ _ | assumption | (solve | omega | simp | (simp; omega)))) hb1)
                      have B1 := Lib.hid ((Bx.made w 27 #[.int .i64 s, .int .i64 b, .int .i64 c, .int .i64 i, .int .i64 p, .int .i64 n, .int .i64 d] rfl).below hb1)
                      obtain ⟨c1, q1⟩ := B1.out.of
                      have HV := Lib.hid hv
                      have hB1 := HB1.out
                      clear hb1 hv
                      by_cases tn0 : 0 ≤ n
                      · have tn0b : decide (0 ≤ n) = true := decide_eq_true tn0
                        by_cases tnd : n ≤ d
                        · have tndb : decide (n ≤ d) = true := decide_eq_true tnd
                          have HF := Lib.hid (okG_iff (s := s) (b := b) (c := c) (i := i) (p := p) (n := n) (d := d) |>.2 ⟨⟨ts0, by omega⟩, HBR.out, ⟨tc0, tc1⟩, inB_iff.1 HI.out, inB_iff.1 HP.out, HV.out, tn0, tnd⟩)
                          go_wp2
                          go_ret
                          exact ⟨ret_bool HF.out.symm, (by repeat (first | (with_reducible exact Below.refl _ _) | (with_reducible assumption) | (with_reducible refine below_drewN ?_ _) | (with_reducible refine Below.drew ?_) | (with_reducible refine Below.alloc ?_ ?_ _) | (with_reducible refine Below.setCell ?_ ?_ _) | exact Below.refl _ _ | assumption | (solve | omega | simp | (simp; omega))))⟩
                        · have tndb : decide (n ≤ d) = false := decide_eq_false tnd
                          have HF := Lib.hid (okG_no (s := s) (b := b) (c := c) (i := i) (p := p) (n := n) (d := d) (fun h => absurd h.2.2.2.2.2.2.2 tnd))
                          go_wp2
                          go_ret
                          exact ⟨ret_bool HF.out.symm, (by repeat (first | (with_reducible exact Below.refl _ _) | (with_reducible assumption) | (with_reducible refine below_drewN ?_ _) | (with_reducible refine Below.drew ?_) | (with_reducible refine Below.alloc ?_ ?_ _) | (with_reducible refine Below.setCell ?_ ?_ _) | exact Below.refl _ _ | assumption | (solve | omega | simp | (simp; omega))))⟩
                      · have tn0b : decide (0 ≤ n) = false := decide_eq_false tn0
                        have HF := Lib.hid (okG_no (s := s) (b := b) (c := c) (i := i) (p := p) (n := n) (d := d) (fun h => absurd h.2.2.2.2.2.2.1 tn0))
                        go_wp2
                        go_ret
                        exact ⟨ret_bool HF.out.symm, (by repeat (first | (with_reducible exact Below.refl _ _) | (with_reducible assumption) | (with_reducible refine below_drewN ?_ _) | (with_reducible refine Below.drew ?_) | (with_reducible refine Below.alloc ?_ ?_ _) | (with_reducible refine Below.setCell ?_ ?_ _) | exact Below.refl _ _ | assumption | (solve | omega | simp | (simp; omega))))⟩
                    · rw [hv] at HVVc
                      have HVV := Lib.hid HVVc
                      clear HVVc
                      go_wp2_with fail
                      refine (HVV.out _).mono ?_
                      rintro e w1 ⟨rfl, hb1⟩
                      have HB1 := Lib.hid (below_then (w := w) (by repeat (first | (with_reducible exact Below.refl _ _) | (with_reducible assumption) | (with_reducible refine below_drewN ?_ _) | (with_reducible refine Below.drew ?_) | (with_reducible refine Below.alloc ?_ ?_ _) | (with_reducible refine Below.setCell ?_ ?_ _) | exact Below.refl _ _ | assumption | (solve | omega | simp | (simp; omega)))) hb1)
                      clear hb1
                      have HF := Lib.hid (okG_no (s := s) (b := b) (c := c) (i := i) (p := p) (n := n) (d := d) (fun h => absurd h.2.2.2.2.2.1 (by rw [hv]; decide)))
                      have hB1 := HB1.out
                      go_wp2
                      go_ret
                      exact ⟨ret_bool HF.out.symm, (by repeat (first | (with_reducible exact Below.refl _ _) | (with_reducible assumption) | (with_reducible refine below_drewN ?_ _) | (with_reducible refine Below.drew ?_) | (with_reducible refine Below.alloc ?_ ?_ _) | (with_reducible refine Below.setCell ?_ ?_ _) | exact Below.refl _ _ | assumption | (solve | omega | simp | (simp; omega))))⟩
                  · rw [hp] at HPPc
                    have HPP := Lib.hid HPPc
                    clear HPPc
                    go_wp2_with fail
                    refine (HPP.out _).mono ?_
                    rintro e _ ⟨rfl, rfl⟩
                    have HF := Lib.hid (okG_no (s := s) (b := b) (c := c) (i := i) (p := p) (n := n) (d := d) (fun h => by have h2 := inB_iff.2 h.2.2.2.2.1; rw [hp] at h2; cases h2))
                    go_wp2
                    go_ret
                    exact ⟨ret_bool HF.out.symm, (by repeat (first | (with_reducible exact Below.refl _ _) | (with_reducible assumption) | (with_reducible refine below_drewN ?_ _) | (with_reducible refine Below.drew ?_) | (with_reducible refine Below.alloc ?_ ?_ _) | (with_reducible refine Below.setCell ?_ ?_ _) | exact Below.refl _ _ | assumption | (solve | omega | simp | (simp; omega))))⟩
                · rw [hi] at HIIc
                  have HII := Lib.hid HIIc
                  clear HIIc
                  go_wp2_with fail
                  refine (HII.out _).mono ?_
                  rintro e _ ⟨rfl, rfl⟩
                  have HF := Lib.hid (okG_no (s := s) (b := b) (c := c) (i := i) (p := p) (n := n) (d := d) (fun h => by have h2 := inB_iff.2 h.2.2.2.1; rw [hi] at h2; cases h2))
                  go_wp2
                  go_ret
                  exact ⟨ret_bool HF.out.symm, (by repeat (first | (with_reducible exact Below.refl _ _) | (with_reducible assumption) | (with_reducible refine below_drewN ?_ _) | (with_reducible refine Below.drew ?_) | (with_reducible refine Below.alloc ?_ ?_ _) | (with_reducible refine Below.setCell ?_ ?_ _) | exact Below.refl _ _ | assumption | (solve | omega | simp | (simp; omega))))⟩
              · have tc1b : decide (c ≤ 999) = false := decide_eq_false tc1
                have HF := Lib.hid (okG_no (s := s) (b := b) (c := c) (i := i) (p := p) (n := n) (d := d) (fun h => absurd h.2.2.1.2 tc1))
                go_enter Tryd.func39, Tryd.ntmps39
                go_wp2
                go_ret
                exact ⟨ret_bool HF.out.symm, (by repeat (first | (with_reducible exact Below.refl _ _) | (with_reducible assumption) | (with_reducible refine below_drewN ?_ _) | (with_reducible refine Below.drew ?_) | (with_reducible refine Below.alloc ?_ ?_ _) | (with_reducible refine Below.setCell ?_ ?_ _) | exact Below.refl _ _ | assumption | (solve | omega | simp | (simp; omega))))⟩
            · have tc0b : decide (1 ≤ c) = false := decide_eq_false tc0
              have HF := Lib.hid (okG_no (s := s) (b := b) (c := c) (i := i) (p := p) (n := n) (d := d) (fun h => absurd h.2.2.1.1 tc0))
              go_enter Tryd.func39, Tryd.ntmps39
              go_wp2
              go_ret
              exact ⟨ret_bool HF.out.symm, (by repeat (first | (with_reducible exact Below.refl _ _) | (with_reducible assumption) | (with_reducible refine below_drewN ?_ _) | (with_reducible refine Below.drew ?_) | (with_reducible refine Below.alloc ?_ ?_ _) | (with_reducible refine Below.setCell ?_ ?_ _) | exact Below.refl _ _ | assumption | (solve | omega | simp | (simp; omega))))⟩
          · have tb3 : (b == 3) = false := beq_eq_false_iff_ne.2 hb3
            have HF := Lib.hid (okG_no (s := s) (b := b) (c := c) (i := i) (p := p) (n := n) (d := d) (fun h => by omega))
            clear hb1 hb2 hb3
            go_enter Tryd.func39, Tryd.ntmps39
            go_wp2
            go_ret
            exact ⟨ret_bool HF.out.symm, (by repeat (first | (with_reducible exact Below.refl _ _) | (with_reducible assumption) | (with_reducible refine below_drewN ?_ _) | (with_reducible refine Below.drew ?_) | (with_reducible refine Below.alloc ?_ ?_ _) | (with_reducible refine Below.setCell ?_ ?_ _) | exact Below.refl _ _ | assumption | (solve | omega | simp | (simp; omega))))⟩
    · have ts1b : decide (s < 6) = false := decide_eq_false ts1
      have HF := Lib.hid (okG_no (s := s) (b := b) (c := c) (i := i) (p := p) (n := n) (d := d) (fun h => by omega))
      go_enter Tryd.func39, Tryd.ntmps39
      go_wp2
      go_ret
      exact ⟨ret_bool HF.out.symm, (by repeat (first | (with_reducible exact Below.refl _ _) | (with_reducible assumption) | (with_reducible refine below_drewN ?_ _) | (with_reducible refine Below.drew ?_) | (with_reducible refine Below.alloc ?_ ?_ _) | (with_reducible refine Below.setCell ?_ ?_ _) | exact Below.refl _ _ | assumption | (solve | omega | simp | (simp; omega))))⟩
  · have ts0b : decide (0 ≤ s) = false := decide_eq_false ts0
    have HF := Lib.hid (okG_no (s := s) (b := b) (c := c) (i := i) (p := p) (n := n) (d := d) (fun h => absurd h.1.1 ts0))
    go_enter Tryd.func39, Tryd.ntmps39
    go_wp2
    go_ret
    exact ⟨ret_bool HF.out.symm, (by repeat (first | (with_reducible exact Below.refl _ _) | (with_reducible assumption) | (with_reducible refine below_drewN ?_ _) | (with_reducible refine Below.drew ?_) | (with_reducible refine Below.alloc ?_ ?_ _) | (with_reducible refine Below.setCell ?_ ?_ _) | exact Below.refl _ _ | assumption | (solve | omega | simp | (simp; omega))))⟩
end Go.Proofs.YthpknbflmcoanaaDoor
