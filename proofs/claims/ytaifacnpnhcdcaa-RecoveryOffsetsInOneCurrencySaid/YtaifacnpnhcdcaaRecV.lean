/-
  Standings: the contracts of valid of the program and of standing of the reference.
-/
import Derived.Test.YtaifacnpnhcdcaaRecB
import Derived.Test.YtaifacnpnhcdcaaModV
namespace Go.Proofs.Ytaifacnpnhcdcaa
open Go.RowKit Mny

set_option maxHeartbeats 400000 in
theorem rec_amount (x : Int) (w : World) : Calls Try.prog 23 #[.int .i64 x] w fun e w' => e = .returned (.bool (inB 0 1000000000000 x)) ∧ w = w' := by
  by_cases h0 : 0 ≤ x
  · have c0 : decide (0 ≤ x) = true := decide_eq_true h0
    by_cases h1 : x ≤ 1000000000000
    · have c1 : decide (x ≤ 1000000000000) = true := decide_eq_true h1
      have HF := Lib.hid (inB_iff.2 ⟨h0, h1⟩)
      go_enter Try.func23, Try.ntmps23
      go_wp2
      go_ret
      exact ⟨ret_bool HF.out.symm, rfl⟩
    · have c1 : decide (x ≤ 1000000000000) = false := decide_eq_false h1
      have HF := Lib.hid (inB_out (lo := 0) (hi := 1000000000000) (z := x) (.inr (by omega)))
      go_enter Try.func23, Try.ntmps23
      go_wp2
      go_ret
      exact ⟨ret_bool HF.out.symm, rfl⟩
  · have c0 : decide (0 ≤ x) = false := decide_eq_false h0
    have HF := Lib.hid (inB_out (lo := 0) (hi := 1000000000000) (z := x) (.inl (by omega)))
    go_enter Try.func23, Try.ntmps23
    go_wp2
    go_ret
    exact ⟨ret_bool HF.out.symm, rfl⟩


theorem okS_iff {s c a o : Int} : okS ⟨s, c, a, o⟩ = true ↔ (0 ≤ s ∧ s ≤ 5) ∧ (1 ≤ c ∧ c ≤ 999) ∧ (0 ≤ a ∧ a ≤ 1000000000000) ∧ (0 ≤ o ∧ o ≤ 1000000000000) := by
  unfold okS; simp only [Bool.and_eq_true, inB_iff]
theorem okS_no {s c a o : Int} (h : ¬ ((0 ≤ s ∧ s ≤ 5) ∧ (1 ≤ c ∧ c ≤ 999) ∧ (0 ≤ a ∧ a ≤ 1000000000000) ∧ (0 ≤ o ∧ o ≤ 1000000000000))) : okS ⟨s, c, a, o⟩ = false := by
  rw [Bool.eq_false_iff]; exact fun h2 => h (okS_iff.1 h2)
set_option maxRecDepth 100000 in
set_option maxHeartbeats 4000000 in
theorem rec_valid (s c a o : Int) (w : World) : Calls Try.prog 27 #[.agg #[.int .i64 s, .int .i64 c, .int .i64 a, .int .i64 o]] w fun e w' => e = .returned (.bool (okS ⟨s, c, a, o⟩)) ∧ Below w.heap.size w w' := by
  by_cases t0 : 0 ≤ s
  · have b0 : decide (0 ≤ s) = true := decide_eq_true t0
    by_cases t1 : s < 6
    · have b1 : decide (s < 6) = true := decide_eq_true t1
      by_cases t2 : 1 ≤ c
      · have b2 : decide (1 ≤ c) = true := decide_eq_true t2
        by_cases t3 : c ≤ 999
        · have b3 : decide (c ≤ 999) = true := decide_eq_true t3
          go_enter Try.func27, Try.ntmps27
          have HCa := fun W => rec_amount a W
          rcases Bool.eq_false_or_eq_true (inB 0 1000000000000 a) with ha | ha
          · rw [ha] at HCa
            have HDa := Lib.hid HCa
            clear HCa
            go_wp2_with fail
            refine (HDa.out _).mono ?_
            rintro e _ ⟨rfl, rfl⟩
            have hha := inB_iff.1 ha
            clear ha
            have HCo := fun W => rec_amount o W
            rcases Bool.eq_false_or_eq_true (inB 0 1000000000000 o) with ho | ho
            · rw [ho] at HCo
              have HDo := Lib.hid HCo
              clear HCo
              go_wp2_with fail
              refine (HDo.out _).mono ?_
              rintro e _ ⟨rfl, rfl⟩
              have hho := inB_iff.1 ho
              clear ho
              have HF := Lib.hid (okS_iff (s := s) (c := c) (a := a) (o := o) |>.2 ⟨⟨by omega, by omega⟩, ⟨by omega, by omega⟩, ⟨by omega, by omega⟩, ⟨by omega, by omega⟩⟩)
              go_wp2
              go_ret
              exact ⟨ret_bool HF.out.symm, (by repeat (first | (with_reducible exact Below.refl _ _) | (with_reducible assumption) | (with_reducible refine below_drewN ?_ _) | (with_reducible refine Below.drew ?_) | (with_reducible refine Below.alloc ?_ ?_ _) | (with_reducible refine Below.setCell ?_ ?_ _) | exact Below.refl _ _ | assumption | (solve | omega | simp | (simp; omega))))⟩
            · rw [ho] at HCo
              have HDo := Lib.hid HCo
              clear HCo
              go_wp2_with fail
              refine (HDo.out _).mono ?_
              rintro e _ ⟨rfl, rfl⟩
              have hho : ¬ (0 ≤ o ∧ o ≤ 1000000000000) := fun h => by rw [inB_iff.2 h] at ho; cases ho
              clear ho
              have HF := Lib.hid (okS_no (s := s) (c := c) (a := a) (o := o) (fun h => hho h.2.2.2))
              go_wp2
              go_ret
              exact ⟨ret_bool HF.out.symm, (by repeat (first | (with_reducible exact Below.refl _ _) | (with_reducible assumption) | (with_reducible refine below_drewN ?_ _) | (with_reducible refine Below.drew ?_) | (with_reducible refine Below.alloc ?_ ?_ _) | (with_reducible refine Below.setCell ?_ ?_ _) | exact Below.refl _ _ | assumption | (solve | omega | simp | (simp; omega))))⟩
          · rw [ha] at HCa
            have HDa := Lib.hid HCa
            clear HCa
            go_wp2_with fail
            refine (HDa.out _).mono ?_
            rintro e _ ⟨rfl, rfl⟩
            have hha : ¬ (0 ≤ a ∧ a ≤ 1000000000000) := fun h => by rw [inB_iff.2 h] at ha; cases ha
            clear ha
            have HF := Lib.hid (okS_no (s := s) (c := c) (a := a) (o := o) (fun h => hha h.2.2.1))
            go_wp2
            go_ret
            exact ⟨ret_bool HF.out.symm, (by repeat (first | (with_reducible exact Below.refl _ _) | (with_reducible assumption) | (with_reducible refine below_drewN ?_ _) | (with_reducible refine Below.drew ?_) | (with_reducible refine Below.alloc ?_ ?_ _) | (with_reducible refine Below.setCell ?_ ?_ _) | exact Below.refl _ _ | assumption | (solve | omega | simp | (simp; omega))))⟩
        · have b3 : decide (c ≤ 999) = false := decide_eq_false t3
          have HF := Lib.hid (okS_no (s := s) (c := c) (a := a) (o := o) (by rintro ⟨⟨_, _⟩, ⟨_, _⟩, ⟨_, _⟩, ⟨_, _⟩⟩; omega))
          go_enter Try.func27, Try.ntmps27
          go_wp2
          go_ret
          exact ⟨ret_bool HF.out.symm, (by repeat (first | (with_reducible exact Below.refl _ _) | (with_reducible assumption) | (with_reducible refine below_drewN ?_ _) | (with_reducible refine Below.drew ?_) | (with_reducible refine Below.alloc ?_ ?_ _) | (with_reducible refine Below.setCell ?_ ?_ _) | exact Below.refl _ _ | assumption | (solve | omega | simp | (simp; omega))))⟩
      · have b2 : decide (1 ≤ c) = false := decide_eq_false t2
        have HF := Lib.hid (okS_no (s := s) (c := c) (a := a) (o := o) (by rintro ⟨⟨_, _⟩, ⟨_, _⟩, ⟨_, _⟩, ⟨_, _⟩⟩; omega))
        go_enter Try.func27, Try.ntmps27
        go_wp2
        go_ret
        exact ⟨ret_bool HF.out.symm, (by repeat (first | (with_reducible exact Below.refl _ _) | (with_reducible assumption) | (with_reducible refine below_drewN ?_ _) | (with_reducible refine Below.drew ?_) | (with_reducible refine Below.alloc ?_ ?_ _) | (with_reducible refine Below.setCell ?_ ?_ _) | exact Below.refl _ _ | assumption | (solve | omega | simp | (simp; omega))))⟩
    · have b1 : decide (s < 6) = false := decide_eq_false t1
      have HF := Lib.hid (okS_no (s := s) (c := c) (a := a) (o := o) (by rintro ⟨⟨_, _⟩, ⟨_, _⟩, ⟨_, _⟩, ⟨_, _⟩⟩; omega))
      go_enter Try.func27, Try.ntmps27
      go_wp2
      go_ret
      exact ⟨ret_bool HF.out.symm, (by repeat (first | (with_reducible exact Below.refl _ _) | (with_reducible assumption) | (with_reducible refine below_drewN ?_ _) | (with_reducible refine Below.drew ?_) | (with_reducible refine Below.alloc ?_ ?_ _) | (with_reducible refine Below.setCell ?_ ?_ _) | exact Below.refl _ _ | assumption | (solve | omega | simp | (simp; omega))))⟩
  · have b0 : decide (0 ≤ s) = false := decide_eq_false t0
    have HF := Lib.hid (okS_no (s := s) (c := c) (a := a) (o := o) (by rintro ⟨⟨_, _⟩, ⟨_, _⟩, ⟨_, _⟩, ⟨_, _⟩⟩; omega))
    go_enter Try.func27, Try.ntmps27
    go_wp2
    go_ret
    exact ⟨ret_bool HF.out.symm, (by repeat (first | (with_reducible exact Below.refl _ _) | (with_reducible assumption) | (with_reducible refine below_drewN ?_ _) | (with_reducible refine Below.drew ?_) | (with_reducible refine Below.alloc ?_ ?_ _) | (with_reducible refine Below.setCell ?_ ?_ _) | exact Below.refl _ _ | assumption | (solve | omega | simp | (simp; omega))))⟩
set_option maxRecDepth 100000 in
set_option maxHeartbeats 4000000 in
theorem ref_standing (s c a o : Int) (w : World) : Calls Try.prog 34 #[.agg #[.int .i64 s, .int .i64 c, .int .i64 a, .int .i64 o]] w fun e w' => e = .returned (.bool (okS ⟨s, c, a, o⟩)) ∧ Below w.heap.size w w' := by
  by_cases t0 : 0 ≤ s
  · have b0 : decide (0 ≤ s) = true := decide_eq_true t0
    by_cases t1 : s < 6
    · have b1 : decide (s < 6) = true := decide_eq_true t1
      by_cases t2 : 1 ≤ c
      · have b2 : decide (1 ≤ c) = true := decide_eq_true t2
        by_cases t3 : c ≤ 999
        · have b3 : decide (c ≤ 999) = true := decide_eq_true t3
          by_cases t4 : 0 ≤ a
          · have b4 : decide (0 ≤ a) = true := decide_eq_true t4
            by_cases t5 : a ≤ 1000000000000
            · have b5 : decide (a ≤ 1000000000000) = true := decide_eq_true t5
              by_cases t6 : 0 ≤ o
              · have b6 : decide (0 ≤ o) = true := decide_eq_true t6
                by_cases t7 : o ≤ 1000000000000
                · have b7 : decide (o ≤ 1000000000000) = true := decide_eq_true t7
                  go_enter Try.func34, Try.ntmps34
                  have HF := Lib.hid (okS_iff (s := s) (c := c) (a := a) (o := o) |>.2 ⟨⟨by omega, by omega⟩, ⟨by omega, by omega⟩, ⟨by omega, by omega⟩, ⟨by omega, by omega⟩⟩)
                  go_wp2
                  go_ret
                  exact ⟨ret_bool HF.out.symm, (by repeat (first | (with_reducible exact Below.refl _ _) | (with_reducible assumption) | (with_reducible refine below_drewN ?_ _) | (with_reducible refine Below.drew ?_) | (with_reducible refine Below.alloc ?_ ?_ _) | (with_reducible refine Below.setCell ?_ ?_ _) | exact Below.refl _ _ | assumption | (solve | omega | simp | (simp; omega))))⟩
                · have b7 : decide (o ≤ 1000000000000) = false := decide_eq_false t7
                  have HF := Lib.hid (okS_no (s := s) (c := c) (a := a) (o := o) (by rintro ⟨⟨_, _⟩, ⟨_, _⟩, ⟨_, _⟩, ⟨_, _⟩⟩; omega))
                  go_enter Try.func34, Try.ntmps34
                  go_wp2
                  go_ret
                  exact ⟨ret_bool HF.out.symm, (by repeat (first | (with_reducible exact Below.refl _ _) | (with_reducible assumption) | (with_reducible refine below_drewN ?_ _) | (with_reducible refine Below.drew ?_) | (with_reducible refine Below.alloc ?_ ?_ _) | (with_reducible refine Below.setCell ?_ ?_ _) | exact Below.refl _ _ | assumption | (solve | omega | simp | (simp; omega))))⟩
              · have b6 : decide (0 ≤ o) = false := decide_eq_false t6
                have HF := Lib.hid (okS_no (s := s) (c := c) (a := a) (o := o) (by rintro ⟨⟨_, _⟩, ⟨_, _⟩, ⟨_, _⟩, ⟨_, _⟩⟩; omega))
                go_enter Try.func34, Try.ntmps34
                go_wp2
                go_ret
                exact ⟨ret_bool HF.out.symm, (by repeat (first | (with_reducible exact Below.refl _ _) | (with_reducible assumption) | (with_reducible refine below_drewN ?_ _) | (with_reducible refine Below.drew ?_) | (with_reducible refine Below.alloc ?_ ?_ _) | (with_reducible refine Below.setCell ?_ ?_ _) | exact Below.refl _ _ | assumption | (solve | omega | simp | (simp; omega))))⟩
            · have b5 : decide (a ≤ 1000000000000) = false := decide_eq_false t5
              have HF := Lib.hid (okS_no (s := s) (c := c) (a := a) (o := o) (by rintro ⟨⟨_, _⟩, ⟨_, _⟩, ⟨_, _⟩, ⟨_, _⟩⟩; omega))
              go_enter Try.func34, Try.ntmps34
              go_wp2
              go_ret
              exact ⟨ret_bool HF.out.symm, (by repeat (first | (with_reducible exact Below.refl _ _) | (with_reducible assumption) | (with_reducible refine below_drewN ?_ _) | (with_reducible refine Below.drew ?_) | (with_reducible refine Below.alloc ?_ ?_ _) | (with_reducible refine Below.setCell ?_ ?_ _) | exact Below.refl _ _ | assumption | (solve | omega | simp | (simp; omega))))⟩
          · have b4 : decide (0 ≤ a) = false := decide_eq_false t4
            have HF := Lib.hid (okS_no (s := s) (c := c) (a := a) (o := o) (by rintro ⟨⟨_, _⟩, ⟨_, _⟩, ⟨_, _⟩, ⟨_, _⟩⟩; omega))
            go_enter Try.func34, Try.ntmps34
            go_wp2
            go_ret
            exact ⟨ret_bool HF.out.symm, (by repeat (first | (with_reducible exact Below.refl _ _) | (with_reducible assumption) | (with_reducible refine below_drewN ?_ _) | (with_reducible refine Below.drew ?_) | (with_reducible refine Below.alloc ?_ ?_ _) | (with_reducible refine Below.setCell ?_ ?_ _) | exact Below.refl _ _ | assumption | (solve | omega | simp | (simp; omega))))⟩
        · have b3 : decide (c ≤ 999) = false := decide_eq_false t3
          have HF := Lib.hid (okS_no (s := s) (c := c) (a := a) (o := o) (by rintro ⟨⟨_, _⟩, ⟨_, _⟩, ⟨_, _⟩, ⟨_, _⟩⟩; omega))
          go_enter Try.func34, Try.ntmps34
          go_wp2
          go_ret
          exact ⟨ret_bool HF.out.symm, (by repeat (first | (with_reducible exact Below.refl _ _) | (with_reducible assumption) | (with_reducible refine below_drewN ?_ _) | (with_reducible refine Below.drew ?_) | (with_reducible refine Below.alloc ?_ ?_ _) | (with_reducible refine Below.setCell ?_ ?_ _) | exact Below.refl _ _ | assumption | (solve | omega | simp | (simp; omega))))⟩
      · have b2 : decide (1 ≤ c) = false := decide_eq_false t2
        have HF := Lib.hid (okS_no (s := s) (c := c) (a := a) (o := o) (by rintro ⟨⟨_, _⟩, ⟨_, _⟩, ⟨_, _⟩, ⟨_, _⟩⟩; omega))
        go_enter Try.func34, Try.ntmps34
        go_wp2
        go_ret
        exact ⟨ret_bool HF.out.symm, (by repeat (first | (with_reducible exact Below.refl _ _) | (with_reducible assumption) | (with_reducible refine below_drewN ?_ _) | (with_reducible refine Below.drew ?_) | (with_reducible refine Below.alloc ?_ ?_ _) | (with_reducible refine Below.setCell ?_ ?_ _) | exact Below.refl _ _ | assumption | (solve | omega | simp | (simp; omega))))⟩
    · have b1 : decide (s < 6) = false := decide_eq_false t1
      have HF := Lib.hid (okS_no (s := s) (c := c) (a := a) (o := o) (by rintro ⟨⟨_, _⟩, ⟨_, _⟩, ⟨_, _⟩, ⟨_, _⟩⟩; omega))
      go_enter Try.func34, Try.ntmps34
      go_wp2
      go_ret
      exact ⟨ret_bool HF.out.symm, (by repeat (first | (with_reducible exact Below.refl _ _) | (with_reducible assumption) | (with_reducible refine below_drewN ?_ _) | (with_reducible refine Below.drew ?_) | (with_reducible refine Below.alloc ?_ ?_ _) | (with_reducible refine Below.setCell ?_ ?_ _) | exact Below.refl _ _ | assumption | (solve | omega | simp | (simp; omega))))⟩
  · have b0 : decide (0 ≤ s) = false := decide_eq_false t0
    have HF := Lib.hid (okS_no (s := s) (c := c) (a := a) (o := o) (by rintro ⟨⟨_, _⟩, ⟨_, _⟩, ⟨_, _⟩, ⟨_, _⟩⟩; omega))
    go_enter Try.func34, Try.ntmps34
    go_wp2
    go_ret
    exact ⟨ret_bool HF.out.symm, (by repeat (first | (with_reducible exact Below.refl _ _) | (with_reducible assumption) | (with_reducible refine below_drewN ?_ _) | (with_reducible refine Below.drew ?_) | (with_reducible refine Below.alloc ?_ ?_ _) | (with_reducible refine Below.setCell ?_ ?_ _) | exact Below.refl _ _ | assumption | (solve | omega | simp | (simp; omega))))⟩
end Go.Proofs.Ytaifacnpnhcdcaa
