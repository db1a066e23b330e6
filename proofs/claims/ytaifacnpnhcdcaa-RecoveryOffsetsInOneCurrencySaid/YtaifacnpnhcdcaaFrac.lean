/-
  Contracts of the validity of fractions and roundings, of the program and of the reference: both are the same plain test.
-/
import Derived.Test.YtaifacnpnhcdcaaCal
namespace Go.Proofs.Ytaifacnpnhcdcaa
open Go.RowKit Mny

theorem validF_no1 {n d : Int} (h : ¬ 1 ≤ d) : validF n d = false := by unfold validF; simp [h]
theorem validF_no2 {n d : Int} (h : ¬ d ≤ 1000000000) : validF n d = false := by unfold validF; simp [h]
theorem validF_no3 {n d : Int} (h : ¬ -1000000000000000 ≤ n) : validF n d = false := by unfold validF; simp [h]
theorem validF_no4 {n d : Int} (h : ¬ n ≤ 1000000000000000) : validF n d = false := by unfold validF; simp [h]
theorem validF_of {n d : Int} (h1 : 1 ≤ d) (h2 : d ≤ 1000000000) (h3 : -1000000000000000 ≤ n) (h4 : n ≤ 1000000000000000) : validF n d = (((Nat.gcd n.natAbs d.natAbs : Nat) : Int) == 1) := by
  unfold validF
  simp only [h1, h2, h3, h4, decide_true, Bool.true_and]
  by_cases h : Nat.gcd n.natAbs d.natAbs = 1
  · rw [decide_eq_true h, h]; rfl
  · rw [decide_eq_false h]; symm; rw [beq_eq_false_iff_ne]; omega

set_option maxHeartbeats 1000000 in
theorem rat_Valid (n d : Int) (w : World) :
    Calls Try.prog 39 #[.agg #[.int .i64 n, .int .i64 d]] w fun e w' => e = .returned (.bool (validF n d)) ∧ Below w.heap.size w w' := by
  have hB : ∀ o k, Below w.heap.size w ((w.alloc o).drewN k) := fun o k => below_drewN ((Below.refl _ _).alloc (Nat.le_refl _) _) _
  by_cases h1 : 1 ≤ d
  · by_cases h2 : d ≤ 1000000000
    · by_cases h3 : -1000000000000000 ≤ n
      · by_cases h4 : n ≤ 1000000000000000
        · have hv := Lib.hid (validF_of h1 h2 h3 h4)
          have k1 : n.natAbs < 18446744073709551616 := by omega
          have k2 : d.natAbs < 18446744073709551616 := by omega
          go_enter Try.func39, Try.ntmps39
          go_wp2
          go_quiet ((first | (go_at_call 61; refine quiet_left (rat_size _ _ ?_ ?_) <;> omega) | (go_at_call 60; refine Calls.quiet_of (rat_gcd _ _ _ ?_ ?_) <;> omega)))
          go_wp2
          go_ret
          exact ⟨ret_bool hv.out.symm, hB _ _⟩
        · have hv := Lib.hid (validF_no4 (d := d) h4)
          have d4 : decide (n ≤ 1000000000000000) = false := decide_eq_false h4
          go_enter Try.func39, Try.ntmps39
          go_wp2
          go_quiet (fail)
          go_wp2
          go_ret
          exact ⟨ret_bool hv.out.symm, hB _ _⟩
      · have hv := Lib.hid (validF_no3 (d := d) h3)
        have d3 : decide (-1000000000000000 ≤ n) = false := decide_eq_false h3
        go_enter Try.func39, Try.ntmps39
        go_wp2
        go_quiet (fail)
        go_wp2
        go_ret
        exact ⟨ret_bool hv.out.symm, hB _ _⟩
    · have hv := Lib.hid (validF_no2 (n := n) h2)
      have d2 : decide (d ≤ 1000000000) = false := decide_eq_false h2
      go_enter Try.func39, Try.ntmps39
      go_wp2
      go_quiet (fail)
      go_wp2
      go_ret
      exact ⟨ret_bool hv.out.symm, hB _ _⟩
  · have hv := Lib.hid (validF_no1 (n := n) h1)
    have d1 : decide (1 ≤ d) = false := decide_eq_false h1
    go_enter Try.func39, Try.ntmps39
    go_wp2
    go_quiet (fail)
    go_wp2
    go_ret
    exact ⟨ret_bool hv.out.symm, hB _ _⟩
set_option maxHeartbeats 1000000 in
theorem ref_ValidFraction (n d : Int) (w : World) :
    Calls Try.prog 51 #[.agg #[.int .i64 n, .int .i64 d]] w fun e w' => e = .returned (.bool (validF n d)) ∧ Below w.heap.size w w' := by
  have hB : ∀ o k, Below w.heap.size w ((w.alloc o).drewN k) := fun o k => below_drewN ((Below.refl _ _).alloc (Nat.le_refl _) _) _
  by_cases h1 : 1 ≤ d
  · by_cases h2 : d ≤ 1000000000
    · by_cases h3 : -1000000000000000 ≤ n
      · by_cases h4 : n ≤ 1000000000000000
        · obtain ⟨D, rfl⟩ : ∃ D : Nat, d = (D : Int) := ⟨d.toNat, by omega⟩
          have hv := Lib.hid (validF_of h1 h2 h3 h4)
          rw [Int.natAbs_natCast] at hv
          have k1 : n.natAbs < 18446744073709551616 := by omega
          have k2 : D < 18446744073709551616 := by omega
          go_enter Try.func51, Try.ntmps51
          go_wp2
          go_quiet ((first | (go_at_call 56; refine quiet_left (ref_size _ _ ?_ ?_) <;> omega) | (go_at_call 66; refine Calls.quiet_of (ref_gcd _ _ _ ?_ ?_) <;> omega)))
          go_wp2
          go_ret
          exact ⟨ret_bool hv.out.symm, hB _ _⟩
        · have hv := Lib.hid (validF_no4 (d := d) h4)
          have d4 : decide (n ≤ 1000000000000000) = false := decide_eq_false h4
          go_enter Try.func51, Try.ntmps51
          go_wp2
          go_quiet (fail)
          go_wp2
          go_ret
          exact ⟨ret_bool hv.out.symm, hB _ _⟩
      · have hv := Lib.hid (validF_no3 (d := d) h3)
        have d3 : decide (-1000000000000000 ≤ n) = false := decide_eq_false h3
        go_enter Try.func51, Try.ntmps51
        go_wp2
        go_quiet (fail)
        go_wp2
        go_ret
        exact ⟨ret_bool hv.out.symm, hB _ _⟩
    · have hv := Lib.hid (validF_no2 (n := n) h2)
      have d2 : decide (d ≤ 1000000000) = false := decide_eq_false h2
      go_enter Try.func51, Try.ntmps51
      go_wp2
      go_quiet (fail)
      go_wp2
      go_ret
      exact ⟨ret_bool hv.out.symm, hB _ _⟩
  · have hv := Lib.hid (validF_no1 (n := n) h1)
    have d1 : decide (1 ≤ d) = false := decide_eq_false h1
    go_enter Try.func51, Try.ntmps51
    go_wp2
    go_quiet (fail)
    go_wp2
    go_ret
    exact ⟨ret_bool hv.out.symm, hB _ _⟩
/-- a valid rounding -/
def validR (mode unit : Int) : Bool := inB 1 4 mode && inB 1 100000 unit
theorem validR_iff {mode unit : Int} : validR mode unit = true ↔ 1 ≤ mode ∧ mode ≤ 4 ∧ 1 ≤ unit ∧ unit ≤ 100000 := by
  unfold validR; rw [Bool.and_eq_true, inB_iff, inB_iff]; omega
theorem validR_no {mode unit : Int} (h : ¬ (1 ≤ mode ∧ mode ≤ 4 ∧ 1 ≤ unit ∧ unit ≤ 100000)) : validR mode unit = false := by
  cases hv : validR mode unit
  · rfl
  · exact absurd (validR_iff.1 hv) h

set_option maxHeartbeats 1000000 in
theorem money_ValidRounding (m u : Int) (w : World) :
    Calls Try.prog 46 #[.agg #[.int .i64 m, .int .i64 u]] w fun e w' => e = .returned (.bool (validR m u)) ∧ Below w.heap.size w w' := by
  have hB : ∀ o, Below w.heap.size w (w.alloc o) := fun o => (Below.refl _ _).alloc (Nat.le_refl _) _
  by_cases hm : m = 1 ∨ m = 2 ∨ m = 3 ∨ m = 4
  · by_cases h1 : 1 ≤ u
    · by_cases h2 : u ≤ 100000
      · rcases hm with rfl | rfl | rfl | rfl
        all_goals
          go_enter Try.func46, Try.ntmps46
          go_wp2
          go_ret
          exact ⟨ret_bool (validR_iff.2 (by omega)).symm, hB _⟩
      · rcases hm with rfl | rfl | rfl | rfl
        all_goals
          go_enter Try.func46, Try.ntmps46
          go_wp2
          go_ret
          exact ⟨ret_bool (validR_no (by omega)).symm, hB _⟩
    · rcases hm with rfl | rfl | rfl | rfl
      all_goals
        go_enter Try.func46, Try.ntmps46
        go_wp2
        go_ret
        exact ⟨ret_bool (validR_no (by omega)).symm, hB _⟩
  · have n1 : ¬ m = 1 := by omega
    have n2 : ¬ m = 2 := by omega
    have n3 : ¬ m = 3 := by omega
    have n4 : ¬ m = 4 := by omega
    have hv : validR m u = false := by
      cases h : validR m u
      · rfl
      · have := validR_iff.1 h; omega
    have HV := Lib.hid hv
    clear hm hv
    have b1 : (m == 1) = false := beq_eq_false_iff_ne.2 n1
    have b2 : (m == 2) = false := beq_eq_false_iff_ne.2 n2
    have b3 : (m == 3) = false := beq_eq_false_iff_ne.2 n3
    have b4 : (m == 4) = false := beq_eq_false_iff_ne.2 n4
    go_enter Try.func46, Try.ntmps46
    go_wp2
    go_ret
    exact ⟨ret_bool HV.out.symm, hB _⟩

set_option maxHeartbeats 1000000 in
theorem ref_ValidRounding (m u : Int) (w : World) :
    Calls Try.prog 54 #[.agg #[.int .i64 m, .int .i64 u]] w fun e w' => e = .returned (.bool (validR m u)) ∧ Below w.heap.size w w' := by
  have hB : ∀ o, Below w.heap.size w (w.alloc o) := fun o => (Below.refl _ _).alloc (Nat.le_refl _) _
  by_cases h1 : 1 ≤ m
  · by_cases h2 : m ≤ 4
    · by_cases h3 : 1 ≤ u
      · by_cases h4 : u ≤ 100000
        · go_enter Try.func54, Try.ntmps54
          go_wp2
          go_ret
          exact ⟨ret_bool (validR_iff.2 (by omega)).symm, hB _⟩
        · go_enter Try.func54, Try.ntmps54
          go_wp2
          go_ret
          exact ⟨ret_bool (validR_no (by omega)).symm, hB _⟩
      · go_enter Try.func54, Try.ntmps54
        go_wp2
        go_ret
        exact ⟨ret_bool (validR_no (by omega)).symm, hB _⟩
    · go_enter Try.func54, Try.ntmps54
      go_wp2
      go_ret
      exact ⟨ret_bool (validR_no (by omega)).symm, hB _⟩
  · go_enter Try.func54, Try.ntmps54
    go_wp2
    go_ret
    exact ⟨ret_bool (validR_no (by omega)).symm, hB _⟩
end Go.Proofs.Ytaifacnpnhcdcaa
