/-
  The walk of RecoveryKeepsTheMinimum.
-/
import Derived.Test.YtaifacnpnhcdcaaAwakeV
import Derived.Test.YtaifacnpnhcdcaaMakeV
namespace Go.Proofs.Ytaifacnpnhcdcaa
open Go.RowKit Mny

set_option maxRecDepth 100000 in
set_option maxHeartbeats 8000000 in
theorem walk_RecoveryKeepsTheMinimum (a0 a1 : Int) (w : World) : Calls Try.prog 3 #[.int .i64 a0, .int .i64 a1] w fun e w' => e = .returned (.bool true) ∧ Below w.heap.size w w' := by
  have HA := Lib.hid (fun W => rec_awake W)
  go_enter Try.func3, Try.ntmps3
  go_wp2_with fail
  refine (plain_Amount _ _).mono ?_
  rintro e _ ⟨c0, rfl, hc, rfl⟩
  go_wp2_with fail
  refine (plain_Mod _ 500000000000 _ (by decide) (by decide)).mono ?_
  rintro e _ ⟨rfl, rfl⟩
  obtain ⟨c, ec⟩ : ∃ q, c0 % 500000000000 = q := ⟨_, rfl⟩
  have lc : 0 ≤ c := by rw [← ec]; exact Int.emod_nonneg _ (by decide)
  have uc : c < 500000000000 := by rw [← ec]; exact Int.emod_lt_of_pos _ (by decide)
  rw [ec]
  clear ec hc
  go_wp2_with fail
  refine (plain_Amount _ _).mono ?_
  rintro e _ ⟨p0, rfl, hp, rfl⟩
  go_wp2_with fail
  refine (plain_Mod _ 500000000000 _ (by decide) (by decide)).mono ?_
  rintro e _ ⟨rfl, rfl⟩
  obtain ⟨p, ep⟩ : ∃ q, p0 % 500000000000 = q := ⟨_, rfl⟩
  have lp : 0 ≤ p := by rw [← ep]; exact Int.emod_nonneg _ (by decide)
  have up : p < 500000000000 := by rw [← ep]; exact Int.emod_lt_of_pos _ (by decide)
  rw [ep]
  clear ep hp
  by_cases hm : a0.tmod 2 = 0
  · have c0 : (a0.tmod 2 == 0) = true := beq_iff_eq.2 hm
    clear hm
    obtain ⟨P, hP⟩ : ∃ P, -p = P := ⟨_, rfl⟩
    have v0 : IntKind.i64.wrap P = P := IntWalk.i64_in _ (by omega)
    have P0 : -500000000000 < P := by omega
    have P1 : P < 500000000000 := by omega
    clear lp up
    have v1 : IntKind.i64.wrap (P + c) = P + c := IntWalk.i64_in _ (by omega)
    have q0 : 0 ≤ c * 30 / 100 := Int.ediv_nonneg (by omega) (by decide)
    have q1 : c * 30 / 100 ≤ c := by omega
    obtain ⟨q, hq⟩ : ∃ q, c * 30 / 100 = q := ⟨_, rfl⟩
    have t1 : (c * 30).tdiv 100 = q := by rw [pct c lc]; exact hq
    have HPM := Lib.hid (fun W => rec_Payment (P + c) c q W lc (by omega) (by omega) (by omega) hq)
    rw [hq] at q0 q1
    clear hq
    have v2 : IntKind.i64.wrap (c * 30) = c * 30 := IntWalk.i64_in _ (by omega)
    go_wp2_with fail
    refine (HPM.out _).mono ?_
    rintro e _ ⟨⟨pay, wh, rfl, hf⟩, rfl⟩
    have hpb : -2000000000000 ≤ pay ∧ pay ≤ 2000000000000 := by unfold PayF at hf; omega
    have hwb : 0 ≤ wh ∧ wh ≤ q := by unfold PayF at hf; omega
    have v3 : IntKind.i64.wrap (c - q) = c - q := IntWalk.i64_in _ (by omega)
    have d1 : decide (c - q ≤ pay) = true := decide_eq_true (by unfold PayF at hf; omega)
    have d2 : decide (0 ≤ wh) = true := decide_eq_true (by omega)
    have d3 : decide (wh ≤ q) = true := decide_eq_true (by omega)
    have d4 : decide (pay ≤ max c (P + c)) = true := decide_eq_true (by unfold PayF at hf; omega)
    have hz : wh = 0 ∨ P < 0 := by unfold PayF at hf; omega
    clear hf
    by_cases hw : wh = 0
    · have d5 : (wh == 0) = true := beq_iff_eq.2 hw
      clear hw hz
      go_wp2_with fail
      refine (HA.out _).mono ?_
      rintro e w9 ⟨rfl, hb9⟩
      go_wp2
      go_ret
      exact ⟨rfl, hb9⟩
    · have d5 : (wh == 0) = false := beq_eq_false_iff_ne.2 hw
      have d6 : decide (P < 0) = true := decide_eq_true (by omega)
      clear hw hz
      go_wp2_with fail
      refine (HA.out _).mono ?_
      rintro e w9 ⟨rfl, hb9⟩
      go_wp2
      go_ret
      exact ⟨rfl, hb9⟩
  · have c0 : (a0.tmod 2 == 0) = false := beq_eq_false_iff_ne.2 hm
    clear hm
    have v1 : IntKind.i64.wrap (p + c) = p + c := IntWalk.i64_in _ (by omega)
    have q0 : 0 ≤ c * 30 / 100 := Int.ediv_nonneg (by omega) (by decide)
    have q1 : c * 30 / 100 ≤ c := by omega
    obtain ⟨q, hq⟩ : ∃ q, c * 30 / 100 = q := ⟨_, rfl⟩
    have t1 : (c * 30).tdiv 100 = q := by rw [pct c lc]; exact hq
    have HPM := Lib.hid (fun W => rec_Payment (p + c) c q W lc (by omega) (by omega) (by omega) hq)
    rw [hq] at q0 q1
    clear hq
    have v2 : IntKind.i64.wrap (c * 30) = c * 30 := IntWalk.i64_in _ (by omega)
    go_wp2_with fail
    refine (HPM.out _).mono ?_
    rintro e _ ⟨⟨pay, wh, rfl, hf⟩, rfl⟩
    have hpb : -2000000000000 ≤ pay ∧ pay ≤ 2000000000000 := by unfold PayF at hf; omega
    have hwb : 0 ≤ wh ∧ wh ≤ q := by unfold PayF at hf; omega
    have v3 : IntKind.i64.wrap (c - q) = c - q := IntWalk.i64_in _ (by omega)
    have d1 : decide (c - q ≤ pay) = true := decide_eq_true (by unfold PayF at hf; omega)
    have d2 : decide (0 ≤ wh) = true := decide_eq_true (by omega)
    have d3 : decide (wh ≤ q) = true := decide_eq_true (by omega)
    have d4 : decide (pay ≤ max c (p + c)) = true := decide_eq_true (by unfold PayF at hf; omega)
    have hz : wh = 0 ∨ p < 0 := by unfold PayF at hf; omega
    clear hf
    by_cases hw : wh = 0
    · have d5 : (wh == 0) = true := beq_iff_eq.2 hw
      clear hw hz
      go_wp2_with fail
      refine (HA.out _).mono ?_
      rintro e w9 ⟨rfl, hb9⟩
      go_wp2
      go_ret
      exact ⟨rfl, hb9⟩
    · have d5 : (wh == 0) = false := beq_eq_false_iff_ne.2 hw
      have d6 : decide (p < 0) = true := decide_eq_true (by omega)
      clear hw hz
      go_wp2_with fail
      refine (HA.out _).mono ?_
      rintro e w9 ⟨rfl, hb9⟩
      go_wp2
      go_ret
      exact ⟨rfl, hb9⟩
end Go.Proofs.Ytaifacnpnhcdcaa
