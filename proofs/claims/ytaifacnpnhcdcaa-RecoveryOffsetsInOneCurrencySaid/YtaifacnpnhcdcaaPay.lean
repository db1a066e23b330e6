/-
  Payments of a month and the months of a recovery: the contracts.
-/
import Derived.Test.YtaifacnpnhcdcaaRecV
import Derived.Test.YtaifacnpnhcdcaaModV
namespace Go.Proofs.Ytaifacnpnhcdcaa
open Go.RowKit Mny

theorem pct (d : Int) (h0 : 0 ≤ d) : (d * 30).tdiv 100 = d * 30 / 100 := Int.tdiv_eq_ediv_of_nonneg (by omega)
set_option maxRecDepth 100000 in
set_option maxHeartbeats 4000000 in
theorem rec_most (d q : Int) (w : World) (h0 : 0 ≤ d) (h1 : d ≤ 1000000000000) (hq : d * 30 / 100 = q) : Calls Try.prog 24 #[.int .i64 d] w fun e w' => e = .returned (.int .i64 q) ∧ w = w' := by
  have v1 : IntKind.i64.wrap (d * 30) = d * 30 := IntWalk.i64_in _ (by omega)
  have t1 : (d * 30).tdiv 100 = q := by rw [pct d h0]; exact hq
  have q0 : 0 ≤ q := by omega
  have q1 : q ≤ 1000000000000 := by omega
  clear hq
  go_enter Try.func24, Try.ntmps24
  go_wp2
  go_ret
  exact ⟨rfl, rfl⟩
set_option maxRecDepth 100000 in
set_option maxHeartbeats 4000000 in
theorem ref_most (d q : Int) (w : World) (h0 : 0 ≤ d) (h1 : d ≤ 1000000000000) (hq : d * 30 / 100 = q) : Calls Try.prog 25 #[.int .i64 d] w fun e w' => e = .returned (.int .i64 q) ∧ w = w' := by
  have v1 : IntKind.i64.wrap (d * 30) = d * 30 := IntWalk.i64_in _ (by omega)
  have t1 : (d * 30).tdiv 100 = q := by rw [pct d h0]; exact hq
  have q0 : 0 ≤ q := by omega
  have q1 : q ≤ 1000000000000 := by omega
  clear hq
  go_enter Try.func25, Try.ntmps25
  go_wp2
  go_ret
  exact ⟨rfl, rfl⟩
/-- what a payment is: of a balance b, a current due c of which at most q may be withheld -/
def PayF (b c q pay wh : Int) : Prop := (c ≤ b ∧ pay = b ∧ wh = 0) ∨ (b < c ∧ pay = c - wh ∧ wh = min (c - b) q)
set_option maxRecDepth 100000 in
set_option maxHeartbeats 4000000 in
theorem rec_Payment (b c q : Int) (w : World) (hc0 : 0 ≤ c) (hc1 : c ≤ 1000000000000) (hb0 : -1000000000000 ≤ b) (hb1 : b ≤ 1000000000000) (hq : c * 30 / 100 = q) :
    Calls Try.prog 13 #[.int .i64 b, .int .i64 c] w fun e w' => (∃ pay wh, e = .returned (.tuple #[.int .i64 pay, .int .i64 wh]) ∧ PayF b c q pay wh) ∧ w = w' := by
  have ham := fun W => rec_amount c W
  rw [inB_iff.2 ⟨hc0, hc1⟩] at ham
  have HAM := Lib.hid ham
  have hmo := fun W => rec_most c q W hc0 hc1 hq
  have HMO := Lib.hid hmo
  have q0 : 0 ≤ q := by omega
  have q1 : q ≤ 1000000000000 := by omega
  clear ham hmo hq
  have c1 : decide (b < -1000000000000) = false := decide_eq_false (by omega)
  have c2 : decide (1000000000000 < b) = false := decide_eq_false (by omega)
  have v1 : IntKind.i64.wrap (b - c) = b - c := IntWalk.i64_in _ (by omega)
  by_cases hp : c ≤ b
  · have c3 : decide (0 ≤ b - c) = true := decide_eq_true (by omega)
    go_enter Try.func13, Try.ntmps13
    go_wp2_with fail
    refine (HAM.out _).mono ?_
    rintro e w1 ⟨rfl, rfl⟩
    go_wp2
    go_ret2
    exact ⟨⟨_, _, rfl, .inl ⟨hp, rfl, rfl⟩⟩, rfl⟩
  · have c3 : decide (0 ≤ b - c) = false := decide_eq_false (by omega)
    have v2 : IntKind.i64.wrap (-(b - c)) = -(b - c) := IntWalk.i64_in _ (by omega)
    obtain ⟨W, hW⟩ : ∃ W, min (-(b - c)) q = W := ⟨_, rfl⟩
    have HW : Hid (min (c - b) q = W) := Lib.hid (by rw [← hW]; congr 1; omega)
    have W0 : 0 ≤ W := by omega
    have W1 : W ≤ q := by omega
    have v3 : IntKind.i64.wrap (c - W) = c - W := IntWalk.i64_in _ (by omega)
    go_enter Try.func13, Try.ntmps13
    go_wp2_with fail
    refine (HAM.out _).mono ?_
    rintro e w1 ⟨rfl, rfl⟩
    go_wp2_with fail
    refine (HMO.out _).mono ?_
    rintro e w1 ⟨rfl, rfl⟩
    go_wp2
    go_ret2
    exact ⟨⟨_, _, rfl, .inr ⟨by omega, rfl, HW.out.symm⟩⟩, rfl⟩
/-- the months of a recovery: an overpayment o, of which q is withheld a month -/
def monS (o q : Int) : Int := if o = 0 then 0 else if q = 0 then -1 else (o + q - 1) / q
set_option maxRecDepth 100000 in
set_option maxHeartbeats 4000000 in
theorem rec_Months (o d q : Int) (w : World) (ho0 : 0 ≤ o) (ho1 : o ≤ 1000000000000) (hd0 : 0 ≤ d) (hd1 : d ≤ 1000000000000) (hq : d * 30 / 100 = q) :
    Calls Try.prog 15 #[.int .i64 o, .int .i64 d] w fun e w' => e = .returned (.int .i64 (monS o q)) ∧ w = w' := by
  have HMO := Lib.hid (fun W => rec_most d q W hd0 hd1 hq)
  have q0 : 0 ≤ q := by omega
  have q1 : q ≤ 1000000000000 := by omega
  clear hq
  have h1 := fun W => rec_amount o W
  rw [inB_iff.2 ⟨ho0, ho1⟩] at h1
  have H1 := Lib.hid h1
  have h2 := fun W => rec_amount d W
  rw [inB_iff.2 ⟨hd0, hd1⟩] at h2
  have H2 := Lib.hid h2
  clear h1 h2
  by_cases z0 : o = 0
  · subst z0
    have c0 : ((0 : Int) == 0) = true := rfl
    have HF : Hid (monS 0 q = 0) := Lib.hid (by unfold monS; rw [if_pos rfl])
    go_enter Try.func15, Try.ntmps15
    go_wp2_with fail
    refine (H1.out _).mono ?_
    rintro e w1 ⟨rfl, rfl⟩
    go_wp2_with fail
    refine (H2.out _).mono ?_
    rintro e w1 ⟨rfl, rfl⟩
    go_wp2
    go_ret
    exact ⟨ret_int HF.out.symm, rfl⟩
  have c0 : (o == 0) = false := beq_eq_false_iff_ne.2 z0
  by_cases z1 : q = 0
  · subst z1
    have c1 : ((0 : Int) == 0) = true := rfl
    have HF : Hid (monS o 0 = -1) := Lib.hid (by unfold monS; rw [if_neg z0, if_pos rfl])
    go_enter Try.func15, Try.ntmps15
    go_wp2_with fail
    refine (H1.out _).mono ?_
    rintro e w1 ⟨rfl, rfl⟩
    go_wp2_with fail
    refine (H2.out _).mono ?_
    rintro e w1 ⟨rfl, rfl⟩
    go_wp2_with fail
    refine (HMO.out _).mono ?_
    rintro e w1 ⟨rfl, rfl⟩
    go_wp2
    go_ret
    exact ⟨ret_int HF.out.symm, rfl⟩
  have c1 : (q == 0) = false := beq_eq_false_iff_ne.2 z1
  have v1 : IntKind.i64.wrap (o + q) = o + q := IntWalk.i64_in _ (by omega)
  have v2 : IntKind.i64.wrap (o + q - 1) = o + q - 1 := IntWalk.i64_in _ (by omega)
  have ht : (o + q - 1).tdiv q = (o + q - 1) / q := Int.tdiv_eq_ediv_of_nonneg (by omega)
  obtain ⟨R, hR⟩ : ∃ R, (o + q - 1) / q = R := ⟨_, rfl⟩
  rw [hR] at ht
  have R0 : 0 ≤ R := by rw [← hR]; exact Int.ediv_nonneg (by omega) q0
  have R1 : R ≤ 2000000000000 := by rw [← hR]; exact Int.le_trans (Int.ediv_le_self _ (by omega)) (by omega)
  have HF : Hid (monS o q = R) := Lib.hid (by unfold monS; rw [if_neg z0, if_neg z1, hR])
  clear hR
  go_enter Try.func15, Try.ntmps15
  go_wp2_with fail
  refine (H1.out _).mono ?_
  rintro e w1 ⟨rfl, rfl⟩
  go_wp2_with fail
  refine (H2.out _).mono ?_
  rintro e w1 ⟨rfl, rfl⟩
  go_wp2_with fail
  refine (HMO.out _).mono ?_
  rintro e w1 ⟨rfl, rfl⟩
  go_wp2_with fail
  refine (HMO.out _).mono ?_
  rintro e w1 ⟨rfl, rfl⟩
  go_wp2_with fail
  refine (HMO.out _).mono ?_
  rintro e w1 ⟨rfl, rfl⟩
  go_wp2
  go_ret
  exact ⟨ret_int HF.out.symm, rfl⟩
set_option maxRecDepth 100000 in
set_option maxHeartbeats 4000000 in
theorem ref_Months (o d q : Int) (w : World) (ho0 : 0 ≤ o) (ho1 : o ≤ 1000000000000) (hd0 : 0 ≤ d) (hd1 : d ≤ 1000000000000) (hq : d * 30 / 100 = q) :
    Calls Try.prog 16 #[.int .i64 o, .int .i64 d] w fun e w' => e = .returned (.int .i64 (monS o q)) ∧ w = w' := by
  have HMO := Lib.hid (fun W => ref_most d q W hd0 hd1 hq)
  have q0 : 0 ≤ q := by omega
  have q1 : q ≤ 1000000000000 := by omega
  clear hq
  have d1 : decide (o < 0) = false := decide_eq_false (by omega)
  have d2 : decide (1000000000000 < o) = false := decide_eq_false (by omega)
  have d3 : decide (d < 0) = false := decide_eq_false (by omega)
  have d4 : decide (1000000000000 < d) = false := decide_eq_false (by omega)
  by_cases z0 : o = 0
  · subst z0
    have c0 : ((0 : Int) == 0) = true := rfl
    have HF : Hid (monS 0 q = 0) := Lib.hid (by unfold monS; rw [if_pos rfl])
    go_enter Try.func16, Try.ntmps16
    go_wp2
    go_ret
    exact ⟨ret_int HF.out.symm, rfl⟩
  have c0 : (o == 0) = false := beq_eq_false_iff_ne.2 z0
  by_cases z1 : q = 0
  · subst z1
    have c1 : ((0 : Int) == 0) = true := rfl
    have HF : Hid (monS o 0 = -1) := Lib.hid (by unfold monS; rw [if_neg z0, if_pos rfl])
    go_enter Try.func16, Try.ntmps16
    go_wp2_with fail
    refine (HMO.out _).mono ?_
    rintro e w1 ⟨rfl, rfl⟩
    go_wp2
    go_ret
    exact ⟨ret_int HF.out.symm, rfl⟩
  have c1 : (q == 0) = false := beq_eq_false_iff_ne.2 z1
  have v1 : IntKind.i64.wrap (o - 1) = o - 1 := IntWalk.i64_in _ (by omega)
  have ht : (o - 1).tdiv q = (o - 1) / q := Int.tdiv_eq_ediv_of_nonneg (by omega)
  obtain ⟨R, hR⟩ : ∃ R, (o - 1) / q = R := ⟨_, rfl⟩
  rw [hR] at ht
  have R0 : 0 ≤ R := by rw [← hR]; exact Int.ediv_nonneg (by omega) q0
  have R1 : R ≤ 2000000000000 := by rw [← hR]; exact Int.le_trans (Int.ediv_le_self _ (by omega)) (by omega)
  have v3 : IntKind.i64.wrap (R + 1) = R + 1 := IntWalk.i64_in _ (by omega)
  have HF : Hid (monS o q = R + 1) := Lib.hid (by
    unfold monS
    rw [if_neg z0, if_neg z1, ← hR]
    have e : o + q - 1 = (o - 1) + 1 * q := by omega
    rw [e, Int.add_mul_ediv_right _ _ z1])
  clear hR
  go_enter Try.func16, Try.ntmps16
  go_wp2_with fail
  refine (HMO.out _).mono ?_
  rintro e w1 ⟨rfl, rfl⟩
  go_wp2
  go_ret
  exact ⟨ret_int HF.out.symm, rfl⟩
end Go.Proofs.Ytaifacnpnhcdcaa
