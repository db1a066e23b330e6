/-
  MoneyShares: for every fraction, numbers, rounding and mood the law returns true; there is no condition.
-/
import Derived.Test.YtnhbidagnomkpaaRule
import Derived.Test.YtnhbidagnomkpaaAwake
import Derived.Test.YtnhbidagnomkpaaPost
import Derived.Test.YtnhbidagnomkpaaShare
namespace Go.Proofs.Ytnhbidagnomkpaa
open Go.RowKit Mny Go.WideShapes Go.ChangeShapes Go.ChangeAt

set_option maxRecDepth 100000 in
set_option maxHeartbeats 2000000 in
theorem walk_MoneyShares (n d num den m u mood : Int) (w : World) :
    Calls Try.prog 6 #[.agg #[.int .i64 n, .int .i64 d], .int .i64 num, .int .i64 den, .agg #[.int .i64 m, .int .i64 u], .int .i64 mood] w fun e w' => e = .returned (.bool true) ∧ Below w.heap.size w w' := by
  have hof0 := fun W => law_of n d mood W
  obtain ⟨f01, hf01⟩ : ∃ f, (ofV n d mood).1 = f := ⟨_, rfl⟩
  obtain ⟨f02, hf02⟩ : ∃ f, (ofV n d mood).2 = f := ⟨_, rfl⟩
  rw [hf01, hf02] at hof0
  have HO0 := Lib.hid hof0
  clear hof0 hf01 hf02
  have hru := fun W => law_rule m u mood W
  obtain ⟨g1, hg1⟩ : ∃ g, (ruleV m u mood).1 = g := ⟨_, rfl⟩
  obtain ⟨g2, hg2⟩ : ∃ g, (ruleV m u mood).2 = g := ⟨_, rfl⟩
  rw [hg1, hg2] at hru
  have HR := Lib.hid hru
  clear hru hg1 hg2
  have hpn := fun W => made_Pick num 73051 W (by omega) (by omega)
  have hpd := fun W => made_Pick den 73051 W (by omega) (by omega)
  obtain ⟨pn, hpne⟩ : ∃ p, num % 73051 = p := ⟨_, rfl⟩
  obtain ⟨pd, hpde⟩ : ∃ p, den % 73051 = p := ⟨_, rfl⟩
  rw [hpne] at hpn
  rw [hpde] at hpd
  have HPN := Lib.hid hpn
  have HPD := Lib.hid hpd
  clear hpn hpd hpne hpde
  obtain ⟨q5, hq5⟩ : ∃ q, mood.tmod 5 = q := ⟨_, rfl⟩
  have HQ5 := Lib.hid hq5
  clear hq5
  go_enter Try.func6, Try.ntmps6
  go_upto_region 1 with (fail)
  have B0 := Lib.hid ((Bx.made w 23 #[.int .i64 n, .int .i64 d] rfl).alloc (.cells #[.int .i64 m, .int .i64 u] 25))
  have B1 := Lib.hid (Bx.made (w.alloc (.cells #[.int .i64 n, .int .i64 d] 23)) 25 #[.int .i64 m, .int .i64 u] (g := w.heap.size + 1) (by simp))
  have HB0 : Hid (Below w.heap.size w ((w.alloc (.cells #[.int .i64 n, .int .i64 d] 23)).alloc (.cells #[.int .i64 m, .int .i64 u] 25))) := Lib.hid (by repeat (first | exact Below.refl _ _ | assumption | (with_reducible refine below_drewN ?_ _) | (with_reducible refine Below.drew ?_) | (with_reducible refine Below.alloc ?_ ?_ _) | (with_reducible refine Below.setCell ?_ ?_ _) | (solve | omega | simp | (simp; omega))))
  generalize hW0 : ((w.alloc (.cells #[.int .i64 n, .int .i64 d] 23)).alloc (.cells #[.int .i64 m, .int .i64 u] 25)) = W0 at B0 B1 HB0 ⊢
  have HW0 := Lib.hid hW0
  clear hW0
  go_cut [11] (fun a wx => Below w.heap.size w wx ∧ Bx wx w.heap.size 23 #[.int .i64 f01, .int .i64 f02] ∧ Bx wx (w.heap.size + 1) 25 #[.int .i64 g1, .int .i64 g2])
  case first =>
    have S0 : Below W0.heap.size W0 W0.drew := (Below.refl _ _).drew
    obtain ⟨c00, r00⟩ := B0.out.of
    obtain ⟨c01, r01⟩ := B1.out.of
    go_region_with (first
      | (go_at_call 14; refine (HO0.out _).mono ?_; rintro e w1 ⟨rfl, hb1⟩; have T1 := below_then (w := W0) (by first | assumption | exact (by repeat (first | exact Below.refl _ _ | assumption | (with_reducible refine below_drewN ?_ _) | (with_reducible refine Below.drew ?_) | (with_reducible refine Below.alloc ?_ ?_ _) | (with_reducible refine Below.setCell ?_ ?_ _) | (solve | omega | simp | (simp; omega))))) hb1; obtain ⟨c10, r10⟩ := (B0.out.below T1).of; obtain ⟨c11, r11⟩ := (B1.out.below T1).of)
      | (go_at_call 15; refine (HR.out _).mono ?_; rintro e w2 ⟨rfl, hb2⟩; have T2 := below_then (w := W0) (by first | assumption | exact (by repeat (first | exact Below.refl _ _ | assumption | (with_reducible refine below_drewN ?_ _) | (with_reducible refine Below.drew ?_) | (with_reducible refine Below.alloc ?_ ?_ _) | (with_reducible refine Below.setCell ?_ ?_ _) | (solve | omega | simp | (simp; omega))))) hb2; obtain ⟨c20, r20⟩ := (B0.out.below T2).of; obtain ⟨c21, r21⟩ := (B1.out.below T2).of))
    all_goals
      have T9 : Below W0.heap.size W0 w2 := by assumption
      have hB9 := below_then HB0.out T9
      go_wp2_with fail
      go_meet
      exact ⟨(by repeat (first | exact Below.refl _ _ | assumption | (with_reducible refine below_drewN ?_ _) | (with_reducible refine Below.drew ?_) | (with_reducible refine Below.alloc ?_ ?_ _) | (with_reducible refine Below.setCell ?_ ?_ _) | (solve | omega | simp | (simp; omega)))), (((((B0.out.below T9).put 0 _).put 1 _).far (by simp) _).far (by simp) _), (((((B1.out.below T9).far (by simp) _).far (by simp) _).put 0 _).put 1 _)⟩
  case rest =>
    obtain ⟨hB, b0, b1⟩ := hcut
    have HB := Lib.hid hB
    have D0 := Lib.hid b0
    have D1 := Lib.hid b1
    obtain ⟨c0, r0⟩ := b0.of
    obtain ⟨c1, r1⟩ := b1.of
    clear hB b0 b1
    by_cases hz : q5 = 0
    · have hb5 : (mood.tmod 5 != 0) = false := by rw [HQ5.out, hz]; rfl
      clear hz
      obtain ⟨A, E, hAE⟩ : ∃ A E, shareS f01 f02 num den g1 g2 = (A, E) := ⟨_, _, rfl⟩
      have hm := fun W => money_Share f01 f02 num den g1 g2 W
      have hr := fun W => ref_Share f01 f02 num den g1 g2 W
      rw [hAE] at hm hr
      have HM : Hid (∀ W, Calls Try.prog 26 #[.agg #[.int .i64 f01, .int .i64 f02], .int .i64 num, .int .i64 den, .agg #[.int .i64 g1, .int .i64 g2]] W fun e w' => e = .returned (.tuple #[.int .i64 A, .int .i64 E]) ∧ Below W.heap.size W w') := Lib.hid hm
      have HRR : Hid (∀ W, Calls Try.prog 27 #[.agg #[.int .i64 f01, .int .i64 f02], .int .i64 num, .int .i64 den, .agg #[.int .i64 g1, .int .i64 g2]] W fun e w' => e = .returned (.tuple #[.int .i64 A, .int .i64 E]) ∧ Below W.heap.size W w') := Lib.hid hr
      clear hm hr hAE
      go_wp2_with fail
      refine (HM.out _).mono ?_
      rintro e w3 ⟨rfl, hb3⟩
      have HB3 := Lib.hid (below_then HB.out hb3)
      have D00 := Lib.hid (D0.out.below hb3)
      obtain ⟨c00x, r00x⟩ := D00.out.of
      have D10 := Lib.hid (D1.out.below hb3)
      obtain ⟨c10x, r10x⟩ := D10.out.of
      clear hb3 c0 r0 c1 r1
      go_wp2_with fail
      refine (HRR.out _).mono ?_
      rintro e w4 ⟨rfl, hb4⟩
      have HB4 := Lib.hid (below_then HB3.out hb4)
      clear hb4 c00x r00x c10x r10x
      go_wp2_with fail
      refine (law4_awake _).mono ?_
      rintro e w9 ⟨rfl, hb9⟩
      have HB9 := Lib.hid (below_then HB4.out hb9)
      go_wp2
      go_ret
      exact ⟨ret_bool (by simp), HB9.out⟩
    · have hb5 : (mood.tmod 5 != 0) = true := by rw [HQ5.out]; exact bne_iff_ne.2 hz
      clear hz
      obtain ⟨A, E, hAE⟩ : ∃ A E, shareS f01 f02 pn pd g1 g2 = (A, E) := ⟨_, _, rfl⟩
      have hm := fun W => money_Share f01 f02 pn pd g1 g2 W
      have hr := fun W => ref_Share f01 f02 pn pd g1 g2 W
      rw [hAE] at hm hr
      have HM : Hid (∀ W, Calls Try.prog 26 #[.agg #[.int .i64 f01, .int .i64 f02], .int .i64 pn, .int .i64 pd, .agg #[.int .i64 g1, .int .i64 g2]] W fun e w' => e = .returned (.tuple #[.int .i64 A, .int .i64 E]) ∧ Below W.heap.size W w') := Lib.hid hm
      have HRR : Hid (∀ W, Calls Try.prog 27 #[.agg #[.int .i64 f01, .int .i64 f02], .int .i64 pn, .int .i64 pd, .agg #[.int .i64 g1, .int .i64 g2]] W fun e w' => e = .returned (.tuple #[.int .i64 A, .int .i64 E]) ∧ Below W.heap.size W w') := Lib.hid hr
      clear hm hr hAE
      go_wp2_with fail
      refine (HPN.out _).mono ?_
      rintro e _ ⟨rfl, rfl⟩
      go_wp2_with fail
      refine (HPD.out _).mono ?_
      rintro e _ ⟨rfl, rfl⟩
      go_wp2_with fail
      refine (HM.out _).mono ?_
      rintro e w3 ⟨rfl, hb3⟩
      have HB3 := Lib.hid (below_then HB.out hb3)
      have D00 := Lib.hid (D0.out.below hb3)
      obtain ⟨c00x, r00x⟩ := D00.out.of
      have D10 := Lib.hid (D1.out.below hb3)
      obtain ⟨c10x, r10x⟩ := D10.out.of
      clear hb3 c0 r0 c1 r1
      go_wp2_with fail
      refine (HRR.out _).mono ?_
      rintro e w4 ⟨rfl, hb4⟩
      have HB4 := Lib.hid (below_then HB3.out hb4)
      clear hb4 c00x r00x c10x r10x
      go_wp2_with fail
      refine (law4_awake _).mono ?_
      rintro e w9 ⟨rfl, hb9⟩
      have HB9 := Lib.hid (below_then HB4.out hb9)
      go_wp2
      go_ret
      exact ⟨ret_bool (by simp), HB9.out⟩

end Go.Proofs.Ytnhbidagnomkpaa
