/-
  MoneyRounds: for every fraction, rounding and mood the law returns true; there is no condition.
-/
import Derived.Test.YtnhbidagnomkpaaRule
import Derived.Test.YtnhbidagnomkpaaAwake
import Derived.Test.YtnhbidagnomkpaaPost
namespace Go.Proofs.Ytnhbidagnomkpaa
open Go.RowKit Mny Go.WideShapes Go.ChangeShapes Go.ChangeAt

set_option maxRecDepth 100000 in
set_option maxHeartbeats 1000000 in
theorem walk_MoneyRounds (n d m u mood : Int) (w : World) :
    Calls Try.prog 3 #[.agg #[.int .i64 n, .int .i64 d], .agg #[.int .i64 m, .int .i64 u], .int .i64 mood] w fun e w' => e = .returned (.bool true) ∧ Below w.heap.size w w' := by
  have hof := fun W => law_of n d mood W
  have hru := fun W => law_rule m u mood W
  obtain ⟨f1, hf1⟩ : ∃ f1, (ofV n d mood).1 = f1 := ⟨_, rfl⟩
  obtain ⟨f2, hf2⟩ : ∃ f2, (ofV n d mood).2 = f2 := ⟨_, rfl⟩
  obtain ⟨g1, hg1⟩ : ∃ g1, (ruleV m u mood).1 = g1 := ⟨_, rfl⟩
  obtain ⟨g2, hg2⟩ : ∃ g2, (ruleV m u mood).2 = g2 := ⟨_, rfl⟩
  rw [hf1, hf2] at hof
  rw [hg1, hg2] at hru
  have HO := Lib.hid hof
  have HR := Lib.hid hru
  clear hof hru hf1 hf2 hg1 hg2
  obtain ⟨A, E, hAE⟩ : ∃ A E, roundS f1 f2 g1 g2 = (A, E) := ⟨_, _, rfl⟩
  have hm := fun W => money_Round f1 f2 g1 g2 W
  have hr := fun W => ref_Round f1 f2 g1 g2 W
  rw [hAE] at hm hr
  have HM : Hid (∀ W, Calls Try.prog 16 #[.agg #[.int .i64 f1, .int .i64 f2], .agg #[.int .i64 g1, .int .i64 g2]] W fun e w' => e = .returned (.tuple #[.int .i64 A, .int .i64 E]) ∧ Below W.heap.size W w') := Lib.hid hm
  have HRR : Hid (∀ W, Calls Try.prog 17 #[.agg #[.int .i64 f1, .int .i64 f2], .agg #[.int .i64 g1, .int .i64 g2]] W fun e w' => e = .returned (.tuple #[.int .i64 A, .int .i64 E]) ∧ Below W.heap.size W w') := Lib.hid hr
  clear hm hr hAE
  go_enter Try.func3, Try.ntmps3
  go_upto_region 1 with (fail)
  have B1 := Lib.hid ((Bx.made w 23 #[.int .i64 n, .int .i64 d] rfl).alloc (.cells #[.int .i64 m, .int .i64 u] 25))
  have B2 := Lib.hid (Bx.made (w.alloc (.cells #[.int .i64 n, .int .i64 d] 23)) 25 #[.int .i64 m, .int .i64 u] (g := w.heap.size + 1) (by simp))
  have HB0 : Hid (Below w.heap.size w ((w.alloc (.cells #[.int .i64 n, .int .i64 d] 23)).alloc (.cells #[.int .i64 m, .int .i64 u] 25))) := Lib.hid (by repeat (first | exact Below.refl _ _ | assumption | (with_reducible refine below_drewN ?_ _) | (with_reducible refine Below.drew ?_) | (with_reducible refine Below.alloc ?_ ?_ _) | (with_reducible refine Below.setCell ?_ ?_ _) | (solve | omega | simp | (simp; omega))))
  generalize hW0 : (w.alloc (.cells #[.int .i64 n, .int .i64 d] 23)).alloc (.cells #[.int .i64 m, .int .i64 u] 25) = W0 at B1 B2 HB0 ⊢
  have HW0 := Lib.hid hW0
  clear hW0
  go_cut [6] (fun a wx => Below w.heap.size w wx ∧ Bx wx w.heap.size 23 #[.int .i64 f1, .int .i64 f2] ∧ Bx wx (w.heap.size + 1) 25 #[.int .i64 g1, .int .i64 g2])
  case first =>
    have S0 : Below W0.heap.size W0 W0.drew := (Below.refl _ _).drew
    obtain ⟨c01, r01⟩ := B1.out.of
    obtain ⟨c02, r02⟩ := B2.out.of
    go_region_with (first
      | (go_at_call 14; refine (HO.out _).mono ?_; rintro e w1 ⟨rfl, hb1⟩; have T1 := below_then (w := W0) (by first | assumption | exact (by repeat (first | exact Below.refl _ _ | assumption | (with_reducible refine below_drewN ?_ _) | (with_reducible refine Below.drew ?_) | (with_reducible refine Below.alloc ?_ ?_ _) | (with_reducible refine Below.setCell ?_ ?_ _) | (solve | omega | simp | (simp; omega))))) hb1; obtain ⟨c11, r11⟩ := (B1.out.below T1).of; obtain ⟨c12, r12⟩ := (B2.out.below T1).of)
      | (go_at_call 15; refine (HR.out _).mono ?_; rintro e w2 ⟨rfl, hb2⟩; have T2 := below_then (w := W0) (by first | assumption | exact (by repeat (first | exact Below.refl _ _ | assumption | (with_reducible refine below_drewN ?_ _) | (with_reducible refine Below.drew ?_) | (with_reducible refine Below.alloc ?_ ?_ _) | (with_reducible refine Below.setCell ?_ ?_ _) | (solve | omega | simp | (simp; omega))))) hb2; obtain ⟨c21, r21⟩ := (B1.out.below T2).of; obtain ⟨c22, r22⟩ := (B2.out.below T2).of))
    all_goals
      have T9 : Below W0.heap.size W0 w2 := by assumption
      have hB9 := below_then HB0.out T9
      go_wp2_with fail
      go_meet
      exact ⟨(by repeat (first | exact Below.refl _ _ | assumption | (with_reducible refine below_drewN ?_ _) | (with_reducible refine Below.drew ?_) | (with_reducible refine Below.alloc ?_ ?_ _) | (with_reducible refine Below.setCell ?_ ?_ _) | (solve | omega | simp | (simp; omega)))), ((((B1.out.below T9).put 0 _).put 1 _).far (by simp) _).far (by simp) _, ((((B2.out.below T9).far (by simp) _).far (by simp) _).put 0 _).put 1 _⟩
  case rest =>
    obtain ⟨hB, b1, b2⟩ := hcut
    have HB := Lib.hid hB
    have D1 := Lib.hid b1
    have D2 := Lib.hid b2
    obtain ⟨c1, r1⟩ := b1.of
    obtain ⟨c2, r2⟩ := b2.of
    clear hB b1 b2
    go_wp2_with fail
    refine (HM.out _).mono ?_
    rintro e w3 ⟨rfl, hb3⟩
    have HB3 := Lib.hid (below_then HB.out hb3)
    have D13 := Lib.hid (D1.out.below hb3)
    have D23 := Lib.hid (D2.out.below hb3)
    obtain ⟨c13, r13⟩ := D13.out.of
    obtain ⟨c23, r23⟩ := D23.out.of
    clear hb3 c1 r1 c2 r2
    go_wp2_with fail
    refine (HRR.out _).mono ?_
    rintro e w4 ⟨rfl, hb4⟩
    have HB4 := Lib.hid (below_then HB3.out hb4)
    have g0 : ∀ x : BW w4, x.val.cell? ⟨w.heap.size + 1, 0, none⟩ = some (.int .i64 g1) := BW.cells (D23.out.below hb4) 0
    have g3 : ∀ x : BW w4, x.val.cell? ⟨w.heap.size + 1, 1, none⟩ = some (.int .i64 g2) := BW.cells (D23.out.below hb4) 1
    clear hb4 c13 r13 c23 r23
    go_wp2_with fail
    refine wp_region_below (by kernel_rfl) (by kernel_rfl) ?_
    repeat (go_big_quiet_step (((first | (go_at_call 18; exact bq_below (law4_awake _)) | (go_at_call 19; exact bq_below (money_ValidRounding _ _ _)) | (go_at_call 20; exact bq_below (ref_ValidRounding _ _ _))))))
    refine wpQuiet_nil ?_
    intro _ hw'
    obtain ⟨⟨w5, hb5⟩, rfl⟩ := hw'
    have HB5 := Lib.hid (below_then HB4.out hb5)
    go_wp2
    go_ret
    exact ⟨ret_bool (by simp), HB5.out⟩

end Go.Proofs.Ytnhbidagnomkpaa
