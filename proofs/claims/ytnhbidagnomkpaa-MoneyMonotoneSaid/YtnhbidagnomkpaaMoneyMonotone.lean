/-
  MoneyMonotone: for every pair of fractions, rounding and moods the law returns true; there is no condition.
-/
import Derived.Test.YtnhbidagnomkpaaRule
import Derived.Test.YtnhbidagnomkpaaComp
import Derived.Test.YtnhbidagnomkpaaAwake
import Derived.Test.YtnhbidagnomkpaaPostG
namespace Go.Proofs.Ytnhbidagnomkpaa
open Go.RowKit Mny Go.WideShapes Go.ChangeShapes Go.ChangeAt

theorem law_ofX (n d mood : Int) (w : World) : Calls Try.prog 14 #[.agg #[.int .i64 n, .int .i64 d], .int .i64 mood] w fun e w' => ∃ f1 f2 : Int, e = .returned (.agg #[.int .i64 f1, .int .i64 f2]) ∧ Below w.heap.size w w' :=
  (law_of n d mood w).mono fun _ _ ⟨h1, h2⟩ => ⟨_, _, h1, h2⟩
theorem law_ruleX (n d mood : Int) (w : World) : Calls Try.prog 15 #[.agg #[.int .i64 n, .int .i64 d], .int .i64 mood] w fun e w' => ∃ f1 f2 : Int, e = .returned (.agg #[.int .i64 f1, .int .i64 f2]) ∧ Below w.heap.size w w' :=
  (law_rule n d mood w).mono fun _ _ ⟨h1, h2⟩ => ⟨_, _, h1, h2⟩

/-- what an amount without an error is -/
theorem roundS_ok {n d m u A : Int} (h : roundS n d m u = (A, 0)) : validF n d = true ∧ validR m u = true ∧ A = units m n (d * u) * u := by
  unfold roundS at h
  split at h
  · rename_i hv
    rw [Bool.and_eq_true] at hv
    unfold rnd at h
    simp only at h
    split at h
    · exact ⟨hv.1, hv.2, (congrArg Prod.fst h).symm⟩
    · have h2 : (2 : Int) = 0 := congrArg Prod.snd h
      omega
  · have h2 : (1 : Int) = 0 := congrArg Prod.snd h
    omega
theorem mono_cases {n1 d1 n2 d2 m u A B c : Int} (h1 : roundS n1 d1 m u = (A, 0)) (h2 : roundS n2 d2 m u = (B, 0)) (h3 : compS n1 d1 n2 d2 = (c, 0)) :
    (c = -1 ∧ A ≤ B) ∨ (c = 0 ∧ A = B) ∨ (c = 1 ∧ B ≤ A) := by
  obtain ⟨v1, r1, rfl⟩ := roundS_ok h1
  obtain ⟨v2, _, rfl⟩ := roundS_ok h2
  rw [compS_yes v1 v2] at h3
  have hc : cmpF n1 d1 n2 d2 = c := congrArg Prod.fst h3
  obtain ⟨r3, r4, hu, _⟩ := validR_iff.1 r1
  have e1 := (validF_iff.1 v1).1
  have e2 := (validF_iff.1 v2).1
  have p1 : 0 < d1 * u := Int.mul_pos (by omega) (by omega)
  have p2 : 0 < d2 * u := Int.mul_pos (by omega) (by omega)
  have up : ∀ {x1 y1 x2 y2 : Int}, 0 < y1 * u → 0 < y2 * u → x1 * y2 ≤ x2 * y1 → units m x1 (y1 * u) * u ≤ units m x2 (y2 * u) * u := fun {x1 y1 x2 y2} q1 q2 h =>
    Int.mul_le_mul_of_nonneg_right (units_mono m q1 q2 (by rw [← Int.mul_assoc, ← Int.mul_assoc]; exact Int.mul_le_mul_of_nonneg_right h (by omega))) (by omega)
  rcases cmpF_cases n1 d1 n2 d2 with ⟨hc2, hl⟩ | ⟨hc2, hl⟩ | ⟨hc2, hl⟩
  · exact .inl ⟨by omega, up p1 p2 (by omega)⟩
  · exact .inr (.inl ⟨by omega, Int.le_antisymm (up p1 p2 (by omega)) (up p2 p1 (by omega))⟩)
  · exact .inr (.inr ⟨by omega, up p2 p1 (by omega)⟩)

set_option maxRecDepth 100000 in
set_option maxHeartbeats 20000000 in
theorem walk_MoneyMonotone (n d n2 d2 m u x y : Int) (w : World) :
    Calls Try.prog 4 #[.agg #[.int .i64 n, .int .i64 d], .agg #[.int .i64 n2, .int .i64 d2], .agg #[.int .i64 m, .int .i64 u], .int .i64 x, .int .i64 y] w fun e w' => e = .returned (.bool true) ∧ Below w.heap.size w w' := by
  go_enter Try.func4, Try.ntmps4
  go_upto_region 1 with (fail)
  have B0 := Lib.hid (((Bx.made w 23 #[.int .i64 n, .int .i64 d] rfl).alloc (.cells #[.int .i64 n2, .int .i64 d2] 23)).alloc (.cells #[.int .i64 m, .int .i64 u] 25))
  have B1 := Lib.hid ((Bx.made (w.alloc (.cells #[.int .i64 n, .int .i64 d] 23)) 23 #[.int .i64 n2, .int .i64 d2] (g := w.heap.size + 1) (by simp)).alloc (.cells #[.int .i64 m, .int .i64 u] 25))
  have B2 := Lib.hid (Bx.made ((w.alloc (.cells #[.int .i64 n, .int .i64 d] 23)).alloc (.cells #[.int .i64 n2, .int .i64 d2] 23)) 25 #[.int .i64 m, .int .i64 u] (g := w.heap.size + 2) (by simp))
  have HB0 : Hid (Below w.heap.size w (((w.alloc (.cells #[.int .i64 n, .int .i64 d] 23)).alloc (.cells #[.int .i64 n2, .int .i64 d2] 23)).alloc (.cells #[.int .i64 m, .int .i64 u] 25))) := Lib.hid (by repeat (first | (with_reducible exact Below.refl _ _) | (with_reducible assumption) | (with_reducible refine below_drewN ?_ _) | (with_reducible refine Below.drew ?_) | (with_reducible refine Below.alloc ?_ ?_ _) | (with_reducible refine Below.setCell ?_ ?_ _) | exact Below.refl _ _ | assumption | (solve | omega | simp | (simp; omega))))
  generalize hW0 : (((w.alloc (.cells #[.int .i64 n, .int .i64 d] 23)).alloc (.cells #[.int .i64 n2, .int .i64 d2] 23)).alloc (.cells #[.int .i64 m, .int .i64 u] 25)) = W0 at B0 B1 B2 HB0 ⊢
  have HW0 := Lib.hid hW0
  clear hW0
  go_cut [11] (fun a wx => ∃ f1 f2 g1 g2 r1 r2 : Int, Below w.heap.size w wx ∧ Bx wx w.heap.size 23 #[.int .i64 f1, .int .i64 f2] ∧ Bx wx (w.heap.size + 1) 23 #[.int .i64 g1, .int .i64 g2] ∧ Bx wx (w.heap.size + 2) 25 #[.int .i64 r1, .int .i64 r2])
  case first =>
    have S0 : Below W0.heap.size W0 W0.drew := (Below.refl _ _).drew
    obtain ⟨c00, r00⟩ := B0.out.of
    obtain ⟨c01, r01⟩ := B1.out.of
    obtain ⟨c02, r02⟩ := B2.out.of
    go_region_with (first
      | (go_at_call_of 14 (Value.agg #[.int .i64 n, .int .i64 d]); refine (law_ofX n d _ _).mono ?_; rintro e w1 ⟨f1, f2, rfl, hb1⟩; have T1 := below_then (w := W0) (by first | assumption | exact (by repeat (first | (with_reducible exact Below.refl _ _) | (with_reducible assumption) | (with_reducible refine below_drewN ?_ _) | (with_reducible refine Below.drew ?_) | (with_reducible refine Below.alloc ?_ ?_ _) | (with_reducible refine Below.setCell ?_ ?_ _) | exact Below.refl _ _ | assumption | (solve | omega | simp | (simp; omega))))) hb1; obtain ⟨c10, r10⟩ := (B0.out.below T1).of; obtain ⟨c11, r11⟩ := (B1.out.below T1).of; obtain ⟨c12, r12⟩ := (B2.out.below T1).of)
      | (go_at_call_of 14 (Value.agg #[.int .i64 n2, .int .i64 d2]); refine (law_ofX n2 d2 _ _).mono ?_; rintro e w2 ⟨g1, g2, rfl, hb2⟩; have T2 := below_then (w := W0) (by first | assumption | exact (by repeat (first | (with_reducible exact Below.refl _ _) | (with_reducible assumption) | (with_reducible refine below_drewN ?_ _) | (with_reducible refine Below.drew ?_) | (with_reducible refine Below.alloc ?_ ?_ _) | (with_reducible refine Below.setCell ?_ ?_ _) | exact Below.refl _ _ | assumption | (solve | omega | simp | (simp; omega))))) hb2; obtain ⟨c20, r20⟩ := (B0.out.below T2).of; obtain ⟨c21, r21⟩ := (B1.out.below T2).of; obtain ⟨c22, r22⟩ := (B2.out.below T2).of)
      | (go_at_call 15; refine (law_ruleX m u _ _).mono ?_; rintro e w3 ⟨r1, r2, rfl, hb3⟩; have T3 := below_then (w := W0) (by first | assumption | exact (by repeat (first | (with_reducible exact Below.refl _ _) | (with_reducible assumption) | (with_reducible refine below_drewN ?_ _) | (with_reducible refine Below.drew ?_) | (with_reducible refine Below.alloc ?_ ?_ _) | (with_reducible refine Below.setCell ?_ ?_ _) | exact Below.refl _ _ | assumption | (solve | omega | simp | (simp; omega))))) hb3; obtain ⟨c30, r30⟩ := (B0.out.below T3).of; obtain ⟨c31, r31⟩ := (B1.out.below T3).of; obtain ⟨c32, r32⟩ := (B2.out.below T3).of))
    all_goals
      have T9 : Below W0.heap.size W0 w3 := by assumption
      have hB9 := below_then HB0.out T9
      go_wp2_with fail
      go_meet
      exact ⟨f1, f2, g1, g2, r1, r2, (by repeat (first | (with_reducible exact Below.refl _ _) | (with_reducible assumption) | (with_reducible refine below_drewN ?_ _) | (with_reducible refine Below.drew ?_) | (with_reducible refine Below.alloc ?_ ?_ _) | (with_reducible refine Below.setCell ?_ ?_ _) | exact Below.refl _ _ | assumption | (solve | omega | simp | (simp; omega)))), (by (with_reducible refine BxP.out ?_); repeat (first | (with_reducible refine BxP.put ?_) | ((with_reducible refine BxP.far ?_ ?_); (focus first | omega | (simp; done) | (simp; omega))) | ((with_reducible refine BxP.made ?_ ?_); (focus first | (with_reducible rfl) | (simp; done)); rfl) | (with_reducible refine BxP.alloc ?_) | (with_reducible refine BxP.drew ?_) | (with_reducible refine BxP.drewN ?_) | (with_reducible refine BxP.below T9 ?_) | exact BxP.of B0.out rfl)), (by (with_reducible refine BxP.out ?_); repeat (first | (with_reducible refine BxP.put ?_) | ((with_reducible refine BxP.far ?_ ?_); (focus first | omega | (simp; done) | (simp; omega))) | ((with_reducible refine BxP.made ?_ ?_); (focus first | (with_reducible rfl) | (simp; done)); rfl) | (with_reducible refine BxP.alloc ?_) | (with_reducible refine BxP.drew ?_) | (with_reducible refine BxP.drewN ?_) | (with_reducible refine BxP.below T9 ?_) | exact BxP.of B1.out rfl)), (by (with_reducible refine BxP.out ?_); repeat (first | (with_reducible refine BxP.put ?_) | ((with_reducible refine BxP.far ?_ ?_); (focus first | omega | (simp; done) | (simp; omega))) | ((with_reducible refine BxP.made ?_ ?_); (focus first | (with_reducible rfl) | (simp; done)); rfl) | (with_reducible refine BxP.alloc ?_) | (with_reducible refine BxP.drew ?_) | (with_reducible refine BxP.drewN ?_) | (with_reducible refine BxP.below T9 ?_) | exact BxP.of B2.out rfl))⟩
  case rest =>
    obtain ⟨f1, f2, g1, g2, r1, r2, hB, b0, b1, b2⟩ := hcut
    have HB := Lib.hid hB
    have D0 := Lib.hid b0
    have D1 := Lib.hid b1
    have D2 := Lib.hid b2
    obtain ⟨c0, q0⟩ := b0.of
    obtain ⟨c2, q2⟩ := b2.of
    clear hB b0 b1 b2
    obtain ⟨A, E, hAE⟩ : ∃ A E, roundS f1 f2 r1 r2 = (A, E) := ⟨_, _, rfl⟩
    obtain ⟨A', E', hAE'⟩ : ∃ A E, roundS g1 g2 r1 r2 = (A, E) := ⟨_, _, rfl⟩
    obtain ⟨cc, hh, hch⟩ : ∃ A E, compS f1 f2 g1 g2 = (A, E) := ⟨_, _, rfl⟩
    have hm1 := fun W => money_Round f1 f2 r1 r2 W
    have hm2 := fun W => money_Round g1 g2 r1 r2 W
    have hm3 := fun W => ref_Compare f1 f2 g1 g2 W
    rw [hAE] at hm1
    rw [hAE'] at hm2
    rw [hch] at hm3
    have HM1 : Hid (∀ W, Calls Try.prog 16 #[.agg #[.int .i64 f1, .int .i64 f2], .agg #[.int .i64 r1, .int .i64 r2]] W fun e w' => e = .returned (.tuple #[.int .i64 A, .int .i64 E]) ∧ Below W.heap.size W w') := Lib.hid hm1
    have HM2 : Hid (∀ W, Calls Try.prog 16 #[.agg #[.int .i64 g1, .int .i64 g2], .agg #[.int .i64 r1, .int .i64 r2]] W fun e w' => e = .returned (.tuple #[.int .i64 A', .int .i64 E']) ∧ Below W.heap.size W w') := Lib.hid hm2
    have HM3 : Hid (∀ W, Calls Try.prog 21 #[.agg #[.int .i64 f1, .int .i64 f2], .agg #[.int .i64 g1, .int .i64 g2]] W fun e w' => e = .returned (.tuple #[.int .i64 cc, .int .i64 hh]) ∧ Below W.heap.size W w') := Lib.hid hm3
    have HX1 := Lib.hid hAE
    have HX2 := Lib.hid hAE'
    have HX3 := Lib.hid hch
    clear hm1 hm2 hm3 hAE hAE' hch
    go_wp2_with fail
    refine (HM1.out _).mono ?_
    rintro e w4 ⟨rfl, hb4⟩
    have HB4 := Lib.hid (below_then HB.out hb4)
    have D04 := Lib.hid (D0.out.below hb4)
    have D14 := Lib.hid (D1.out.below hb4)
    have D24 := Lib.hid (D2.out.below hb4)
    obtain ⟨c14, q14⟩ := D14.out.of
    obtain ⟨c24, q24⟩ := D24.out.of
    clear hb4 c0 q0 c2 q2
    go_wp2_with fail
    refine (HM2.out _).mono ?_
    rintro e w5 ⟨rfl, hb5⟩
    have HB5 := Lib.hid (below_then HB4.out hb5)
    have D05 := Lib.hid (D04.out.below hb5)
    have D15 := Lib.hid (D14.out.below hb5)
    obtain ⟨c05, q05⟩ := D05.out.of
    obtain ⟨c15, q15⟩ := D15.out.of
    clear hb5 c14 q14 c24 q24
    go_wp2_with fail
    refine (HM3.out _).mono ?_
    rintro e w6 ⟨rfl, hb6⟩
    have HB6 := Lib.hid (below_then HB5.out hb6)
    clear hb6 c05 q05 c15 q15
    by_cases hE : E = 0
    · subst hE
      by_cases hE2 : E' = 0
      · subst hE2
        by_cases hE3 : hh = 0
        · subst hE3
          rcases mono_cases HX1.out HX2.out HX3.out with ⟨rfl, hle⟩ | ⟨rfl, rfl⟩ | ⟨rfl, hle⟩
          · have t1 : decide (A ≤ A') = true := decide_eq_true hle
            go_wp2_with fail
            refine (law4_awake _).mono ?_
            rintro e w9 ⟨rfl, hb9⟩
            have HB9 := Lib.hid (below_then HB6.out hb9)
            clear hb9
            go_wp2
            go_ret
            exact ⟨ret_bool (by simp), HB9.out⟩
          · go_wp2_with fail
            refine (law4_awake _).mono ?_
            rintro e w9 ⟨rfl, hb9⟩
            have HB9 := Lib.hid (below_then HB6.out hb9)
            clear hb9
            go_wp2
            go_ret
            exact ⟨ret_bool (by simp), HB9.out⟩
          · have t1 : decide (A' ≤ A) = true := decide_eq_true hle
            go_wp2_with fail
            refine (law4_awake _).mono ?_
            rintro e w9 ⟨rfl, hb9⟩
            have HB9 := Lib.hid (below_then HB6.out hb9)
            clear hb9
            go_wp2
            go_ret
            exact ⟨ret_bool (by simp), HB9.out⟩
        · have hE' : (hh != 0) = true := bne_iff_ne.2 hE3
          clear hE3
          go_wp2_with fail
          refine (law4_awake _).mono ?_
          rintro e w9 ⟨rfl, hb9⟩
          have HB9 := Lib.hid (below_then HB6.out hb9)
          clear hb9
          go_wp2
          go_ret
          exact ⟨ret_bool (by simp), HB9.out⟩
      · have hE' : (E' != 0) = true := bne_iff_ne.2 hE2
        clear hE2
        go_wp2_with fail
        refine (law4_awake _).mono ?_
        rintro e w9 ⟨rfl, hb9⟩
        have HB9 := Lib.hid (below_then HB6.out hb9)
        clear hb9
        go_wp2
        go_ret
        exact ⟨ret_bool (by simp), HB9.out⟩
    · have hE' : (E != 0) = true := bne_iff_ne.2 hE
      clear hE
      go_wp2_with fail
      refine (law4_awake _).mono ?_
      rintro e w9 ⟨rfl, hb9⟩
      have HB9 := Lib.hid (below_then HB6.out hb9)
      clear hb9
      go_wp2
      go_ret
      exact ⟨ret_bool (by simp), HB9.out⟩
end Go.Proofs.Ytnhbidagnomkpaa
