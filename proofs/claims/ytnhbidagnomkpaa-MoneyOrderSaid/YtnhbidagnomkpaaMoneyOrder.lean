/-
  MoneyOrder: for every input the law returns true; there is no condition.
-/
import Derived.Test.YtnhbidagnomkpaaOpenRates
import Derived.Test.YtnhbidagnomkpaaConvP
import Derived.Test.YtnhbidagnomkpaaRule
namespace Go.Proofs.Ytnhbidagnomkpaa
open Go.RowKit Mny Go.WideShapes Go.ChangeShapes Go.ChangeAt

theorem law_ruleX (n d mood : Int) (w : World) : Calls Try.prog 15 #[.agg #[.int .i64 n, .int .i64 d], .int .i64 mood] w fun e w' => ∃ f1 f2 : Int, e = .returned (.agg #[.int .i64 f1, .int .i64 f2]) ∧ Below w.heap.size w w' :=
  (law_rule n d mood w).mono fun _ _ ⟨h1, h2⟩ => ⟨_, _, h1, h2⟩

theorem walk_MoneyOrderL (x x2 f t a m u mood : Int) (A : Option Addr) (n c : Nat) (w : World) (hlim : 40 < n) :
    Calls Try.prog 13 #[.int .i64 x, .int .i64 x2, .int .i64 f, .int .i64 t, .int .i64 a, .slice A n c, .agg #[.int .i64 m, .int .i64 u], .int .i64 mood] w fun e w' => e = .returned (.bool true) ∧ Below w.heap.size w w' := by
  go_enter Try.func13, Try.ntmps13
  go_wp2
  go_ret
  exact ⟨rfl, (by repeat (first | (with_reducible exact Below.refl _ _) | (with_reducible assumption) | (with_reducible refine below_drewN ?_ _) | (with_reducible refine Below.drew ?_) | (with_reducible refine Below.alloc ?_ ?_ _) | (with_reducible refine Below.setCell ?_ ?_ _) | exact Below.refl _ _ | assumption | (solve | omega | simp | (simp; omega))))⟩

set_option maxRecDepth 100000 in
set_option maxHeartbeats 8000000 in
theorem walk_MoneyOrderT (x x2 f t a m u mood : Int) (A : Option Addr) (n c : Nat) (l : List Rt) (w : World) (hT : Tab w (.slice A n c) l) (hl : l.length = n) (hlim : n ≤ 40) :
    Calls Try.prog 13 #[.int .i64 x, .int .i64 x2, .int .i64 f, .int .i64 t, .int .i64 a, .slice A n c, .agg #[.int .i64 m, .int .i64 u], .int .i64 mood] w fun e w' => e = .returned (.bool true) ∧ Below w.heap.size w w' := by
  have HT := Lib.hid hT
  have HL : Hid (l.length ≤ 60) := Lib.hid (by omega)
  clear hT hl
  have ham := fun W => law4_amount x W
  obtain ⟨y, hy⟩ : ∃ y, amountV x = y := ⟨_, rfl⟩
  rw [hy] at ham
  have HA := Lib.hid ham
  clear ham hy
  have ham := fun W => law4_amount x2 W
  obtain ⟨y2, hy⟩ : ∃ y, amountV x2 = y := ⟨_, rfl⟩
  rw [hy] at ham
  have HA2 := Lib.hid ham
  clear ham hy
  have hpf := fun W => made_Pick f 4 W (by omega) (by omega)
  obtain ⟨pf, hpfe⟩ : ∃ p, f % 4 = p := ⟨_, rfl⟩
  have hpfb : 0 ≤ pf ∧ pf < 4 := by omega
  rw [hpfe] at hpf
  have HPF := Lib.hid hpf
  obtain ⟨pf0, pf1⟩ := hpfb
  clear hpf hpfe
  have hpt := fun W => made_Pick t 4 W (by omega) (by omega)
  obtain ⟨pt, hpte⟩ : ∃ p, t % 4 = p := ⟨_, rfl⟩
  have hptb : 0 ≤ pt ∧ pt < 4 := by omega
  rw [hpte] at hpt
  have HPT := Lib.hid hpt
  obtain ⟨pt0, pt1⟩ := hptb
  clear hpt hpte
  have hpa := fun W => made_Pick a 2400 W (by omega) (by omega)
  obtain ⟨pa, hpae⟩ : ∃ p, a % 2400 = p := ⟨_, rfl⟩
  have hpab : 0 ≤ pa ∧ pa < 2400 := by omega
  rw [hpae] at hpa
  have HPA := Lib.hid hpa
  obtain ⟨pa0, pa1⟩ := hpab
  clear hpa hpae
  go_enter Try.func13, Try.ntmps13
  go_upto_region 3 with (fail)
  have B0 := Lib.hid (Bx.made w 25 #[.int .i64 m, .int .i64 u] rfl)
  have HB0 : Hid (Below w.heap.size w (w.alloc (.cells #[.int .i64 m, .int .i64 u] 25))) := Lib.hid (by repeat (first | (with_reducible exact Below.refl _ _) | (with_reducible assumption) | (with_reducible refine below_drewN ?_ _) | (with_reducible refine Below.drew ?_) | (with_reducible refine Below.alloc ?_ ?_ _) | (with_reducible refine Below.setCell ?_ ?_ _) | exact Below.refl _ _ | assumption | (solve | omega | simp | (simp; omega))))
  generalize hW0 : (w.alloc (.cells #[.int .i64 m, .int .i64 u] 25)) = W0 at B0 HB0 ⊢
  have HW0 := Lib.hid hW0
  clear hW0
  have HT0 : Hid (Tab W0.drew (.slice A n c) l) := Lib.hid (HT.out.below (HB0.out.drew))
  go_cut [17] (fun s wx => ∃ (v : Value) (l' : List Rt) (r1 r2 : Int), v = s ∧ Tab wx v l' ∧ Bx wx w.heap.size 25 #[.int .i64 r1, .int .i64 r2] ∧ Below w.heap.size w wx)
  case first =>
    have S0 : Below W0.heap.size W0 W0.drew := (Below.refl _ _).drew
    obtain ⟨c0, r0⟩ := B0.out.of
    go_region_with (first
      | (go_at_call 34; refine (law_rates mood HT0.out HL.out).mono ?_; rintro e w1 ⟨v1, l1, rfl, hT1, hb1⟩; have T1 := below_then (w := W0) (by first | assumption | exact (by repeat (first | (with_reducible exact Below.refl _ _) | (with_reducible assumption) | (with_reducible refine below_drewN ?_ _) | (with_reducible refine Below.drew ?_) | (with_reducible refine Below.alloc ?_ ?_ _) | (with_reducible refine Below.setCell ?_ ?_ _) | exact Below.refl _ _ | assumption | (solve | omega | simp | (simp; omega))))) hb1; obtain ⟨c1, r1⟩ := (B0.out.below T1).of)
      | (go_at_call 15; refine (law_ruleX m u _ _).mono ?_; rintro e w2 ⟨g1, g2, rfl, hb2⟩; have T2 := below_then (w := W0) (by first | assumption | exact (by repeat (first | (with_reducible exact Below.refl _ _) | (with_reducible assumption) | (with_reducible refine below_drewN ?_ _) | (with_reducible refine Below.drew ?_) | (with_reducible refine Below.alloc ?_ ?_ _) | (with_reducible refine Below.setCell ?_ ?_ _) | exact Below.refl _ _ | assumption | (solve | omega | simp | (simp; omega))))) hb2; have hT2 := hT1.below hb2; obtain ⟨c2, r2⟩ := (B0.out.below T2).of))
    all_goals
      have T9 : Below W0.heap.size W0 w2 := by assumption
      have hT9 : Tab w2 v1 l1 := by assumption
      have hB9 := below_then HB0.out T9
      have hX9 := B0.out.below T9
      go_wp2_with fail
      go_meet
      exact ⟨_, l1, g1, g2, rfl, (hT9.store hX9).store (hX9.put 0 _), (hX9.put 0 _).put 1 _, (by repeat (first | (with_reducible exact Below.refl _ _) | (with_reducible assumption) | (with_reducible refine below_drewN ?_ _) | (with_reducible refine Below.drew ?_) | (with_reducible refine Below.alloc ?_ ?_ _) | (with_reducible refine Below.setCell ?_ ?_ _) | exact Below.refl _ _ | assumption | (solve | omega | simp | (simp; omega))))⟩
  case rest =>
    obtain ⟨v, l', r1, r2, rfl, hT1, hx1, hB⟩ := hcut
    have HT1 := Lib.hid hT1
    have D0 := Lib.hid hx1
    have HB := Lib.hid hB
    obtain ⟨c0, q0⟩ := hx1.of
    clear hT1 hx1 hB
    go_wp2_with fail
    refine (HA.out _).mono ?_
    rintro e _ ⟨rfl, rfl⟩
    go_wp2_with fail
    refine (HA2.out _).mono ?_
    rintro e _ ⟨rfl, rfl⟩
    go_wp2_with fail
    refine (HPF.out _).mono ?_
    rintro e _ ⟨rfl, rfl⟩
    go_wp2_with fail
    refine (HPT.out _).mono ?_
    rintro e _ ⟨rfl, rfl⟩
    go_wp2_with fail
    refine (HPA.out _).mono ?_
    rintro e _ ⟨rfl, rfl⟩
    obtain ⟨A1, E1, hAE⟩ : ∃ A E, convS y (pf + 1) (pt + 1) pa l' r1 r2 = (A, E) := ⟨_, _, rfl⟩
    obtain ⟨A2, E2, hAE2⟩ : ∃ A E, convS y2 (pf + 1) (pt + 1) pa l' r1 r2 = (A, E) := ⟨_, _, rfl⟩
    have hm := money_Convert y (pf + 1) (pt + 1) pa r1 r2 _ _ _ HT1.out
    rw [hAE] at hm
    have HM : Hid (Calls Try.prog 39 #[.int .i64 y, .int .i64 (pf + 1), .int .i64 (pt + 1), .int .i64 pa, v, .agg #[.int .i64 r1, .int .i64 r2]] wc fun e w' => e = .returned (.tuple #[.int .i64 A1, .int .i64 E1]) ∧ Below wc.heap.size wc w') := Lib.hid hm
    have HX1 := Lib.hid hAE
    have HX2 := Lib.hid hAE2
    clear hm hAE hAE2
    go_wp2_with fail
    refine HM.out.mono ?_
    rintro e w3 ⟨rfl, hb3⟩
    have HB3 := Lib.hid (below_then HB.out hb3)
    obtain ⟨c3, q3⟩ := (D0.out.below hb3).of
    have hr := money_Convert y2 (pf + 1) (pt + 1) pa r1 r2 _ _ _ (HT1.out.below hb3)
    rw [HX2.out] at hr
    have HR : Hid (Calls Try.prog 39 #[.int .i64 y2, .int .i64 (pf + 1), .int .i64 (pt + 1), .int .i64 pa, v, .agg #[.int .i64 r1, .int .i64 r2]] w3 fun e w' => e = .returned (.tuple #[.int .i64 A2, .int .i64 E2]) ∧ Below w3.heap.size w3 w') := Lib.hid hr
    clear hr hb3 c0 q0
    go_wp2_with fail
    refine HR.out.mono ?_
    rintro e w4 ⟨rfl, hb4⟩
    have HB4 := Lib.hid (below_then HB3.out hb4)
    clear hb4 c3 q3
    by_cases hE : E1 = 0
    · subst hE
      by_cases hE2 : E2 = 0
      · subst hE2
        rcases Int.lt_trichotomy y y2 with hlt | rfl | hlt
        · have t1 : decide (A1 ≤ A2) = true := decide_eq_true (conv_mono HX1.out HX2.out (by omega))
          have t2 : decide (y < y2) = true := decide_eq_true hlt
          have t3 : decide (y2 < y) = false := decide_eq_false (by omega)
          have t4 : (y == y2) = false := beq_eq_false_iff_ne.2 (by omega)
          clear hlt
          go_wp2_with fail
          refine (law4_awake _).mono ?_
          rintro e w9 ⟨rfl, hb9⟩
          have HB9 := Lib.hid (below_then HB4.out hb9)
          clear hb9
          go_wp2
          go_ret
          exact ⟨ret_bool (by simp), HB9.out⟩
        · obtain rfl : A1 = A2 := congrArg Prod.fst (HX1.out.symm.trans HX2.out)
          go_wp2_with fail
          refine (law4_awake _).mono ?_
          rintro e w9 ⟨rfl, hb9⟩
          have HB9 := Lib.hid (below_then HB4.out hb9)
          clear hb9
          go_wp2
          go_ret
          exact ⟨ret_bool (by simp), HB9.out⟩
        · have t1 : decide (A2 ≤ A1) = true := decide_eq_true (conv_mono HX2.out HX1.out (by omega))
          have t2 : decide (y2 < y) = true := decide_eq_true hlt
          have t3 : decide (y < y2) = false := decide_eq_false (by omega)
          have t4 : (y == y2) = false := beq_eq_false_iff_ne.2 (by omega)
          clear hlt
          go_wp2_with fail
          refine (law4_awake _).mono ?_
          rintro e w9 ⟨rfl, hb9⟩
          have HB9 := Lib.hid (below_then HB4.out hb9)
          clear hb9
          go_wp2
          go_ret
          exact ⟨ret_bool (by simp), HB9.out⟩
      · have hn : (E2 != 0) = true := bne_iff_ne.2 hE2
        clear hE2
        go_wp2_with fail
        refine (law4_awake _).mono ?_
        rintro e w9 ⟨rfl, hb9⟩
        have HB9 := Lib.hid (below_then HB4.out hb9)
        clear hb9
        go_wp2
        go_ret
        exact ⟨ret_bool (by simp), HB9.out⟩
    · have hn : (E1 != 0) = true := bne_iff_ne.2 hE
      clear hE
      go_wp2_with fail
      refine (law4_awake _).mono ?_
      rintro e w9 ⟨rfl, hb9⟩
      have HB9 := Lib.hid (below_then HB4.out hb9)
      clear hb9
      go_wp2
      go_ret
      exact ⟨ret_bool (by simp), HB9.out⟩

theorem walk_MoneyOrder (x x2 f t a m u mood : Int) (v : Value) {w0 : World} (h : TabIn w0 v) (w : World) (hw : w0 = w) :
    Calls Try.prog 13 #[.int .i64 x, .int .i64 x2, .int .i64 f, .int .i64 t, .int .i64 a, v, .agg #[.int .i64 m, .int .i64 u], .int .i64 mood] w fun e w' => e = .returned (.bool true) ∧ Below w.heap.size w w' := by
  subst hw
  rcases h with ⟨A, c, rfl⟩ | ⟨b, off, n, c, l, rfl, hpos, hl, hr, hb, _⟩
  · exact walk_MoneyOrderT x x2 f t a m u mood A 0 c [] w0 (.inl ⟨_, _, rfl, rfl⟩) rfl (by omega)
  · by_cases hlim : 40 < n
    · exact walk_MoneyOrderL x x2 f t a m u mood _ n c w0 hlim
    · exact walk_MoneyOrderT x x2 f t a m u mood _ n c l w0 (.inr ⟨b, off, n, c, rfl, hl, hr, hb, by omega⟩) hl (by omega)

end Go.Proofs.Ytnhbidagnomkpaa
