/-
  MoneyBack: for every input the law returns true; there is no condition.
-/
import Derived.Test.YtnhbidagnomkpaaOpenRates
import Derived.Test.YtnhbidagnomkpaaConvP
namespace Go.Proofs.Ytnhbidagnomkpaa
open Go.RowKit Mny Go.WideShapes Go.ChangeShapes Go.ChangeAt

theorem walk_MoneyBackL (x f t a mood : Int) (A : Option Addr) (n c : Nat) (w : World) (hlim : 40 < n) :
    Calls Try.prog 12 #[.int .i64 x, .int .i64 f, .int .i64 t, .int .i64 a, .slice A n c, .int .i64 mood] w fun e w' => e = .returned (.bool true) ∧ Below w.heap.size w w' := by
  go_enter Try.func12, Try.ntmps12
  go_wp2
  go_ret
  exact ⟨rfl, (by repeat (first | (with_reducible exact Below.refl _ _) | (with_reducible assumption) | (with_reducible refine below_drewN ?_ _) | (with_reducible refine Below.drew ?_) | (with_reducible refine Below.alloc ?_ ?_ _) | (with_reducible refine Below.setCell ?_ ?_ _) | exact Below.refl _ _ | assumption | (solve | omega | simp | (simp; omega))))⟩

set_option maxRecDepth 100000 in
set_option maxHeartbeats 8000000 in
theorem walk_MoneyBackT (x f t a mood : Int) (A : Option Addr) (n c : Nat) (l : List Rt) (w : World) (hT : Tab w (.slice A n c) l) (hl : l.length = n) (hlim : n ≤ 40) :
    Calls Try.prog 12 #[.int .i64 x, .int .i64 f, .int .i64 t, .int .i64 a, .slice A n c, .int .i64 mood] w fun e w' => e = .returned (.bool true) ∧ Below w.heap.size w w' := by
  have HT := Lib.hid hT
  have HL : Hid (l.length ≤ 60) := Lib.hid (by omega)
  clear hT hl
  have hpx := fun W => made_Pick x 1000000 W (by omega) (by omega)
  obtain ⟨px, hpxe⟩ : ∃ p, x % 1000000 = p := ⟨_, rfl⟩
  have hpxb : 0 ≤ px ∧ px < 1000000 := by omega
  rw [hpxe] at hpx
  have HPX := Lib.hid hpx
  obtain ⟨px0, px1⟩ := hpxb
  clear hpx hpxe
  have hpf := fun W => made_Pick f 4 W (by omega) (by omega)
  obtain ⟨pf, hpfe⟩ : ∃ p, f % 4 = p := ⟨_, rfl⟩
  have hpfb : 0 ≤ pf ∧ pf < 4 := by omega
  rw [hpfe] at hpf
  have HPF := Lib.hid hpf
  obtain ⟨pf0, pf1⟩ := hpfb
  clear hpf hpfe
  have hpt := fun W => made_Pick t 4 W (by omega) (by omega)
  obtain ⟨pt, hpte⟩ : ∃ p, t % 4 = p := ⟨_, rfl⟩
  have hptb : 0 ≤ pt ∧ pt < 4 := by omega
  rw [hpte] at hpt
  have HPT := Lib.hid hpt
  obtain ⟨pt0, pt1⟩ := hptb
  clear hpt hpte
  have hpa := fun W => made_Pick a 2400 W (by omega) (by omega)
  obtain ⟨pa, hpae⟩ : ∃ p, a % 2400 = p := ⟨_, rfl⟩
  have hpab : 0 ≤ pa ∧ pa < 2400 := by omega
  rw [hpae] at hpa
  have HPA := Lib.hid hpa
  obtain ⟨pa0, pa1⟩ := hpab
  clear hpa hpae
  go_enter Try.func12, Try.ntmps12
  go_wp2_with fail
  refine (law_rates mood HT.out HL.out).mono ?_
  rintro e w1 ⟨v, l', rfl, hT1, hb1⟩
  have HT1 := Lib.hid hT1
  have HB1 := Lib.hid hb1
  clear hT1
  have D0 := Lib.hid (Bx.made w1 25 #[.int .i64 1, .int .i64 1] rfl)
  have hs1 := hb1.size
  have HB2 : Hid (Below w.heap.size w (w1.alloc (.cells #[.int .i64 1, .int .i64 1] 25))) := Lib.hid (by repeat (first | (with_reducible exact Below.refl _ _) | (with_reducible assumption) | (with_reducible refine below_drewN ?_ _) | (with_reducible refine Below.drew ?_) | (with_reducible refine Below.alloc ?_ ?_ _) | (with_reducible refine Below.setCell ?_ ?_ _) | exact Below.refl _ _ | assumption | (solve | omega | simp | (simp; omega))))
  clear hb1
  have HT2 : Hid (Tab (w1.alloc (.cells #[.int .i64 1, .int .i64 1] 25)) v l') := Lib.hid (HT1.out.below ((Below.refl _ _).alloc (Nat.le_refl _) _))
  go_wp2_with fail
  refine (HPX.out _).mono ?_
  rintro e _ ⟨rfl, rfl⟩
  go_wp2_with fail
  refine (HPF.out _).mono ?_
  rintro e _ ⟨rfl, rfl⟩
  go_wp2_with fail
  refine (HPT.out _).mono ?_
  rintro e _ ⟨rfl, rfl⟩
  go_wp2_with fail
  refine (HPA.out _).mono ?_
  rintro e _ ⟨rfl, rfl⟩
  obtain ⟨A1, E1, hAE⟩ : ∃ A E, convS px (pf + 1) (pt + 1) pa l' 1 1 = (A, E) := ⟨_, _, rfl⟩
  obtain ⟨A2, E2, hAE2⟩ : ∃ A E, convS A1 (pt + 1) (pf + 1) pa l' 1 1 = (A, E) := ⟨_, _, rfl⟩
  have hm := money_Convert px (pf + 1) (pt + 1) pa 1 1 _ _ _ HT2.out
  rw [hAE] at hm
  have HM : Hid (Calls Try.prog 39 #[.int .i64 px, .int .i64 (pf + 1), .int .i64 (pt + 1), .int .i64 pa, v, .agg #[.int .i64 1, .int .i64 1]] (w1.alloc (.cells #[.int .i64 1, .int .i64 1] 25)) fun e w' => e = .returned (.tuple #[.int .i64 A1, .int .i64 E1]) ∧ Below (w1.alloc (.cells #[.int .i64 1, .int .i64 1] 25)).heap.size (w1.alloc (.cells #[.int .i64 1, .int .i64 1] 25)) w') := Lib.hid hm
  have HX1 := Lib.hid hAE
  have HX2 := Lib.hid hAE2
  clear hm hAE hAE2
  go_wp2_with fail
  refine HM.out.mono ?_
  rintro e w3 ⟨rfl, hb3⟩
  have HB3 := Lib.hid (below_then HB2.out hb3)
  obtain ⟨c3, q3⟩ := (D0.out.below hb3).of
  have hr := money_Convert A1 (pt + 1) (pf + 1) pa 1 1 _ _ _ (HT2.out.below hb3)
  rw [HX2.out] at hr
  have HR : Hid (Calls Try.prog 39 #[.int .i64 A1, .int .i64 (pt + 1), .int .i64 (pf + 1), .int .i64 pa, v, .agg #[.int .i64 1, .int .i64 1]] w3 fun e w' => e = .returned (.tuple #[.int .i64 A2, .int .i64 E2]) ∧ Below w3.heap.size w3 w') := Lib.hid hr
  clear hr hb3
  go_wp2_with fail
  refine HR.out.mono ?_
  rintro e w4 ⟨rfl, hb4⟩
  have HB4 := Lib.hid (below_then HB3.out hb4)
  clear hb4 c3 q3
  by_cases hE : E1 = 0
  · subst hE
    obtain ⟨g1, rfl, g2, g3⟩ := conv_back px0 HX1.out HX2.out
    have t1 : decide (A2 ≤ px) = true := decide_eq_true g2
    have t2 : decide (0 ≤ A2) = true := decide_eq_true g3
    by_cases he : pf + 1 = pt + 1
    · have t0 : (pf + 1 == pt + 1) = true := beq_iff_eq.2 he
      obtain rfl := g1 he
      clear he
      go_wp2_with fail
      refine (law4_awake _).mono ?_
      rintro e w9 ⟨rfl, hb9⟩
      have HB9 := Lib.hid (below_then HB4.out hb9)
      clear hb9
      go_wp2
      go_ret
      exact ⟨ret_bool (by simp), HB9.out⟩
    · have t0 : (pf + 1 == pt + 1) = false := beq_eq_false_iff_ne.2 he
      have t00 : (pf == pt) = false := beq_eq_false_iff_ne.2 (by omega)
      clear he g1
      go_wp2_with fail
      refine (law4_awake _).mono ?_
      rintro e w9 ⟨rfl, hb9⟩
      have HB9 := Lib.hid (below_then HB4.out hb9)
      clear hb9
      go_wp2
      go_ret
      exact ⟨ret_bool (by simp), HB9.out⟩
  · have hn : (E1 != 0) = true := bne_iff_ne.2 hE
    have hn2 : (E1 == 0) = false := beq_eq_false_iff_ne.2 hE
    clear hE
    go_wp2_with fail
    refine (law4_awake _).mono ?_
    rintro e w9 ⟨rfl, hb9⟩
    have HB9 := Lib.hid (below_then HB4.out hb9)
    clear hb9
    go_wp2
    go_ret
    exact ⟨ret_bool (by simp), HB9.out⟩

theorem walk_MoneyBack (x f t a mood : Int) (v : Value) {w0 : World} (h : TabIn w0 v) (w : World) (hw : w0 = w) :
    Calls Try.prog 12 #[.int .i64 x, .int .i64 f, .int .i64 t, .int .i64 a, v, .int .i64 mood] w fun e w' => e = .returned (.bool true) ∧ Below w.heap.size w w' := by
  subst hw
  rcases h with ⟨A, c, rfl⟩ | ⟨b, off, n, c, l, rfl, hpos, hl, hr, hb, _⟩
  · exact walk_MoneyBackT x f t a mood A 0 c [] w0 (.inl ⟨_, _, rfl, rfl⟩) rfl (by omega)
  · by_cases hlim : 40 < n
    · exact walk_MoneyBackL x f t a mood _ n c w0 hlim
    · exact walk_MoneyBackT x f t a mood _ n c l w0 (.inr ⟨b, off, n, c, rfl, hl, hr, hb, by omega⟩) hl (by omega)

end Go.Proofs.Ytnhbidagnomkpaa
