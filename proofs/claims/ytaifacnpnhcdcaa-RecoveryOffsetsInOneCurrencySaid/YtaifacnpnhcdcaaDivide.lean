/-
  The contract of money.divide: it rounds a number of 128 bits with a sign as the plain function rnd does.
-/
import Derived.Test.YtaifacnpnhcdcaaFrac
namespace Go.Proofs.Ytaifacnpnhcdcaa
open Go.RowKit Mny

theorem ret2_ii {a b : Int × Int} (h : a = b) : Ending.returned (.tuple #[.int .i64 a.1, .int .i64 a.2]) = .returned (.tuple #[.int .i64 b.1, .int .i64 b.2]) := by rw [h]

theorem upB1 (r d k : Int) : upB 1 r d k = false := rfl
theorem upB2 (r d k : Int) : upB 2 r d k = decide (0 < r) := rfl
theorem upB3 (r d k : Int) : upB 3 r d k = decide (d - r ≤ r) := rfl
theorem upB4_gt {r d k : Int} (h : d - r < r) : upB 4 r d k = true := by
  show (decide (d - r < r) || _) = true
  rw [decide_eq_true h]; rfl
theorem upB4_lt {r d k : Int} (h : ¬ d - r < r) (h2 : ¬ r = d - r) : upB 4 r d k = false := by
  show (decide (d - r < r) || (decide (r = d - r) && _)) = false
  rw [decide_eq_false h, decide_eq_false h2]; rfl
theorem upB4_eq {r d k : Int} (h2 : r = d - r) : upB 4 r d k = (k.tmod 2 != 0) := by
  show (decide (d - r < r) || (decide (r = d - r) && decide (k % 2 ≠ 0))) = _
  rw [decide_eq_false (by omega), decide_eq_true h2, Bool.false_or, Bool.true_and, Bool.eq_iff_iff, decide_eq_true_eq, bne_iff_ne]
  constructor
  · intro h hh; exact h (Int.emod_eq_zero_of_dvd (Int.dvd_of_tmod_eq_zero hh))
  · intro h hh; exact h (Int.tmod_eq_zero_of_dvd (Int.dvd_of_emod_eq_zero hh))

theorem rnd_of {m u S den k r' D : Int} (hk : S / D = k) (hr : S % D = r') (hD : D = den * u) :
    (1000000000000 / u < k + (if upB m r' D k then 1 else 0) ∨ k + (if upB m r' D k then 1 else 0) < -(1000000000000 / u) → rnd m u S den = (0, 2)) ∧
    (¬ (1000000000000 / u < k + (if upB m r' D k then 1 else 0) ∨ k + (if upB m r' D k then 1 else 0) < -(1000000000000 / u)) → rnd m u S den = ((k + (if upB m r' D k then 1 else 0)) * u, 0)) := by
  have e : units m S (den * u) = k + (if upB m r' D k then 1 else 0) := by
    unfold units; rw [← hD, hk, hr]
  unfold rnd okU
  simp only [e]
  constructor
  · intro h; rw [if_neg (by simp; omega)]
  · intro h; rw [if_pos (by simp; omega)]

/-- a number of 128 bits -/
def wideN (hi lo : Nat) : Nat := hi * 18446744073709551616 + lo
/-- a number with a sign -/
def sgnN (neg : Bool) (n : Nat) : Int := if neg then -(n : Int) else (n : Int)
/-- two results, a number and an error -/
def IE (r : Int × Int) : Ending := .returned (.tuple #[.int .i64 r.1, .int .i64 r.2])
/-- what rounding returns, as an ending -/
def Rnd (m u n den : Int) : Ending := IE (rnd m u n den)

theorem wide_far {hi lo D : Nat} (h0 : 0 < D) (h : D ≤ hi) : 1000000000000 < (hi * 18446744073709551616 + lo) / D :=
  (Nat.le_div_iff_mul_le (x := 1000000000001) h0).2 (by omega)
theorem far_of {m : Int} {U den N q r : Nat} (neg : Bool) (hm1 : 1 ≤ m) (hm4 : m ≤ 4) (hU : 1 ≤ U) (h : den * U * q + r = N) (hr : r < den * U) (hq : 1000000000000 < q) :
    Rnd m (U : Int) (sgnN neg N) (den : Int) = IE (0, 2) := by
  unfold Rnd sgnN
  have := rnd_far ⟨hm1, hm4⟩ neg (unit := (U : Int)) (n := (N : Int)) (den := (den : Int)) (q := (q : Int)) (r := (r : Int)) (by omega) (by omega) (by rw [← h]; simp) (by omega) (by rw [← Int.natCast_mul]; omega) (by omega)
  rw [this]

theorem prod_in {k : Int} {U Q : Nat} (hU : 1 ≤ U) (hQ : (1000000000000 : Int) / (U : Int) = (Q : Int)) (h1 : ¬ (Q : Int) < k) (h2 : ¬ k < -(Q : Int)) :
    wrap64 (k * (U : Int)) = k * (U : Int) := by
  have hm : (Q : Int) * (U : Int) ≤ 1000000000000 := by rw [← hQ]; exact Int.ediv_mul_le _ (by omega)
  have a1 : k * (U : Int) ≤ (Q : Int) * (U : Int) := Int.mul_le_mul_of_nonneg_right (by omega) (by omega)
  have a2 : -(Q : Int) * (U : Int) ≤ k * (U : Int) := Int.mul_le_mul_of_nonneg_right (by omega) (by omega)
  rw [Int.neg_mul] at a2
  exact IntWalk.wrap64_in _ ⟨by omega, by omega⟩

theorem signs (neg : Bool) {N D q r : Nat} (h : D * q + r = N) (hr : r < D) (hq : q ≤ 2000000000000) :
    ∃ (k : Int) (r' : Nat), ((neg = false ∧ k = (q : Int) ∧ r' = r) ∨ (neg = true ∧ 0 < r ∧ k = -(q : Int) - 1 ∧ r' = D - r) ∨ (neg = true ∧ r = 0 ∧ k = -(q : Int) ∧ r' = 0)) ∧
      sgnN neg N / (D : Int) = k ∧ sgnN neg N % (D : Int) = (r' : Int) ∧ -2000000000001 ≤ k ∧ k ≤ 2000000000000 ∧ r' < D := by
  have hN : ((N : Nat) : Int) = (D : Int) * (q : Int) + (r : Int) := by rw [← h]; simp
  cases neg
  · obtain ⟨e1, e2⟩ := div_of hN (by omega) (by omega)
    exact ⟨q, r, .inl ⟨rfl, rfl, rfl⟩, e1, e2, by omega, by omega, by omega⟩
  · obtain ⟨e1, e2⟩ := neg_div hN (by omega) (by omega)
    by_cases h0 : 0 < r
    · rw [if_pos (by omega)] at e1 e2
      exact ⟨_, D - r, .inr (.inl ⟨rfl, h0, rfl, rfl⟩), e1, by rw [show (((D - r : Nat) : Nat) : Int) = (D : Int) - (r : Int) by omega]; exact e2, by omega, by omega, by omega⟩
    · rw [if_neg (by omega)] at e1 e2
      exact ⟨_, 0, .inr (.inr ⟨rfl, by omega, rfl, rfl⟩), e1, e2, by omega, by omega, by omega⟩

set_option maxRecDepth 100000 in
set_option maxHeartbeats 4000000 in
theorem money_divide (neg : Bool) (hi lo den : Nat) (m u : Int) (w : World) (hv : validR m u = true) (hlo : lo < 18446744073709551616) (hden : 1 ≤ den) (hd : den * u.toNat < 9223372036854775808) :
    Calls Try.prog 47 #[.bool neg, .int .u64 hi, .int .u64 lo, .int .u64 den, .agg #[.int .i64 m, .int .i64 u]] w fun e w' =>
      e = Rnd m u (sgnN neg (wideN hi lo)) den ∧ Below w.heap.size w w' := by
  obtain ⟨hm1, hm4, hu1, hu2⟩ := validR_iff.1 hv
  obtain ⟨U, rfl⟩ : ∃ U : Nat, u = (U : Int) := ⟨u.toNat, by omega⟩
  rw [Int.toNat_natCast] at hd
  have hmul : IntKind.u64.wrap ((den : Int) * (U : Int)) = ((den * U : Nat) : Int) := by rw [mulN]; exact wrapN _ (by omega)
  have hD0 : 0 < den * U := Nat.mul_pos (by omega) (by omega)
  have hdm := Nat.div_add_mod (hi * 18446744073709551616 + lo) (den * U)
  have hml := Nat.mod_lt (hi * 18446744073709551616 + lo) hD0
  have HU := Lib.hid hv
  clear hv
  have hBw : ∀ o k, Below w.heap.size w ((w.alloc o).drewN k) := fun o k => below_drewN ((Below.refl _ _).alloc (Nat.le_refl _) _) _
  have hBw0 : ∀ o, Below w.heap.size w (w.alloc o) := fun o => (Below.refl _ _).alloc (Nat.le_refl _) _
  by_cases hA : den * U ≤ hi
  · have dA : decide (((den * U : Nat) : Int) ≤ (hi : Int)) = true := decide_eq_true (by omega)
    have hq := wide_far (lo := lo) hD0 hA
    have HF := Lib.hid (far_of neg hm1 hm4 (by omega) hdm hml hq)
    clear hdm hml hq
    obtain ⟨D, hDe⟩ : ∃ D, den * U = D := ⟨_, rfl⟩
    rw [hDe] at hmul dA hD0 hd hA
    have HDE := Lib.hid hDe
    clear hDe
    go_enter Try.func47, Try.ntmps47
    go_wp2
    go_ret2
    exact ⟨HF.out.symm, hBw0 _⟩
  · have dA : decide (((den * U : Nat) : Int) ≤ (hi : Int)) = false := decide_eq_false (by omega)
    have hdc : ∀ W, Calls Try.prog 65 #[.int .u64 hi, .int .u64 lo, .int .u64 ((den * U : Nat) : Int)] W _ := fun W => div64 hi lo (den * U) W (by omega) hlo (by omega)
    have HDC := Lib.hid hdc
    clear hdc
    obtain ⟨q, hq⟩ : ∃ q, (hi * 18446744073709551616 + lo) / (den * U) = q := ⟨_, rfl⟩
    obtain ⟨r, hr⟩ : ∃ r, (hi * 18446744073709551616 + lo) % (den * U) = r := ⟨_, rfl⟩
    rw [hq, hr] at HDC
    rw [hr] at hml
    rw [hq, hr] at hdm
    have HDM := Lib.hid hdm
    clear hdm hq hr
    have HDU := Lib.hid (rfl : den * U = den * U)
    obtain ⟨D, hDe⟩ : ∃ D, den * U = D := ⟨_, rfl⟩
    rw [hDe] at hmul hml HDC dA HDM hD0 hd hA
    have HDE := Lib.hid hDe
    clear hDe HDU
    by_cases hQ : 2000000000000 < q
    · have dQ : decide ((2000000000000 : Int) < (q : Int)) = true := decide_eq_true (by omega)
      have HF := Lib.hid (far_of neg hm1 hm4 (by omega) (U := U) (den := den) (N := wideN hi lo) (q := q) (r := r) (by rw [HDE.out]; exact HDM.out) (by rw [HDE.out]; exact hml) (by omega : 1000000000000 < q))
      go_enter Try.func47, Try.ntmps47
      go_wp2_with fail
      refine (HDC.out _).mono ?_
      rintro e w' ⟨rfl, n, rfl⟩
      go_wp2
      go_ret2
      exact ⟨HF.out.symm, hBw _ _⟩
    · have dQ : decide ((2000000000000 : Int) < (q : Int)) = false := decide_eq_false (by omega)
      go_enter Try.func47, Try.ntmps47
      go_wp2_with fail
      refine (HDC.out _).mono ?_
      rintro e w' ⟨rfl, n, rfl⟩
      go_upto_if 36 with (fail)
      obtain ⟨k, r', hC, hk, hr', hk1, hk2, hr2⟩ := signs neg (N := wideN hi lo) HDM.out hml (by omega : q ≤ 2000000000000)
      have HC := Lib.hid hC
      have HK := Lib.hid hk
      have HR := Lib.hid hr'
      clear hC hk hr'
      go_cut [14, 15] (fun a b wx => a = .int .u64 r' ∧ b = .int .i64 k ∧ wx = (w.alloc (Obj.cells #[Value.int IntKind.i64 m, Value.int IntKind.i64 (U : Int)] 65)).drewN n)
      case first =>
        rcases HC.out with ⟨rfl, rfl, rfl⟩ | ⟨rfl, h0, rfl, rfl⟩ | ⟨rfl, h0, rfl, rfl⟩
        · go_wp2
          go_meet
          exact ⟨rfl, rfl, rfl⟩
        · have h0' : decide ((0 : Int) < (r : Int)) = true := decide_eq_true (by omega)
          go_wp2
          go_meet
          exact ⟨by go_num, by go_num, rfl⟩
        · subst h0
          go_wp2
          go_meet
          exact ⟨by go_num, by go_num, rfl⟩
      case rest =>
        obtain ⟨rfl, rfl, rfl⟩ := hcut
        go_upto_block 0 with (fail)
        go_cut [16] (fun a wx => a = .bool (upB m r' D k) ∧ wx = (w.alloc (Obj.cells #[Value.int IntKind.i64 m, Value.int IntKind.i64 (U : Int)] 65)).drewN n)
        case first =>
          rcases (by omega : m = 1 ∨ m = 2 ∨ m = 3 ∨ m = 4) with rfl | rfl | rfl | rfl
          · go_wp2
            go_meet
            exact ⟨rfl, rfl⟩
          · go_wp2
            go_meet
            exact ⟨by rw [upB2]; simp, rfl⟩
          · go_wp2
            go_meet
            exact ⟨rfl, rfl⟩
          · by_cases hu1 : (D : Int) - (r' : Int) < (r' : Int)
            · have d1 : decide ((D : Int) - (r' : Int) < (r' : Int)) = true := decide_eq_true hu1
              have HP := Lib.hid (upB4_gt (k := k) hu1)
              go_wp2
              go_meet
              exact ⟨by rw [HP.out], rfl⟩
            · have d1 : decide ((D : Int) - (r' : Int) < (r' : Int)) = false := decide_eq_false hu1
              by_cases hu2 : (r' : Int) = (D : Int) - (r' : Int)
              · have d2 : ((r' : Int) == (D : Int) - (r' : Int)) = true := beq_iff_eq.2 hu2
                have HP := Lib.hid (upB4_eq (k := k) hu2)
                clear hu1 hu2
                go_wp2
                go_meet
                exact ⟨by rw [HP.out], rfl⟩
              · have d2 : ((r' : Int) == (D : Int) - (r' : Int)) = false := beq_eq_false_iff_ne.2 hu2
                have HP := Lib.hid (upB4_lt (k := k) hu1 hu2)
                go_wp2
                go_meet
                exact ⟨by rw [HP.out], rfl⟩
        case rest =>
          obtain ⟨rfl, rfl⟩ := hcut
          have hfin := rnd_of (m := m) (u := (U : Int)) HK.out HR.out (by rw [← HDE.out]; simp : ((D : Nat) : Int) = (den : Int) * (U : Int))
          obtain ⟨Q, hQ1, hQ2⟩ : ∃ Q : Nat, (1000000000000 : Int) / (U : Int) = (Q : Int) ∧ Q ≤ 1000000000000 := ⟨1000000000000 / U, rfl, Nat.div_le_self _ _⟩
          have hQ3 : Int.tdiv 1000000000000 (U : Int) = (Q : Int) := by rw [Int.tdiv_eq_ediv_of_nonneg (by omega), hQ1]
          rw [hQ1] at hfin
          have HF := Lib.hid hfin
          have hBw : Below w.heap.size w ((w.alloc (Obj.cells #[Value.int IntKind.i64 m, Value.int IntKind.i64 (U : Int)] 65)).drewN n) := below_drewN ((Below.refl _ _).alloc (Nat.le_refl _) _) _
          have HBw := Lib.hid hBw
          clear hfin hBw
          cases hup : upB m r' D k
          · have HP := Lib.hid hup
            clear hup
            by_cases hr1 : (Q : Int) < k
            · have d1 : decide ((Q : Int) < k) = true := decide_eq_true hr1
              go_wp2
              go_ret2
              exact ⟨by unfold Rnd; rw [HF.out.1 (by rw [HP.out]; simp; omega)]; rfl, HBw.out⟩
            · have d1 : decide ((Q : Int) < k) = false := decide_eq_false hr1
              by_cases hr2 : k < -(Q : Int)
              · have d2 : decide (k < -(Q : Int)) = true := decide_eq_true hr2
                go_wp2
                go_ret2
                exact ⟨by unfold Rnd; rw [HF.out.1 (by rw [HP.out]; simp; omega)]; rfl, HBw.out⟩
              · have d2 : decide (k < -(Q : Int)) = false := decide_eq_false hr2
                have HW := Lib.hid (prod_in (by omega) hQ1 hr1 hr2)
                go_wp2
                go_ret2
                exact ⟨by unfold Rnd; rw [HF.out.2 (by rw [HP.out]; simp; omega), HP.out]; simp [IE, HW.out], HBw.out⟩
          · have HP := Lib.hid hup
            clear hup
            by_cases hr1 : (Q : Int) < k + 1
            · have d1 : decide ((Q : Int) < k + 1) = true := decide_eq_true hr1
              go_wp2
              go_ret2
              exact ⟨by unfold Rnd; rw [HF.out.1 (by rw [HP.out]; simp; omega)]; rfl, HBw.out⟩
            · have d1 : decide ((Q : Int) < k + 1) = false := decide_eq_false hr1
              by_cases hr2 : k + 1 < -(Q : Int)
              · have d2 : decide (k + 1 < -(Q : Int)) = true := decide_eq_true hr2
                go_wp2
                go_ret2
                exact ⟨by unfold Rnd; rw [HF.out.1 (by rw [HP.out]; simp; omega)]; rfl, HBw.out⟩
              · have d2 : decide (k + 1 < -(Q : Int)) = false := decide_eq_false hr2
                have HW := Lib.hid (prod_in (by omega) hQ1 hr1 hr2)
                go_wp2
                go_ret2
                exact ⟨by unfold Rnd; rw [HF.out.2 (by rw [HP.out]; simp; omega), HP.out]; simp [IE, HW.out], HBw.out⟩
end Go.Proofs.Ytaifacnpnhcdcaa
