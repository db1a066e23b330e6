/-
  The walk of RecoveryTakesMonths.
-/
import Derived.Test.YtaifacnpnhcdcaaAwakeV
import Derived.Test.YtaifacnpnhcdcaaMakeV
namespace Go.Proofs.Ytaifacnpnhcdcaa
open Go.RowKit Mny

/-- how the months go down: a month withholds q, as long as more is left -/
theorem mon_step {q L k : Int} (hq : 1 ≤ q) (hL : 1 ≤ L) (h : (L + q - 1) / q = k) : (L - min L q + q - 1) / q = k - 1 := by
  rcases Int.le_total L q with h1 | h1
  · rw [Int.min_eq_left h1]
    have e1 : (L - L + q - 1) / q = 0 := Int.ediv_eq_zero_of_lt (by omega) (by omega)
    have e2 : (L + q - 1) / q = 1 := by
      have : L + q - 1 = (L - 1) + 1 * q := by omega
      rw [this, Int.add_mul_ediv_right _ _ (by omega), Int.ediv_eq_zero_of_lt (by omega) (by omega)]
      rfl
    omega
  · rw [Int.min_eq_right h1]
    have : L + q - 1 = (L - q + q - 1) + 1 * q := by omega
    rw [this, Int.add_mul_ediv_right _ _ (by omega)] at h
    omega
theorem mon_pos {q L k : Int} (hq : 1 ≤ q) (hL : 0 ≤ L) (h : (L + q - 1) / q = k) (hk : 1 ≤ k) : 1 ≤ L := by
  rcases Int.lt_or_le 0 L with h1 | h1
  · exact h1
  · have : L = 0 := by omega
    subst this
    rw [Int.ediv_eq_zero_of_lt (by omega) (by omega)] at h
    omega
theorem mon_zero {q L : Int} (hq : 1 ≤ q) (hL : 0 ≤ L) (h : (L + q - 1) / q = 0) : L = 0 := by
  have h1 := Int.lt_mul_ediv_self_add (x := L + q - 1) (k := q) (by omega)
  rw [h, Int.mul_zero] at h1
  omega
set_option maxRecDepth 100000 in
set_option maxHeartbeats 8000000 in
theorem walk_RecoveryTakesMonths (a0 a1 : Int) (w : World) : Calls Try.prog 5 #[.int .i64 a0, .int .i64 a1] w fun e w' => e = .returned (.bool true) ∧ Below w.heap.size w w' := by
  have HA := Lib.hid (fun W => rec_awake W)
  go_enter Try.func5, Try.ntmps5
  go_wp2_with fail
  refine (plain_Mod _ 5000 _ (by decide) (by decide)).mono ?_
  rintro e _ ⟨rfl, rfl⟩
  obtain ⟨d, ed⟩ : ∃ q, a1 % 5000 = q := ⟨_, rfl⟩
  have ld : 0 ≤ d := by rw [← ed]; exact Int.emod_nonneg _ (by decide)
  have ud : d < 5000 := by rw [← ed]; exact Int.emod_lt_of_pos _ (by decide)
  rw [ed]
  clear ed
  go_wp2_with fail
  refine (plain_Mod _ 30000 _ (by decide) (by decide)).mono ?_
  rintro e _ ⟨rfl, rfl⟩
  obtain ⟨o, eo⟩ : ∃ q, a0 % 30000 = q := ⟨_, rfl⟩
  have lo : 0 ≤ o := by rw [← eo]; exact Int.emod_nonneg _ (by decide)
  have uo : o < 30000 := by rw [← eo]; exact Int.emod_lt_of_pos _ (by decide)
  rw [eo]
  clear eo
  have q0 : 0 ≤ d * 30 / 100 := Int.ediv_nonneg (by omega) (by decide)
  have q1 : d * 30 / 100 ≤ d := by omega
  obtain ⟨q, hq⟩ : ∃ q, d * 30 / 100 = q := ⟨_, rfl⟩
  have t1 : (d * 30).tdiv 100 = q := by rw [pct d ld]; exact hq
  have hmo := fun W => rec_Months o d q W lo (by omega) ld (by omega) hq
  have hmr := fun W => ref_Months o d q W lo (by omega) ld (by omega) hq
  have HPM := Lib.hid (fun (b : Int) (h0 : -100000 ≤ b) (h1 : b ≤ 100000) W => rec_Payment b d q W ld (by omega) (by omega) (by omega) hq)
  rw [hq] at q0 q1
  clear hq
  have v2 : IntKind.i64.wrap (d * 30) = d * 30 := IntWalk.i64_in _ (by omega)
  by_cases z0 : o = 0
  · subst z0
    have e0 : monS 0 q = 0 := by unfold monS; rw [if_pos rfl]
    rw [e0] at hmo
    have HMO := Lib.hid hmo
    clear hmo hmr e0 t1 v2
    go_wp2_with fail
    refine (HMO.out _).mono ?_
    rintro e _ ⟨rfl, rfl⟩
    go_wp2_with fail
    refine (HA.out _).mono ?_
    rintro e w9 ⟨rfl, hb9⟩
    have HB9 := Lib.hid hb9
    clear hb9
    go_wp2
    go_loopw [8, 9] (fun s8 i wr => s8 = .int .i64 0 ∧ i = .int .i64 0 ∧ Below w.heap.size w wr) (fun _ _ _ => 0)
    case atStart => exact ⟨rfl, rfl, HB9.out⟩
    case round =>
      obtain ⟨rfl, rfl, hb⟩ := hrel
      go_wp2
      go_ret
      exact ⟨rfl, (by repeat (first | (with_reducible exact Below.refl _ _) | (with_reducible assumption) | (with_reducible refine below_drewN ?_ _) | (with_reducible refine Below.drew ?_) | (with_reducible refine Below.alloc ?_ ?_ _) | (with_reducible refine Below.setCell ?_ ?_ _) | exact Below.refl _ _ | assumption | (solve | omega | simp | (simp; omega))))⟩
  by_cases z1 : q = 0
  · subst z1
    have e0 : monS o 0 = -1 := by unfold monS; rw [if_neg z0, if_pos rfl]
    rw [e0] at hmo
    have HMO := Lib.hid hmo
    clear hmo hmr e0
    have c1 : decide (0 < o) = true := decide_eq_true (by omega)
    go_wp2_with fail
    refine (HMO.out _).mono ?_
    rintro e _ ⟨rfl, rfl⟩
    go_wp2_with fail
    refine (HA.out _).mono ?_
    rintro e w9 ⟨rfl, hb9⟩
    have HB9 := Lib.hid hb9
    clear hb9
    have hb := HB9.out
    go_wp2
    go_ret
    exact ⟨rfl, (by repeat (first | (with_reducible exact Below.refl _ _) | (with_reducible assumption) | (with_reducible refine below_drewN ?_ _) | (with_reducible refine Below.drew ?_) | (with_reducible refine Below.alloc ?_ ?_ _) | (with_reducible refine Below.setCell ?_ ?_ _) | exact Below.refl _ _ | assumption | (solve | omega | simp | (simp; omega))))⟩
  have e0 : monS o q = (o + q - 1) / q := by unfold monS; rw [if_neg z0, if_neg z1]
  have n1 : 0 ≤ (o + q - 1) / q := Int.ediv_nonneg (by omega) q0
  have n2 : (o + q - 1) / q ≤ 100000 := Int.le_trans (Int.ediv_le_self _ (by omega)) (by omega)
  obtain ⟨n, hn⟩ : ∃ n, (o + q - 1) / q = n := ⟨_, rfl⟩
  rw [hn] at e0 n1 n2
  rw [e0] at hmo hmr
  have HN := Lib.hid hn
  have HMO := Lib.hid hmo
  have HMR := Lib.hid hmr
  clear hmo hmr e0 hn
  have c1 : decide (n < 0) = false := decide_eq_false (by omega)
  clear t1 v2
  go_wp2_with fail
  refine (HMO.out _).mono ?_
  rintro e _ ⟨rfl, rfl⟩
  go_wp2_with fail
  refine (HA.out _).mono ?_
  rintro e w9 ⟨rfl, hb9⟩
  have HB9 := Lib.hid hb9
  clear hb9
  by_cases n40 : 40 < n
  · have c2 : decide (40 < n) = true := decide_eq_true n40
    go_wp2_with fail
    refine (HMR.out _).mono ?_
    rintro e _ ⟨rfl, rfl⟩
    have hb := HB9.out
    go_wp2
    go_ret
    exact ⟨rfl, (by repeat (first | (with_reducible exact Below.refl _ _) | (with_reducible assumption) | (with_reducible refine below_drewN ?_ _) | (with_reducible refine Below.drew ?_) | (with_reducible refine Below.alloc ?_ ?_ _) | (with_reducible refine Below.setCell ?_ ?_ _) | exact Below.refl _ _ | assumption | (solve | omega | simp | (simp; omega))))⟩
  · have c2 : decide (40 < n) = false := decide_eq_false n40
    have v3 : IntKind.i64.wrap (-o) = -o := IntWalk.i64_in _ (by omega)
    go_wp2
    go_loopw [8, 9, 10, 11] (fun s8 i u10 u11 wr => ∃ (k : Nat) (L : Int), (k : Int) ≤ n ∧ i = .int .i64 k ∧ s8 = .int .i64 (-L) ∧ 0 ≤ L ∧ L ≤ o ∧ Hid ((L + q - 1) / q = n - k) ∧ Below w.heap.size w wr) (fun _ i _ _ _ => n.toNat - (intOf i).toNat)
    case atStart => exact ⟨0, o, by omega, rfl, rfl, lo, Int.le_refl _, Lib.hid (by rw [HN.out]; simp), HB9.out⟩
    case round =>
      obtain ⟨k, L, hk, rfl, rfl, hL0, hL1, hm, hb⟩ := hrel
      have HB := Lib.hid hb
      clear hb
      by_cases hlt : (k : Int) < n
      · have c3 : decide ((k : Int) < n) = true := decide_eq_true hlt
        have hLp : 1 ≤ L := mon_pos (by omega) hL0 hm.out (by omega)
        have HM2 := Lib.hid (mon_step (by omega) hLp hm.out)
        have c4 : decide (0 ≤ -L) = false := decide_eq_false (by omega)
        have v4 : IntKind.i64.wrap (-L + d) = -L + d := IntWalk.i64_in _ (by omega)
        go_wp2_with fail
        refine (HPM.out _ (by omega) (by omega) _).mono ?_
        rintro e _ ⟨⟨pay, wh, rfl, hf⟩, rfl⟩
        obtain ⟨rfl, hwh⟩ : pay = d - wh ∧ wh = min L q := by unfold PayF at hf; omega
        clear hf
        have v5 : IntKind.i64.wrap (-L + d - (d - wh)) = -L + d - (d - wh) := IntWalk.i64_in _ (by omega)
        have hb := HB.out
        go_wp2
        go_roundw
        case rel => exact ⟨k + 1, L - wh, by omega, by go_num, by congr 1; omega, by omega, by omega, Lib.hid (by rw [hwh]; have := HM2.out; omega), hb⟩
        case measure => simp [intOf]; omega
      · have c3 : decide ((k : Int) < n) = false := decide_eq_false hlt
        have hL : L = 0 := mon_zero (q := q) (by omega) hL0 (by rw [hm.out]; omega)
        subst hL
        have hb := HB.out
        go_wp2
        go_ret
        exact ⟨rfl, (by repeat (first | (with_reducible exact Below.refl _ _) | (with_reducible assumption) | (with_reducible refine below_drewN ?_ _) | (with_reducible refine Below.drew ?_) | (with_reducible refine Below.alloc ?_ ?_ _) | (with_reducible refine Below.setCell ?_ ?_ _) | exact Below.refl _ _ | assumption | (solve | omega | simp | (simp; omega))))⟩
end Go.Proofs.Ytaifacnpnhcdcaa
