/-
  The contract of the reference's rounded: it rounds a number of 128 bits with a sign as the plain function rnd does.
-/
import Derived.Test.YtaifacnpnhcdcaaWide
namespace Go.Proofs.Ytaifacnpnhcdcaa
open Go.RowKit Mny

theorem rndA {m : Int} {U den N q r : Nat} (neg : Bool) (hm1 : 1 ≤ m) (hm4 : m ≤ 4) (hU : 1 ≤ U) (h : den * U * q + r = N) (hr : r < den * U) :
    Rnd m (U : Int) (sgnN neg N) (den : Int) = IE (if (1000000000000 : Int) / (U : Int) < kAbs m neg q r ((den * U : Nat) : Int) then (0, 2)
      else ((if neg then -(kAbs m neg q r ((den * U : Nat) : Int) * (U : Int)) else kAbs m neg q r ((den * U : Nat) : Int) * (U : Int)), 0)) := by
  unfold Rnd sgnN
  have := rnd_abs ⟨hm1, hm4⟩ neg (unit := (U : Int)) (n := (N : Int)) (den := (den : Int)) (q := (q : Int)) (r := (r : Int)) (by omega) (by omega) (by rw [← h]; simp) (by omega) (by rw [← Int.natCast_mul]; omega)
  rw [this, Int.natCast_mul]

theorem prod_le {U Q K : Nat} (hU : 1 ≤ U) (hQ : (1000000000000 : Int) / (U : Int) = (Q : Int)) (h1 : ¬ (Q : Int) < (K : Int)) : K * U ≤ 1000000000000 := by
  have hm : (Q : Int) * (U : Int) ≤ 1000000000000 := by rw [← hQ]; exact Int.ediv_mul_le _ (by omega)
  have a1 : (K : Int) * (U : Int) ≤ (Q : Int) * (U : Int) := Int.mul_le_mul_of_nonneg_right (by omega) (by omega)
  have : ((K * U : Nat) : Int) ≤ 1000000000000 := by rw [Int.natCast_mul]; omega
  omega
section
variable (neg : Bool) (q : Nat) {r D : Nat}
theorem kAbs1_no1 (q r D : Nat) : kAbs 1 false q r D = (q : Int) := by simp [kAbs]
theorem kAbs1_yes (q : Nat) {r : Nat} (D : Nat) (h : 0 < r) : kAbs 1 true q r D = (q : Int) + 1 := by simp [kAbs, h]
theorem kAbs1_no2 (neg : Bool) (q : Nat) {r : Nat} (D : Nat) (h : ¬ 0 < r) : kAbs 1 neg q r D = (q : Int) := by simp [kAbs]; omega
theorem kAbs2_no1 (q r D : Nat) : kAbs 2 true q r D = (q : Int) := by simp [kAbs]
theorem kAbs2_yes (q : Nat) {r : Nat} (D : Nat) (h : 0 < r) : kAbs 2 false q r D = (q : Int) + 1 := by simp [kAbs, h]
theorem kAbs2_no2 (neg : Bool) (q : Nat) {r : Nat} (D : Nat) (h : ¬ 0 < r) : kAbs 2 neg q r D = (q : Int) := by simp [kAbs]; omega
theorem kAbs3_gt (h : (D : Int) - (r : Int) < (r : Int)) : kAbs 3 neg q r D = (q : Int) + 1 := by simp [kAbs, h]
theorem kAbs3_eq0 (h : (r : Int) = (D : Int) - (r : Int)) : kAbs 3 false q r D = (q : Int) + 1 := by simp [kAbs, ← h]
theorem kAbs3_eq1 (h : (r : Int) = (D : Int) - (r : Int)) : kAbs 3 true q r D = (q : Int) := by simp [kAbs, ← h]
theorem kAbs3_lt (h : ¬ (D : Int) - (r : Int) < (r : Int)) (h2 : ¬ (r : Int) = (D : Int) - (r : Int)) : kAbs 3 neg q r D = (q : Int) := by simp [kAbs, h, h2]
theorem kAbs4_gt (h : (D : Int) - (r : Int) < (r : Int)) : kAbs 4 neg q r D = (q : Int) + 1 := by simp [kAbs, h]
theorem kAbs4_eq1 {q : Nat} (h : (r : Int) = (D : Int) - (r : Int)) (h3 : (q : Int) % 2 = 1) : kAbs 4 neg q r D = (q : Int) + 1 := by simp [kAbs, ← h, h3]
theorem kAbs4_eq0 {q : Nat} (h : (r : Int) = (D : Int) - (r : Int)) (h3 : ¬ (q : Int) % 2 = 1) : kAbs 4 neg q r D = (q : Int) := by simp [kAbs, ← h, h3]
theorem kAbs4_lt (h : ¬ (D : Int) - (r : Int) < (r : Int)) (h2 : ¬ (r : Int) = (D : Int) - (r : Int)) : kAbs 4 neg q r D = (q : Int) := by simp [kAbs, h, h2]
end

set_option maxRecDepth 100000 in
set_option maxHeartbeats 4000000 in
theorem ref_rounded (neg : Bool) (hi lo den : Nat) (m u : Int) (w : World) (hv : validR m u = true) (hlo : lo < 18446744073709551616) (hhi : hi < 18446744073709551616) (hden : 1 ≤ den) (hd : den * u.toNat < 9223372036854775808) :
    Calls Try.prog 55 #[.bool neg, .agg #[.int .u64 hi, .int .u64 lo], .int .u64 den, .agg #[.int .i64 m, .int .i64 u]] w fun e w' =>
      e = Rnd m u (sgnN neg (wideN hi lo)) den ∧ Below w.heap.size w w' := by
  obtain ⟨hm1, hm4, hu1, hu2⟩ := validR_iff.1 hv
  obtain ⟨U, rfl⟩ : ∃ U : Nat, u = (U : Int) := ⟨u.toNat, by omega⟩
  rw [Int.toNat_natCast] at hd
  have hmul : IntKind.u64.wrap ((den : Int) * (U : Int)) = ((den * U : Nat) : Int) := by rw [mulN]; exact wrapN _ (by omega)
  have hD0 : 0 < den * U := Nat.mul_pos (by omega) (by omega)
  have hdm := Nat.div_add_mod (wideN hi lo) (den * U)
  have hml := Nat.mod_lt (wideN hi lo) hD0
  have hov : ∀ W, Calls Try.prog 67 #[.agg #[.int .u64 hi, .int .u64 lo], .int .u64 ((den * U : Nat) : Int)] W fun e w' =>
      e = .returned (.tuple #[wideV (wideN hi lo / (den * U)), .int .u64 ((wideN hi lo % (den * U) : Nat) : Int)]) ∧ Below W.heap.size W w' := fun W => ref_over hi lo (den * U) W hhi hlo hD0 (by omega)
  obtain ⟨q, hq⟩ : ∃ q, wideN hi lo / (den * U) = q := ⟨_, rfl⟩
  obtain ⟨r, hr⟩ : ∃ r, wideN hi lo % (den * U) = r := ⟨_, rfl⟩
  rw [hq, hr] at hov
  rw [hr] at hml
  rw [hq, hr] at hdm
  have HRA := Lib.hid (rndA neg hm1 hm4 (by omega) hdm hml)
  have HFAR : Hid (1000000000000 < q → Rnd m (U : Int) (sgnN neg (wideN hi lo)) (den : Int) = IE (0, 2)) := Lib.hid (fun h => far_of neg hm1 hm4 (by omega) hdm hml h)
  obtain ⟨D, hDe⟩ : ∃ D, den * U = D := ⟨_, rfl⟩
  rw [hDe] at hmul hml hov hD0 hd HRA
  have HOV := Lib.hid hov
  have HV := Lib.hid hv
  clear hDe hdm hq hr hov hv
  by_cases hQ : 1000000000000 < q
  · by_cases hQ2 : 18446744073709551616 ≤ q
    · have hb : (((q / 18446744073709551616 : Nat) : Int) != 0) = true := by rw [bne_iff_ne]; omega
      unfold wideV at HOV
      generalize q / 18446744073709551616 = qh at hb HOV
      generalize q % 18446744073709551616 = ql at HOV
      have hQ' := Lib.hid hQ
      clear hQ hQ2
      go_enter Try.func55, Try.ntmps55
      go_wp2_with fail
      refine (HOV.out _).mono ?_
      rintro e w1 ⟨rfl, hb1⟩
      obtain ⟨hc, hf⟩ := bcell hb1
      have hz : w.heap.size + 1 < w1.heap.size := by have := hb1.size; simp at this; omega
      have HB1 := Lib.hid (below_then (w := w) (by repeat (first | (with_reducible exact Below.refl _ _) | (with_reducible assumption) | (with_reducible refine below_drewN ?_ _) | (with_reducible refine Below.drew ?_) | (with_reducible refine Below.alloc ?_ ?_ _) | (with_reducible refine Below.setCell ?_ ?_ _) | exact Below.refl _ _ | assumption | (solve | omega | simp | (simp; omega)))) hb1)
      go_wp2
      go_ret2
      have hB1 := HB1.out
      exact ⟨(HFAR.out hQ'.out).symm, (by repeat (first | (with_reducible exact Below.refl _ _) | (with_reducible assumption) | (with_reducible refine below_drewN ?_ _) | (with_reducible refine Below.drew ?_) | (with_reducible refine Below.alloc ?_ ?_ _) | (with_reducible refine Below.setCell ?_ ?_ _) | exact Below.refl _ _ | assumption | (solve | omega | simp | (simp; omega))))⟩
    · have hW : wideV q = .agg #[.int .u64 (0 : Int), .int .u64 (q : Int)] := by
        have := wideV_of (hi := 0) (lo := q) (by omega); simpa using this
      have d1 : decide ((1000000000000 : Int) < (q : Int)) = true := decide_eq_true (by omega)
      rw [hW] at HOV
      clear hW
      have hQ' := Lib.hid hQ
      clear hQ hQ2
      go_enter Try.func55, Try.ntmps55
      go_wp2_with fail
      refine (HOV.out _).mono ?_
      rintro e w1 ⟨rfl, hb1⟩
      obtain ⟨hc, hf⟩ := bcell hb1
      have hz : w.heap.size + 1 < w1.heap.size := by have := hb1.size; simp at this; omega
      have HB1 := Lib.hid (below_then (w := w) (by repeat (first | (with_reducible exact Below.refl _ _) | (with_reducible assumption) | (with_reducible refine below_drewN ?_ _) | (with_reducible refine Below.drew ?_) | (with_reducible refine Below.alloc ?_ ?_ _) | (with_reducible refine Below.setCell ?_ ?_ _) | exact Below.refl _ _ | assumption | (solve | omega | simp | (simp; omega)))) hb1)
      go_wp2
      go_ret2
      have hB1 := HB1.out
      exact ⟨(HFAR.out hQ'.out).symm, (by repeat (first | (with_reducible exact Below.refl _ _) | (with_reducible assumption) | (with_reducible refine below_drewN ?_ _) | (with_reducible refine Below.drew ?_) | (with_reducible refine Below.alloc ?_ ?_ _) | (with_reducible refine Below.setCell ?_ ?_ _) | exact Below.refl _ _ | assumption | (solve | omega | simp | (simp; omega))))⟩
  · have hW : wideV q = .agg #[.int .u64 (0 : Int), .int .u64 (q : Int)] := by
      have := wideV_of (hi := 0) (lo := q) (by omega); simpa using this
    have d1 : decide ((1000000000000 : Int) < (q : Int)) = false := decide_eq_false (by omega)
    rw [hW] at HOV
    clear hW
    go_enter Try.func55, Try.ntmps55
    go_wp2_with fail
    refine (HOV.out _).mono ?_
    rintro e w1 ⟨rfl, hb1⟩
    obtain ⟨hc, hf⟩ := bcell hb1
    have hz : w.heap.size + 1 < w1.heap.size := by have := hb1.size; simp at this; omega
    have HB1 := Lib.hid (below_then (w := w) (by repeat (first | (with_reducible exact Below.refl _ _) | (with_reducible assumption) | (with_reducible refine below_drewN ?_ _) | (with_reducible refine Below.drew ?_) | (with_reducible refine Below.alloc ?_ ?_ _) | (with_reducible refine Below.setCell ?_ ?_ _) | exact Below.refl _ _ | assumption | (solve | omega | simp | (simp; omega)))) hb1)
    go_upto_block 0 with (fail)
    go_cut [13] (fun a wx => ∃ K : Nat, a = .int .u64 K ∧ (K : Int) = kAbs m neg q r D ∧ wx = w1.alloc (Obj.cells #[Value.int IntKind.u64 0, Value.int IntKind.u64 (q : Int)] 79))
    case first =>
      rcases (by omega : m = 1 ∨ m = 2 ∨ m = 3 ∨ m = 4) with rfl | rfl | rfl | rfl
      · cases neg
        · have HKA := Lib.hid (kAbs1_no1 q r D)
          go_wp2
          go_meet
          exact ⟨q, by go_num, by rw [HKA.out], rfl⟩
        · by_cases h0 : 0 < r
          · have c0 : decide ((0 : Int) < (r : Int)) = true := decide_eq_true (by omega)
            have HKA := Lib.hid (kAbs1_yes q (r := r) D h0)
            go_wp2
            go_meet
            exact ⟨q + 1, by go_num, by rw [HKA.out]; rfl, rfl⟩
          · have c0 : decide ((0 : Int) < (r : Int)) = false := decide_eq_false (by omega)
            have HKA := Lib.hid (kAbs1_no2 true q (r := r) D h0)
            go_wp2
            go_meet
            exact ⟨q, by go_num, by rw [HKA.out], rfl⟩
      · cases neg
        · by_cases h0 : 0 < r
          · have c0 : decide ((0 : Int) < (r : Int)) = true := decide_eq_true (by omega)
            have HKA := Lib.hid (kAbs2_yes q (r := r) D h0)
            go_wp2
            go_meet
            exact ⟨q + 1, by go_num, by rw [HKA.out]; rfl, rfl⟩
          · have c0 : decide ((0 : Int) < (r : Int)) = false := decide_eq_false (by omega)
            have HKA := Lib.hid (kAbs2_no2 false q (r := r) D h0)
            go_wp2
            go_meet
            exact ⟨q, by go_num, by rw [HKA.out], rfl⟩
        · have HKA := Lib.hid (kAbs2_no1 q r D)
          go_wp2
          go_meet
          exact ⟨q, by go_num, by rw [HKA.out], rfl⟩
      · by_cases h1 : (D : Int) - (r : Int) < (r : Int)
        · have c1 : decide ((D : Int) - (r : Int) < (r : Int)) = true := decide_eq_true h1
          have HKA := Lib.hid (kAbs3_gt neg q h1)
          go_wp2
          go_meet
          exact ⟨q + 1, by go_num, by rw [HKA.out]; rfl, rfl⟩
        · have c1 : decide ((D : Int) - (r : Int) < (r : Int)) = false := decide_eq_false h1
          by_cases h2 : (r : Int) = (D : Int) - (r : Int)
          · have c2 : ((r : Int) == (D : Int) - (r : Int)) = true := beq_iff_eq.2 h2
            cases neg
            · have HKA := Lib.hid (kAbs3_eq0 q h2)
              clear h1 h2
              go_wp2
              go_meet
              exact ⟨q + 1, by go_num, by rw [HKA.out]; rfl, rfl⟩
            · have HKA := Lib.hid (kAbs3_eq1 q h2)
              clear h1 h2
              go_wp2
              go_meet
              exact ⟨q, by go_num, by rw [HKA.out], rfl⟩
          · have c2 : ((r : Int) == (D : Int) - (r : Int)) = false := beq_eq_false_iff_ne.2 h2
            have HKA := Lib.hid (kAbs3_lt neg q h1 h2)
            go_wp2
            go_meet
            exact ⟨q, by go_num, by rw [HKA.out], rfl⟩
      · by_cases h1 : (D : Int) - (r : Int) < (r : Int)
        · have c1 : decide ((D : Int) - (r : Int) < (r : Int)) = true := decide_eq_true h1
          have HKA := Lib.hid (kAbs4_gt neg q h1)
          go_wp2
          go_meet
          exact ⟨q + 1, by go_num, by rw [HKA.out]; rfl, rfl⟩
        · have c1 : decide ((D : Int) - (r : Int) < (r : Int)) = false := decide_eq_false h1
          by_cases h2 : (r : Int) = (D : Int) - (r : Int)
          · have c2 : ((r : Int) == (D : Int) - (r : Int)) = true := beq_iff_eq.2 h2
            by_cases h3 : (q : Int) % 2 = 1
            · have c3 : ((q : Int) % 2 == 1) = true := beq_iff_eq.2 h3
              have HKA := Lib.hid (kAbs4_eq1 neg h2 h3)
              clear h1 h2 h3
              go_wp2
              go_meet
              exact ⟨q + 1, by go_num, by rw [HKA.out]; rfl, rfl⟩
            · have c3 : ((q : Int) % 2 == 1) = false := beq_eq_false_iff_ne.2 h3
              have HKA := Lib.hid (kAbs4_eq0 neg h2 h3)
              clear h1 h2 h3
              go_wp2
              go_meet
              exact ⟨q, by go_num, by rw [HKA.out], rfl⟩
          · have c2 : ((r : Int) == (D : Int) - (r : Int)) = false := beq_eq_false_iff_ne.2 h2
            have HKA := Lib.hid (kAbs4_lt neg q h1 h2)
            go_wp2
            go_meet
            exact ⟨q, by go_num, by rw [HKA.out], rfl⟩
    case rest =>
      obtain ⟨K, rfl, hK, rfl⟩ := hcut
      have hKb := kAbs_bd m neg q r D
      rw [← hK] at hKb
      rw [← hK] at HRA
      obtain ⟨Q, hQ1, hQ2⟩ : ∃ Q : Nat, (1000000000000 : Int) / (U : Int) = (Q : Int) ∧ Q ≤ 1000000000000 := ⟨1000000000000 / U, rfl, Nat.div_le_self _ _⟩
      rw [hQ1] at HRA
      clear hK
      have hBw : Below w.heap.size w (w1.alloc (Obj.cells #[Value.int IntKind.u64 0, Value.int IntKind.u64 (q : Int)] 79)) := by
        have hB1 := HB1.out
        exact (by repeat (first | (with_reducible exact Below.refl _ _) | (with_reducible assumption) | (with_reducible refine below_drewN ?_ _) | (with_reducible refine Below.drew ?_) | (with_reducible refine Below.alloc ?_ ?_ _) | (with_reducible refine Below.setCell ?_ ?_ _) | exact Below.refl _ _ | assumption | (solve | omega | simp | (simp; omega))))
      have HBw := Lib.hid hBw
      clear hBw
      by_cases hr1 : (Q : Int) < (K : Int)
      · have c1 : decide ((Q : Int) < (K : Int)) = true := decide_eq_true hr1
        go_wp2
        go_ret2
        exact ⟨by rw [HRA.out, if_pos hr1]; rfl, HBw.out⟩
      · have c1 : decide ((Q : Int) < (K : Int)) = false := decide_eq_false hr1
        have hp := prod_in (k := (K : Int)) (by omega) hQ1 hr1 (by omega)
        have hp2 := prod_le (by omega) hQ1 hr1
        have hp3 : IntKind.u64.wrap ((K : Int) * (U : Int)) = ((K * U : Nat) : Int) := by rw [mulN]; exact wrapN _ (by omega)
        clear hp
        obtain ⟨V, hV⟩ : ∃ V, K * U = V := ⟨_, rfl⟩
        rw [hV] at hp2 hp3
        have HV2 := Lib.hid hV
        clear hV
        have hfin := HRA.out
        rw [if_neg hr1, show (K : Int) * (U : Int) = (V : Int) by rw [← HV2.out, Int.natCast_mul]] at hfin
        have HFIN := Lib.hid hfin
        clear hfin
        cases neg
        · go_wp2
          go_ret2
          exact ⟨HFIN.out.symm, HBw.out⟩
        · go_wp2
          go_ret2
          exact ⟨HFIN.out.symm, HBw.out⟩
end Go.Proofs.Ytaifacnpnhcdcaa
