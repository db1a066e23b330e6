/-
  The contract of the reference's AddFractions at two valid fractions.
-/
import Derived.Test.YtnhbidagnomkpaaPlus
import Derived.Test.YtnhbidagnomkpaaAddP
import Derived.Test.YtnhbidagnomkpaaCompare
namespace Go.Proofs.Ytnhbidagnomkpaa
open Go.RowKit Mny

set_option maxRecDepth 100000 in
set_option maxHeartbeats 20000000 in
theorem ref_Add (n1 d1 n2 d2 : Int) (w : World) (h1 : validF n1 d1 = true) (h2 : validF n2 d2 = true) :
    Calls Try.prog 53 #[.agg #[.int .i64 n1, .int .i64 d1], .agg #[.int .i64 n2, .int .i64 d2]] w fun e w' => e = FE (addS n1 d1 n2 d2) ∧ Below w.heap.size w w' := by
  have hV1 := fun W => ref_ValidFraction n1 d1 W
  have hV2 := fun W => ref_ValidFraction n2 d2 W
  rw [h1] at hV1
  rw [h2] at hV2
  obtain ⟨a1, a2, a3, a4, _⟩ := validF_iff.1 h1
  obtain ⟨b1, b2, b3, b4, _⟩ := validF_iff.1 h2
  have hSZ1 := fun W => ref_size n1 W (by omega) (by omega)
  have hSZ2 := fun W => ref_size n2 W (by omega) (by omega)
  obtain ⟨D1, rfl⟩ : ∃ D : Nat, d1 = (D : Int) := ⟨d1.toNat, by omega⟩
  obtain ⟨D2, rfl⟩ : ∃ D : Nat, d2 = (D : Int) := ⟨d2.toNat, by omega⟩
  have hdp : 0 < D1 * D2 := Nat.mul_pos (by omega) (by omega)
  have hdm : D1 * D2 ≤ 1000000000 * 1000000000 := Nat.mul_le_mul (by omega) (by omega)
  have hA1 := add_same (n1 := n1) (n2 := n2) (D1 := D1) (D2 := D2)
  have hA2 := add_diff1 (n1 := n1) (n2 := n2) (D1 := D1) (D2 := D2)
  have hA3 := add_diff2 (n1 := n1) (n2 := n2) (D1 := D1) (D2 := D2)
  obtain ⟨x, hx⟩ : ∃ x, n1.natAbs = x := ⟨_, rfl⟩
  obtain ⟨y, hy⟩ : ∃ y, n2.natAbs = y := ⟨_, rfl⟩
  have hxb : x ≤ 1000000000000000 := by omega
  have hyb : y ≤ 1000000000000000 := by omega
  rw [hx] at hSZ1
  rw [hy] at hSZ2
  rw [hx, hy] at hA1 hA2 hA3
  have hM1 := fun W => ref_times x D2 W (by omega) (by omega)
  have hM2 := fun W => ref_times y D1 W (by omega) (by omega)
  unfold wideV at hM1 hM2
  have hX : x * D2 ≤ 1000000000000000 * 1000000000 := Nat.mul_le_mul hxb (by omega)
  have hY : y * D1 ≤ 1000000000000000 * 1000000000 := Nat.mul_le_mul hyb (by omega)
  obtain ⟨X, hXe⟩ : ∃ X, x * D2 = X := ⟨_, rfl⟩
  obtain ⟨Y, hYe⟩ : ∃ Y, y * D1 = Y := ⟨_, rfl⟩
  obtain ⟨dd, hde⟩ : ∃ q, D1 * D2 = q := ⟨_, rfl⟩
  rw [hXe] at hM1 hX
  rw [hYe] at hM2 hY
  rw [hde] at hdp hdm
  rw [hXe, hYe, hde] at hA1 hA2 hA3
  have hlx : X % 18446744073709551616 < 18446744073709551616 := Nat.mod_lt _ (by decide)
  have hly : Y % 18446744073709551616 < 18446744073709551616 := Nat.mod_lt _ (by decide)
  have hWX : wideN (X / 18446744073709551616) (X % 18446744073709551616) = X := by unfold wideN; omega
  have hWY : wideN (Y / 18446744073709551616) (Y % 18446744073709551616) = Y := by unfold wideN; omega
  have hL := fun W => ref_less (X / 18446744073709551616) (X % 18446744073709551616) (Y / 18446744073709551616) (Y % 18446744073709551616) W hlx hly
  have hPl := fun W => ref_plus (X / 18446744073709551616) (X % 18446744073709551616) (Y / 18446744073709551616) (Y % 18446744073709551616) W hlx hly (by omega)
  have hMi := fun W (h : X ≤ Y) => ref_minus (Y / 18446744073709551616) (Y % 18446744073709551616) (X / 18446744073709551616) (X % 18446744073709551616) W (by omega) hly hlx (by rw [hWX, hWY]; exact h)
  have hMj := fun W (h : Y ≤ X) => ref_minus (X / 18446744073709551616) (X % 18446744073709551616) (Y / 18446744073709551616) (Y % 18446744073709551616) W (by omega) hlx hly (by rw [hWX, hWY]; exact h)
  rw [hWX, hWY] at hL hPl
  simp only [hWX, hWY] at hMi hMj
  obtain ⟨xh, hxh⟩ : ∃ h, X / 18446744073709551616 = h := ⟨_, rfl⟩
  obtain ⟨xl, hxl⟩ : ∃ h, X % 18446744073709551616 = h := ⟨_, rfl⟩
  obtain ⟨yh, hyh⟩ : ∃ h, Y / 18446744073709551616 = h := ⟨_, rfl⟩
  obtain ⟨yl, hyl⟩ : ∃ h, Y % 18446744073709551616 = h := ⟨_, rfl⟩
  rw [hxh, hxl] at hM1
  rw [hyh, hyl] at hM2
  rw [hxh, hxl, hyh, hyl] at hL hPl
  simp only [hxh, hxl, hyh, hyl] at hMi hMj
  have HV1 := Lib.hid hV1
  have HV2 := Lib.hid hV2
  have HSZ1 := Lib.hid hSZ1
  have HSZ2 := Lib.hid hSZ2
  have HM1 := Lib.hid hM1
  have HM2 := Lib.hid hM2
  have HL := Lib.hid hL
  have HPL := Lib.hid hPl
  have HMI := Lib.hid hMi
  have HMJ := Lib.hid hMj
  have HA1 := Lib.hid hA1
  have HA2 := Lib.hid hA2
  have HA3 := Lib.hid hA3
  have HDE := Lib.hid hde
  have V3 : IntKind.u64.wrap ((D1 : Int) * (D2 : Int)) = (dd : Int) := by rw [← Int.natCast_mul, hde]; exact wrapN _ (by omega)
  clear hV1 hV2 hSZ1 hSZ2 hM1 hM2 hL hPl hMi hMj hA1 hA2 hA3 hlx hly hWX hWY hxh hxl hyh hyl hx hy hXe hYe hde h1 h2
  have V1 : IntKind.u64.wrap (D1 : Int) = (D1 : Int) := wrapN D1 (by omega)
  have V2 : IntKind.u64.wrap (D2 : Int) = (D2 : Int) := wrapN D2 (by omega)
  have B0 := Lib.hid (((Bx.made w 23 #[.int .i64 n1, .int .i64 (D1 : Int)] rfl).alloc (.cells #[.int .i64 n2, .int .i64 (D2 : Int)] 23)).alloc (.cells #[.int .i64 0, .int .i64 0] 23))
  have B1 := Lib.hid ((Bx.made (w.alloc (.cells #[.int .i64 n1, .int .i64 (D1 : Int)] 23)) 23 #[.int .i64 n2, .int .i64 (D2 : Int)] (g := w.heap.size + 1) (by simp)).alloc (.cells #[.int .i64 0, .int .i64 0] 23))
  have B2 := Lib.hid (Bx.made ((w.alloc (.cells #[.int .i64 n1, .int .i64 (D1 : Int)] 23)).alloc (.cells #[.int .i64 n2, .int .i64 (D2 : Int)] 23)) 23 #[.int .i64 0, .int .i64 0] (g := w.heap.size + 2) (by simp))
  have HB0 : Hid (Below w.heap.size w (((w.alloc (.cells #[.int .i64 n1, .int .i64 (D1 : Int)] 23)).alloc (.cells #[.int .i64 n2, .int .i64 (D2 : Int)] 23)).alloc (.cells #[.int .i64 0, .int .i64 0] 23))) := Lib.hid (by repeat (first | (with_reducible exact Below.refl _ _) | (with_reducible assumption) | (with_reducible refine below_drewN ?_ _) | (with_reducible refine Below.drew ?_) | (with_reducible refine Below.alloc ?_ ?_ _) | (with_reducible refine Below.setCell ?_ ?_ _) | exact Below.refl _ _ | assumption | (solve | omega | simp | (simp; omega))))
  obtain ⟨Wi, hWi⟩ : ∃ q, (((w.alloc (.cells #[.int .i64 n1, .int .i64 (D1 : Int)] 23)).alloc (.cells #[.int .i64 n2, .int .i64 (D2 : Int)] 23)).alloc (.cells #[.int .i64 0, .int .i64 0] 23)) = q := ⟨_, rfl⟩
  rw [hWi] at B0 B1 B2 HB0
  have HWI := Lib.hid hWi
  clear hWi
  go_enter Try.func53, Try.ntmps53
  go_wp2_with fail
  rw [HWI.out]
  refine (HV1.out _).mono ?_
  rintro e wa ⟨rfl, hba⟩
  have HBa := Lib.hid (below_then HB0.out hba)
  have B0a := Lib.hid (B0.out.below hba)
  have B1a := Lib.hid (B1.out.below hba)
  have B2a := Lib.hid (B2.out.below hba)
  clear hba
  obtain ⟨c1, r1⟩ := B1a.out.of
  go_wp2_with fail
  refine (HV2.out _).mono ?_
  rintro e W0 ⟨rfl, hbb⟩
  have HBb := Lib.hid (below_then HBa.out hbb)
  have B0b := Lib.hid (B0a.out.below hbb)
  have B1b := Lib.hid (B1a.out.below hbb)
  have B2b := Lib.hid (B2a.out.below hbb)
  clear hbb c1 r1
  go_upto_region 3 with (fail)
  go_cut [6, 7] (fun a b wx => ∃ g h, a = .pointer (some ⟨g, 0, none⟩) ∧ b = .pointer (some ⟨h, 0, none⟩) ∧ Bx wx g 66 #[.int .u64 (xh : Int), .int .u64 (xl : Int)] ∧ Bx wx h 66 #[.int .u64 (yh : Int), .int .u64 (yl : Int)] ∧ Below W0.heap.size W0 wx)
  case first =>
    have S0 : Below W0.heap.size W0 W0.drew := (Below.refl _ _).drew
    have S1 : W0.cell? ⟨w.heap.size, 0, none⟩ = some (.int .i64 n1) := B0b.out.cell 0
    have S2 : W0.cell? ⟨w.heap.size, 1, none⟩ = some (.int .i64 (D1 : Int)) := B0b.out.cell 1
    have S3 : W0.cell? ⟨w.heap.size + 1, 0, none⟩ = some (.int .i64 n2) := B1b.out.cell 0
    have S4 : W0.cell? ⟨w.heap.size + 1, 1, none⟩ = some (.int .i64 (D2 : Int)) := B1b.out.cell 1
    have SL := B1b.out.lt
    have FW00 : ¬ w.heap.size = W0.heap.size := by omega
    have FW01 : ¬ W0.heap.size = w.heap.size := by omega
    have FW02 : ¬ w.heap.size + 1 = W0.heap.size := by omega
    have FW03 : ¬ W0.heap.size = w.heap.size + 1 := by omega
    have FW04 : ¬ w.heap.size = W0.heap.size + 1 := by omega
    have FW05 : ¬ W0.heap.size + 1 = w.heap.size := by omega
    have FW06 : ¬ w.heap.size + 1 = W0.heap.size + 1 := by omega
    have FW07 : ¬ W0.heap.size + 1 = w.heap.size + 1 := by omega
    go_region_held3 (fun w' => Below W0.heap.size W0 w' ∧ w'.cell? ⟨w.heap.size, 0, none⟩ = some (.int .i64 n1) ∧ w'.cell? ⟨w.heap.size, 1, none⟩ = some (.int .i64 (D1 : Int)) ∧ w'.cell? ⟨w.heap.size + 1, 0, none⟩ = some (.int .i64 n2) ∧ w'.cell? ⟨w.heap.size + 1, 1, none⟩ = some (.int .i64 (D2 : Int)))
      (first | exact ⟨by assumption, by assumption, by assumption, by assumption, by assumption⟩ | (refine ⟨(by repeat (first | (with_reducible exact Below.refl _ _) | (with_reducible assumption) | (with_reducible refine below_drewN ?_ _) | (with_reducible refine Below.drew ?_) | (with_reducible refine Below.alloc ?_ ?_ _) | (with_reducible refine Below.setCell ?_ ?_ _) | exact Below.refl _ _ | assumption | (solve | omega | simp | (simp; omega)))), ?_⟩; go_keep) | go_keep)
      (first
        | (go_at_call_of 45 (Value.int IntKind.i64 n1); refine (HSZ1.out _).mono ?_; rintro e w' ⟨rfl, rfl⟩)
        | (go_at_call_of 45 (Value.int IntKind.i64 n2); refine (HSZ2.out _).mono ?_; rintro e w' ⟨rfl, rfl⟩)
        | (go_at_call_of 50 (Value.int IntKind.u64 (x : Int)); refine (HM1.out _).mono ?_; rintro e w1 ⟨rfl, hb1⟩; have T0 := below_then (w := W0) (by first | assumption | exact (by repeat (first | (with_reducible exact Below.refl _ _) | (with_reducible assumption) | (with_reducible refine below_drewN ?_ _) | (with_reducible refine Below.drew ?_) | (with_reducible refine Below.alloc ?_ ?_ _) | (with_reducible refine Below.setCell ?_ ?_ _) | exact Below.refl _ _ | assumption | (solve | omega | simp | (simp; omega))))) hb1; have T1 : w1.cell? ⟨w.heap.size, 0, none⟩ = some (.int .i64 n1) := (B0b.out.below T0).cell 0; have T2 : w1.cell? ⟨w.heap.size, 1, none⟩ = some (.int .i64 (D1 : Int)) := (B0b.out.below T0).cell 1; have T3 : w1.cell? ⟨w.heap.size + 1, 0, none⟩ = some (.int .i64 n2) := (B1b.out.below T0).cell 0; have T4 : w1.cell? ⟨w.heap.size + 1, 1, none⟩ = some (.int .i64 (D2 : Int)) := (B1b.out.below T0).cell 1; obtain ⟨hc1, hf1⟩ := bcell hb1; have T8 := hb1.size; (try simp at T8); have T9 := T0.size; (try have Fw10 : ¬ w.heap.size = w1.heap.size := by omega); (try have Fw11 : ¬ w1.heap.size = w.heap.size := by omega); (try have Fw12 : ¬ w.heap.size + 1 = w1.heap.size := by omega); (try have Fw13 : ¬ w1.heap.size = w.heap.size + 1 := by omega); (try have Fw14 : ¬ w.heap.size = w1.heap.size + 1 := by omega); (try have Fw15 : ¬ w1.heap.size + 1 = w.heap.size := by omega); (try have Fw16 : ¬ w.heap.size + 1 = w1.heap.size + 1 := by omega); (try have Fw17 : ¬ w1.heap.size + 1 = w.heap.size + 1 := by omega); (try have Nw10 : ¬ W0.heap.size = w1.heap.size := by omega); (try have Nw11 : W0.heap.size < w1.heap.size := by omega); (try have Nw12 : W0.heap.size < w1.heap.size + 1 := by omega); (try have Nw13 : W0.heap.size < w1.heap.size + 1 + 1 := by omega); (try have Nw14 : ¬ W0.heap.size + 1 = w1.heap.size := by omega); (try have Nw15 : W0.heap.size + 1 < w1.heap.size := by omega); (try have Nw16 : W0.heap.size + 1 < w1.heap.size + 1 := by omega); (try have Nw17 : W0.heap.size + 1 < w1.heap.size + 1 + 1 := by omega))
        | (go_at_call_of 50 (Value.int IntKind.u64 (y : Int)); refine (HM2.out _).mono ?_; rintro e w2 ⟨rfl, hb2⟩; have U0 := below_then (w := W0) (by first | assumption | exact (by repeat (first | (with_reducible exact Below.refl _ _) | (with_reducible assumption) | (with_reducible refine below_drewN ?_ _) | (with_reducible refine Below.drew ?_) | (with_reducible refine Below.alloc ?_ ?_ _) | (with_reducible refine Below.setCell ?_ ?_ _) | exact Below.refl _ _ | assumption | (solve | omega | simp | (simp; omega))))) hb2; have U1 : w2.cell? ⟨w.heap.size, 0, none⟩ = some (.int .i64 n1) := (B0b.out.below U0).cell 0; have U2 : w2.cell? ⟨w.heap.size, 1, none⟩ = some (.int .i64 (D1 : Int)) := (B0b.out.below U0).cell 1; have U3 : w2.cell? ⟨w.heap.size + 1, 0, none⟩ = some (.int .i64 n2) := (B1b.out.below U0).cell 0; have U4 : w2.cell? ⟨w.heap.size + 1, 1, none⟩ = some (.int .i64 (D2 : Int)) := (B1b.out.below U0).cell 1; obtain ⟨hc2, hf2⟩ := bcell hb2; have U8 := hb2.size; (try simp at U8); have U9 := U0.size; (try have Fw20 : ¬ w.heap.size = w2.heap.size := by omega); (try have Fw21 : ¬ w2.heap.size = w.heap.size := by omega); (try have Fw22 : ¬ w.heap.size + 1 = w2.heap.size := by omega); (try have Fw23 : ¬ w2.heap.size = w.heap.size + 1 := by omega); (try have Fw24 : ¬ w.heap.size = w2.heap.size + 1 := by omega); (try have Fw25 : ¬ w2.heap.size + 1 = w.heap.size := by omega); (try have Fw26 : ¬ w.heap.size + 1 = w2.heap.size + 1 := by omega); (try have Fw27 : ¬ w2.heap.size + 1 = w.heap.size + 1 := by omega); (try have Nw20 : ¬ W0.heap.size = w2.heap.size := by omega); (try have Nw21 : W0.heap.size < w2.heap.size := by omega); (try have Nw22 : ¬ W0.heap.size + 1 = w2.heap.size := by omega); (try have Nw23 : W0.heap.size + 1 < w2.heap.size := by omega); (try have Nw24 : ¬ w1.heap.size = w2.heap.size := by omega); (try have Nw25 : w1.heap.size < w2.heap.size := by omega); (try have Nw26 : ¬ w1.heap.size + 1 = w2.heap.size := by omega); (try have Nw27 : w1.heap.size + 1 < w2.heap.size := by omega)))
    all_goals
      go_wp2_with fail
      go_meet
      exact ⟨_, _, rfl, rfl, (by (with_reducible refine BxP.out ?_); repeat (first | (with_reducible refine BxP.put ?_) | ((with_reducible refine BxP.far ?_ ?_); (focus first | omega | (simp; done) | (simp; omega))) | ((with_reducible refine BxP.made ?_ ?_); (focus first | (with_reducible rfl) | (simp; done)); rfl) | (with_reducible refine BxP.alloc ?_) | (with_reducible refine BxP.drew ?_) | (with_reducible refine BxP.drewN ?_) | (with_reducible refine BxP.below hb2 ?_) | (with_reducible refine BxP.below hb1 ?_))), (by (with_reducible refine BxP.out ?_); repeat (first | (with_reducible refine BxP.put ?_) | ((with_reducible refine BxP.far ?_ ?_); (focus first | omega | (simp; done) | (simp; omega))) | ((with_reducible refine BxP.made ?_ ?_); (focus first | (with_reducible rfl) | (simp; done)); rfl) | (with_reducible refine BxP.alloc ?_) | (with_reducible refine BxP.drew ?_) | (with_reducible refine BxP.drewN ?_) | (with_reducible refine BxP.below hb2 ?_) | (with_reducible refine BxP.below hb1 ?_))), (by repeat (first | (with_reducible exact Below.refl _ _) | (with_reducible assumption) | (with_reducible refine below_drewN ?_ _) | (with_reducible refine Below.drew ?_) | (with_reducible refine Below.alloc ?_ ?_ _) | (with_reducible refine Below.setCell ?_ ?_ _) | exact Below.refl _ _ | assumption | (solve | omega | simp | (simp; omega))))⟩
  case rest =>
    obtain ⟨g, h, rfl, rfl, gA, hA, hbx⟩ := hcut
    have HBc := Lib.hid (below_then HBb.out hbx)
    have B0c := Lib.hid (B0b.out.below hbx)
    have B1c := Lib.hid (B1b.out.below hbx)
    have B2c := Lib.hid (B2b.out.below hbx)
    have GA := Lib.hid gA
    have HAh := Lib.hid hA
    clear gA hA hbx
    have hlg := GA.out.lt
    have hlh := HAh.out.lt
    have hl2 := B2c.out.lt
    have hsc := HBc.out.size
    obtain ⟨c0, r0⟩ := B0c.out.of
    obtain ⟨c1, r1⟩ := B1c.out.of
    by_cases hs : decide (n1 < 0) = decide (n2 < 0)
    · obtain ⟨ph, hph⟩ : ∃ q, (X + Y) / 18446744073709551616 = q := ⟨_, rfl⟩
      obtain ⟨pl, hpl⟩ : ∃ q, (X + Y) % 18446744073709551616 = q := ⟨_, rfl⟩
      have hplb : pl < 18446744073709551616 := by rw [← hpl]; exact Nat.mod_lt _ (by decide)
      have hphb : ph < 18446744073709551616 := by omega
      have hlo := fun W => ref_lowest (decide (n1 < 0)) ph pl dd W hphb hplb hdp (by omega)
      rw [show wideN ph pl = X + Y by unfold wideN; omega] at hlo
      obtain ⟨r1', r2', r3', hr⟩ : ∃ a b c, lowS (decide (n1 < 0)) (X + Y) dd = (a, b, c) := ⟨_, _, _, rfl⟩
      have HF := Lib.hid ((HA1.out hs).trans hr)
      rw [hr] at hlo
      have HLO : Hid (∀ W, Calls Try.prog 52 #[.bool (decide (n1 < 0)), .agg #[.int .u64 (ph : Int), .int .u64 (pl : Int)], .int .u64 (dd : Int)] W fun e w' => e = .returned (.tuple #[.agg #[.int .i64 r1', .int .i64 r2'], .int .i64 r3']) ∧ Below W.heap.size W w') := Lib.hid hlo
      clear hlo hr
      have hpp := HPL.out
      unfold wideV at hpp
      rw [hph, hpl] at hpp
      have HPP := Lib.hid hpp
      clear hpp hph hpl
      have hs2 : (decide (n1 < 0) == decide (n2 < 0)) = true := by rw [hs]; simp
      obtain ⟨sn, hsn⟩ : ∃ s, decide (n1 < 0) = s := ⟨_, rfl⟩
      have hsm : decide (n2 < 0) = sn := by rw [← hs]; exact hsn
      rw [hsn] at HLO
      clear hs hs2
      go_upto_region 6 with (fail)
      go_cut [5] (fun v wx => v = .int .i64 r3' ∧ Bx wx (w.heap.size + 2) 23 #[.int .i64 r1', .int .i64 r2'] ∧ Below w.heap.size w wx)
      case first =>
        have S0 : Below wc.heap.size wc wc.drew := (Below.refl _ _).drew
        have SA : Below w.heap.size w wc := HBc.out
        have SB : Below w.heap.size w wc.drew := HBc.out.drew
        have ng1 : ¬ g = w.heap.size + 2 := by
          intro e
          have h1 := GA.out.cell 0
          rw [e, B2c.out.cell] at h1
          simp at h1
        have ng2 : ¬ w.heap.size + 2 = g := fun e => ng1 e.symm
        have nh1 : ¬ h = w.heap.size + 2 := by
          intro e
          have h1 := HAh.out.cell 0
          rw [e, B2c.out.cell] at h1
          simp at h1
        have nh2 : ¬ w.heap.size + 2 = h := fun e => nh1 e.symm
        have na1 : ¬ w.heap.size = w.heap.size + 1 + 1 := by omega
        have na2 : ¬ w.heap.size + 1 + 1 = w.heap.size := by omega
        have sn : wc.cell? ⟨w.heap.size, 0, none⟩ = some (.int .i64 n1) := B0c.out.cell 0
        have sa : wc.cell? ⟨g, 0, none⟩ = some (.int .u64 (xh : Int)) := GA.out.cell 0
        have sb : wc.cell? ⟨g, 1, none⟩ = some (.int .u64 (xl : Int)) := GA.out.cell 1
        have sc : wc.cell? ⟨h, 0, none⟩ = some (.int .u64 (yh : Int)) := HAh.out.cell 0
        have sd : wc.cell? ⟨h, 1, none⟩ = some (.int .u64 (yl : Int)) := HAh.out.cell 1
        go_region_held3 (fun w' => Below w.heap.size w w' ∧ w'.cell? ⟨w.heap.size, 0, none⟩ = some (.int .i64 n1) ∧ w'.cell? ⟨g, 0, none⟩ = some (.int .u64 (xh : Int)) ∧ w'.cell? ⟨g, 1, none⟩ = some (.int .u64 (xl : Int)) ∧ w'.cell? ⟨h, 0, none⟩ = some (.int .u64 (yh : Int)) ∧ w'.cell? ⟨h, 1, none⟩ = some (.int .u64 (yl : Int)))
          (first | exact ⟨by assumption, by assumption, by assumption, by assumption, by assumption, by assumption⟩ | (refine ⟨(by repeat (first | (with_reducible exact Below.refl _ _) | (with_reducible assumption) | (with_reducible refine below_drewN ?_ _) | (with_reducible refine Below.drew ?_) | (with_reducible refine Below.alloc ?_ ?_ _) | (with_reducible refine Below.setCell ?_ ?_ _) | exact Below.refl _ _ | assumption | (solve | omega | simp | (simp; omega)))), ?_⟩; go_keep) | go_keep)
          (first
            | (go_at_call 64; refine (HPP.out _).mono ?_; rintro e w1 ⟨rfl, hb1⟩; have T0 := below_then (w := wc) (by first | assumption | exact (by repeat (first | (with_reducible exact Below.refl _ _) | (with_reducible assumption) | (with_reducible refine below_drewN ?_ _) | (with_reducible refine Below.drew ?_) | (with_reducible refine Below.alloc ?_ ?_ _) | (with_reducible refine Below.setCell ?_ ?_ _) | exact Below.refl _ _ | assumption | (solve | omega | simp | (simp; omega))))) hb1; have T7 := below_then SA T0; have Tn : w1.cell? ⟨w.heap.size, 0, none⟩ = some (.int .i64 n1) := (B0c.out.below T0).cell 0; have Ta : w1.cell? ⟨g, 0, none⟩ = some (.int .u64 (xh : Int)) := (GA.out.below T0).cell 0; have Tb : w1.cell? ⟨g, 1, none⟩ = some (.int .u64 (xl : Int)) := (GA.out.below T0).cell 1; have Tc : w1.cell? ⟨h, 0, none⟩ = some (.int .u64 (yh : Int)) := (HAh.out.below T0).cell 0; have Td : w1.cell? ⟨h, 1, none⟩ = some (.int .u64 (yl : Int)) := (HAh.out.below T0).cell 1; have T2 := B2c.out.below T0; have Tq0 : w1.cell? ⟨w.heap.size + 2, 0, none⟩ = some (.int .i64 0) := T2.cell 0; have Tq1 : w1.cell? ⟨w.heap.size + 2, 1, none⟩ = some (.int .i64 0) := T2.cell 1; have Tf0 : w1.frozen? ⟨w.heap.size + 2, 0, none⟩ = false := T2.free 0; have Tf1 : w1.frozen? ⟨w.heap.size + 2, 1, none⟩ = false := T2.free 1)
            | (go_at_call 52; refine (HLO.out _).mono ?_; rintro e w2 ⟨rfl, hb2⟩; have U0 := below_then (w := wc) (by first | assumption | exact (by repeat (first | (with_reducible exact Below.refl _ _) | (with_reducible assumption) | (with_reducible refine below_drewN ?_ _) | (with_reducible refine Below.drew ?_) | (with_reducible refine Below.alloc ?_ ?_ _) | (with_reducible refine Below.setCell ?_ ?_ _) | exact Below.refl _ _ | assumption | (solve | omega | simp | (simp; omega))))) hb2; have U7 := below_then SA U0; have Un : w2.cell? ⟨w.heap.size, 0, none⟩ = some (.int .i64 n1) := (B0c.out.below U0).cell 0; have Ua : w2.cell? ⟨g, 0, none⟩ = some (.int .u64 (xh : Int)) := (GA.out.below U0).cell 0; have Ub : w2.cell? ⟨g, 1, none⟩ = some (.int .u64 (xl : Int)) := (GA.out.below U0).cell 1; have Uc : w2.cell? ⟨h, 0, none⟩ = some (.int .u64 (yh : Int)) := (HAh.out.below U0).cell 0; have Ud : w2.cell? ⟨h, 1, none⟩ = some (.int .u64 (yl : Int)) := (HAh.out.below U0).cell 1; have U2 := B2c.out.below U0; have Uq0 : w2.cell? ⟨w.heap.size + 2, 0, none⟩ = some (.int .i64 0) := U2.cell 0; have Uq1 : w2.cell? ⟨w.heap.size + 2, 1, none⟩ = some (.int .i64 0) := U2.cell 1; have Uf0 : w2.frozen? ⟨w.heap.size + 2, 0, none⟩ = false := U2.free 0; have Uf1 : w2.frozen? ⟨w.heap.size + 2, 1, none⟩ = false := U2.free 1))
        all_goals
          go_wp2_with fail
          go_meet
          exact ⟨rfl, (U2.put 0 _).put 1 _, (by repeat (first | (with_reducible assumption) | (with_reducible exact Below.refl _ _) | (with_reducible refine Below.setCell ?_ ?_ _) | (with_reducible refine Below.alloc ?_ ?_ _) | (with_reducible refine Below.drew ?_) | (with_reducible refine below_drewN ?_ _) | (with_reducible exact Nat.le_refl _) | (exact Nat.le_add_right _ _) | omega | (simp; done) | (simp; omega)))⟩
      case rest =>
        obtain ⟨rfl, hbx, hbl⟩ := hcut
        have k4 := hbx.cell 0
        have k5 := hbx.cell 1
        simp at k4 k5
        go_wp2
        refine bodyPost_ret (v := .tuple #[.agg #[.int .i64 r1', .int .i64 r2'], .int .i64 r3']) (by simp [results, Try.results53, go_sem, k4, k5]) rfl ⟨by rw [HF.out]; rfl, ?_⟩
        exact hbl
    · obtain ⟨sn, hsn⟩ : ∃ s, decide (n1 < 0) = s := ⟨_, rfl⟩
      obtain ⟨sm, hsm⟩ : ∃ s, decide (n2 < 0) = s := ⟨_, rfl⟩
      have hsd : (sn == sm) = false := by rw [← hsn, ← hsm]; exact beq_eq_false_iff_ne.2 hs
      obtain ⟨k1, s1⟩ := GA.out.of
      obtain ⟨k2, s2⟩ := HAh.out.of
      by_cases hl : X < Y
      · obtain ⟨ph, hph⟩ : ∃ q, (Y - X) / 18446744073709551616 = q := ⟨_, rfl⟩
        obtain ⟨pl, hpl⟩ : ∃ q, (Y - X) % 18446744073709551616 = q := ⟨_, rfl⟩
        have hplb : pl < 18446744073709551616 := by rw [← hpl]; exact Nat.mod_lt _ (by decide)
        have hphb : ph < 18446744073709551616 := by omega
        have hlo := fun W => ref_lowest (decide (n2 < 0)) ph pl dd W hphb hplb hdp (by omega)
        rw [show wideN ph pl = Y - X by unfold wideN; omega] at hlo
        obtain ⟨r1', r2', r3', hr⟩ : ∃ a b c, lowS (decide (n2 < 0)) (Y - X) dd = (a, b, c) := ⟨_, _, _, rfl⟩
        have HF := Lib.hid ((HA2.out hs hl).trans hr)
        rw [hr] at hlo
        have HLO : Hid (∀ W, Calls Try.prog 52 #[.bool (decide (n2 < 0)), .agg #[.int .u64 (ph : Int), .int .u64 (pl : Int)], .int .u64 (dd : Int)] W fun e w' => e = .returned (.tuple #[.agg #[.int .i64 r1', .int .i64 r2'], .int .i64 r3']) ∧ Below W.heap.size W w') := Lib.hid hlo
        clear hlo hr
        have hpp := fun W => HMI.out W (by omega)
        unfold wideV at hpp
        rw [hph, hpl] at hpp
        have HPP := Lib.hid hpp
        have hll := HL.out
        rw [decide_eq_true hl] at hll
        have HLL := Lib.hid hll
        clear hpp hph hpl hll hs
        rw [hsm] at HLO
        go_wp2_with fail
        refine (HLL.out _).mono ?_
        rintro e wd ⟨rfl, hbd⟩
        have HBd := Lib.hid (below_then HBc.out hbd)
        have B0d := Lib.hid (B0c.out.below hbd)
        have B1d := Lib.hid (B1c.out.below hbd)
        have B2d := Lib.hid (B2c.out.below hbd)
        have GD := Lib.hid (GA.out.below hbd)
        have HAD := Lib.hid (HAh.out.below hbd)
        clear hbd c0 r0 c1 r1 k1 s1 k2 s2 HBc B0c B1c B2c GA HAh
        have hlg := GD.out.lt
        have hlh := HAD.out.lt
        have hl2 := B2d.out.lt
        have hsc := HBd.out.size
        skip
        go_upto_region 8 with (fail)
        go_cut [5] (fun v wx => v = .int .i64 r3' ∧ Bx wx (w.heap.size + 2) 23 #[.int .i64 r1', .int .i64 r2'] ∧ Below w.heap.size w wx)
        case first =>
          have S0 : Below wd.heap.size wd wd.drew := (Below.refl _ _).drew
          have SA : Below w.heap.size w wd := HBd.out
          have SB : Below w.heap.size w wd.drew := HBd.out.drew
          have ng1 : ¬ g = w.heap.size + 2 := by
            intro e
            have h1 := GD.out.cell 0
            rw [e, B2d.out.cell] at h1
            simp at h1
          have ng2 : ¬ w.heap.size + 2 = g := fun e => ng1 e.symm
          have nh1 : ¬ h = w.heap.size + 2 := by
            intro e
            have h1 := HAD.out.cell 0
            rw [e, B2d.out.cell] at h1
            simp at h1
          have nh2 : ¬ w.heap.size + 2 = h := fun e => nh1 e.symm
          have na1 : ¬ w.heap.size = w.heap.size + 1 + 1 := by omega
          have na2 : ¬ w.heap.size + 1 + 1 = w.heap.size := by omega
          have sn : wd.cell? ⟨w.heap.size + 1, 0, none⟩ = some (.int .i64 n2) := B1d.out.cell 0
          have sa : wd.cell? ⟨g, 0, none⟩ = some (.int .u64 (xh : Int)) := GD.out.cell 0
          have sb : wd.cell? ⟨g, 1, none⟩ = some (.int .u64 (xl : Int)) := GD.out.cell 1
          have sc : wd.cell? ⟨h, 0, none⟩ = some (.int .u64 (yh : Int)) := HAD.out.cell 0
          have sd : wd.cell? ⟨h, 1, none⟩ = some (.int .u64 (yl : Int)) := HAD.out.cell 1
          go_region_held3 (fun w' => Below w.heap.size w w' ∧ w'.cell? ⟨w.heap.size + 1, 0, none⟩ = some (.int .i64 n2) ∧ w'.cell? ⟨g, 0, none⟩ = some (.int .u64 (xh : Int)) ∧ w'.cell? ⟨g, 1, none⟩ = some (.int .u64 (xl : Int)) ∧ w'.cell? ⟨h, 0, none⟩ = some (.int .u64 (yh : Int)) ∧ w'.cell? ⟨h, 1, none⟩ = some (.int .u64 (yl : Int)))
            (first | exact ⟨by assumption, by assumption, by assumption, by assumption, by assumption, by assumption⟩ | (refine ⟨(by repeat (first | (with_reducible exact Below.refl _ _) | (with_reducible assumption) | (with_reducible refine below_drewN ?_ _) | (with_reducible refine Below.drew ?_) | (with_reducible refine Below.alloc ?_ ?_ _) | (with_reducible refine Below.setCell ?_ ?_ _) | exact Below.refl _ _ | assumption | (solve | omega | simp | (simp; omega)))), ?_⟩; go_keep) | go_keep)
            (first
              | (go_at_call 65; refine (HPP.out _).mono ?_; rintro e w1 ⟨rfl, hb1⟩; have T0 := below_then (w := wd) (by first | assumption | exact (by repeat (first | (with_reducible exact Below.refl _ _) | (with_reducible assumption) | (with_reducible refine below_drewN ?_ _) | (with_reducible refine Below.drew ?_) | (with_reducible refine Below.alloc ?_ ?_ _) | (with_reducible refine Below.setCell ?_ ?_ _) | exact Below.refl _ _ | assumption | (solve | omega | simp | (simp; omega))))) hb1; have T7 := below_then SA T0; have Tn : w1.cell? ⟨w.heap.size + 1, 0, none⟩ = some (.int .i64 n2) := (B1d.out.below T0).cell 0; have Ta : w1.cell? ⟨g, 0, none⟩ = some (.int .u64 (xh : Int)) := (GD.out.below T0).cell 0; have Tb : w1.cell? ⟨g, 1, none⟩ = some (.int .u64 (xl : Int)) := (GD.out.below T0).cell 1; have Tc : w1.cell? ⟨h, 0, none⟩ = some (.int .u64 (yh : Int)) := (HAD.out.below T0).cell 0; have Td : w1.cell? ⟨h, 1, none⟩ = some (.int .u64 (yl : Int)) := (HAD.out.below T0).cell 1; have T2 := B2d.out.below T0; have Tq0 : w1.cell? ⟨w.heap.size + 2, 0, none⟩ = some (.int .i64 0) := T2.cell 0; have Tq1 : w1.cell? ⟨w.heap.size + 2, 1, none⟩ = some (.int .i64 0) := T2.cell 1; have Tf0 : w1.frozen? ⟨w.heap.size + 2, 0, none⟩ = false := T2.free 0; have Tf1 : w1.frozen? ⟨w.heap.size + 2, 1, none⟩ = false := T2.free 1)
              | (go_at_call 52; refine (HLO.out _).mono ?_; rintro e w2 ⟨rfl, hb2⟩; have U0 := below_then (w := wd) (by first | assumption | exact (by repeat (first | (with_reducible exact Below.refl _ _) | (with_reducible assumption) | (with_reducible refine below_drewN ?_ _) | (with_reducible refine Below.drew ?_) | (with_reducible refine Below.alloc ?_ ?_ _) | (with_reducible refine Below.setCell ?_ ?_ _) | exact Below.refl _ _ | assumption | (solve | omega | simp | (simp; omega))))) hb2; have U7 := below_then SA U0; have Un : w2.cell? ⟨w.heap.size + 1, 0, none⟩ = some (.int .i64 n2) := (B1d.out.below U0).cell 0; have Ua : w2.cell? ⟨g, 0, none⟩ = some (.int .u64 (xh : Int)) := (GD.out.below U0).cell 0; have Ub : w2.cell? ⟨g, 1, none⟩ = some (.int .u64 (xl : Int)) := (GD.out.below U0).cell 1; have Uc : w2.cell? ⟨h, 0, none⟩ = some (.int .u64 (yh : Int)) := (HAD.out.below U0).cell 0; have Ud : w2.cell? ⟨h, 1, none⟩ = some (.int .u64 (yl : Int)) := (HAD.out.below U0).cell 1; have U2 := B2d.out.below U0; have Uq0 : w2.cell? ⟨w.heap.size + 2, 0, none⟩ = some (.int .i64 0) := U2.cell 0; have Uq1 : w2.cell? ⟨w.heap.size + 2, 1, none⟩ = some (.int .i64 0) := U2.cell 1; have Uf0 : w2.frozen? ⟨w.heap.size + 2, 0, none⟩ = false := U2.free 0; have Uf1 : w2.frozen? ⟨w.heap.size + 2, 1, none⟩ = false := U2.free 1))
          all_goals
            go_wp2_with fail
            go_meet
            exact ⟨rfl, (U2.put 0 _).put 1 _, (by repeat (first | (with_reducible assumption) | (with_reducible exact Below.refl _ _) | (with_reducible refine Below.setCell ?_ ?_ _) | (with_reducible refine Below.alloc ?_ ?_ _) | (with_reducible refine Below.drew ?_) | (with_reducible refine below_drewN ?_ _) | (with_reducible exact Nat.le_refl _) | (exact Nat.le_add_right _ _) | omega | (simp; done) | (simp; omega)))⟩
        case rest =>
          obtain ⟨rfl, hbx, hbl⟩ := hcut
          have k4 := hbx.cell 0
          have k5 := hbx.cell 1
          simp at k4 k5
          go_wp2
          refine bodyPost_ret (v := .tuple #[.agg #[.int .i64 r1', .int .i64 r2'], .int .i64 r3']) (by simp [results, Try.results53, go_sem, k4, k5]) rfl ⟨by rw [HF.out]; rfl, ?_⟩
          exact hbl
      · obtain ⟨ph, hph⟩ : ∃ q, (X - Y) / 18446744073709551616 = q := ⟨_, rfl⟩
        obtain ⟨pl, hpl⟩ : ∃ q, (X - Y) % 18446744073709551616 = q := ⟨_, rfl⟩
        have hplb : pl < 18446744073709551616 := by rw [← hpl]; exact Nat.mod_lt _ (by decide)
        have hphb : ph < 18446744073709551616 := by omega
        have hlo := fun W => ref_lowest (decide (n1 < 0)) ph pl dd W hphb hplb hdp (by omega)
        rw [show wideN ph pl = X - Y by unfold wideN; omega] at hlo
        obtain ⟨r1', r2', r3', hr⟩ : ∃ a b c, lowS (decide (n1 < 0)) (X - Y) dd = (a, b, c) := ⟨_, _, _, rfl⟩
        have HF := Lib.hid ((HA3.out hs hl).trans hr)
        rw [hr] at hlo
        have HLO : Hid (∀ W, Calls Try.prog 52 #[.bool (decide (n1 < 0)), .agg #[.int .u64 (ph : Int), .int .u64 (pl : Int)], .int .u64 (dd : Int)] W fun e w' => e = .returned (.tuple #[.agg #[.int .i64 r1', .int .i64 r2'], .int .i64 r3']) ∧ Below W.heap.size W w') := Lib.hid hlo
        clear hlo hr
        have hpp := fun W => HMJ.out W (by omega)
        unfold wideV at hpp
        rw [hph, hpl] at hpp
        have HPP := Lib.hid hpp
        have hll := HL.out
        rw [decide_eq_false hl] at hll
        have HLL := Lib.hid hll
        clear hpp hph hpl hll hs
        rw [hsn] at HLO
        go_wp2_with fail
        refine (HLL.out _).mono ?_
        rintro e wd ⟨rfl, hbd⟩
        have HBd := Lib.hid (below_then HBc.out hbd)
        have B0d := Lib.hid (B0c.out.below hbd)
        have B1d := Lib.hid (B1c.out.below hbd)
        have B2d := Lib.hid (B2c.out.below hbd)
        have GD := Lib.hid (GA.out.below hbd)
        have HAD := Lib.hid (HAh.out.below hbd)
        clear hbd c0 r0 c1 r1 k1 s1 k2 s2 HBc B0c B1c B2c GA HAh
        have hlg := GD.out.lt
        have hlh := HAD.out.lt
        have hl2 := B2d.out.lt
        have hsc := HBd.out.size
        skip
        go_upto_region 9 with (fail)
        go_cut [5] (fun v wx => v = .int .i64 r3' ∧ Bx wx (w.heap.size + 2) 23 #[.int .i64 r1', .int .i64 r2'] ∧ Below w.heap.size w wx)
        case first =>
          have S0 : Below wd.heap.size wd wd.drew := (Below.refl _ _).drew
          have SA : Below w.heap.size w wd := HBd.out
          have SB : Below w.heap.size w wd.drew := HBd.out.drew
          have ng1 : ¬ g = w.heap.size + 2 := by
            intro e
            have h1 := GD.out.cell 0
            rw [e, B2d.out.cell] at h1
            simp at h1
          have ng2 : ¬ w.heap.size + 2 = g := fun e => ng1 e.symm
          have nh1 : ¬ h = w.heap.size + 2 := by
            intro e
            have h1 := HAD.out.cell 0
            rw [e, B2d.out.cell] at h1
            simp at h1
          have nh2 : ¬ w.heap.size + 2 = h := fun e => nh1 e.symm
          have na1 : ¬ w.heap.size = w.heap.size + 1 + 1 := by omega
          have na2 : ¬ w.heap.size + 1 + 1 = w.heap.size := by omega
          have sn : wd.cell? ⟨w.heap.size, 0, none⟩ = some (.int .i64 n1) := B0d.out.cell 0
          have sa : wd.cell? ⟨g, 0, none⟩ = some (.int .u64 (xh : Int)) := GD.out.cell 0
          have sb : wd.cell? ⟨g, 1, none⟩ = some (.int .u64 (xl : Int)) := GD.out.cell 1
          have sc : wd.cell? ⟨h, 0, none⟩ = some (.int .u64 (yh : Int)) := HAD.out.cell 0
          have sd : wd.cell? ⟨h, 1, none⟩ = some (.int .u64 (yl : Int)) := HAD.out.cell 1
          go_region_held3 (fun w' => Below w.heap.size w w' ∧ w'.cell? ⟨w.heap.size, 0, none⟩ = some (.int .i64 n1) ∧ w'.cell? ⟨g, 0, none⟩ = some (.int .u64 (xh : Int)) ∧ w'.cell? ⟨g, 1, none⟩ = some (.int .u64 (xl : Int)) ∧ w'.cell? ⟨h, 0, none⟩ = some (.int .u64 (yh : Int)) ∧ w'.cell? ⟨h, 1, none⟩ = some (.int .u64 (yl : Int)))
            (first | exact ⟨by assumption, by assumption, by assumption, by assumption, by assumption, by assumption⟩ | (refine ⟨(by repeat (first | (with_reducible exact Below.refl _ _) | (with_reducible assumption) | (with_reducible refine below_drewN ?_ _) | (with_reducible refine Below.drew ?_) | (with_reducible refine Below.alloc ?_ ?_ _) | (with_reducible refine Below.setCell ?_ ?_ _) | exact Below.refl _ _ | assumption | (solve | omega | simp | (simp; omega)))), ?_⟩; go_keep) | go_keep)
            (first
              | (go_at_call 65; refine (HPP.out _).mono ?_; rintro e w1 ⟨rfl, hb1⟩; have T0 := below_then (w := wd) (by first | assumption | exact (by repeat (first | (with_reducible exact Below.refl _ _) | (with_reducible assumption) | (with_reducible refine below_drewN ?_ _) | (with_reducible refine Below.drew ?_) | (with_reducible refine Below.alloc ?_ ?_ _) | (with_reducible refine Below.setCell ?_ ?_ _) | exact Below.refl _ _ | assumption | (solve | omega | simp | (simp; omega))))) hb1; have T7 := below_then SA T0; have Tn : w1.cell? ⟨w.heap.size, 0, none⟩ = some (.int .i64 n1) := (B0d.out.below T0).cell 0; have Ta : w1.cell? ⟨g, 0, none⟩ = some (.int .u64 (xh : Int)) := (GD.out.below T0).cell 0; have Tb : w1.cell? ⟨g, 1, none⟩ = some (.int .u64 (xl : Int)) := (GD.out.below T0).cell 1; have Tc : w1.cell? ⟨h, 0, none⟩ = some (.int .u64 (yh : Int)) := (HAD.out.below T0).cell 0; have Td : w1.cell? ⟨h, 1, none⟩ = some (.int .u64 (yl : Int)) := (HAD.out.below T0).cell 1; have T2 := B2d.out.below T0; have Tq0 : w1.cell? ⟨w.heap.size + 2, 0, none⟩ = some (.int .i64 0) := T2.cell 0; have Tq1 : w1.cell? ⟨w.heap.size + 2, 1, none⟩ = some (.int .i64 0) := T2.cell 1; have Tf0 : w1.frozen? ⟨w.heap.size + 2, 0, none⟩ = false := T2.free 0; have Tf1 : w1.frozen? ⟨w.heap.size + 2, 1, none⟩ = false := T2.free 1)
              | (go_at_call 52; refine (HLO.out _).mono ?_; rintro e w2 ⟨rfl, hb2⟩; have U0 := below_then (w := wd) (by first | assumption | exact (by repeat (first | (with_reducible exact Below.refl _ _) | (with_reducible assumption) | (with_reducible refine below_drewN ?_ _) | (with_reducible refine Below.drew ?_) | (with_reducible refine Below.alloc ?_ ?_ _) | (with_reducible refine Below.setCell ?_ ?_ _) | exact Below.refl _ _ | assumption | (solve | omega | simp | (simp; omega))))) hb2; have U7 := below_then SA U0; have Un : w2.cell? ⟨w.heap.size, 0, none⟩ = some (.int .i64 n1) := (B0d.out.below U0).cell 0; have Ua : w2.cell? ⟨g, 0, none⟩ = some (.int .u64 (xh : Int)) := (GD.out.below U0).cell 0; have Ub : w2.cell? ⟨g, 1, none⟩ = some (.int .u64 (xl : Int)) := (GD.out.below U0).cell 1; have Uc : w2.cell? ⟨h, 0, none⟩ = some (.int .u64 (yh : Int)) := (HAD.out.below U0).cell 0; have Ud : w2.cell? ⟨h, 1, none⟩ = some (.int .u64 (yl : Int)) := (HAD.out.below U0).cell 1; have U2 := B2d.out.below U0; have Uq0 : w2.cell? ⟨w.heap.size + 2, 0, none⟩ = some (.int .i64 0) := U2.cell 0; have Uq1 : w2.cell? ⟨w.heap.size + 2, 1, none⟩ = some (.int .i64 0) := U2.cell 1; have Uf0 : w2.frozen? ⟨w.heap.size + 2, 0, none⟩ = false := U2.free 0; have Uf1 : w2.frozen? ⟨w.heap.size + 2, 1, none⟩ = false := U2.free 1))
          all_goals
            go_wp2_with fail
            go_meet
            exact ⟨rfl, (U2.put 0 _).put 1 _, (by repeat (first | (with_reducible assumption) | (with_reducible exact Below.refl _ _) | (with_reducible refine Below.setCell ?_ ?_ _) | (with_reducible refine Below.alloc ?_ ?_ _) | (with_reducible refine Below.drew ?_) | (with_reducible refine below_drewN ?_ _) | (with_reducible exact Nat.le_refl _) | (exact Nat.le_add_right _ _) | omega | (simp; done) | (simp; omega)))⟩
        case rest =>
          obtain ⟨rfl, hbx, hbl⟩ := hcut
          have k4 := hbx.cell 0
          have k5 := hbx.cell 1
          simp at k4 k5
          go_wp2
          refine bodyPost_ret (v := .tuple #[.agg #[.int .i64 r1', .int .i64 r2'], .int .i64 r3']) (by simp [results, Try.results53, go_sem, k4, k5]) rfl ⟨by rw [HF.out]; rfl, ?_⟩
          exact hbl
end Go.Proofs.Ytnhbidagnomkpaa
