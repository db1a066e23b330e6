/-
  The contracts of the reference's less, order and Compare: the order of two valid fractions.
-/
import Derived.Test.YtnhbidagnomkpaaLowest
import Derived.Test.YtnhbidagnomkpaaChain
import Derived.Deep.RegionHeld3
namespace Go.Proofs.Ytnhbidagnomkpaa
open Go.RowKit Mny

theorem wide_lt {ah al bh bl : Nat} (h1 : al < 18446744073709551616) (h2 : bl < 18446744073709551616) :
    decide (wideN ah al < wideN bh bl) = (decide (ah < bh) || (decide (ah = bh) && decide (al < bl))) := by
  unfold wideN
  rw [Bool.eq_iff_iff]
  simp only [Bool.or_eq_true, Bool.and_eq_true, decide_eq_true_eq]
  omega

set_option maxRecDepth 100000 in
set_option maxHeartbeats 400000 in
theorem ref_less (ah al bh bl : Nat) (w : World) (h1 : al < 18446744073709551616) (h2 : bl < 18446744073709551616) :
    Calls Try.prog 63 #[.agg #[.int .u64 (ah : Int), .int .u64 (al : Int)], .agg #[.int .u64 (bh : Int), .int .u64 (bl : Int)]] w fun e w' =>
      e = .returned (.bool (decide (wideN ah al < wideN bh bl))) ∧ Below w.heap.size w w' := by
  have HW := Lib.hid (wide_lt (ah := ah) (bh := bh) h1 h2)
  clear h1 h2
  by_cases ha : ah < bh
  · have c1 : decide (ah < bh) = true := decide_eq_true ha
    go_enter Try.func63, Try.ntmps63
    go_wp2
    go_ret
    refine ⟨ret_bool ?_, (by repeat (first | (with_reducible exact Below.refl _ _) | (with_reducible assumption) | (with_reducible refine below_drewN ?_ _) | (with_reducible refine Below.drew ?_) | (with_reducible refine Below.alloc ?_ ?_ _) | (with_reducible refine Below.setCell ?_ ?_ _) | exact Below.refl _ _ | assumption | (solve | omega | simp | (simp; omega))))⟩
    rw [HW.out]; simp [c1]
  · have c1 : decide (ah < bh) = false := decide_eq_false ha
    by_cases hb : ah = bh
    · subst hb
      clear ha
      go_enter Try.func63, Try.ntmps63
      go_wp2
      all_goals
        go_ret
        refine ⟨ret_bool ?_, (by repeat (first | (with_reducible exact Below.refl _ _) | (with_reducible assumption) | (with_reducible refine below_drewN ?_ _) | (with_reducible refine Below.drew ?_) | (with_reducible refine Below.alloc ?_ ?_ _) | (with_reducible refine Below.setCell ?_ ?_ _) | exact Below.refl _ _ | assumption | (solve | omega | simp | (simp; omega))))⟩
        rw [HW.out]; simp
    · have c2 : (ah == bh) = false := beq_eq_false_iff_ne.2 hb
      have c3 : ((ah : Int) == (bh : Int)) = false := by rw [beq_eq_false_iff_ne]; omega
      go_enter Try.func63, Try.ntmps63
      go_wp2
      all_goals
        go_ret
        refine ⟨ret_bool ?_, (by repeat (first | (with_reducible exact Below.refl _ _) | (with_reducible assumption) | (with_reducible refine below_drewN ?_ _) | (with_reducible refine Below.drew ?_) | (with_reducible refine Below.alloc ?_ ?_ _) | (with_reducible refine Below.setCell ?_ ?_ _) | exact Below.refl _ _ | assumption | (solve | omega | simp | (simp; omega))))⟩
        rw [HW.out]; simp [c1, hb]

/-- what order computes where the fractions differ and have one sign -/
theorem ord_same {n1 d1 n2 d2 : Int} (h1 : validF n1 d1 = true) (h2 : validF n2 d2 = true) (hne : ¬ (n1 = n2 ∧ d1 = d2)) (hs : decide (n1 < 0) = decide (n2 < 0)) :
    cmpF n1 d1 n2 d2 = if decide (n1.natAbs * d2.natAbs < n2.natAbs * d1.natAbs) = decide (n1 < 0) then 1 else -1 := by
  have hq : n1 * d2 ≠ n2 * d1 := fun h => hne (uniqF h1 h2 h)
  rw [validF_iff] at h1 h2
  obtain ⟨a1, a2, a3, a4, a5⟩ := h1
  obtain ⟨b1, b2, b3, b4, b5⟩ := h2
  have e1 : ((n1.natAbs * d2.natAbs : Nat) : Int) = if n1 < 0 then -(n1 * d2) else n1 * d2 := by
    rw [Int.natCast_mul, show ((d2.natAbs : Nat) : Int) = d2 by omega]
    split
    · rw [show ((n1.natAbs : Nat) : Int) = -n1 by omega, Int.neg_mul]
    · rw [show ((n1.natAbs : Nat) : Int) = n1 by omega]
  have e2 : ((n2.natAbs * d1.natAbs : Nat) : Int) = if n2 < 0 then -(n2 * d1) else n2 * d1 := by
    rw [Int.natCast_mul, show ((d1.natAbs : Nat) : Int) = d1 by omega]
    split
    · rw [show ((n2.natAbs : Nat) : Int) = -n2 by omega, Int.neg_mul]
    · rw [show ((n2.natAbs : Nat) : Int) = n2 by omega]
  generalize n1.natAbs * d2.natAbs = X at *
  generalize n2.natAbs * d1.natAbs = Y at *
  unfold cmpF
  generalize n1 * d2 = x at *
  generalize n2 * d1 = y at *
  by_cases hn : n1 < 0
  · have hn2 : n2 < 0 := by simpa [hn] using hs
    rw [if_pos hn] at e1
    rw [if_pos hn2] at e2
    by_cases hxy : X < Y
    · rw [if_neg (by omega), if_pos (by omega), if_pos (by simp [hxy, hn])]
    · rw [if_pos (by omega), if_neg (by simp [hxy, hn])]
  · have hn2 : ¬ n2 < 0 := by simpa [hn] using hs
    rw [if_neg hn] at e1
    rw [if_neg hn2] at e2
    by_cases hxy : X < Y
    · rw [if_pos (by omega), if_neg (by simp [hxy, hn])]
    · rw [if_neg (by omega), if_pos (by omega), if_pos (by simp [hxy, hn])]
theorem ord_diff {n1 d1 n2 d2 : Int} (h1 : 1 ≤ d1) (h2 : 1 ≤ d2) (hs : decide (n1 < 0) ≠ decide (n2 < 0)) : cmpF n1 d1 n2 d2 = if n1 < 0 then -1 else 1 := by
  by_cases hn : n1 < 0
  · have hn2 : ¬ n2 < 0 := by simpa [hn] using hs
    have : n1 * d2 < 0 := Int.mul_neg_of_neg_of_pos hn (by omega)
    have : 0 ≤ n2 * d1 := Int.mul_nonneg (by omega) (by omega)
    rw [if_pos hn, cmpF_lt (by omega)]
  · have hn2 : n2 < 0 := by simpa [hn] using hs
    have : n2 * d1 < 0 := Int.mul_neg_of_neg_of_pos hn2 (by omega)
    have : 0 ≤ n1 * d2 := Int.mul_nonneg (by omega) (by omega)
    rw [if_neg hn, cmpF_gt (by omega)]

set_option maxRecDepth 100000 in
set_option maxHeartbeats 20000000 in
theorem ref_order (n1 d1 n2 d2 : Int) (w : World) (h1 : validF n1 d1 = true) (h2 : validF n2 d2 = true) :
    Calls Try.prog 46 #[.agg #[.int .i64 n1, .int .i64 d1], .agg #[.int .i64 n2, .int .i64 d2]] w fun e w' => e = .returned (.int .i64 (cmpF n1 d1 n2 d2)) ∧ Below w.heap.size w w' := by
  obtain ⟨a1, a2, a3, a4, a5⟩ := validF_iff.1 h1
  obtain ⟨b1, b2, b3, b4, b5⟩ := validF_iff.1 h2
  by_cases hq : n1 = n2 ∧ d1 = d2
  · have HC := Lib.hid (cmpF_eq (show n1 * d2 = n2 * d1 by rw [hq.1, hq.2]))
    obtain ⟨rfl, rfl⟩ := hq
    clear h1 h2 a5 b5
    go_enter Try.func46, Try.ntmps46
    go_wp2
    go_ret
    exact ⟨ret_int HC.out.symm, (by repeat (first | (with_reducible exact Below.refl _ _) | (with_reducible assumption) | (with_reducible refine below_drewN ?_ _) | (with_reducible refine Below.drew ?_) | (with_reducible refine Below.alloc ?_ ?_ _) | (with_reducible refine Below.setCell ?_ ?_ _) | exact Below.refl _ _ | assumption | (solve | omega | simp | (simp; omega))))⟩
  · have hbq : (n1 == n2 && d1 == d2) = false := by
      rw [Bool.eq_false_iff]
      simpa using hq
    by_cases hs : decide (n1 < 0) = decide (n2 < 0)
    · have hS := ord_same h1 h2 hq hs
      have hSZ1 := fun W => ref_size n1 W (by omega) (by omega)
      have hSZ2 := fun W => ref_size n2 W (by omega) (by omega)
      obtain ⟨D1, rfl⟩ : ∃ D : Nat, d1 = (D : Int) := ⟨d1.toNat, by omega⟩
      obtain ⟨D2, rfl⟩ : ∃ D : Nat, d2 = (D : Int) := ⟨d2.toNat, by omega⟩
      have HQ := Lib.hid hq
      clear hbq
      rw [Int.natAbs_natCast, Int.natAbs_natCast] at hS
      obtain ⟨x, hx⟩ : ∃ x, n1.natAbs = x := ⟨_, rfl⟩
      obtain ⟨y, hy⟩ : ∃ y, n2.natAbs = y := ⟨_, rfl⟩
      have hxb : x ≤ 1000000000000000 := by omega
      have hyb : y ≤ 1000000000000000 := by omega
      rw [hx] at hSZ1
      rw [hy] at hSZ2
      rw [hx, hy] at hS
      have hM1 := fun W => ref_times x D2 W (by omega) (by omega)
      have hM2 := fun W => ref_times y D1 W (by omega) (by omega)
      unfold wideV at hM1 hM2
      have hlb : x * D2 % 18446744073709551616 < 18446744073709551616 := Nat.mod_lt _ (by decide)
      have hlb2 : y * D1 % 18446744073709551616 < 18446744073709551616 := Nat.mod_lt _ (by decide)
      have hW1 : wideN (x * D2 / 18446744073709551616) (x * D2 % 18446744073709551616) = x * D2 := by unfold wideN; omega
      have hW2 : wideN (y * D1 / 18446744073709551616) (y * D1 % 18446744073709551616) = y * D1 := by unfold wideN; omega
      have hL := fun W => ref_less (x * D2 / 18446744073709551616) (x * D2 % 18446744073709551616) (y * D1 / 18446744073709551616) (y * D1 % 18446744073709551616) W hlb hlb2
      rw [hW1, hW2] at hL
      obtain ⟨xh, hxh⟩ : ∃ h, x * D2 / 18446744073709551616 = h := ⟨_, rfl⟩
      obtain ⟨xl, hxl⟩ : ∃ h, x * D2 % 18446744073709551616 = h := ⟨_, rfl⟩
      obtain ⟨yh, hyh⟩ : ∃ h, y * D1 / 18446744073709551616 = h := ⟨_, rfl⟩
      obtain ⟨yl, hyl⟩ : ∃ h, y * D1 % 18446744073709551616 = h := ⟨_, rfl⟩
      obtain ⟨bl, hbl⟩ : ∃ b, decide (x * D2 < y * D1) = b := ⟨_, rfl⟩
      rw [hxh, hxl] at hM1
      rw [hyh, hyl] at hM2
      rw [hxh, hxl, hyh, hyl, hbl] at hL
      rw [hbl] at hS
      have HS := Lib.hid hS
      have HSZ1 := Lib.hid hSZ1
      have HSZ2 := Lib.hid hSZ2
      have HM1 := Lib.hid hM1
      have HM2 := Lib.hid hM2
      have HL := Lib.hid hL
      have hcs : decide (n2 < 0) = decide (n1 < 0) := hs.symm
      clear hS hSZ1 hSZ2 hM1 hM2 hL hlb hlb2 hW1 hW2 hxh hxl hyh hyl hbl hx hy h1 h2 a5 b5 hs hq
      obtain ⟨s, hs⟩ : ∃ s, decide (n1 < 0) = s := ⟨_, rfl⟩
      rw [hs] at hcs
      have HSS := Lib.hid hs
      go_enter Try.func46, Try.ntmps46
      go_upto_region 1 with (fail)
      go_cut [7, 8, 9] (fun a b c wx => a = .agg #[.int .i64 n1, .int .i64 (D1 : Int)] ∧ b = .agg #[.int .i64 n2, .int .i64 (D2 : Int)] ∧ c = .bool false ∧ wx = ((w.alloc (.cells #[.int .i64 n1, .int .i64 (D1 : Int)] 23)).alloc (.cells #[.int .i64 n2, .int .i64 (D2 : Int)] 23)))
      case first =>
        go_wp2_with fail
        all_goals
          first
            | (exfalso; exact HQ.out ⟨by assumption, by assumption⟩)
            | (go_meet; exact ⟨rfl, rfl, rfl, rfl⟩)
            | (have e1 : n1 = n2 := by assumption
               subst e1
               go_meet
               exact ⟨rfl, rfl, rfl, rfl⟩)
      case rest =>
      obtain ⟨rfl, rfl, rfl, rfl⟩ := hcut
      go_upto_region 7 with (fail)
      have B0 := Lib.hid ((Bx.made w 23 #[.int .i64 n1, .int .i64 (D1 : Int)] rfl).alloc (.cells #[.int .i64 n2, .int .i64 (D2 : Int)] 23))
      have B1 := Lib.hid (Bx.made (w.alloc (.cells #[.int .i64 n1, .int .i64 (D1 : Int)] 23)) 23 #[.int .i64 n2, .int .i64 (D2 : Int)] (g := w.heap.size + 1) (by simp))
      have HB0 : Hid (Below w.heap.size w ((w.alloc (.cells #[.int .i64 n1, .int .i64 (D1 : Int)] 23)).alloc (.cells #[.int .i64 n2, .int .i64 (D2 : Int)] 23))) := Lib.hid (by repeat (first | (with_reducible exact Below.refl _ _) | (with_reducible assumption) | (with_reducible refine below_drewN ?_ _) | (with_reducible refine Below.drew ?_) | (with_reducible refine Below.alloc ?_ ?_ _) | (with_reducible refine Below.setCell ?_ ?_ _) | exact Below.refl _ _ | assumption | (solve | omega | simp | (simp; omega))))
      generalize hW0 : (w.alloc (.cells #[.int .i64 n1, .int .i64 (D1 : Int)] 23)).alloc (.cells #[.int .i64 n2, .int .i64 (D2 : Int)] 23) = W0 at B0 B1 HB0 ⊢
      have HW0 := Lib.hid hW0
      clear hW0
      go_cut [5, 6] (fun a b wx => ∃ g h, a = .pointer (some ⟨g, 0, none⟩) ∧ b = .pointer (some ⟨h, 0, none⟩) ∧ Bx wx g 66 #[.int .u64 (xh : Int), .int .u64 (xl : Int)] ∧ Bx wx h 66 #[.int .u64 (yh : Int), .int .u64 (yl : Int)] ∧ Below W0.heap.size W0 wx)
      case first =>
        have S0 : Below W0.heap.size W0 W0.drew := (Below.refl _ _).drew
        have S1 : W0.cell? ⟨w.heap.size, 0, none⟩ = some (.int .i64 n1) := B0.out.cell 0
        have S2 : W0.cell? ⟨w.heap.size, 1, none⟩ = some (.int .i64 (D1 : Int)) := B0.out.cell 1
        have S3 : W0.cell? ⟨w.heap.size + 1, 0, none⟩ = some (.int .i64 n2) := B1.out.cell 0
        have S4 : W0.cell? ⟨w.heap.size + 1, 1, none⟩ = some (.int .i64 (D2 : Int)) := B1.out.cell 1
        have SL := B1.out.lt
        have FW00 : ¬ w.heap.size = W0.heap.size := by omega
        have FW01 : ¬ W0.heap.size = w.heap.size := by omega
        have FW02 : ¬ w.heap.size + 1 = W0.heap.size := by omega
        have FW03 : ¬ W0.heap.size = w.heap.size + 1 := by omega
        have FW04 : ¬ w.heap.size = W0.heap.size + 1 := by omega
        have FW05 : ¬ W0.heap.size + 1 = w.heap.size := by omega
        have FW06 : ¬ w.heap.size + 1 = W0.heap.size + 1 := by omega
        have FW07 : ¬ W0.heap.size + 1 = w.heap.size + 1 := by omega
        have V1 : IntKind.u64.wrap (D1 : Int) = (D1 : Int) := wrapN D1 (by omega)
        have V2 : IntKind.u64.wrap (D2 : Int) = (D2 : Int) := wrapN D2 (by omega)
        go_region_held3 (fun w' => Below W0.heap.size W0 w' ∧ w'.cell? ⟨w.heap.size, 0, none⟩ = some (.int .i64 n1) ∧ w'.cell? ⟨w.heap.size, 1, none⟩ = some (.int .i64 (D1 : Int)) ∧ w'.cell? ⟨w.heap.size + 1, 0, none⟩ = some (.int .i64 n2) ∧ w'.cell? ⟨w.heap.size + 1, 1, none⟩ = some (.int .i64 (D2 : Int)))
          (first | exact ⟨by assumption, by assumption, by assumption, by assumption, by assumption⟩ | (refine ⟨(by repeat (first | (with_reducible exact Below.refl _ _) | (with_reducible assumption) | (with_reducible refine below_drewN ?_ _) | (with_reducible refine Below.drew ?_) | (with_reducible refine Below.alloc ?_ ?_ _) | (with_reducible refine Below.setCell ?_ ?_ _) | exact Below.refl _ _ | assumption | (solve | omega | simp | (simp; omega)))), ?_⟩; go_keep) | go_keep)
          (first
            | (go_at_call_of 45 (Value.int IntKind.i64 n1); refine (HSZ1.out _).mono ?_; rintro e w' ⟨rfl, rfl⟩)
            | (go_at_call_of 45 (Value.int IntKind.i64 n2); refine (HSZ2.out _).mono ?_; rintro e w' ⟨rfl, rfl⟩)
            | (go_at_call_of 50 (Value.int IntKind.u64 (x : Int)); refine (HM1.out _).mono ?_; rintro e w1 ⟨rfl, hb1⟩; have T0 := below_then (w := W0) (by first | assumption | exact (by repeat (first | (with_reducible exact Below.refl _ _) | (with_reducible assumption) | (with_reducible refine below_drewN ?_ _) | (with_reducible refine Below.drew ?_) | (with_reducible refine Below.alloc ?_ ?_ _) | (with_reducible refine Below.setCell ?_ ?_ _) | exact Below.refl _ _ | assumption | (solve | omega | simp | (simp; omega))))) hb1; have T1 : w1.cell? ⟨w.heap.size, 0, none⟩ = some (.int .i64 n1) := (B0.out.below T0).cell 0; have T2 : w1.cell? ⟨w.heap.size, 1, none⟩ = some (.int .i64 (D1 : Int)) := (B0.out.below T0).cell 1; have T3 : w1.cell? ⟨w.heap.size + 1, 0, none⟩ = some (.int .i64 n2) := (B1.out.below T0).cell 0; have T4 : w1.cell? ⟨w.heap.size + 1, 1, none⟩ = some (.int .i64 (D2 : Int)) := (B1.out.below T0).cell 1; obtain ⟨hc1, hf1⟩ := bcell hb1; have T8 := hb1.size; (try simp at T8); have T9 := T0.size; (try have Fw10 : ¬ w.heap.size = w1.heap.size := by omega); (try have Fw11 : ¬ w1.heap.size = w.heap.size := by omega); (try have Fw12 : ¬ w.heap.size + 1 = w1.heap.size := by omega); (try have Fw13 : ¬ w1.heap.size = w.heap.size + 1 := by omega); (try have Fw14 : ¬ w.heap.size = w1.heap.size + 1 := by omega); (try have Fw15 : ¬ w1.heap.size + 1 = w.heap.size := by omega); (try have Fw16 : ¬ w.heap.size + 1 = w1.heap.size + 1 := by omega); (try have Fw17 : ¬ w1.heap.size + 1 = w.heap.size + 1 := by omega); (try have Nw10 : ¬ W0.heap.size = w1.heap.size := by omega); (try have Nw11 : W0.heap.size < w1.heap.size := by omega); (try have Nw12 : W0.heap.size < w1.heap.size + 1 := by omega); (try have Nw13 : W0.heap.size < w1.heap.size + 1 + 1 := by omega); (try have Nw14 : ¬ W0.heap.size + 1 = w1.heap.size := by omega); (try have Nw15 : W0.heap.size + 1 < w1.heap.size := by omega); (try have Nw16 : W0.heap.size + 1 < w1.heap.size + 1 := by omega); (try have Nw17 : W0.heap.size + 1 < w1.heap.size + 1 + 1 := by omega))
            | (go_at_call_of 50 (Value.int IntKind.u64 (y : Int)); refine (HM2.out _).mono ?_; rintro e w2 ⟨rfl, hb2⟩; have U0 := below_then (w := W0) (by first | assumption | exact (by repeat (first | (with_reducible exact Below.refl _ _) | (with_reducible assumption) | (with_reducible refine below_drewN ?_ _) | (with_reducible refine Below.drew ?_) | (with_reducible refine Below.alloc ?_ ?_ _) | (with_reducible refine Below.setCell ?_ ?_ _) | exact Below.refl _ _ | assumption | (solve | omega | simp | (simp; omega))))) hb2; have U1 : w2.cell? ⟨w.heap.size, 0, none⟩ = some (.int .i64 n1) := (B0.out.below U0).cell 0; have U2 : w2.cell? ⟨w.heap.size, 1, none⟩ = some (.int .i64 (D1 : Int)) := (B0.out.below U0).cell 1; have U3 : w2.cell? ⟨w.heap.size + 1, 0, none⟩ = some (.int .i64 n2) := (B1.out.below U0).cell 0; have U4 : w2.cell? ⟨w.heap.size + 1, 1, none⟩ = some (.int .i64 (D2 : Int)) := (B1.out.below U0).cell 1; obtain ⟨hc2, hf2⟩ := bcell hb2; have U8 := hb2.size; (try simp at U8); have U9 := U0.size; (try have Fw20 : ¬ w.heap.size = w2.heap.size := by omega); (try have Fw21 : ¬ w2.heap.size = w.heap.size := by omega); (try have Fw22 : ¬ w.heap.size + 1 = w2.heap.size := by omega); (try have Fw23 : ¬ w2.heap.size = w.heap.size + 1 := by omega); (try have Fw24 : ¬ w.heap.size = w2.heap.size + 1 := by omega); (try have Fw25 : ¬ w2.heap.size + 1 = w.heap.size := by omega); (try have Fw26 : ¬ w.heap.size + 1 = w2.heap.size + 1 := by omega); (try have Fw27 : ¬ w2.heap.size + 1 = w.heap.size + 1 := by omega); (try have Nw20 : ¬ W0.heap.size = w2.heap.size := by omega); (try have Nw21 : W0.heap.size < w2.heap.size := by omega); (try have Nw22 : ¬ W0.heap.size + 1 = w2.heap.size := by omega); (try have Nw23 : W0.heap.size + 1 < w2.heap.size := by omega); (try have Nw24 : ¬ w1.heap.size = w2.heap.size := by omega); (try have Nw25 : w1.heap.size < w2.heap.size := by omega); (try have Nw26 : ¬ w1.heap.size + 1 = w2.heap.size := by omega); (try have Nw27 : w1.heap.size + 1 < w2.heap.size := by omega)))
        all_goals
          go_wp2_with fail
          go_meet
          exact ⟨_, _, rfl, rfl, (by (with_reducible refine BxP.out ?_); repeat (first | (with_reducible refine BxP.put ?_) | ((with_reducible refine BxP.far ?_ ?_); (focus first | omega | (simp; done) | (simp; omega))) | ((with_reducible refine BxP.made ?_ ?_); (focus first | (with_reducible rfl) | (simp; done)); rfl) | (with_reducible refine BxP.alloc ?_) | (with_reducible refine BxP.drew ?_) | (with_reducible refine BxP.drewN ?_) | (with_reducible refine BxP.below hb2 ?_) | (with_reducible refine BxP.below hb1 ?_))), (by (with_reducible refine BxP.out ?_); repeat (first | (with_reducible refine BxP.put ?_) | ((with_reducible refine BxP.far ?_ ?_); (focus first | omega | (simp; done) | (simp; omega))) | ((with_reducible refine BxP.made ?_ ?_); (focus first | (with_reducible rfl) | (simp; done)); rfl) | (with_reducible refine BxP.alloc ?_) | (with_reducible refine BxP.drew ?_) | (with_reducible refine BxP.drewN ?_) | (with_reducible refine BxP.below hb2 ?_) | (with_reducible refine BxP.below hb1 ?_))), (by repeat (first | (with_reducible exact Below.refl _ _) | (with_reducible assumption) | (with_reducible refine below_drewN ?_ _) | (with_reducible refine Below.drew ?_) | (with_reducible refine Below.alloc ?_ ?_ _) | (with_reducible refine Below.setCell ?_ ?_ _) | exact Below.refl _ _ | assumption | (solve | omega | simp | (simp; omega))))⟩
      case rest =>
        obtain ⟨g, h, rfl, rfl, gA, hA, hbx⟩ := hcut
        have HBC := Lib.hid (below_then HB0.out hbx)
        have k0 : ∀ x : BW wc, x.val.cell? ⟨w.heap.size, 0, none⟩ = some (.int .i64 n1) := BW.cells (B0.out.below hbx) 0
        have k1 : ∀ x : BW wc, x.val.cell? ⟨g, 0, none⟩ = some (.int .u64 (xh : Int)) := BW.cells gA 0
        have k2 : ∀ x : BW wc, x.val.cell? ⟨g, 1, none⟩ = some (.int .u64 (xl : Int)) := BW.cells gA 1
        have k3 : ∀ x : BW wc, x.val.cell? ⟨h, 0, none⟩ = some (.int .u64 (yh : Int)) := BW.cells hA 0
        have k4 : ∀ x : BW wc, x.val.cell? ⟨h, 1, none⟩ = some (.int .u64 (yl : Int)) := BW.cells hA 1
        clear gA hA hbx
        have hR := HS.out
        rw [HSS.out] at hR
        by_cases hbs : bl = s
        · have HR : Hid (cmpF n1 (D1 : Int) n2 (D2 : Int) = 1) := Lib.hid (by rw [hR, if_pos hbs])
          subst hbs
          clear hR
          go_wp2_with fail
          refine wp_region_below (by kernel_rfl) (by kernel_rfl) ?_
          repeat (go_big_quiet_step ((go_at_call 63; exact bq_below (HL.out _))))
          refine wpQuiet_nil ?_
          intro w3 hw'
          obtain ⟨⟨_, hb3⟩, rfl⟩ := hw'
          have HB3 := Lib.hid (below_then HBC.out hb3)
          go_wp2
          go_ret
          exact ⟨ret_int HR.out.symm, HB3.out⟩
        · have HR : Hid (cmpF n1 (D1 : Int) n2 (D2 : Int) = -1) := Lib.hid (by rw [hR, if_neg hbs])
          have hbs2 : (bl == s) = false := beq_eq_false_iff_ne.2 hbs
          clear hR hbs
          go_wp2_with fail
          refine wp_region_below (by kernel_rfl) (by kernel_rfl) ?_
          repeat (go_big_quiet_step ((go_at_call 63; exact bq_below (HL.out _))))
          refine wpQuiet_nil ?_
          intro w3 hw'
          obtain ⟨⟨_, hb3⟩, rfl⟩ := hw'
          have HB3 := Lib.hid (below_then HBC.out hb3)
          go_wp2
          go_ret
          exact ⟨ret_int HR.out.symm, HB3.out⟩
    · have HC := Lib.hid (ord_diff a1 b1 hs)
      by_cases hn : n1 < 0
      · have hn2 : ¬ n2 < 0 := by simpa [hn] using hs
        have c1 : decide (n1 < 0) = true := decide_eq_true hn
        have c2 : decide (n2 < 0) = false := decide_eq_false hn2
        have HC2 : Hid (cmpF n1 d1 n2 d2 = -1) := Lib.hid (by rw [HC.out, if_pos hn])
        clear h1 h2 a5 b5 hs hq HC
        go_enter Try.func46, Try.ntmps46
        go_wp2
        go_ret
        exact ⟨ret_int HC2.out.symm, (by repeat (first | (with_reducible exact Below.refl _ _) | (with_reducible assumption) | (with_reducible refine below_drewN ?_ _) | (with_reducible refine Below.drew ?_) | (with_reducible refine Below.alloc ?_ ?_ _) | (with_reducible refine Below.setCell ?_ ?_ _) | exact Below.refl _ _ | assumption | (solve | omega | simp | (simp; omega))))⟩
      · have hn2 : n2 < 0 := by simpa [hn] using hs
        have c1 : decide (n1 < 0) = false := decide_eq_false hn
        have c2 : decide (n2 < 0) = true := decide_eq_true hn2
        have HC2 : Hid (cmpF n1 d1 n2 d2 = 1) := Lib.hid (by rw [HC.out, if_neg hn])
        clear h1 h2 a5 b5 hs hq HC
        go_enter Try.func46, Try.ntmps46
        go_wp2
        go_ret
        exact ⟨ret_int HC2.out.symm, (by repeat (first | (with_reducible exact Below.refl _ _) | (with_reducible assumption) | (with_reducible refine below_drewN ?_ _) | (with_reducible refine Below.drew ?_) | (with_reducible refine Below.alloc ?_ ?_ _) | (with_reducible refine Below.setCell ?_ ?_ _) | exact Below.refl _ _ | assumption | (solve | omega | simp | (simp; omega))))⟩
end Go.Proofs.Ytnhbidagnomkpaa
