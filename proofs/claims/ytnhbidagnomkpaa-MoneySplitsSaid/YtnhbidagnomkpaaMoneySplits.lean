/-
  MoneySplits: for every fraction, list of parts, unit and mood the law returns true; there is no condition.
-/
import Derived.Test.YtnhbidagnomkpaaRule
import Derived.Test.YtnhbidagnomkpaaShare
import Derived.Test.YtnhbidagnomkpaaSplitsP
import Derived.Test.YtnhbidagnomkpaaChain
import Derived.Test.YtnhbidagnomkpaaMoneySums
namespace Go.Proofs.Ytnhbidagnomkpaa
open Go.RowKit Mny Go.WideShapes Go.ChangeShapes Go.ChangeAt

theorem law_ofX (n d mood : Int) (w : World) : Calls Try.prog 14 #[.agg #[.int .i64 n, .int .i64 d], .int .i64 mood] w fun e w' => ∃ f1 f2 : Int, e = .returned (.agg #[.int .i64 f1, .int .i64 f2]) ∧ Below w.heap.size w w' :=
  (law_of n d mood w).mono fun _ _ ⟨h1, h2⟩ => ⟨_, _, h1, h2⟩

theorem walk_MoneySplits0 (n d unit mood : Int) (A : Option Addr) (c : Nat) (w : World) :
    Calls Try.prog 7 #[.agg #[.int .i64 n, .int .i64 d], .slice A 0 c, .int .i64 unit, .int .i64 mood] w fun e w' => e = .returned (.bool true) ∧ Below w.heap.size w w' := by
  go_enter Try.func7, Try.ntmps7
  go_wp2
  go_ret
  exact ⟨rfl, (by repeat (first | (with_reducible exact Below.refl _ _) | (with_reducible assumption) | (with_reducible refine below_drewN ?_ _) | (with_reducible refine Below.drew ?_) | (with_reducible refine Below.alloc ?_ ?_ _) | (with_reducible refine Below.setCell ?_ ?_ _) | exact Below.refl _ _ | assumption | (solve | omega | simp | (simp; omega))))⟩

set_option maxRecDepth 100000 in
set_option maxHeartbeats 8000000 in
theorem walk_MoneySplits1 (n d unit mood : Int) (zs : List Int) (m b off c : Nat) (w : World) (hm : zs.length = m) (hr : RowAt w b off zs) (hb : b < w.heap.size) (hpos : 0 < m) :
    Calls Try.prog 7 #[.agg #[.int .i64 n, .int .i64 d], .slice (some ⟨b, off, none⟩) m c, .int .i64 unit, .int .i64 mood] w fun e w' => e = .returned (.bool true) ∧ Below w.heap.size w w' := by
  by_cases h8 : 8 < m
  · clear hm hr
    go_enter Try.func7, Try.ntmps7
    go_wp2
    go_ret
    exact ⟨rfl, (by repeat (first | (with_reducible exact Below.refl _ _) | (with_reducible assumption) | (with_reducible refine below_drewN ?_ _) | (with_reducible refine Below.drew ?_) | (with_reducible refine Below.alloc ?_ ?_ _) | (with_reducible refine Below.setCell ?_ ?_ _) | exact Below.refl _ _ | assumption | (solve | omega | simp | (simp; omega))))⟩
  · have HM := Lib.hid hm
    have HR := Lib.hid hr
    clear hm hr
    have hpu := fun W => made_Pick unit 3 W (by omega) (by omega)
    obtain ⟨pu, hpe⟩ : ∃ p, unit % 3 = p := ⟨_, rfl⟩
    have hpb : pu = 0 ∨ pu = 1 ∨ pu = 2 := by omega
    rw [hpe] at hpu
    have HPU := Lib.hid hpu
    have HPB := Lib.hid hpb
    clear hpu hpe hpb
    have hm0 : ((m : Int) == 0) = false := by rw [beq_eq_false_iff_ne]; omega
    have hm8 : decide (8 < (m : Int)) = false := decide_eq_false (by omega)
    have hm0' : (m == 0) = false := by rw [beq_eq_false_iff_ne]; omega
    have hm8' : decide (8 < m) = false := decide_eq_false (by omega)
    go_enter Try.func7, Try.ntmps7
    go_wp2_with fail
    refine (law_ofX n d _ _).mono ?_
    rintro e w1 ⟨f1, f2, rfl, hb1⟩
    have HB1 := Lib.hid (below_then (w := w) (by repeat (first | (with_reducible exact Below.refl _ _) | (with_reducible assumption) | (with_reducible refine below_drewN ?_ _) | (with_reducible refine Below.drew ?_) | (with_reducible refine Below.alloc ?_ ?_ _) | (with_reducible refine Below.setCell ?_ ?_ _) | exact Below.refl _ _ | assumption | (solve | omega | simp | (simp; omega)))) hb1)
    have hb1' := HB1.out
    have B0 := Lib.hid ((Bx.made w 23 #[.int .i64 n, .int .i64 d] rfl).below hb1)
    obtain ⟨c0, r0⟩ := B0.out.of
    clear hb1
    have hvf := fun W => ref_ValidFraction f1 f2 W
    cases hv : validF f1 f2
    · have HV : Hid (validF 1000 3 = true) := Lib.hid (by decide)
      have HG : Hid ((0 : Int) ≤ 1000) := Lib.hid (by decide)
      rw [hv] at hvf
      have HVF := Lib.hid hvf
      clear hvf
      go_wp2_with fail
      refine (HVF.out _).mono ?_
      rintro e w2 ⟨rfl, hb2⟩
      have HB2 := Lib.hid (below_then (w := w) (by repeat (first | (with_reducible exact Below.refl _ _) | (with_reducible assumption) | (with_reducible refine below_drewN ?_ _) | (with_reducible refine Below.drew ?_) | (with_reducible refine Below.alloc ?_ ?_ _) | (with_reducible refine Below.setCell ?_ ?_ _) | exact Below.refl _ _ | assumption | (solve | omega | simp | (simp; omega)))) hb2)
      have B2 := Lib.hid (((B0.out.put 0 (.int .i64 f1)).put 1 (.int .i64 f2)).below hb2)
      obtain ⟨c2, r2⟩ := B2.out.of
      clear hb2 c0 r0
      go_upto_region 6 with (fail)
      go_cut [9] (fun a wx => ∃ (g : Nat) (u : Int), a = .pointer (some ⟨g, 0, none⟩) ∧ (1 ≤ u ∧ u ≤ 100000) ∧ Bx wx g 25 #[.int .i64 1, .int .i64 u] ∧ Bx wx w.heap.size 23 #[.int .i64 1000, .int .i64 3] ∧ Below w.heap.size w wx)
      case first =>
        have HBX := Lib.hid (((B2.out.put 0 (.int .i64 1000)).put 1 (.int .i64 3)))
        have HBW := Lib.hid (show Below w.heap.size w ((w2.setCell ⟨w.heap.size, 0, none⟩ (.int .i64 1000)).setCell ⟨w.heap.size, 1, none⟩ (.int .i64 3)) from (by have hB2 := HB2.out; exact (by repeat (first | (with_reducible exact Below.refl _ _) | (with_reducible assumption) | (with_reducible refine below_drewN ?_ _) | (with_reducible refine Below.drew ?_) | (with_reducible refine Below.alloc ?_ ?_ _) | (with_reducible refine Below.setCell ?_ ?_ _) | exact Below.refl _ _ | assumption | (solve | omega | simp | (simp; omega))))))
        rcases HPB.out with rfl | rfl | rfl
        · go_wp2_with fail
          refine (HPU.out _).mono ?_
          rintro e _ ⟨rfl, rfl⟩
          go_wp2_with fail
          go_meet
          have hBX := HBX.out
          have hBW := HBW.out
          have hSZ := hBW.size
          (try simp at hSZ)
          exact ⟨_, 1, rfl, ⟨by omega, by omega⟩, (by (with_reducible refine BxP.out ?_); repeat (first | (with_reducible refine BxP.put ?_) | ((with_reducible refine BxP.far ?_ ?_); (focus first | omega | (simp; done) | (simp; omega))) | ((with_reducible refine BxP.made ?_ ?_); (focus first | (with_reducible rfl) | (simp; done)); rfl) | (with_reducible refine BxP.alloc ?_) | (with_reducible refine BxP.drew ?_) | (with_reducible refine BxP.drewN ?_) | exact BxP.of hBX rfl | exact BxP.of B2.out rfl)), (by (with_reducible refine BxP.out ?_); repeat (first | (with_reducible refine BxP.put ?_) | ((with_reducible refine BxP.far ?_ ?_); (focus first | omega | (simp; done) | (simp; omega))) | ((with_reducible refine BxP.made ?_ ?_); (focus first | (with_reducible rfl) | (simp; done)); rfl) | (with_reducible refine BxP.alloc ?_) | (with_reducible refine BxP.drew ?_) | (with_reducible refine BxP.drewN ?_) | exact BxP.of hBX rfl | exact BxP.of B2.out rfl)), (by repeat (first | (with_reducible exact Below.refl _ _) | (with_reducible assumption) | (with_reducible refine below_drewN ?_ _) | (with_reducible refine Below.drew ?_) | (with_reducible refine Below.alloc ?_ ?_ _) | (with_reducible refine Below.setCell ?_ ?_ _) | exact Below.refl _ _ | assumption | (solve | omega | simp | (simp; omega))))⟩
        · go_wp2_with fail
          refine (HPU.out _).mono ?_
          rintro e _ ⟨rfl, rfl⟩
          go_wp2_with fail
          go_meet
          have hBX := HBX.out
          have hBW := HBW.out
          have hSZ := hBW.size
          (try simp at hSZ)
          exact ⟨_, 10, rfl, ⟨by omega, by omega⟩, (by (with_reducible refine BxP.out ?_); repeat (first | (with_reducible refine BxP.put ?_) | ((with_reducible refine BxP.far ?_ ?_); (focus first | omega | (simp; done) | (simp; omega))) | ((with_reducible refine BxP.made ?_ ?_); (focus first | (with_reducible rfl) | (simp; done)); rfl) | (with_reducible refine BxP.alloc ?_) | (with_reducible refine BxP.drew ?_) | (with_reducible refine BxP.drewN ?_) | exact BxP.of hBX rfl | exact BxP.of B2.out rfl)), (by (with_reducible refine BxP.out ?_); repeat (first | (with_reducible refine BxP.put ?_) | ((with_reducible refine BxP.far ?_ ?_); (focus first | omega | (simp; done) | (simp; omega))) | ((with_reducible refine BxP.made ?_ ?_); (focus first | (with_reducible rfl) | (simp; done)); rfl) | (with_reducible refine BxP.alloc ?_) | (with_reducible refine BxP.drew ?_) | (with_reducible refine BxP.drewN ?_) | exact BxP.of hBX rfl | exact BxP.of B2.out rfl)), (by repeat (first | (with_reducible exact Below.refl _ _) | (with_reducible assumption) | (with_reducible refine below_drewN ?_ _) | (with_reducible refine Below.drew ?_) | (with_reducible refine Below.alloc ?_ ?_ _) | (with_reducible refine Below.setCell ?_ ?_ _) | exact Below.refl _ _ | assumption | (solve | omega | simp | (simp; omega))))⟩
        · go_wp2_with fail
          refine (HPU.out _).mono ?_
          rintro e _ ⟨rfl, rfl⟩
          go_wp2_with fail
          go_meet
          have hBX := HBX.out
          have hBW := HBW.out
          have hSZ := hBW.size
          (try simp at hSZ)
          exact ⟨_, 100, rfl, ⟨by omega, by omega⟩, (by (with_reducible refine BxP.out ?_); repeat (first | (with_reducible refine BxP.put ?_) | ((with_reducible refine BxP.far ?_ ?_); (focus first | omega | (simp; done) | (simp; omega))) | ((with_reducible refine BxP.made ?_ ?_); (focus first | (with_reducible rfl) | (simp; done)); rfl) | (with_reducible refine BxP.alloc ?_) | (with_reducible refine BxP.drew ?_) | (with_reducible refine BxP.drewN ?_) | exact BxP.of hBX rfl | exact BxP.of B2.out rfl)), (by (with_reducible refine BxP.out ?_); repeat (first | (with_reducible refine BxP.put ?_) | ((with_reducible refine BxP.far ?_ ?_); (focus first | omega | (simp; done) | (simp; omega))) | ((with_reducible refine BxP.made ?_ ?_); (focus first | (with_reducible rfl) | (simp; done)); rfl) | (with_reducible refine BxP.alloc ?_) | (with_reducible refine BxP.drew ?_) | (with_reducible refine BxP.drewN ?_) | exact BxP.of hBX rfl | exact BxP.of B2.out rfl)), (by repeat (first | (with_reducible exact Below.refl _ _) | (with_reducible assumption) | (with_reducible refine below_drewN ?_ _) | (with_reducible refine Below.drew ?_) | (with_reducible refine Below.alloc ?_ ?_ _) | (with_reducible refine Below.setCell ?_ ?_ _) | exact Below.refl _ _ | assumption | (solve | omega | simp | (simp; omega))))⟩
      case rest =>
        obtain ⟨g, u, rfl, ⟨hu1, hu2⟩, hR0, hF0, hW0⟩ := hcut
        have HBC := Lib.hid hW0
        have D0 := Lib.hid hF0
        have D1 := Lib.hid hR0
        have hrow : RowAt wc b off zs := fun k z hz => (hW0.cell (p := ⟨b, off + k, none⟩) hb).trans (HR.out k z hz)
        have HRW := Lib.hid hrow
        clear hW0 hF0 hR0 hrow
        go_wp2
        go_loop [10, 11] (fun s i => ∃ (k : Nat) (dn : Int), k ≤ m ∧ i = .int .i64 k ∧ s = .int .i64 dn ∧ denS (zs.take k) = dn) (fun _ i => m - (intOf i).toNat)
        case atStart => exact ⟨0, 0, Nat.zero_le _, rfl, rfl, rfl⟩
        case round =>
          obtain ⟨k, dn, hk, rfl, rfl, hdn⟩ := hrel
          have hdb := denS_take zs k
          rw [hdn] at hdb
          obtain ⟨hd0, hd1⟩ := hdb
          by_cases hlt : k < m
          · obtain ⟨z, hz⟩ : ∃ z, zs[k]? = some z := ⟨zs[k]'(by rw [HM.out]; exact hlt), List.getElem?_eq_getElem _⟩
            have hcell : wc.cell? ⟨b, off + k, none⟩ = some (.int .i64 z) := HRW.out k z hz
            have hpk := fun W => made_Pick z 5000 W (by omega) (by omega)
            have hsn : denS (zs.take (k + 1)) = dn + (z % 5000 + 1) := by rw [take_next hz, denS_snoc, hdn]; rfl
            obtain ⟨pz, hpz⟩ : ∃ p, z % 5000 = p := ⟨_, rfl⟩
            have hpb : 0 ≤ pz ∧ pz < 5000 := by omega
            rw [hpz] at hpk hsn
            have HPK := Lib.hid hpk
            have HSN := Lib.hid hsn
            clear hpk hsn hpz hz hdn
            go_wp2_with fail
            refine (HPK.out _).mono ?_
            rintro e _ ⟨rfl, rfl⟩
            go_wp2
            go_round
            case rel => exact ⟨k + 1, _, by omega, by go_num, rfl, HSN.out⟩
            case measure => simp [intOf]; omega
          · obtain rfl : k = m := by omega
            have hall : zs.take k = zs := List.take_of_length_le (by rw [HM.out]; exact Nat.le_refl _)
            have hdl := (denS_bd zs).1
            rw [hall] at hdn
            rw [hdn, HM.out] at hdl
            have HDN := Lib.hid hdn
            clear hdn hall
            have hrs := roundS_yes (n := 1000) (d := 3) (m := 1) (u := u) HV.out (validR_iff.2 ⟨by omega, by omega, hu1, hu2⟩)
            have hrd := fun W => money_Round 1000 3 1 u W
            obtain ⟨A, E, hAE⟩ : ∃ A E, rnd 1 u 1000 3 = (A, E) := ⟨_, _, rfl⟩
            rw [hrs, hAE] at hrd
            have HRD : Hid (∀ W, Calls Try.prog 16 #[.agg #[.int .i64 1000, .int .i64 3], .agg #[.int .i64 1, .int .i64 u]] W fun e w' => e = .returned (.tuple #[.int .i64 A, .int .i64 E]) ∧ Below W.heap.size W w') := Lib.hid hrd
            have HAE := Lib.hid hAE
            clear hrd hrs hAE
            obtain ⟨cF, rF⟩ := D0.out.of
            obtain ⟨cR, rR⟩ := D1.out.of
            go_wp2_with fail
            refine (HRD.out _).mono ?_
            rintro e w3 ⟨rfl, hb3⟩
            have HB3 := Lib.hid (below_then HBC.out hb3)
            have D03 := Lib.hid (D0.out.below hb3)
            have D13 := Lib.hid (D1.out.below hb3)
            have hrow3 : RowAt w3 b off zs := fun k z hz => (HB3.out.cell (p := ⟨b, off + k, none⟩) hb).trans (HR.out k z hz)
            have HRW3 := Lib.hid hrow3
            clear hb3 hrow3 cF rF cR rR
            go_wp2
            by_cases hE : E = 0
            · subst hE
              have hgd : (0 : Int) < 3 := by have := (validF_iff.1 HV.out).1; omega
              have hK : okU (1000 / (3 * u)) u = true ∧ A = 1000 / (3 * u) * u := rnd_down_ok HAE.out
              have hsp := splits (D := 3) (u := u) zs HG.out hgd (by omega) (by rw [HM.out]; omega)
              have hM : 0 < 3 * denS zs * u := Int.mul_pos (Int.mul_pos hgd (by rw [HDN.out]; omega)) (by omega)
              have hqt := sumQ_take (M := 3 * denS zs * u) HG.out hM zs
              have hok := fun (z : Int) (hz : z ∈ zs) => share_ok (p := partV z) HG.out hgd hu1 (partV_bd z).1 (partV_le zs hz) hK.1
              rw [HDN.out] at hsp hqt hok hM
              rw [HM.out] at hsp
              obtain ⟨K, hKe⟩ : ∃ K, 1000 / (3 * u) = K := ⟨_, rfl⟩
              obtain ⟨M, hMe⟩ : ∃ M, 3 * dn * u = M := ⟨_, rfl⟩
              rw [hKe] at hK hsp
              rw [hMe] at hsp hqt hok hM
              have hKu : K * u ≤ 1000000000000 := by
                have h1 := hK.1
                unfold okU at h1
                simp only [Bool.and_eq_true, decide_eq_true_eq] at h1
                exact okU_le hu1 h1.2
              have hK2 := hK.2
              have hSP := Lib.hid hsp
              have HQT := Lib.hid hqt
              have HOK := Lib.hid hok
              have HMM := Lib.hid hM
              have HK2 := Lib.hid hK2
              clear hsp hqt hok hK hK2 hKe hMe hM
              go_loopw [14, 15] (fun s i wr => ∃ (k' : Nat) (Su : Int), k' ≤ k ∧ i = .int .i64 k' ∧ s = .int .i64 Su ∧ sumQ 1000 M (zs.take k') * u = Su ∧ Below w3.heap.size w3 wr) (fun _ i _ => k - (intOf i).toNat)
              case atStart => exact ⟨0, 0, Nat.zero_le _, rfl, rfl, by simp [sumQ], Below.refl _ _⟩
              case round =>
                obtain ⟨j, Su, hj, rfl, rfl, hSu, hw3⟩ := hrel
                have hq := HQT.out j
                obtain ⟨S, hSe⟩ : ∃ S, sumQ 1000 M (zs.take j) = S := ⟨_, rfl⟩
                rw [hSe] at hq
                obtain ⟨ST, hST⟩ : ∃ S, sumQ 1000 M zs = S := ⟨_, rfl⟩
                have hsp := hSP.out
                rw [hST] at hq hsp
                obtain ⟨hq0, hq1⟩ := hq
                obtain ⟨hs0, hs1⟩ := hsp
                rw [hSe] at hSu
                have hSu0 : 0 ≤ S * u := Int.mul_nonneg hq0 (by omega)
                have hSu1 : S * u ≤ K * u := Int.mul_le_mul_of_nonneg_right (by omega) (by omega)
                have HSE := Lib.hid hSe
                have HST := Lib.hid hST
                clear hSe hST
                have HB4 := Lib.hid (below_then HB3.out hw3)
                have D04 := Lib.hid (D03.out.below hw3)
                have D14 := Lib.hid (D13.out.below hw3)
                have HW3 := Lib.hid hw3
                by_cases hlt : j < k
                · obtain ⟨z, hz⟩ : ∃ z, zs[j]? = some z := ⟨zs[j]'(by rw [HM.out]; exact hlt), List.getElem?_eq_getElem _⟩
                  have hcell : ∀ x : BW wr, x.val.cell? ⟨b, off + j, none⟩ = some (.int .i64 z) := fun x => ((HB4.out.trans (x.ok.mono HB4.out.size)).cell (p := ⟨b, off + j, none⟩) hb).trans (HR.out j z hz)
                  have kf0 : ∀ x : BW wr, x.val.cell? ⟨w.heap.size, 0, none⟩ = some (.int .i64 1000) := BW.cells D04.out 0
                  have kf1 : ∀ x : BW wr, x.val.cell? ⟨w.heap.size, 1, none⟩ = some (.int .i64 3) := BW.cells D04.out 1
                  have kr0 : ∀ x : BW wr, x.val.cell? ⟨g, 0, none⟩ = some (.int .i64 1) := BW.cells D14.out 0
                  have kr1 : ∀ x : BW wr, x.val.cell? ⟨g, 1, none⟩ = some (.int .i64 u) := BW.cells D14.out 1
                  have hpk := fun W => made_Pick z 5000 W (by omega) (by omega)
                  have hsh := HOK.out z (List.mem_of_getElem? hz)
                  have hsn : sumQ 1000 M (zs.take (j + 1)) = sumQ 1000 M (zs.take j) + (1000 * partV z) / M := by rw [take_next hz, sumQ_snoc]
                  have hqn := (HQT.out (j + 1))
                  rw [hsn, HSE.out, HST.out] at hqn
                  have hq9 : 0 ≤ (1000 * partV z) / M := Int.ediv_nonneg (Int.mul_nonneg HG.out (by have := partV_bd z; omega)) (by have := HMM.out; omega)
                  obtain ⟨Q, hQ⟩ : ∃ Q, (1000 * partV z) / M = Q := ⟨_, rfl⟩
                  rw [hQ] at hsh hsn hqn hq9
                  unfold partV at hsh
                  have hQu0 : 0 ≤ Q * u := Int.mul_nonneg hq9 (by omega)
                  have hQu1 : S * u + Q * u ≤ K * u := by rw [← Int.add_mul]; exact Int.mul_le_mul_of_nonneg_right (by omega) (by omega)
                  obtain ⟨pz, hpz⟩ : ∃ p, z % 5000 = p := ⟨_, rfl⟩
                  have hpb : 0 ≤ pz ∧ pz < 5000 := by omega
                  rw [hpz] at hpk hsh
                  have hss := shareS_yes (n := 1000) (d := 3) (num := pz + 1) (den := dn) (m := 1) (u := u) HV.out (validR_iff.2 ⟨by omega, by omega, hu1, hu2⟩) (by omega) (by omega) (by omega) (by omega)
                  rw [hsh] at hss
                  have hsc := fun W => money_Share 1000 3 (pz + 1) dn 1 u W
                  rw [hss] at hsc
                  have HSC : Hid (∀ W, Calls Try.prog 26 #[.agg #[.int .i64 1000, .int .i64 3], .int .i64 (pz + 1), .int .i64 dn, .agg #[.int .i64 1, .int .i64 u]] W fun e w' => e = .returned (.tuple #[.int .i64 (Q * u), .int .i64 (0 : Int)]) ∧ Below W.heap.size W w') := Lib.hid hsc
                  have HPK := Lib.hid hpk
                  have V1 : IntKind.i64.wrap (pz + 1) = pz + 1 := IntWalk.i64_in _ (by omega)
                  obtain ⟨Qu, hQu⟩ : ∃ x, Q * u = x := ⟨_, rfl⟩
                  have HSN : Hid (sumQ 1000 M (zs.take (j + 1)) * u = Su + Qu) := Lib.hid (by rw [hsn, HSE.out, Int.add_mul, hSu, hQu])
                  rw [hQu] at HSC hQu0 hQu1
                  rw [hSu] at hSu0 hSu1 hQu1
                  clear hsc hss hsh hsn hqn hpk hpz hz hQ hQu hSu
                  go_wp2_with fail
                  refine wp_region_below (by kernel_rfl) (by kernel_rfl) ?_
                  repeat (go_big_quiet_step (((first | (go_at_call 25; exact bq_same (HPK.out _)) | (go_at_call 26; exact bq_below (HSC.out _))))))
                  refine wpQuiet_nil ?_
                  intro _ hw'
                  obtain ⟨⟨w5, hb5⟩, rfl⟩ := hw'
                  have HB5 := Lib.hid (below_then HW3.out hb5)
                  clear hb5 V1 kf0 kf1 kr0 kr1 hcell
                  go_wp2
                  go_roundw
                  case rel => exact ⟨j + 1, _, by omega, by go_num, rfl, HSN.out, HB5.out⟩
                  case measure => simp [intOf]; omega
                · obtain rfl : j = k := by omega
                  have hall : zs.take j = zs := List.take_of_length_le (by rw [HM.out]; exact Nat.le_refl _)
                  have hSS : S = ST := by rw [← HSE.out, ← HST.out, hall]
                  have hlt2 : K * u - S * u < (j : Int) * u := by rw [← Int.sub_mul]; exact Int.mul_lt_mul_of_pos_right (by omega) (by omega)
                  have hA := HK2.out
                  rw [← hA, hSu] at hlt2 hSu1
                  have hju : (j : Int) * u ≤ 8 * u := Int.mul_le_mul_of_nonneg_right (by omega) (by omega)
                  have V9 : IntKind.i64.wrap ((j : Int) * u) = (j : Int) * u := IntWalk.i64_in _ (by omega)
                  have T1 : decide (Su ≤ A) = true := decide_eq_true hSu1
                  have T2 : decide (A - Su < (j : Int) * u) = true := decide_eq_true hlt2
                  clear hall hSS hA hSu
                  go_wp2_with fail
                  refine (law4_awake _).mono ?_
                  rintro e w9 ⟨rfl, hb9⟩
                  have HB9 := Lib.hid (below_then HB4.out hb9)
                  obtain ⟨cR, rR⟩ := (D14.out.below hb9).of
                  clear hb9
                  go_wp2
                  go_ret
                  exact ⟨ret_bool (by simp), HB9.out⟩
            · have hEb : (E == 0) = false := beq_eq_false_iff_ne.2 hE
              have hEn : (E != 0) = true := bne_iff_ne.2 hE
              clear hE
              go_loopw [14, 15] (fun s i wr => ∃ (k' : Nat) (sv : Int), k' ≤ k ∧ i = .int .i64 k' ∧ s = .int .i64 sv ∧ Below w3.heap.size w3 wr) (fun _ i _ => k - (intOf i).toNat)
              case atStart => exact ⟨0, 0, Nat.zero_le _, rfl, rfl, Below.refl _ _⟩
              case round =>
                obtain ⟨j, sv, hj, rfl, rfl, hw3⟩ := hrel
                have HB4 := Lib.hid (below_then HB3.out hw3)
                have D04 := Lib.hid (D03.out.below hw3)
                have D14 := Lib.hid (D13.out.below hw3)
                have HW3 := Lib.hid hw3
                by_cases hlt : j < k
                · obtain ⟨z, hz⟩ : ∃ z, zs[j]? = some z := ⟨zs[j]'(by rw [HM.out]; exact hlt), List.getElem?_eq_getElem _⟩
                  have hcell : ∀ x : BW wr, x.val.cell? ⟨b, off + j, none⟩ = some (.int .i64 z) := fun x => ((HB4.out.trans (x.ok.mono HB4.out.size)).cell (p := ⟨b, off + j, none⟩) hb).trans (HR.out j z hz)
                  have kf0 : ∀ x : BW wr, x.val.cell? ⟨w.heap.size, 0, none⟩ = some (.int .i64 1000) := BW.cells D04.out 0
                  have kf1 : ∀ x : BW wr, x.val.cell? ⟨w.heap.size, 1, none⟩ = some (.int .i64 3) := BW.cells D04.out 1
                  have kr0 : ∀ x : BW wr, x.val.cell? ⟨g, 0, none⟩ = some (.int .i64 1) := BW.cells D14.out 0
                  have kr1 : ∀ x : BW wr, x.val.cell? ⟨g, 1, none⟩ = some (.int .i64 u) := BW.cells D14.out 1
                  have hpk := fun W => made_Pick z 5000 W (by omega) (by omega)
                  obtain ⟨pz, hpz⟩ : ∃ p, z % 5000 = p := ⟨_, rfl⟩
                  have hpb : 0 ≤ pz ∧ pz < 5000 := by omega
                  rw [hpz] at hpk
                  have hsc := fun W => money_Share 1000 3 (pz + 1) dn 1 u W
                  obtain ⟨X, Y, hXY⟩ : ∃ X Y, shareS 1000 3 (pz + 1) dn 1 u = (X, Y) := ⟨_, _, rfl⟩
                  rw [hXY] at hsc
                  have HSC : Hid (∀ W, Calls Try.prog 26 #[.agg #[.int .i64 1000, .int .i64 3], .int .i64 (pz + 1), .int .i64 dn, .agg #[.int .i64 1, .int .i64 u]] W fun e w' => e = .returned (.tuple #[.int .i64 X, .int .i64 Y]) ∧ Below W.heap.size W w') := Lib.hid hsc
                  have HPK := Lib.hid hpk
                  have V1 : IntKind.i64.wrap (pz + 1) = pz + 1 := IntWalk.i64_in _ (by omega)
                  clear hsc hXY hpk hpz hz
                  go_wp2_with fail
                  refine wp_region_below (by kernel_rfl) (by kernel_rfl) ?_
                  repeat (go_big_quiet_step (((first | (go_at_call 25; exact bq_same (HPK.out _)) | (go_at_call 26; exact bq_below (HSC.out _))))))
                  refine wpQuiet_nil ?_
                  intro _ hw'
                  obtain ⟨⟨w5, hb5⟩, rfl⟩ := hw'
                  have HB5 := Lib.hid (below_then HW3.out hb5)
                  clear hb5 V1 kf0 kf1 kr0 kr1 hcell
                  go_wp2
                  go_roundw
                  case rel => exact ⟨j + 1, _, by omega, by go_num, rfl, HB5.out⟩
                  case measure => simp [intOf]; omega
                · obtain rfl : j = k := by omega
                  go_wp2_with fail
                  refine (law4_awake _).mono ?_
                  rintro e w9 ⟨rfl, hb9⟩
                  have HB9 := Lib.hid (below_then HB4.out hb9)
                  obtain ⟨cR, rR⟩ := (D14.out.below hb9).of
                  clear hb9
                  go_wp2
                  go_ret
                  exact ⟨ret_bool (by simp), HB9.out⟩
    · by_cases hneg : f1 < 0
      · have HV : Hid (validF 1000 3 = true) := Lib.hid (by decide)
        have HG : Hid ((0 : Int) ≤ 1000) := Lib.hid (by decide)
        have hng : decide (f1 < 0) = true := decide_eq_true hneg
        rw [hv] at hvf
        have HVF := Lib.hid hvf
        clear hvf
        go_wp2_with fail
        refine (HVF.out _).mono ?_
        rintro e w2 ⟨rfl, hb2⟩
        have HB2 := Lib.hid (below_then (w := w) (by repeat (first | (with_reducible exact Below.refl _ _) | (with_reducible assumption) | (with_reducible refine below_drewN ?_ _) | (with_reducible refine Below.drew ?_) | (with_reducible refine Below.alloc ?_ ?_ _) | (with_reducible refine Below.setCell ?_ ?_ _) | exact Below.refl _ _ | assumption | (solve | omega | simp | (simp; omega)))) hb2)
        have B2 := Lib.hid (((B0.out.put 0 (.int .i64 f1)).put 1 (.int .i64 f2)).below hb2)
        obtain ⟨c2, r2⟩ := B2.out.of
        clear hb2 c0 r0
        go_upto_region 6 with (fail)
        go_cut [9] (fun a wx => ∃ (g : Nat) (u : Int), a = .pointer (some ⟨g, 0, none⟩) ∧ (1 ≤ u ∧ u ≤ 100000) ∧ Bx wx g 25 #[.int .i64 1, .int .i64 u] ∧ Bx wx w.heap.size 23 #[.int .i64 1000, .int .i64 3] ∧ Below w.heap.size w wx)
        case first =>
          have HBX := Lib.hid (((B2.out.put 0 (.int .i64 1000)).put 1 (.int .i64 3)))
          have HBW := Lib.hid (show Below w.heap.size w ((w2.setCell ⟨w.heap.size, 0, none⟩ (.int .i64 1000)).setCell ⟨w.heap.size, 1, none⟩ (.int .i64 3)) from (by have hB2 := HB2.out; exact (by repeat (first | (with_reducible exact Below.refl _ _) | (with_reducible assumption) | (with_reducible refine below_drewN ?_ _) | (with_reducible refine Below.drew ?_) | (with_reducible refine Below.alloc ?_ ?_ _) | (with_reducible refine Below.setCell ?_ ?_ _) | exact Below.refl _ _ | assumption | (solve | omega | simp | (simp; omega))))))
          rcases HPB.out with rfl | rfl | rfl
          · go_wp2_with fail
            refine (HPU.out _).mono ?_
            rintro e _ ⟨rfl, rfl⟩
            go_wp2_with fail
            go_meet
            have hBX := HBX.out
            have hBW := HBW.out
            have hSZ := hBW.size
            (try simp at hSZ)
            exact ⟨_, 1, rfl, ⟨by omega, by omega⟩, (by (with_reducible refine BxP.out ?_); repeat (first | (with_reducible refine BxP.put ?_) | ((with_reducible refine BxP.far ?_ ?_); (focus first | omega | (simp; done) | (simp; omega))) | ((with_reducible refine BxP.made ?_ ?_); (focus first | (with_reducible rfl) | (simp; done)); rfl) | (with_reducible refine BxP.alloc ?_) | (with_reducible refine BxP.drew ?_) | (with_reducible refine BxP.drewN ?_) | exact BxP.of hBX rfl | exact BxP.of B2.out rfl)), (by (with_reducible refine BxP.out ?_); repeat (first | (with_reducible refine BxP.put ?_) | ((with_reducible refine BxP.far ?_ ?_); (focus first | omega | (simp; done) | (simp; omega))) | ((with_reducible refine BxP.made ?_ ?_); (focus first | (with_reducible rfl) | (simp; done)); rfl) | (with_reducible refine BxP.alloc ?_) | (with_reducible refine BxP.drew ?_) | (with_reducible refine BxP.drewN ?_) | exact BxP.of hBX rfl | exact BxP.of B2.out rfl)), (by repeat (first | (with_reducible exact Below.refl _ _) | (with_reducible assumption) | (with_reducible refine below_drewN ?_ _) | (with_reducible refine Below.drew ?_) | (with_reducible refine Below.alloc ?_ ?_ _) | (with_reducible refine Below.setCell ?_ ?_ _) | exact Below.refl _ _ | assumption | (solve | omega | simp | (simp; omega))))⟩
          · go_wp2_with fail
            refine (HPU.out _).mono ?_
            rintro e _ ⟨rfl, rfl⟩
            go_wp2_with fail
            go_meet
            have hBX := HBX.out
            have hBW := HBW.out
            have hSZ := hBW.size
            (try simp at hSZ)
            exact ⟨_, 10, rfl, ⟨by omega, by omega⟩, (by (with_reducible refine BxP.out ?_); repeat (first | (with_reducible refine BxP.put ?_) | ((with_reducible refine BxP.far ?_ ?_); (focus first | omega | (simp; done) | (simp; omega))) | ((with_reducible refine BxP.made ?_ ?_); (focus first | (with_reducible rfl) | (simp; done)); rfl) | (with_reducible refine BxP.alloc ?_) | (with_reducible refine BxP.drew ?_) | (with_reducible refine BxP.drewN ?_) | exact BxP.of hBX rfl | exact BxP.of B2.out rfl)), (by (with_reducible refine BxP.out ?_); repeat (first | (with_reducible refine BxP.put ?_) | ((with_reducible refine BxP.far ?_ ?_); (focus first | omega | (simp; done) | (simp; omega))) | ((with_reducible refine BxP.made ?_ ?_); (focus first | (with_reducible rfl) | (simp; done)); rfl) | (with_reducible refine BxP.alloc ?_) | (with_reducible refine BxP.drew ?_) | (with_reducible refine BxP.drewN ?_) | exact BxP.of hBX rfl | exact BxP.of B2.out rfl)), (by repeat (first | (with_reducible exact Below.refl _ _) | (with_reducible assumption) | (with_reducible refine below_drewN ?_ _) | (with_reducible refine Below.drew ?_) | (with_reducible refine Below.alloc ?_ ?_ _) | (with_reducible refine Below.setCell ?_ ?_ _) | exact Below.refl _ _ | assumption | (solve | omega | simp | (simp; omega))))⟩
          · go_wp2_with fail
            refine (HPU.out _).mono ?_
            rintro e _ ⟨rfl, rfl⟩
            go_wp2_with fail
            go_meet
            have hBX := HBX.out
            have hBW := HBW.out
            have hSZ := hBW.size
            (try simp at hSZ)
            exact ⟨_, 100, rfl, ⟨by omega, by omega⟩, (by (with_reducible refine BxP.out ?_); repeat (first | (with_reducible refine BxP.put ?_) | ((with_reducible refine BxP.far ?_ ?_); (focus first | omega | (simp; done) | (simp; omega))) | ((with_reducible refine BxP.made ?_ ?_); (focus first | (with_reducible rfl) | (simp; done)); rfl) | (with_reducible refine BxP.alloc ?_) | (with_reducible refine BxP.drew ?_) | (with_reducible refine BxP.drewN ?_) | exact BxP.of hBX rfl | exact BxP.of B2.out rfl)), (by (with_reducible refine BxP.out ?_); repeat (first | (with_reducible refine BxP.put ?_) | ((with_reducible refine BxP.far ?_ ?_); (focus first | omega | (simp; done) | (simp; omega))) | ((with_reducible refine BxP.made ?_ ?_); (focus first | (with_reducible rfl) | (simp; done)); rfl) | (with_reducible refine BxP.alloc ?_) | (with_reducible refine BxP.drew ?_) | (with_reducible refine BxP.drewN ?_) | exact BxP.of hBX rfl | exact BxP.of B2.out rfl)), (by repeat (first | (with_reducible exact Below.refl _ _) | (with_reducible assumption) | (with_reducible refine below_drewN ?_ _) | (with_reducible refine Below.drew ?_) | (with_reducible refine Below.alloc ?_ ?_ _) | (with_reducible refine Below.setCell ?_ ?_ _) | exact Below.refl _ _ | assumption | (solve | omega | simp | (simp; omega))))⟩
        case rest =>
          obtain ⟨g, u, rfl, ⟨hu1, hu2⟩, hR0, hF0, hW0⟩ := hcut
          have HBC := Lib.hid hW0
          have D0 := Lib.hid hF0
          have D1 := Lib.hid hR0
          have hrow : RowAt wc b off zs := fun k z hz => (hW0.cell (p := ⟨b, off + k, none⟩) hb).trans (HR.out k z hz)
          have HRW := Lib.hid hrow
          clear hW0 hF0 hR0 hrow
          go_wp2
          go_loop [10, 11] (fun s i => ∃ (k : Nat) (dn : Int), k ≤ m ∧ i = .int .i64 k ∧ s = .int .i64 dn ∧ denS (zs.take k) = dn) (fun _ i => m - (intOf i).toNat)
          case atStart => exact ⟨0, 0, Nat.zero_le _, rfl, rfl, rfl⟩
          case round =>
            obtain ⟨k, dn, hk, rfl, rfl, hdn⟩ := hrel
            have hdb := denS_take zs k
            rw [hdn] at hdb
            obtain ⟨hd0, hd1⟩ := hdb
            by_cases hlt : k < m
            · obtain ⟨z, hz⟩ : ∃ z, zs[k]? = some z := ⟨zs[k]'(by rw [HM.out]; exact hlt), List.getElem?_eq_getElem _⟩
              have hcell : wc.cell? ⟨b, off + k, none⟩ = some (.int .i64 z) := HRW.out k z hz
              have hpk := fun W => made_Pick z 5000 W (by omega) (by omega)
              have hsn : denS (zs.take (k + 1)) = dn + (z % 5000 + 1) := by rw [take_next hz, denS_snoc, hdn]; rfl
              obtain ⟨pz, hpz⟩ : ∃ p, z % 5000 = p := ⟨_, rfl⟩
              have hpb : 0 ≤ pz ∧ pz < 5000 := by omega
              rw [hpz] at hpk hsn
              have HPK := Lib.hid hpk
              have HSN := Lib.hid hsn
              clear hpk hsn hpz hz hdn
              go_wp2_with fail
              refine (HPK.out _).mono ?_
              rintro e _ ⟨rfl, rfl⟩
              go_wp2
              go_round
              case rel => exact ⟨k + 1, _, by omega, by go_num, rfl, HSN.out⟩
              case measure => simp [intOf]; omega
            · obtain rfl : k = m := by omega
              have hall : zs.take k = zs := List.take_of_length_le (by rw [HM.out]; exact Nat.le_refl _)
              have hdl := (denS_bd zs).1
              rw [hall] at hdn
              rw [hdn, HM.out] at hdl
              have HDN := Lib.hid hdn
              clear hdn hall
              have hrs := roundS_yes (n := 1000) (d := 3) (m := 1) (u := u) HV.out (validR_iff.2 ⟨by omega, by omega, hu1, hu2⟩)
              have hrd := fun W => money_Round 1000 3 1 u W
              obtain ⟨A, E, hAE⟩ : ∃ A E, rnd 1 u 1000 3 = (A, E) := ⟨_, _, rfl⟩
              rw [hrs, hAE] at hrd
              have HRD : Hid (∀ W, Calls Try.prog 16 #[.agg #[.int .i64 1000, .int .i64 3], .agg #[.int .i64 1, .int .i64 u]] W fun e w' => e = .returned (.tuple #[.int .i64 A, .int .i64 E]) ∧ Below W.heap.size W w') := Lib.hid hrd
              have HAE := Lib.hid hAE
              clear hrd hrs hAE
              obtain ⟨cF, rF⟩ := D0.out.of
              obtain ⟨cR, rR⟩ := D1.out.of
              go_wp2_with fail
              refine (HRD.out _).mono ?_
              rintro e w3 ⟨rfl, hb3⟩
              have HB3 := Lib.hid (below_then HBC.out hb3)
              have D03 := Lib.hid (D0.out.below hb3)
              have D13 := Lib.hid (D1.out.below hb3)
              have hrow3 : RowAt w3 b off zs := fun k z hz => (HB3.out.cell (p := ⟨b, off + k, none⟩) hb).trans (HR.out k z hz)
              have HRW3 := Lib.hid hrow3
              clear hb3 hrow3 cF rF cR rR
              go_wp2
              by_cases hE : E = 0
              · subst hE
                have hgd : (0 : Int) < 3 := by have := (validF_iff.1 HV.out).1; omega
                have hK : okU (1000 / (3 * u)) u = true ∧ A = 1000 / (3 * u) * u := rnd_down_ok HAE.out
                have hsp := splits (D := 3) (u := u) zs HG.out hgd (by omega) (by rw [HM.out]; omega)
                have hM : 0 < 3 * denS zs * u := Int.mul_pos (Int.mul_pos hgd (by rw [HDN.out]; omega)) (by omega)
                have hqt := sumQ_take (M := 3 * denS zs * u) HG.out hM zs
                have hok := fun (z : Int) (hz : z ∈ zs) => share_ok (p := partV z) HG.out hgd hu1 (partV_bd z).1 (partV_le zs hz) hK.1
                rw [HDN.out] at hsp hqt hok hM
                rw [HM.out] at hsp
                obtain ⟨K, hKe⟩ : ∃ K, 1000 / (3 * u) = K := ⟨_, rfl⟩
                obtain ⟨M, hMe⟩ : ∃ M, 3 * dn * u = M := ⟨_, rfl⟩
                rw [hKe] at hK hsp
                rw [hMe] at hsp hqt hok hM
                have hKu : K * u ≤ 1000000000000 := by
                  have h1 := hK.1
                  unfold okU at h1
                  simp only [Bool.and_eq_true, decide_eq_true_eq] at h1
                  exact okU_le hu1 h1.2
                have hK2 := hK.2
                have hSP := Lib.hid hsp
                have HQT := Lib.hid hqt
                have HOK := Lib.hid hok
                have HMM := Lib.hid hM
                have HK2 := Lib.hid hK2
                clear hsp hqt hok hK hK2 hKe hMe hM
                go_loopw [14, 15] (fun s i wr => ∃ (k' : Nat) (Su : Int), k' ≤ k ∧ i = .int .i64 k' ∧ s = .int .i64 Su ∧ sumQ 1000 M (zs.take k') * u = Su ∧ Below w3.heap.size w3 wr) (fun _ i _ => k - (intOf i).toNat)
                case atStart => exact ⟨0, 0, Nat.zero_le _, rfl, rfl, by simp [sumQ], Below.refl _ _⟩
                case round =>
                  obtain ⟨j, Su, hj, rfl, rfl, hSu, hw3⟩ := hrel
                  have hq := HQT.out j
                  obtain ⟨S, hSe⟩ : ∃ S, sumQ 1000 M (zs.take j) = S := ⟨_, rfl⟩
                  rw [hSe] at hq
                  obtain ⟨ST, hST⟩ : ∃ S, sumQ 1000 M zs = S := ⟨_, rfl⟩
                  have hsp := hSP.out
                  rw [hST] at hq hsp
                  obtain ⟨hq0, hq1⟩ := hq
                  obtain ⟨hs0, hs1⟩ := hsp
                  rw [hSe] at hSu
                  have hSu0 : 0 ≤ S * u := Int.mul_nonneg hq0 (by omega)
                  have hSu1 : S * u ≤ K * u := Int.mul_le_mul_of_nonneg_right (by omega) (by omega)
                  have HSE := Lib.hid hSe
                  have HST := Lib.hid hST
                  clear hSe hST
                  have HB4 := Lib.hid (below_then HB3.out hw3)
                  have D04 := Lib.hid (D03.out.below hw3)
                  have D14 := Lib.hid (D13.out.below hw3)
                  have HW3 := Lib.hid hw3
                  by_cases hlt : j < k
                  · obtain ⟨z, hz⟩ : ∃ z, zs[j]? = some z := ⟨zs[j]'(by rw [HM.out]; exact hlt), List.getElem?_eq_getElem _⟩
                    have hcell : ∀ x : BW wr, x.val.cell? ⟨b, off + j, none⟩ = some (.int .i64 z) := fun x => ((HB4.out.trans (x.ok.mono HB4.out.size)).cell (p := ⟨b, off + j, none⟩) hb).trans (HR.out j z hz)
                    have kf0 : ∀ x : BW wr, x.val.cell? ⟨w.heap.size, 0, none⟩ = some (.int .i64 1000) := BW.cells D04.out 0
                    have kf1 : ∀ x : BW wr, x.val.cell? ⟨w.heap.size, 1, none⟩ = some (.int .i64 3) := BW.cells D04.out 1
                    have kr0 : ∀ x : BW wr, x.val.cell? ⟨g, 0, none⟩ = some (.int .i64 1) := BW.cells D14.out 0
                    have kr1 : ∀ x : BW wr, x.val.cell? ⟨g, 1, none⟩ = some (.int .i64 u) := BW.cells D14.out 1
                    have hpk := fun W => made_Pick z 5000 W (by omega) (by omega)
                    have hsh := HOK.out z (List.mem_of_getElem? hz)
                    have hsn : sumQ 1000 M (zs.take (j + 1)) = sumQ 1000 M (zs.take j) + (1000 * partV z) / M := by rw [take_next hz, sumQ_snoc]
                    have hqn := (HQT.out (j + 1))
                    rw [hsn, HSE.out, HST.out] at hqn
                    have hq9 : 0 ≤ (1000 * partV z) / M := Int.ediv_nonneg (Int.mul_nonneg HG.out (by have := partV_bd z; omega)) (by have := HMM.out; omega)
                    obtain ⟨Q, hQ⟩ : ∃ Q, (1000 * partV z) / M = Q := ⟨_, rfl⟩
                    rw [hQ] at hsh hsn hqn hq9
                    unfold partV at hsh
                    have hQu0 : 0 ≤ Q * u := Int.mul_nonneg hq9 (by omega)
                    have hQu1 : S * u + Q * u ≤ K * u := by rw [← Int.add_mul]; exact Int.mul_le_mul_of_nonneg_right (by omega) (by omega)
                    obtain ⟨pz, hpz⟩ : ∃ p, z % 5000 = p := ⟨_, rfl⟩
                    have hpb : 0 ≤ pz ∧ pz < 5000 := by omega
                    rw [hpz] at hpk hsh
                    have hss := shareS_yes (n := 1000) (d := 3) (num := pz + 1) (den := dn) (m := 1) (u := u) HV.out (validR_iff.2 ⟨by omega, by omega, hu1, hu2⟩) (by omega) (by omega) (by omega) (by omega)
                    rw [hsh] at hss
                    have hsc := fun W => money_Share 1000 3 (pz + 1) dn 1 u W
                    rw [hss] at hsc
                    have HSC : Hid (∀ W, Calls Try.prog 26 #[.agg #[.int .i64 1000, .int .i64 3], .int .i64 (pz + 1), .int .i64 dn, .agg #[.int .i64 1, .int .i64 u]] W fun e w' => e = .returned (.tuple #[.int .i64 (Q * u), .int .i64 (0 : Int)]) ∧ Below W.heap.size W w') := Lib.hid hsc
                    have HPK := Lib.hid hpk
                    have V1 : IntKind.i64.wrap (pz + 1) = pz + 1 := IntWalk.i64_in _ (by omega)
                    obtain ⟨Qu, hQu⟩ : ∃ x, Q * u = x := ⟨_, rfl⟩
                    have HSN : Hid (sumQ 1000 M (zs.take (j + 1)) * u = Su + Qu) := Lib.hid (by rw [hsn, HSE.out, Int.add_mul, hSu, hQu])
                    rw [hQu] at HSC hQu0 hQu1
                    rw [hSu] at hSu0 hSu1 hQu1
                    clear hsc hss hsh hsn hqn hpk hpz hz hQ hQu hSu
                    go_wp2_with fail
                    refine wp_region_below (by kernel_rfl) (by kernel_rfl) ?_
                    repeat (go_big_quiet_step (((first | (go_at_call 25; exact bq_same (HPK.out _)) | (go_at_call 26; exact bq_below (HSC.out _))))))
                    refine wpQuiet_nil ?_
                    intro _ hw'
                    obtain ⟨⟨w5, hb5⟩, rfl⟩ := hw'
                    have HB5 := Lib.hid (below_then HW3.out hb5)
                    clear hb5 V1 kf0 kf1 kr0 kr1 hcell
                    go_wp2
                    go_roundw
                    case rel => exact ⟨j + 1, _, by omega, by go_num, rfl, HSN.out, HB5.out⟩
                    case measure => simp [intOf]; omega
                  · obtain rfl : j = k := by omega
                    have hall : zs.take j = zs := List.take_of_length_le (by rw [HM.out]; exact Nat.le_refl _)
                    have hSS : S = ST := by rw [← HSE.out, ← HST.out, hall]
                    have hlt2 : K * u - S * u < (j : Int) * u := by rw [← Int.sub_mul]; exact Int.mul_lt_mul_of_pos_right (by omega) (by omega)
                    have hA := HK2.out
                    rw [← hA, hSu] at hlt2 hSu1
                    have hju : (j : Int) * u ≤ 8 * u := Int.mul_le_mul_of_nonneg_right (by omega) (by omega)
                    have V9 : IntKind.i64.wrap ((j : Int) * u) = (j : Int) * u := IntWalk.i64_in _ (by omega)
                    have T1 : decide (Su ≤ A) = true := decide_eq_true hSu1
                    have T2 : decide (A - Su < (j : Int) * u) = true := decide_eq_true hlt2
                    clear hall hSS hA hSu
                    go_wp2_with fail
                    refine (law4_awake _).mono ?_
                    rintro e w9 ⟨rfl, hb9⟩
                    have HB9 := Lib.hid (below_then HB4.out hb9)
                    obtain ⟨cR, rR⟩ := (D14.out.below hb9).of
                    clear hb9
                    go_wp2
                    go_ret
                    exact ⟨ret_bool (by simp), HB9.out⟩
              · have hEb : (E == 0) = false := beq_eq_false_iff_ne.2 hE
                have hEn : (E != 0) = true := bne_iff_ne.2 hE
                clear hE
                go_loopw [14, 15] (fun s i wr => ∃ (k' : Nat) (sv : Int), k' ≤ k ∧ i = .int .i64 k' ∧ s = .int .i64 sv ∧ Below w3.heap.size w3 wr) (fun _ i _ => k - (intOf i).toNat)
                case atStart => exact ⟨0, 0, Nat.zero_le _, rfl, rfl, Below.refl _ _⟩
                case round =>
                  obtain ⟨j, sv, hj, rfl, rfl, hw3⟩ := hrel
                  have HB4 := Lib.hid (below_then HB3.out hw3)
                  have D04 := Lib.hid (D03.out.below hw3)
                  have D14 := Lib.hid (D13.out.below hw3)
                  have HW3 := Lib.hid hw3
                  by_cases hlt : j < k
                  · obtain ⟨z, hz⟩ : ∃ z, zs[j]? = some z := ⟨zs[j]'(by rw [HM.out]; exact hlt), List.getElem?_eq_getElem _⟩
                    have hcell : ∀ x : BW wr, x.val.cell? ⟨b, off + j, none⟩ = some (.int .i64 z) := fun x => ((HB4.out.trans (x.ok.mono HB4.out.size)).cell (p := ⟨b, off + j, none⟩) hb).trans (HR.out j z hz)
                    have kf0 : ∀ x : BW wr, x.val.cell? ⟨w.heap.size, 0, none⟩ = some (.int .i64 1000) := BW.cells D04.out 0
                    have kf1 : ∀ x : BW wr, x.val.cell? ⟨w.heap.size, 1, none⟩ = some (.int .i64 3) := BW.cells D04.out 1
                    have kr0 : ∀ x : BW wr, x.val.cell? ⟨g, 0, none⟩ = some (.int .i64 1) := BW.cells D14.out 0
                    have kr1 : ∀ x : BW wr, x.val.cell? ⟨g, 1, none⟩ = some (.int .i64 u) := BW.cells D14.out 1
                    have hpk := fun W => made_Pick z 5000 W (by omega) (by omega)
                    obtain ⟨pz, hpz⟩ : ∃ p, z % 5000 = p := ⟨_, rfl⟩
                    have hpb : 0 ≤ pz ∧ pz < 5000 := by omega
                    rw [hpz] at hpk
                    have hsc := fun W => money_Share 1000 3 (pz + 1) dn 1 u W
                    obtain ⟨X, Y, hXY⟩ : ∃ X Y, shareS 1000 3 (pz + 1) dn 1 u = (X, Y) := ⟨_, _, rfl⟩
                    rw [hXY] at hsc
                    have HSC : Hid (∀ W, Calls Try.prog 26 #[.agg #[.int .i64 1000, .int .i64 3], .int .i64 (pz + 1), .int .i64 dn, .agg #[.int .i64 1, .int .i64 u]] W fun e w' => e = .returned (.tuple #[.int .i64 X, .int .i64 Y]) ∧ Below W.heap.size W w') := Lib.hid hsc
                    have HPK := Lib.hid hpk
                    have V1 : IntKind.i64.wrap (pz + 1) = pz + 1 := IntWalk.i64_in _ (by omega)
                    clear hsc hXY hpk hpz hz
                    go_wp2_with fail
                    refine wp_region_below (by kernel_rfl) (by kernel_rfl) ?_
                    repeat (go_big_quiet_step (((first | (go_at_call 25; exact bq_same (HPK.out _)) | (go_at_call 26; exact bq_below (HSC.out _))))))
                    refine wpQuiet_nil ?_
                    intro _ hw'
                    obtain ⟨⟨w5, hb5⟩, rfl⟩ := hw'
                    have HB5 := Lib.hid (below_then HW3.out hb5)
                    clear hb5 V1 kf0 kf1 kr0 kr1 hcell
                    go_wp2
                    go_roundw
                    case rel => exact ⟨j + 1, _, by omega, by go_num, rfl, HB5.out⟩
                    case measure => simp [intOf]; omega
                  · obtain rfl : j = k := by omega
                    go_wp2_with fail
                    refine (law4_awake _).mono ?_
                    rintro e w9 ⟨rfl, hb9⟩
                    have HB9 := Lib.hid (below_then HB4.out hb9)
                    obtain ⟨cR, rR⟩ := (D14.out.below hb9).of
                    clear hb9
                    go_wp2
                    go_ret
                    exact ⟨ret_bool (by simp), HB9.out⟩
      · have HV := Lib.hid hv
        have HG : Hid (0 ≤ f1) := Lib.hid (by omega)
        have hng : decide (f1 < 0) = false := decide_eq_false hneg
        rw [hv] at hvf
        have HVF := Lib.hid hvf
        clear hvf
        go_wp2_with fail
        refine (HVF.out _).mono ?_
        rintro e w2 ⟨rfl, hb2⟩
        have HB2 := Lib.hid (below_then (w := w) (by repeat (first | (with_reducible exact Below.refl _ _) | (with_reducible assumption) | (with_reducible refine below_drewN ?_ _) | (with_reducible refine Below.drew ?_) | (with_reducible refine Below.alloc ?_ ?_ _) | (with_reducible refine Below.setCell ?_ ?_ _) | exact Below.refl _ _ | assumption | (solve | omega | simp | (simp; omega)))) hb2)
        have B2 := Lib.hid (((B0.out.put 0 (.int .i64 f1)).put 1 (.int .i64 f2)).below hb2)
        obtain ⟨c2, r2⟩ := B2.out.of
        clear hb2 c0 r0
        go_upto_region 6 with (fail)
        go_cut [9] (fun a wx => ∃ (g : Nat) (u : Int), a = .pointer (some ⟨g, 0, none⟩) ∧ (1 ≤ u ∧ u ≤ 100000) ∧ Bx wx g 25 #[.int .i64 1, .int .i64 u] ∧ Bx wx w.heap.size 23 #[.int .i64 f1, .int .i64 f2] ∧ Below w.heap.size w wx)
        case first =>
          have HBX := Lib.hid (B2.out)
          have HBW := Lib.hid (HB2.out)
          rcases HPB.out with rfl | rfl | rfl
          · go_wp2_with fail
            refine (HPU.out _).mono ?_
            rintro e _ ⟨rfl, rfl⟩
            go_wp2_with fail
            go_meet
            have hBX := HBX.out
            have hBW := HBW.out
            have hSZ := hBW.size
            (try simp at hSZ)
            exact ⟨_, 1, rfl, ⟨by omega, by omega⟩, (by (with_reducible refine BxP.out ?_); repeat (first | (with_reducible refine BxP.put ?_) | ((with_reducible refine BxP.far ?_ ?_); (focus first | omega | (simp; done) | (simp; omega))) | ((with_reducible refine BxP.made ?_ ?_); (focus first | (with_reducible rfl) | (simp; done)); rfl) | (with_reducible refine BxP.alloc ?_) | (with_reducible refine BxP.drew ?_) | (with_reducible refine BxP.drewN ?_) | exact BxP.of hBX rfl | exact BxP.of B2.out rfl)), (by (with_reducible refine BxP.out ?_); repeat (first | (with_reducible refine BxP.put ?_) | ((with_reducible refine BxP.far ?_ ?_); (focus first | omega | (simp; done) | (simp; omega))) | ((with_reducible refine BxP.made ?_ ?_); (focus first | (with_reducible rfl) | (simp; done)); rfl) | (with_reducible refine BxP.alloc ?_) | (with_reducible refine BxP.drew ?_) | (with_reducible refine BxP.drewN ?_) | exact BxP.of hBX rfl | exact BxP.of B2.out rfl)), (by repeat (first | (with_reducible exact Below.refl _ _) | (with_reducible assumption) | (with_reducible refine below_drewN ?_ _) | (with_reducible refine Below.drew ?_) | (with_reducible refine Below.alloc ?_ ?_ _) | (with_reducible refine Below.setCell ?_ ?_ _) | exact Below.refl _ _ | assumption | (solve | omega | simp | (simp; omega))))⟩
          · go_wp2_with fail
            refine (HPU.out _).mono ?_
            rintro e _ ⟨rfl, rfl⟩
            go_wp2_with fail
            go_meet
            have hBX := HBX.out
            have hBW := HBW.out
            have hSZ := hBW.size
            (try simp at hSZ)
            exact ⟨_, 10, rfl, ⟨by omega, by omega⟩, (by (with_reducible refine BxP.out ?_); repeat (first | (with_reducible refine BxP.put ?_) | ((with_reducible refine BxP.far ?_ ?_); (focus first | omega | (simp; done) | (simp; omega))) | ((with_reducible refine BxP.made ?_ ?_); (focus first | (with_reducible rfl) | (simp; done)); rfl) | (with_reducible refine BxP.alloc ?_) | (with_reducible refine BxP.drew ?_) | (with_reducible refine BxP.drewN ?_) | exact BxP.of hBX rfl | exact BxP.of B2.out rfl)), (by (with_reducible refine BxP.out ?_); repeat (first | (with_reducible refine BxP.put ?_) | ((with_reducible refine BxP.far ?_ ?_); (focus first | omega | (simp; done) | (simp; omega))) | ((with_reducible refine BxP.made ?_ ?_); (focus first | (with_reducible rfl) | (simp; done)); rfl) | (with_reducible refine BxP.alloc ?_) | (with_reducible refine BxP.drew ?_) | (with_reducible refine BxP.drewN ?_) | exact BxP.of hBX rfl | exact BxP.of B2.out rfl)), (by repeat (first | (with_reducible exact Below.refl _ _) | (with_reducible assumption) | (with_reducible refine below_drewN ?_ _) | (with_reducible refine Below.drew ?_) | (with_reducible refine Below.alloc ?_ ?_ _) | (with_reducible refine Below.setCell ?_ ?_ _) | exact Below.refl _ _ | assumption | (solve | omega | simp | (simp; omega))))⟩
          · go_wp2_with fail
            refine (HPU.out _).mono ?_
            rintro e _ ⟨rfl, rfl⟩
            go_wp2_with fail
            go_meet
            have hBX := HBX.out
            have hBW := HBW.out
            have hSZ := hBW.size
            (try simp at hSZ)
            exact ⟨_, 100, rfl, ⟨by omega, by omega⟩, (by (with_reducible refine BxP.out ?_); repeat (first | (with_reducible refine BxP.put ?_) | ((with_reducible refine BxP.far ?_ ?_); (focus first | omega | (simp; done) | (simp; omega))) | ((with_reducible refine BxP.made ?_ ?_); (focus first | (with_reducible rfl) | (simp; done)); rfl) | (with_reducible refine BxP.alloc ?_) | (with_reducible refine BxP.drew ?_) | (with_reducible refine BxP.drewN ?_) | exact BxP.of hBX rfl | exact BxP.of B2.out rfl)), (by (with_reducible refine BxP.out ?_); repeat (first | (with_reducible refine BxP.put ?_) | ((with_reducible refine BxP.far ?_ ?_); (focus first | omega | (simp; done) | (simp; omega))) | ((with_reducible refine BxP.made ?_ ?_); (focus first | (with_reducible rfl) | (simp; done)); rfl) | (with_reducible refine BxP.alloc ?_) | (with_reducible refine BxP.drew ?_) | (with_reducible refine BxP.drewN ?_) | exact BxP.of hBX rfl | exact BxP.of B2.out rfl)), (by repeat (first | (with_reducible exact Below.refl _ _) | (with_reducible assumption) | (with_reducible refine below_drewN ?_ _) | (with_reducible refine Below.drew ?_) | (with_reducible refine Below.alloc ?_ ?_ _) | (with_reducible refine Below.setCell ?_ ?_ _) | exact Below.refl _ _ | assumption | (solve | omega | simp | (simp; omega))))⟩
        case rest =>
          obtain ⟨g, u, rfl, ⟨hu1, hu2⟩, hR0, hF0, hW0⟩ := hcut
          have HBC := Lib.hid hW0
          have D0 := Lib.hid hF0
          have D1 := Lib.hid hR0
          have hrow : RowAt wc b off zs := fun k z hz => (hW0.cell (p := ⟨b, off + k, none⟩) hb).trans (HR.out k z hz)
          have HRW := Lib.hid hrow
          clear hW0 hF0 hR0 hrow
          go_wp2
          go_loop [10, 11] (fun s i => ∃ (k : Nat) (dn : Int), k ≤ m ∧ i = .int .i64 k ∧ s = .int .i64 dn ∧ denS (zs.take k) = dn) (fun _ i => m - (intOf i).toNat)
          case atStart => exact ⟨0, 0, Nat.zero_le _, rfl, rfl, rfl⟩
          case round =>
            obtain ⟨k, dn, hk, rfl, rfl, hdn⟩ := hrel
            have hdb := denS_take zs k
            rw [hdn] at hdb
            obtain ⟨hd0, hd1⟩ := hdb
            by_cases hlt : k < m
            · obtain ⟨z, hz⟩ : ∃ z, zs[k]? = some z := ⟨zs[k]'(by rw [HM.out]; exact hlt), List.getElem?_eq_getElem _⟩
              have hcell : wc.cell? ⟨b, off + k, none⟩ = some (.int .i64 z) := HRW.out k z hz
              have hpk := fun W => made_Pick z 5000 W (by omega) (by omega)
              have hsn : denS (zs.take (k + 1)) = dn + (z % 5000 + 1) := by rw [take_next hz, denS_snoc, hdn]; rfl
              obtain ⟨pz, hpz⟩ : ∃ p, z % 5000 = p := ⟨_, rfl⟩
              have hpb : 0 ≤ pz ∧ pz < 5000 := by omega
              rw [hpz] at hpk hsn
              have HPK := Lib.hid hpk
              have HSN := Lib.hid hsn
              clear hpk hsn hpz hz hdn
              go_wp2_with fail
              refine (HPK.out _).mono ?_
              rintro e _ ⟨rfl, rfl⟩
              go_wp2
              go_round
              case rel => exact ⟨k + 1, _, by omega, by go_num, rfl, HSN.out⟩
              case measure => simp [intOf]; omega
            · obtain rfl : k = m := by omega
              have hall : zs.take k = zs := List.take_of_length_le (by rw [HM.out]; exact Nat.le_refl _)
              have hdl := (denS_bd zs).1
              rw [hall] at hdn
              rw [hdn, HM.out] at hdl
              have HDN := Lib.hid hdn
              clear hdn hall
              have hrs := roundS_yes (n := f1) (d := f2) (m := 1) (u := u) HV.out (validR_iff.2 ⟨by omega, by omega, hu1, hu2⟩)
              have hrd := fun W => money_Round f1 f2 1 u W
              obtain ⟨A, E, hAE⟩ : ∃ A E, rnd 1 u f1 f2 = (A, E) := ⟨_, _, rfl⟩
              rw [hrs, hAE] at hrd
              have HRD : Hid (∀ W, Calls Try.prog 16 #[.agg #[.int .i64 f1, .int .i64 f2], .agg #[.int .i64 1, .int .i64 u]] W fun e w' => e = .returned (.tuple #[.int .i64 A, .int .i64 E]) ∧ Below W.heap.size W w') := Lib.hid hrd
              have HAE := Lib.hid hAE
              clear hrd hrs hAE
              obtain ⟨cF, rF⟩ := D0.out.of
              obtain ⟨cR, rR⟩ := D1.out.of
              go_wp2_with fail
              refine (HRD.out _).mono ?_
              rintro e w3 ⟨rfl, hb3⟩
              have HB3 := Lib.hid (below_then HBC.out hb3)
              have D03 := Lib.hid (D0.out.below hb3)
              have D13 := Lib.hid (D1.out.below hb3)
              have hrow3 : RowAt w3 b off zs := fun k z hz => (HB3.out.cell (p := ⟨b, off + k, none⟩) hb).trans (HR.out k z hz)
              have HRW3 := Lib.hid hrow3
              clear hb3 hrow3 cF rF cR rR
              go_wp2
              by_cases hE : E = 0
              · subst hE
                have hgd : (0 : Int) < f2 := by have := (validF_iff.1 HV.out).1; omega
                have hK : okU (f1 / (f2 * u)) u = true ∧ A = f1 / (f2 * u) * u := rnd_down_ok HAE.out
                have hsp := splits (D := f2) (u := u) zs HG.out hgd (by omega) (by rw [HM.out]; omega)
                have hM : 0 < f2 * denS zs * u := Int.mul_pos (Int.mul_pos hgd (by rw [HDN.out]; omega)) (by omega)
                have hqt := sumQ_take (M := f2 * denS zs * u) HG.out hM zs
                have hok := fun (z : Int) (hz : z ∈ zs) => share_ok (p := partV z) HG.out hgd hu1 (partV_bd z).1 (partV_le zs hz) hK.1
                rw [HDN.out] at hsp hqt hok hM
                rw [HM.out] at hsp
                obtain ⟨K, hKe⟩ : ∃ K, f1 / (f2 * u) = K := ⟨_, rfl⟩
                obtain ⟨M, hMe⟩ : ∃ M, f2 * dn * u = M := ⟨_, rfl⟩
                rw [hKe] at hK hsp
                rw [hMe] at hsp hqt hok hM
                have hKu : K * u ≤ 1000000000000 := by
                  have h1 := hK.1
                  unfold okU at h1
                  simp only [Bool.and_eq_true, decide_eq_true_eq] at h1
                  exact okU_le hu1 h1.2
                have hK2 := hK.2
                have hSP := Lib.hid hsp
                have HQT := Lib.hid hqt
                have HOK := Lib.hid hok
                have HMM := Lib.hid hM
                have HK2 := Lib.hid hK2
                clear hsp hqt hok hK hK2 hKe hMe hM
                go_loopw [14, 15] (fun s i wr => ∃ (k' : Nat) (Su : Int), k' ≤ k ∧ i = .int .i64 k' ∧ s = .int .i64 Su ∧ sumQ f1 M (zs.take k') * u = Su ∧ Below w3.heap.size w3 wr) (fun _ i _ => k - (intOf i).toNat)
                case atStart => exact ⟨0, 0, Nat.zero_le _, rfl, rfl, by simp [sumQ], Below.refl _ _⟩
                case round =>
                  obtain ⟨j, Su, hj, rfl, rfl, hSu, hw3⟩ := hrel
                  have hq := HQT.out j
                  obtain ⟨S, hSe⟩ : ∃ S, sumQ f1 M (zs.take j) = S := ⟨_, rfl⟩
                  rw [hSe] at hq
                  obtain ⟨ST, hST⟩ : ∃ S, sumQ f1 M zs = S := ⟨_, rfl⟩
                  have hsp := hSP.out
                  rw [hST] at hq hsp
                  obtain ⟨hq0, hq1⟩ := hq
                  obtain ⟨hs0, hs1⟩ := hsp
                  rw [hSe] at hSu
                  have hSu0 : 0 ≤ S * u := Int.mul_nonneg hq0 (by omega)
                  have hSu1 : S * u ≤ K * u := Int.mul_le_mul_of_nonneg_right (by omega) (by omega)
                  have HSE := Lib.hid hSe
                  have HST := Lib.hid hST
                  clear hSe hST
                  have HB4 := Lib.hid (below_then HB3.out hw3)
                  have D04 := Lib.hid (D03.out.below hw3)
                  have D14 := Lib.hid (D13.out.below hw3)
                  have HW3 := Lib.hid hw3
                  by_cases hlt : j < k
                  · obtain ⟨z, hz⟩ : ∃ z, zs[j]? = some z := ⟨zs[j]'(by rw [HM.out]; exact hlt), List.getElem?_eq_getElem _⟩
                    have hcell : ∀ x : BW wr, x.val.cell? ⟨b, off + j, none⟩ = some (.int .i64 z) := fun x => ((HB4.out.trans (x.ok.mono HB4.out.size)).cell (p := ⟨b, off + j, none⟩) hb).trans (HR.out j z hz)
                    have kf0 : ∀ x : BW wr, x.val.cell? ⟨w.heap.size, 0, none⟩ = some (.int .i64 f1) := BW.cells D04.out 0
                    have kf1 : ∀ x : BW wr, x.val.cell? ⟨w.heap.size, 1, none⟩ = some (.int .i64 f2) := BW.cells D04.out 1
                    have kr0 : ∀ x : BW wr, x.val.cell? ⟨g, 0, none⟩ = some (.int .i64 1) := BW.cells D14.out 0
                    have kr1 : ∀ x : BW wr, x.val.cell? ⟨g, 1, none⟩ = some (.int .i64 u) := BW.cells D14.out 1
                    have hpk := fun W => made_Pick z 5000 W (by omega) (by omega)
                    have hsh := HOK.out z (List.mem_of_getElem? hz)
                    have hsn : sumQ f1 M (zs.take (j + 1)) = sumQ f1 M (zs.take j) + (f1 * partV z) / M := by rw [take_next hz, sumQ_snoc]
                    have hqn := (HQT.out (j + 1))
                    rw [hsn, HSE.out, HST.out] at hqn
                    have hq9 : 0 ≤ (f1 * partV z) / M := Int.ediv_nonneg (Int.mul_nonneg HG.out (by have := partV_bd z; omega)) (by have := HMM.out; omega)
                    obtain ⟨Q, hQ⟩ : ∃ Q, (f1 * partV z) / M = Q := ⟨_, rfl⟩
                    rw [hQ] at hsh hsn hqn hq9
                    unfold partV at hsh
                    have hQu0 : 0 ≤ Q * u := Int.mul_nonneg hq9 (by omega)
                    have hQu1 : S * u + Q * u ≤ K * u := by rw [← Int.add_mul]; exact Int.mul_le_mul_of_nonneg_right (by omega) (by omega)
                    obtain ⟨pz, hpz⟩ : ∃ p, z % 5000 = p := ⟨_, rfl⟩
                    have hpb : 0 ≤ pz ∧ pz < 5000 := by omega
                    rw [hpz] at hpk hsh
                    have hss := shareS_yes (n := f1) (d := f2) (num := pz + 1) (den := dn) (m := 1) (u := u) HV.out (validR_iff.2 ⟨by omega, by omega, hu1, hu2⟩) (by omega) (by omega) (by omega) (by omega)
                    rw [hsh] at hss
                    have hsc := fun W => money_Share f1 f2 (pz + 1) dn 1 u W
                    rw [hss] at hsc
                    have HSC : Hid (∀ W, Calls Try.prog 26 #[.agg #[.int .i64 f1, .int .i64 f2], .int .i64 (pz + 1), .int .i64 dn, .agg #[.int .i64 1, .int .i64 u]] W fun e w' => e = .returned (.tuple #[.int .i64 (Q * u), .int .i64 (0 : Int)]) ∧ Below W.heap.size W w') := Lib.hid hsc
                    have HPK := Lib.hid hpk
                    have V1 : IntKind.i64.wrap (pz + 1) = pz + 1 := IntWalk.i64_in _ (by omega)
                    obtain ⟨Qu, hQu⟩ : ∃ x, Q * u = x := ⟨_, rfl⟩
                    have HSN : Hid (sumQ f1 M (zs.take (j + 1)) * u = Su + Qu) := Lib.hid (by rw [hsn, HSE.out, Int.add_mul, hSu, hQu])
                    rw [hQu] at HSC hQu0 hQu1
                    rw [hSu] at hSu0 hSu1 hQu1
                    clear hsc hss hsh hsn hqn hpk hpz hz hQ hQu hSu
                    go_wp2_with fail
                    refine wp_region_below (by kernel_rfl) (by kernel_rfl) ?_
                    repeat (go_big_quiet_step (((first | (go_at_call 25; exact bq_same (HPK.out _)) | (go_at_call 26; exact bq_below (HSC.out _))))))
                    refine wpQuiet_nil ?_
                    intro _ hw'
                    obtain ⟨⟨w5, hb5⟩, rfl⟩ := hw'
                    have HB5 := Lib.hid (below_then HW3.out hb5)
                    clear hb5 V1 kf0 kf1 kr0 kr1 hcell
                    go_wp2
                    go_roundw
                    case rel => exact ⟨j + 1, _, by omega, by go_num, rfl, HSN.out, HB5.out⟩
                    case measure => simp [intOf]; omega
                  · obtain rfl : j = k := by omega
                    have hall : zs.take j = zs := List.take_of_length_le (by rw [HM.out]; exact Nat.le_refl _)
                    have hSS : S = ST := by rw [← HSE.out, ← HST.out, hall]
                    have hlt2 : K * u - S * u < (j : Int) * u := by rw [← Int.sub_mul]; exact Int.mul_lt_mul_of_pos_right (by omega) (by omega)
                    have hA := HK2.out
                    rw [← hA, hSu] at hlt2 hSu1
                    have hju : (j : Int) * u ≤ 8 * u := Int.mul_le_mul_of_nonneg_right (by omega) (by omega)
                    have V9 : IntKind.i64.wrap ((j : Int) * u) = (j : Int) * u := IntWalk.i64_in _ (by omega)
                    have T1 : decide (Su ≤ A) = true := decide_eq_true hSu1
                    have T2 : decide (A - Su < (j : Int) * u) = true := decide_eq_true hlt2
                    clear hall hSS hA hSu
                    go_wp2_with fail
                    refine (law4_awake _).mono ?_
                    rintro e w9 ⟨rfl, hb9⟩
                    have HB9 := Lib.hid (below_then HB4.out hb9)
                    obtain ⟨cR, rR⟩ := (D14.out.below hb9).of
                    clear hb9
                    go_wp2
                    go_ret
                    exact ⟨ret_bool (by simp), HB9.out⟩
              · have hEb : (E == 0) = false := beq_eq_false_iff_ne.2 hE
                have hEn : (E != 0) = true := bne_iff_ne.2 hE
                clear hE
                go_loopw [14, 15] (fun s i wr => ∃ (k' : Nat) (sv : Int), k' ≤ k ∧ i = .int .i64 k' ∧ s = .int .i64 sv ∧ Below w3.heap.size w3 wr) (fun _ i _ => k - (intOf i).toNat)
                case atStart => exact ⟨0, 0, Nat.zero_le _, rfl, rfl, Below.refl _ _⟩
                case round =>
                  obtain ⟨j, sv, hj, rfl, rfl, hw3⟩ := hrel
                  have HB4 := Lib.hid (below_then HB3.out hw3)
                  have D04 := Lib.hid (D03.out.below hw3)
                  have D14 := Lib.hid (D13.out.below hw3)
                  have HW3 := Lib.hid hw3
                  by_cases hlt : j < k
                  · obtain ⟨z, hz⟩ : ∃ z, zs[j]? = some z := ⟨zs[j]'(by rw [HM.out]; exact hlt), List.getElem?_eq_getElem _⟩
                    have hcell : ∀ x : BW wr, x.val.cell? ⟨b, off + j, none⟩ = some (.int .i64 z) := fun x => ((HB4.out.trans (x.ok.mono HB4.out.size)).cell (p := ⟨b, off + j, none⟩) hb).trans (HR.out j z hz)
                    have kf0 : ∀ x : BW wr, x.val.cell? ⟨w.heap.size, 0, none⟩ = some (.int .i64 f1) := BW.cells D04.out 0
                    have kf1 : ∀ x : BW wr, x.val.cell? ⟨w.heap.size, 1, none⟩ = some (.int .i64 f2) := BW.cells D04.out 1
                    have kr0 : ∀ x : BW wr, x.val.cell? ⟨g, 0, none⟩ = some (.int .i64 1) := BW.cells D14.out 0
                    have kr1 : ∀ x : BW wr, x.val.cell? ⟨g, 1, none⟩ = some (.int .i64 u) := BW.cells D14.out 1
                    have hpk := fun W => made_Pick z 5000 W (by omega) (by omega)
                    obtain ⟨pz, hpz⟩ : ∃ p, z % 5000 = p := ⟨_, rfl⟩
                    have hpb : 0 ≤ pz ∧ pz < 5000 := by omega
                    rw [hpz] at hpk
                    have hsc := fun W => money_Share f1 f2 (pz + 1) dn 1 u W
                    obtain ⟨X, Y, hXY⟩ : ∃ X Y, shareS f1 f2 (pz + 1) dn 1 u = (X, Y) := ⟨_, _, rfl⟩
                    rw [hXY] at hsc
                    have HSC : Hid (∀ W, Calls Try.prog 26 #[.agg #[.int .i64 f1, .int .i64 f2], .int .i64 (pz + 1), .int .i64 dn, .agg #[.int .i64 1, .int .i64 u]] W fun e w' => e = .returned (.tuple #[.int .i64 X, .int .i64 Y]) ∧ Below W.heap.size W w') := Lib.hid hsc
                    have HPK := Lib.hid hpk
                    have V1 : IntKind.i64.wrap (pz + 1) = pz + 1 := IntWalk.i64_in _ (by omega)
                    clear hsc hXY hpk hpz hz
                    go_wp2_with fail
                    refine wp_region_below (by kernel_rfl) (by kernel_rfl) ?_
                    repeat (go_big_quiet_step (((first | (go_at_call 25; exact bq_same (HPK.out _)) | (go_at_call 26; exact bq_below (HSC.out _))))))
                    refine wpQuiet_nil ?_
                    intro _ hw'
                    obtain ⟨⟨w5, hb5⟩, rfl⟩ := hw'
                    have HB5 := Lib.hid (below_then HW3.out hb5)
                    clear hb5 V1 kf0 kf1 kr0 kr1 hcell
                    go_wp2
                    go_roundw
                    case rel => exact ⟨j + 1, _, by omega, by go_num, rfl, HB5.out⟩
                    case measure => simp [intOf]; omega
                  · obtain rfl : j = k := by omega
                    go_wp2_with fail
                    refine (law4_awake _).mono ?_
                    rintro e w9 ⟨rfl, hb9⟩
                    have HB9 := Lib.hid (below_then HB4.out hb9)
                    obtain ⟨cR, rR⟩ := (D14.out.below hb9).of
                    clear hb9
                    go_wp2
                    go_ret
                    exact ⟨ret_bool (by simp), HB9.out⟩

theorem walk_MoneySplits (n d : Int) (v : Value) {w0 : World} (h : (∃ A c, v = .slice A 0 c) ∨ ∃ b off n c zs, v = .slice (some ⟨b, off, none⟩) n c ∧ 0 < n ∧ zs.length = n ∧ RowAt w0 b off zs ∧ b < w0.heap.size ∧ n ≤ maxLen ∧ ∀ z ∈ zs, (Lit.int .i64 z).wf = true) (unit mood : Int) (w : World) (hw : w0 = w := by rfl) :
    Calls Try.prog 7 #[.agg #[.int .i64 n, .int .i64 d], v, .int .i64 unit, .int .i64 mood] w fun e w' => e = .returned (.bool true) ∧ Below w.heap.size w w' := by
  subst hw
  rcases h with ⟨A, c, rfl⟩ | ⟨b, off, m, c, zs, rfl, hpos, hn, hr, hb, _, _⟩
  · exact walk_MoneySplits0 n d unit mood A c w0
  · exact walk_MoneySplits1 n d unit mood zs m b off c w0 hn hr hb hpos
end Go.Proofs.Ytnhbidagnomkpaa
