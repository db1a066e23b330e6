/-
  ReductionRejects: the walk.
-/
import Derived.Test.YthpknbflmcoanaaDoorGtb
import Derived.Test.YthpknbflmcoanaaDoorAwk
namespace Go.Proofs.YthpknbflmcoanaaDoor
open Go.RowKit Mny

set_option maxRecDepth 100000 in
set_option maxHeartbeats 8000000 in
theorem walk_ReductionRejects (l : List Gr) (rt : List Rt) (m : Int) (v tv : Value) (W : World) (hg : GTb W v l) (hT : Tab W tv rt) (hD : DownAt W) : Calls Tryd.prog 8 #[v, tv, .int .i64 m] W fun e w' => e = .returned (.bool true) ∧ Below W.heap.size W w' := by
  have HG := Lib.hid hg
  have HT := Lib.hid hT
  have HD := Lib.hid hD
  clear hg hT hD
  cases hv : valG l
  · have hdb : dedB l rt m = false := by unfold dedB; rw [hv]; rfl
    have HDE := Lib.hid (appR_no (l := l) (rt := rt) (m := m) hdb).2
    have HAP := Lib.hid (appR_no (l := l) (rt := rt) (m := m) hdb).1
    clear hdb
    have hv0 := ref_ValidGross HG.out
    rw [hv] at hv0
    have HV := Lib.hid hv0
    clear hv0
    clear hv
    go_enter Tryd.func8, Tryd.ntmps8
    go_wp2_with fail
    refine (HV.out).mono ?_
    rintro e w1 ⟨rfl, hb1⟩
    have HB1 := Lib.hid hb1
    clear hb1
    have h1 := red_Deductions (HG.out.below HB1.out) (HT.out.below HB1.out) (HD.out.below HB1.out) m
    rw [HDE.out] at h1
    have HR1 := Lib.hid h1
    clear h1
    go_wp2_with fail
    refine (HR1.out).mono ?_
    rintro e wa ⟨va, rfl, hna, hba⟩
    obtain ⟨Aa, ca, rfl⟩ := hna.cut
    have HA := Lib.hid (below_then HB1.out hba)
    clear hna hba
    have h2 := red_Apply (HG.out.below HA.out) (HT.out.below HA.out) (HD.out.below HA.out) m
    rw [HAP.out] at h2
    have HR2 := Lib.hid h2
    clear h2
    go_wp2_with fail
    refine (HR2.out).mono ?_
    rintro e wb ⟨vb, rfl, hnb, hbb⟩
    obtain ⟨Ab, cb, rfl⟩ := hnb.cut
    have HB := Lib.hid (below_then HA.out hbb)
    clear hnb hbb
    simp only [List.length_nil]
    go_wp2_with fail
    refine (red_awake _ (HD.out.below HB.out)).mono ?_
    rintro e wc ⟨rfl, hbc⟩
    have HC := Lib.hid (below_then HB.out hbc)
    clear hbc
    have hbz := HC.out
    go_wp2
    go_ret
    exact ⟨rfl, (by repeat (first | (with_reducible exact Below.refl _ _) | (with_reducible assumption) | (with_reducible refine below_drewN ?_ _) | (with_reducible refine Below.drew ?_) | (with_reducible refine Below.alloc ?_ ?_ _) | (with_reducible refine Below.setCell ?_ ?_ _) | exact Below.refl _ _ | assumption | (solve | omega | simp | (simp; omega))))⟩
  · have hv0 := ref_ValidGross HG.out
    rw [hv] at hv0
    have HV := Lib.hid hv0
    clear hv0
    cases hm : inB 0 2399 m
    · have hdb : dedB l rt m = false := by unfold dedB; rw [hm, Bool.false_and, Bool.and_false]
      have HDE := Lib.hid (appR_no (l := l) (rt := rt) (m := m) hdb).2
      have HAP := Lib.hid (appR_no (l := l) (rt := rt) (m := m) hdb).1
      clear hdb
      have hm0 := fun W => ref_ValidMonth m W
      rw [hm] at hm0
      have HM := Lib.hid hm0
      clear hm0
      clear hv hm
      go_enter Tryd.func8, Tryd.ntmps8
      go_wp2_with fail
      refine (HV.out).mono ?_
      rintro e w1 ⟨rfl, hb1⟩
      have HB1 := Lib.hid hb1
      clear hb1
      go_wp2_with fail
      refine (HM.out _).mono ?_
      rintro e w2 ⟨rfl, rfl⟩
      have h1 := red_Deductions (HG.out.below HB1.out) (HT.out.below HB1.out) (HD.out.below HB1.out) m
      rw [HDE.out] at h1
      have HR1 := Lib.hid h1
      clear h1
      go_wp2_with fail
      refine (HR1.out).mono ?_
      rintro e wa ⟨va, rfl, hna, hba⟩
      obtain ⟨Aa, ca, rfl⟩ := hna.cut
      have HA := Lib.hid (below_then HB1.out hba)
      clear hna hba
      have h2 := red_Apply (HG.out.below HA.out) (HT.out.below HA.out) (HD.out.below HA.out) m
      rw [HAP.out] at h2
      have HR2 := Lib.hid h2
      clear h2
      go_wp2_with fail
      refine (HR2.out).mono ?_
      rintro e wb ⟨vb, rfl, hnb, hbb⟩
      obtain ⟨Ab, cb, rfl⟩ := hnb.cut
      have HB := Lib.hid (below_then HA.out hbb)
      clear hnb hbb
      simp only [List.length_nil]
      go_wp2_with fail
      refine (red_awake _ (HD.out.below HB.out)).mono ?_
      rintro e wc ⟨rfl, hbc⟩
      have HC := Lib.hid (below_then HB.out hbc)
      clear hbc
      have hbz := HC.out
      go_wp2
      go_ret
      exact ⟨rfl, (by repeat (first | (with_reducible exact Below.refl _ _) | (with_reducible assumption) | (with_reducible refine below_drewN ?_ _) | (with_reducible refine Below.drew ?_) | (with_reducible refine Below.alloc ?_ ?_ _) | (with_reducible refine Below.setCell ?_ ?_ _) | exact Below.refl _ _ | assumption | (solve | omega | simp | (simp; omega))))⟩
    · have hm0 := fun W => ref_ValidMonth m W
      rw [hm] at hm0
      have HM := Lib.hid hm0
      clear hm0
      have hc0 := fun (W2 : World) (h : Below W.heap.size W W2) => ref_CheckRates (HT.out.below h)
      have HCR := Lib.hid hc0
      clear hc0
      by_cases hc : chkS rt = 0
      · have hdb : dedB l rt m = true := by unfold dedB; rw [hv, hm, decide_eq_true hc]; rfl
        have HDE := Lib.hid (appR_yes (l := l) (rt := rt) (m := m) hdb).2
        have HAP := Lib.hid (appR_yes (l := l) (rt := rt) (m := m) hdb).1
        clear hdb
        have cc : (chkS rt != 0) = false := bne_eq_false_iff_eq.2 hc
        clear hv hm hc
        go_enter Tryd.func8, Tryd.ntmps8
        go_wp2_with fail
        refine (HV.out).mono ?_
        rintro e w1 ⟨rfl, hb1⟩
        have HB1 := Lib.hid hb1
        clear hb1
        go_wp2_with fail
        refine (HM.out _).mono ?_
        rintro e w2 ⟨rfl, rfl⟩
        go_wp2_with fail
        refine (HCR.out _ HB1.out).mono ?_
        rintro e w3 ⟨rfl, hb3⟩
        have HB3 := Lib.hid (below_then HB1.out hb3)
        clear hb3
        have h1 := red_Deductions (HG.out.below HB3.out) (HT.out.below HB3.out) (HD.out.below HB3.out) m
        rw [HDE.out] at h1
        have HR1 := Lib.hid h1
        clear h1
        go_wp2_with fail
        refine (HR1.out).mono ?_
        rintro e wa ⟨va, rfl, hna, hba⟩
        obtain ⟨Aa, ca, rfl⟩ := hna.cut
        have HA := Lib.hid (below_then HB3.out hba)
        clear hna hba
        have h2 := red_Apply (HG.out.below HA.out) (HT.out.below HA.out) (HD.out.below HA.out) m
        rw [HAP.out] at h2
        have HR2 := Lib.hid h2
        clear h2
        go_wp2_with fail
        refine (HR2.out).mono ?_
        rintro e wb ⟨vb, rfl, hnb, hbb⟩
        obtain ⟨Ab, cb, rfl⟩ := hnb.cut
        have HB := Lib.hid (below_then HA.out hbb)
        clear hnb hbb
        go_wp2_with fail
        refine (red_awake _ (HD.out.below HB.out)).mono ?_
        rintro e wc ⟨rfl, hbc⟩
        have HC := Lib.hid (below_then HB.out hbc)
        clear hbc
        have hbz := HC.out
        go_wp2
        go_ret
        exact ⟨rfl, (by repeat (first | (with_reducible exact Below.refl _ _) | (with_reducible assumption) | (with_reducible refine below_drewN ?_ _) | (with_reducible refine Below.drew ?_) | (with_reducible refine Below.alloc ?_ ?_ _) | (with_reducible refine Below.setCell ?_ ?_ _) | exact Below.refl _ _ | assumption | (solve | omega | simp | (simp; omega))))⟩
      · have hdb : dedB l rt m = false := by unfold dedB; rw [decide_eq_false hc, Bool.and_false, Bool.and_false]
        have HDE := Lib.hid (appR_no (l := l) (rt := rt) (m := m) hdb).2
        have HAP := Lib.hid (appR_no (l := l) (rt := rt) (m := m) hdb).1
        clear hdb
        have cc : (chkS rt != 0) = true := bne_iff_ne.2 hc
        clear hv hm hc
        go_enter Tryd.func8, Tryd.ntmps8
        go_wp2_with fail
        refine (HV.out).mono ?_
        rintro e w1 ⟨rfl, hb1⟩
        have HB1 := Lib.hid hb1
        clear hb1
        go_wp2_with fail
        refine (HM.out _).mono ?_
        rintro e w2 ⟨rfl, rfl⟩
        go_wp2_with fail
        refine (HCR.out _ HB1.out).mono ?_
        rintro e w3 ⟨rfl, hb3⟩
        have HB3 := Lib.hid (below_then HB1.out hb3)
        clear hb3
        have h1 := red_Deductions (HG.out.below HB3.out) (HT.out.below HB3.out) (HD.out.below HB3.out) m
        rw [HDE.out] at h1
        have HR1 := Lib.hid h1
        clear h1
        go_wp2_with fail
        refine (HR1.out).mono ?_
        rintro e wa ⟨va, rfl, hna, hba⟩
        obtain ⟨Aa, ca, rfl⟩ := hna.cut
        have HA := Lib.hid (below_then HB3.out hba)
        clear hna hba
        have h2 := red_Apply (HG.out.below HA.out) (HT.out.below HA.out) (HD.out.below HA.out) m
        rw [HAP.out] at h2
        have HR2 := Lib.hid h2
        clear h2
        go_wp2_with fail
        refine (HR2.out).mono ?_
        rintro e wb ⟨vb, rfl, hnb, hbb⟩
        obtain ⟨Ab, cb, rfl⟩ := hnb.cut
        have HB := Lib.hid (below_then HA.out hbb)
        clear hnb hbb
        simp only [List.length_nil]
        go_wp2_with fail
        refine (red_awake _ (HD.out.below HB.out)).mono ?_
        rintro e wc ⟨rfl, hbc⟩
        have HC := Lib.hid (below_then HB.out hbc)
        clear hbc
        have hbz := HC.out
        go_wp2
        go_ret
        exact ⟨rfl, (by repeat (first | (with_reducible exact Below.refl _ _) | (with_reducible assumption) | (with_reducible refine below_drewN ?_ _) | (with_reducible refine Below.drew ?_) | (with_reducible refine Below.alloc ?_ ?_ _) | (with_reducible refine Below.setCell ?_ ?_ _) | exact Below.refl _ _ | assumption | (solve | omega | simp | (simp; omega))))⟩
end Go.Proofs.YthpknbflmcoanaaDoor
