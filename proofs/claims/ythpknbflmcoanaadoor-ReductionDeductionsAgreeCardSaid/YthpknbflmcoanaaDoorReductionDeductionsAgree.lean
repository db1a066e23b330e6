/-
  ReductionDeductionsAgree: the walk.
-/
import Derived.Test.YthpknbflmcoanaaDoorHand
namespace Go.Proofs.YthpknbflmcoanaaDoor
open Go.RowKit Mny

set_option maxRecDepth 100000 in
set_option maxHeartbeats 16000000 in
theorem walk_ReductionDeductionsAgree (v0 v1 : Value) (m : Int) (W : World) (h0 : RawTb W v0) (h1 : IntsIn W v1) (hD : DownAt W) : Calls Tryd.prog 7 #[v0, v1, .int .i64 m] W fun e w' => e = .returned (.bool true) ∧ Below W.heap.size W w' := by
  have HI := Lib.hid h1
  have HD := Lib.hid hD
  clear h1 hD
  go_enter Tryd.func7, Tryd.ntmps7
  go_wp2_with fail
  refine (law_List v0 W h0).mono ?_
  rintro e w1 ⟨va, xs, rfl, hx9, hgt, hown, hb1⟩
  have HB1 := Lib.hid hb1
  have HOW := Lib.hid hown
  have HG1 := Lib.hid (GTb.own hown rfl (by omega))
  have HVG := Lib.hid (hgt.val hx9)
  clear hb1 hown hgt
  have hs1 := HB1.out.size
  go_wp2_with fail
  refine (plain_Rates v1 _ (HI.out.below HB1.out)).mono ?_
  rintro e w2 ⟨vb, rt, rfl, hck, hr6, htab, hb2⟩
  have HB2 := Lib.hid (below_then HB1.out hb2)
  have HG := Lib.hid (HG1.out.below hb2)
  have HT := Lib.hid htab
  have HCK := Lib.hid hck
  clear hb2 htab hck hr6
  have hs2 := HB2.out.size
  have HD2 := Lib.hid (HD.out.below HB2.out)
  go_wp2_with fail
  refine (plain_Mod _ 2400 _ (by decide) (by decide)).mono ?_
  rintro e w' ⟨rfl, rfl⟩
  obtain ⟨mm, hmm⟩ : ∃ q, m % 2400 = q := ⟨_, rfl⟩
  have mm0 : 0 ≤ mm := by rw [← hmm]; exact Int.emod_nonneg _ (by decide)
  have mm1 : mm ≤ 2399 := by have := Int.emod_lt_of_pos m (show (0 : Int) < 2400 by decide); omega
  rw [hmm]
  clear hmm
  have HDB := Lib.hid (ded_all HVG.out HCK.out mm0 mm1)
  have HDE := Lib.hid (appR_yes HDB.out).2
  have HAP := Lib.hid (appR_yes HDB.out).1
  have h3 := red_Deductions HG.out HT.out HD2.out mm
  rw [HDE.out] at h3
  have H3 := Lib.hid h3
  clear h3
  go_wp2_with fail
  refine (H3.out).mono ?_
  rintro e w3 ⟨vd, rfl, hd, hb3⟩
  have HB3 := Lib.hid hb3
  have HTD := Lib.hid hd
  clear hd hb3
  have h4 := ref_Deductions (HG.out.below HB3.out) (HT.out.below HB3.out) mm
  rw [HDE.out] at h4
  have H4 := Lib.hid h4
  clear h4
  go_wp2_with fail
  refine (H4.out).mono ?_
  rintro e w4 ⟨ve, rfl, he, hb4⟩
  have HB4 := Lib.hid (below_then HB3.out hb4)
  have HTE := Lib.hid he
  have HW4 := Lib.hid hb4
  clear he hb4
  go_wp2_with fail
  refine (red_awake _ (HD2.out.below HB4.out)).mono ?_
  rintro e w5 ⟨rfl, hb5⟩
  have HB5 := Lib.hid (below_then HB4.out hb5)
  have HS := Lib.hid (plain_SameD _ _ _ w5 ((HTD.out.below HW4.out).below hb5) (HTE.out.below hb5) (by have := dedS_len (l := xs) (rt := rt) (m := mm) (by omega); omega))
  clear hb5
  go_wp2_with fail
  refine (HS.out).mono ?_
  rintro e w6 ⟨rfl, hb6⟩
  have HB6 := Lib.hid (HB2.out.trans ((below_then HB5.out hb6).mono hs2))
  clear hb6
  have hbz := HB6.out
  go_wp2
  go_ret
  exact ⟨rfl, (by repeat (first | (with_reducible exact Below.refl _ _) | (with_reducible assumption) | (with_reducible refine below_drewN ?_ _) | (with_reducible refine Below.drew ?_) | (with_reducible refine Below.alloc ?_ ?_ _) | (with_reducible refine Below.setCell ?_ ?_ _) | exact Below.refl _ _ | assumption | (solve | omega | simp | (simp; omega))))⟩
end Go.Proofs.YthpknbflmcoanaaDoor
