/-
  ReductionRejectsInvalidElements: the walk.
-/
import Derived.Test.YthpknbflmcoanaaDoorOwnV
import Derived.Test.YthpknbflmcoanaaDoorCopy
namespace Go.Proofs.YthpknbflmcoanaaDoor
open Go.RowKit Mny

set_option maxRecDepth 100000 in
set_option maxHeartbeats 16000000 in
theorem walk_ReductionRejectsInvalidElements (v0 v1 : Value) (m af ad : Int) (W : World) (h0 : RawTb W v0) (h1 : IntsIn W v1) (hD : DownAt W) : Calls Tryd.prog 9 #[v0, v1, .int .i64 m, .int .i64 af, .int .i64 ad] W fun e w' => e = .returned (.bool true) ∧ Below W.heap.size W w' := by
  have HI := Lib.hid h1
  have HD := Lib.hid hD
  clear h1 hD
  obtain ⟨j0, hj, hy0, hy1, hy2⟩ := info_parts info_gross
  obtain ⟨i0, hi, hz0, hz1, hz2⟩ := info_parts info_rate
  go_enter Tryd.func9, Tryd.ntmps9
  go_wp2_with fail
  refine (law_List v0 W h0).mono ?_
  rintro e w1 ⟨va, xs, rfl, hx9, hgt, hown, hb1⟩
  have HB1 := Lib.hid hb1
  have HOW := Lib.hid hown
  have HG1 := Lib.hid (GTb.own hown rfl (by omega))
  have HVG := Lib.hid (hgt.val hx9)
  clear hb1 hown hgt
  have hs1 := HB1.out.size
  go_wp2_with fail
  refine (plain_Rates2 v1 _ (HI.out.below HB1.out)).mono ?_
  rintro e w2 ⟨vb, rt, rfl, hck, hr6, hownr, hb2⟩
  have HB2 := Lib.hid (below_then HB1.out hb2)
  have HG := Lib.hid (HG1.out.below hb2)
  have HOW2 := Lib.hid (own_below HOW.out hb2)
  have HOR := Lib.hid hownr
  have HT := Lib.hid (Tab.own hownr rfl (by omega))
  have HCK := Lib.hid hck
  clear hb2 hownr hck hr6
  have hs2 := HB2.out.size
  have HD2 := Lib.hid (HD.out.below HB2.out)
  go_wp2_with fail
  refine (plain_Mod _ 2400 _ (by decide) (by decide)).mono ?_
  rintro e w' ⟨rfl, rfl⟩
  obtain ⟨mm, hmm⟩ : ∃ q, m % 2400 = q := ⟨_, rfl⟩
  have mm0 : 0 ≤ mm := by rw [← hmm]; exact Int.emod_nonneg _ (by decide)
  have mm1 : mm ≤ 2399 := by have := Int.emod_lt_of_pos m (show (0 : Int) < 2400 by decide); omega
  rw [hmm]
  clear hmm
  have HDB := Lib.hid (ded_all HVG.out HCK.out mm0 mm1)
  have HDE := Lib.hid (appR_yes HDB.out).2
  have HAP := Lib.hid (appR_yes HDB.out).1
  have HR6 : Hid (rt.length ≤ 40) := Lib.hid (by
    have h := HCK.out
    unfold chkS at h
    split at h
    · omega
    · omega)
  have h3 := red_Apply HG.out HT.out HD2.out mm
  rw [HAP.out] at h3
  have H3 := Lib.hid h3
  clear h3
  go_wp2_with fail
  refine (H3.out).mono ?_
  rintro e w3 ⟨vd, rfl, hd, hb3⟩
  have HB3 := Lib.hid hb3
  clear hd hb3
  go_wp2_with fail
  refine (red_awake _ (HD2.out.below HB3.out)).mono ?_
  rintro e w4 ⟨rfl, hb4⟩
  have HB4 := Lib.hid (below_then HB3.out hb4)
  clear hb4
  have hs4 := HB4.out.size
  have HG4 := Lib.hid (HG.out.below HB4.out)
  have HT4 := Lib.hid (HT.out.below HB4.out)
  have HD4 := Lib.hid (HD2.out.below HB4.out)
  have HOG4 := Lib.hid (own_below HOW2.out HB4.out)
  have HOT4 := Lib.hid (own_below HOR.out HB4.out)
  have HW4 := Lib.hid (HB2.out.trans (HB4.out.mono hs2))
  have hsw := HW4.out.size
  go_wp2_with fail
  refine (plain_ModN ad 1000 _ (by decide) (by decide)).mono ?_
  rintro e w' ⟨d, rfl, hdd, rfl⟩
  go_wp2_with fail
  refine (plain_Mod af 4 _ (by decide) (by decide)).mono ?_
  rintro e w' ⟨rfl, rfl⟩
  obtain ⟨f, hf⟩ : ∃ q, af % 4 = q := ⟨_, rfl⟩
  have hf0 : 0 ≤ f := by rw [← hf]; exact Int.emod_nonneg _ (by decide)
  have hf1 : f < 4 := by rw [← hf]; exact Int.emod_lt_of_pos _ (by decide)
  rw [hf]
  clear hf
  rcases (by omega : f = 0 ∨ f = 1 ∨ f = 2 ∨ f = 3) with rfl | rfl | rfl | rfl
  · have hdb := (show dedB xs rt (-(1 + (d : Int))) = false by unfold dedB; rw [(inB_no.2 (by omega) : inB 0 2399 (-(1 + (d : Int))) = false), Bool.false_and, Bool.and_false])
    have hde := (appR_no hdb).2
    have hap := (appR_no hdb).1
    have h5 := red_Deductions HG4.out HT4.out HD4.out (-(1 + (d : Int)))
    rw [hde] at h5
    have H5 := Lib.hid h5
    clear h5
    go_wp2_with fail
    refine (H5.out).mono ?_
    rintro e w6 ⟨vx, rfl, hx, hb6⟩
    clear hx
    have h7 := red_Apply ((HG4.out).below hb6) ((HT4.out).below hb6) ((HD4.out).below hb6) (-(1 + (d : Int)))
    rw [hap] at h7
    have H7 := Lib.hid h7
    have HB6 := Lib.hid (below_then HW4.out hb6)
    clear h7 hb6 hdb hde hap
    go_wp2_with fail
    refine (H7.out).mono ?_
    rintro e w7 ⟨vy, rfl, hy, hb7⟩
    have HB7 := Lib.hid (below_then HB6.out hb7)
    clear hb7 hy
    have hbz := HB7.out
    go_wp2
    go_ret
    exact ⟨rfl, (by repeat (first | (with_reducible exact Below.refl _ _) | (with_reducible assumption) | (with_reducible refine below_drewN ?_ _) | (with_reducible refine Below.drew ?_) | (with_reducible refine Below.alloc ?_ ?_ _) | (with_reducible refine Below.setCell ?_ ?_ _) | exact Below.refl _ _ | assumption | (solve | omega | simp | (simp; omega))))⟩
  · have hdb := (show dedB xs rt (2399 + (1 + (d : Int))) = false by unfold dedB; rw [(inB_no.2 (by omega) : inB 0 2399 (2399 + (1 + (d : Int))) = false), Bool.false_and, Bool.and_false])
    have hde := (appR_no hdb).2
    have hap := (appR_no hdb).1
    have h5 := red_Deductions HG4.out HT4.out HD4.out (2399 + (1 + (d : Int)))
    rw [hde] at h5
    have H5 := Lib.hid h5
    clear h5
    go_wp2_with fail
    refine (H5.out).mono ?_
    rintro e w6 ⟨vx, rfl, hx, hb6⟩
    clear hx
    have h7 := red_Apply ((HG4.out).below hb6) ((HT4.out).below hb6) ((HD4.out).below hb6) (2399 + (1 + (d : Int)))
    rw [hap] at h7
    have H7 := Lib.hid h7
    have HB6 := Lib.hid (below_then HW4.out hb6)
    clear h7 hb6 hdb hde hap
    go_wp2_with fail
    refine (H7.out).mono ?_
    rintro e w7 ⟨vy, rfl, hy, hb7⟩
    have HB7 := Lib.hid (below_then HB6.out hb7)
    clear hb7 hy
    have hbz := HB7.out
    go_wp2
    go_ret
    exact ⟨rfl, (by repeat (first | (with_reducible exact Below.refl _ _) | (with_reducible assumption) | (with_reducible refine below_drewN ?_ _) | (with_reducible refine Below.drew ?_) | (with_reducible refine Below.alloc ?_ ?_ _) | (with_reducible refine Below.setCell ?_ ?_ _) | exact Below.refl _ _ | assumption | (solve | omega | simp | (simp; omega))))⟩
  · rcases SrcOf.own HOT4.out with ⟨rfl, hnil, hn0⟩ | ⟨ad, c, rfl, hcell⟩
    · have HO8 : Hid (w4.ownsRow w4.heap.size 56 4 (.slice none 0 0) 0 (rowCells rt)) := Lib.hid ⟨by rw [hnil]; rfl, .inl ⟨rfl, rfl⟩⟩
      have HB8 := Lib.hid (Below.refl w4.heap.size w4)
      go_wp2_with (at_builtin; first | (refine wpList_append_own_none rfl _ _ 39 rfl w4.heap.size 56 i0 4 Tryd.underlying39 hi (.slice none 0 0) 0 [] rfl ⟨rfl, .inl ⟨rfl, rfl⟩⟩ rfl ?_) | go_loud (refine wpList_append_own_at _ rfl _ _ 39 rfl w4.heap.size 56 i0 (.agg #[.int .i64 0, .int .i64 0, .int .i64 0, .int .i64 0]) 4 32 Tryd.underlying39 hi hz0 hz1 hz2 rfl (by decide) _ _ _ rfl (HO8.out.alloc _) ⟨w4.heap.size, 0, none⟩ 1 1 [.int .i64 1, .int .i64 0, .int .i64 0, .int .i64 1] rfl rfl ?c1 ?c2 ?c3 ?c4 ?c5 ?_))
      all_goals try (case c1 => (intro t u ht; match t, ht with | 0, ht => (simp at ht; subst ht; simp [Addr.add]) | 1, ht => (simp at ht; subst ht; simp [Addr.add]) | 2, ht => (simp at ht; subst ht; simp [Addr.add]) | 3, ht => (simp at ht; subst ht; simp [Addr.add]) | t + 4, ht => (simp at ht)))
      all_goals try (case c2 => first | exact ⟨rfl, rfl, rfl, rfl⟩ | (intro u hu; simp at hu; rcases hu with rfl | rfl | rfl | rfl <;> rfl))
      all_goals try (case c3 => unfold maxLen; omega)
      all_goals try (case c4 => omega)
      all_goals try (case c5 => first | omega | (simp; done) | (simp; omega))
      intro v' w9 hown' hgrow _ hat'
      obtain ⟨A9, c9', rfl⟩ := own_slice hown'
      have HO9 : Hid (w9.ownsRow w4.heap.size 56 4 (.slice A9 (0 + 1) c9') (0 + 1) (rowCells (rt ++ [⟨1, 0, 0, 1⟩]))) := Lib.hid (by rw [rowCells_snoc, hnil]; simpa using hown')
      have HB9 : Hid (Below w4.heap.size w4 w9) := Lib.hid ((HB8.out.alloc HB8.out.size _).grown hgrow (by first | (simp; done) | (simp; omega)) (fun g hg => by
        rcases HO8.out.2 with ⟨h1, _⟩ | ⟨g', cap, cur, h1, hg', _⟩
        · rw [h1] at hg; simp [Value.ownBlock] at hg
        · rw [h1] at hg; simp [Value.ownBlock] at hg; omega))
      clear hown' hgrow hat'
      have hgt := Tab.own HO9.out (by rw [List.length_append, hn0]; rfl) (by have := HR6.out; omega)
      have hnv : ¬ chkS (rt ++ [⟨1, 0, 0, 1⟩]) = 0 := by
        have h6 := HR6.out
        by_cases h40 : 40 < (rt ++ [(⟨1, 0, 0, 1⟩ : Rt)]).length
        · rw [chk_long h40]; omega
        · rw [chk_bad (k := rt.length) h40 (by simp) (rowOk_bad (r := ⟨1, 0, 0, 1⟩) (by rw [List.getElem?_append_right (Nat.le_refl _), Nat.sub_self]; rfl) (by decide))]; omega
      have hdb := (show dedB xs (rt ++ [⟨1, 0, 0, 1⟩]) mm = false by unfold dedB; rw [decide_eq_false hnv, Bool.and_false, Bool.and_false])
      have hde := (appR_no hdb).2
      have hap := (appR_no hdb).1
      have h5 := red_Deductions (HG4.out.below HB9.out) hgt (HD4.out.below HB9.out) mm
      rw [hde] at h5
      have H5 := Lib.hid h5
      clear h5
      go_wp2_with fail
      refine (H5.out).mono ?_
      rintro e w6 ⟨vx, rfl, hx, hb6⟩
      clear hx
      have h7 := red_Apply (((HG4.out.below HB9.out)).below hb6) ((hgt).below hb6) (((HD4.out.below HB9.out)).below hb6) mm
      rw [hap] at h7
      have H7 := Lib.hid h7
      have HB6 := Lib.hid (below_then (HW4.out.trans (HB9.out.mono hsw)) hb6)
      clear h7 hb6 hdb hde hap
      go_wp2_with fail
      refine (H7.out).mono ?_
      rintro e w7 ⟨vy, rfl, hy, hb7⟩
      have HB7 := Lib.hid (below_then HB6.out hb7)
      clear hb7 hy
      have hbz := HB7.out
      go_wp2
      go_ret
      exact ⟨rfl, (by repeat (first | (with_reducible exact Below.refl _ _) | (with_reducible assumption) | (with_reducible refine below_drewN ?_ _) | (with_reducible refine Below.drew ?_) | (with_reducible refine Below.alloc ?_ ?_ _) | (with_reducible refine Below.setCell ?_ ?_ _) | exact Below.refl _ _ | assumption | (solve | omega | simp | (simp; omega))))⟩
    · have hn40 : rt.length ≤ 40 := by have := HR6.out; omega
      go_wp2_with (at_builtin; go_loud (refine wpList_append_own_at _ rfl _ _ 39 rfl w4.heap.size 56 i0 (.agg #[.int .i64 0, .int .i64 0, .int .i64 0, .int .i64 0]) 4 32 Tryd.underlying39 hi hz0 hz1 hz2 rfl (by decide) _ _ _ rfl (show w4.ownsRow w4.heap.size 56 4 (.slice none 0 0) 0 [] from ⟨rfl, .inl ⟨rfl, rfl⟩⟩) ad _ c (rowCells rt) rfl (rowCells_len _) hcell (one_rt _) (by unfold maxLen; omega) (by omega) (Nat.le_refl _) ?_))
      intro v8 w8 hown8 hgrow8 _ _
      try simp only [Nat.zero_add, List.nil_append] at hown8
      obtain ⟨A8, c8', rfl⟩ := own_slice hown8
      have HO8 := Lib.hid hown8
      have HB8 : Hid (Below w4.heap.size w4 w8) := Lib.hid ((Below.refl w4.heap.size w4).grown hgrow8 (Nat.le_refl _) (fun g hg => by simp [Value.ownBlock] at hg))
      clear hown8 hgrow8 hcell
      have hs8 := HB8.out.size
      go_wp2_with (at_builtin; go_loud (refine wpList_append_own_at _ rfl _ _ 39 rfl w4.heap.size 56 i0 (.agg #[.int .i64 0, .int .i64 0, .int .i64 0, .int .i64 0]) 4 32 Tryd.underlying39 hi hz0 hz1 hz2 rfl (by decide) _ _ _ rfl (HO8.out.alloc _) ⟨w8.heap.size, 0, none⟩ 1 1 [.int .i64 1, .int .i64 0, .int .i64 0, .int .i64 1] rfl rfl ?c1 ?c2 ?c3 ?c4 ?c5 ?_))
      all_goals try (case c1 => (intro t u ht; match t, ht with | 0, ht => (simp at ht; subst ht; simp [Addr.add]) | 1, ht => (simp at ht; subst ht; simp [Addr.add]) | 2, ht => (simp at ht; subst ht; simp [Addr.add]) | 3, ht => (simp at ht; subst ht; simp [Addr.add]) | t + 4, ht => (simp at ht)))
      all_goals try (case c2 => first | exact ⟨rfl, rfl, rfl, rfl⟩ | (intro u hu; simp at hu; rcases hu with rfl | rfl | rfl | rfl <;> rfl))
      all_goals try (case c3 => unfold maxLen; omega)
      all_goals try (case c4 => omega)
      all_goals try (case c5 => first | omega | (simp; done) | (simp; omega))
      intro v' w9 hown' hgrow _ hat'
      obtain ⟨A9, c9', rfl⟩ := own_slice hown'
      have HO9 : Hid (w9.ownsRow w4.heap.size 56 4 (.slice A9 (rt.length + 1) c9') (rt.length + 1) (rowCells (rt ++ [⟨1, 0, 0, 1⟩]))) := Lib.hid (by rw [rowCells_snoc]; simpa using hown')
      have HB9 : Hid (Below w4.heap.size w4 w9) := Lib.hid ((HB8.out.alloc HB8.out.size _).grown hgrow (by first | (simp; done) | (simp; omega)) (fun g hg => by
        rcases HO8.out.2 with ⟨h1, _⟩ | ⟨g', cap, cur, h1, hg', _⟩
        · rw [h1] at hg; simp [Value.ownBlock] at hg
        · rw [h1] at hg; simp [Value.ownBlock] at hg; omega))
      clear hown' hgrow hat'
      have hgt := Tab.own HO9.out (by rw [List.length_append]; rfl) (by have := HR6.out; omega)
      have hnv : ¬ chkS (rt ++ [⟨1, 0, 0, 1⟩]) = 0 := by
        have h6 := HR6.out
        by_cases h40 : 40 < (rt ++ [(⟨1, 0, 0, 1⟩ : Rt)]).length
        · rw [chk_long h40]; omega
        · rw [chk_bad (k := rt.length) h40 (by simp) (rowOk_bad (r := ⟨1, 0, 0, 1⟩) (by rw [List.getElem?_append_right (Nat.le_refl _), Nat.sub_self]; rfl) (by decide))]; omega
      have hdb := (show dedB xs (rt ++ [⟨1, 0, 0, 1⟩]) mm = false by unfold dedB; rw [decide_eq_false hnv, Bool.and_false, Bool.and_false])
      have hde := (appR_no hdb).2
      have hap := (appR_no hdb).1
      have h5 := red_Deductions (HG4.out.below HB9.out) hgt (HD4.out.below HB9.out) mm
      rw [hde] at h5
      have H5 := Lib.hid h5
      clear h5
      go_wp2_with fail
      refine (H5.out).mono ?_
      rintro e w6 ⟨vx, rfl, hx, hb6⟩
      clear hx
      have h7 := red_Apply (((HG4.out.below HB9.out)).below hb6) ((hgt).below hb6) (((HD4.out.below HB9.out)).below hb6) mm
      rw [hap] at h7
      have H7 := Lib.hid h7
      have HB6 := Lib.hid (below_then (HW4.out.trans (HB9.out.mono hsw)) hb6)
      clear h7 hb6 hdb hde hap
      go_wp2_with fail
      refine (H7.out).mono ?_
      rintro e w7 ⟨vy, rfl, hy, hb7⟩
      have HB7 := Lib.hid (below_then HB6.out hb7)
      clear hb7 hy
      have hbz := HB7.out
      go_wp2
      go_ret
      exact ⟨rfl, (by repeat (first | (with_reducible exact Below.refl _ _) | (with_reducible assumption) | (with_reducible refine below_drewN ?_ _) | (with_reducible refine Below.drew ?_) | (with_reducible refine Below.alloc ?_ ?_ _) | (with_reducible refine Below.setCell ?_ ?_ _) | exact Below.refl _ _ | assumption | (solve | omega | simp | (simp; omega))))⟩
  · rcases SrcOf.own HOG4.out with ⟨rfl, hnil, hn0⟩ | ⟨ad, c, rfl, hcell⟩
    · have HO8 : Hid (w4.ownsRow w4.heap.size 27 7 (.slice none 0 0) 0 (grCells xs)) := Lib.hid ⟨by rw [hnil]; rfl, .inl ⟨rfl, rfl⟩⟩
      have HB8 := Lib.hid (Below.refl w4.heap.size w4)
      go_wp2_with (at_builtin; first | (refine wpList_append_own_none rfl _ _ 22 rfl w4.heap.size 27 j0 7 Tryd.underlying22 hj (.slice none 0 0) 0 [] rfl ⟨rfl, .inl ⟨rfl, rfl⟩⟩ rfl ?_) | go_loud (refine wpList_append_own_at _ rfl _ _ 22 rfl w4.heap.size 27 j0 (.agg #[.int .i64 0, .int .i64 0, .int .i64 0, .int .i64 0, .int .i64 0, .int .i64 0, .int .i64 0]) 7 56 Tryd.underlying22 hj hy0 hy1 hy2 rfl (by decide) _ _ _ rfl (HO8.out.alloc _) ⟨w4.heap.size, 0, none⟩ 1 1 [.int .i64 0, .int .i64 4, .int .i64 1, .int .i64 0, .int .i64 0, .int .i64 0, .int .i64 1] rfl rfl ?c1 ?c2 ?c3 ?c4 ?c5 ?_))
      all_goals try (case c1 => (intro t u ht; match t, ht with | 0, ht => (simp at ht; subst ht; simp [Addr.add]) | 1, ht => (simp at ht; subst ht; simp [Addr.add]) | 2, ht => (simp at ht; subst ht; simp [Addr.add]) | 3, ht => (simp at ht; subst ht; simp [Addr.add]) | 4, ht => (simp at ht; subst ht; simp [Addr.add]) | 5, ht => (simp at ht; subst ht; simp [Addr.add]) | 6, ht => (simp at ht; subst ht; simp [Addr.add]) | t + 7, ht => (simp at ht)))
      all_goals try (case c2 => first | exact ⟨rfl, rfl, rfl, rfl, rfl, rfl, rfl⟩ | (intro u hu; simp at hu; rcases hu with rfl | rfl | rfl | rfl | rfl | rfl | rfl <;> rfl))
      all_goals try (case c3 => unfold maxLen; omega)
      all_goals try (case c4 => omega)
      all_goals try (case c5 => first | omega | (simp; done) | (simp; omega))
      intro v' w9 hown' hgrow _ hat'
      obtain ⟨A9, c9', rfl⟩ := own_slice hown'
      have HO9 : Hid (w9.ownsRow w4.heap.size 27 7 (.slice A9 (0 + 1) c9') (0 + 1) (grCells (xs ++ [⟨0, 4, 1, 0, 0, 0, 1⟩]))) := Lib.hid (by rw [grCells_snoc, hnil]; simpa using hown')
      have HB9 : Hid (Below w4.heap.size w4 w9) := Lib.hid ((HB8.out.alloc HB8.out.size _).grown hgrow (by first | (simp; done) | (simp; omega)) (fun g hg => by
        rcases HO8.out.2 with ⟨h1, _⟩ | ⟨g', cap, cur, h1, hg', _⟩
        · rw [h1] at hg; simp [Value.ownBlock] at hg
        · rw [h1] at hg; simp [Value.ownBlock] at hg; omega))
      clear hown' hgrow hat'
      have hgt := GTb.own HO9.out (by rw [List.length_append, hn0]; rfl) (by omega)
      have hnv : valG (xs ++ [⟨0, 4, 1, 0, 0, 0, 1⟩]) = false := valG_no (bad_elem (k := xs.length) (g := ⟨0, 4, 1, 0, 0, 0, 1⟩) (by rw [List.getElem?_append_right (Nat.le_refl _), Nat.sub_self]; rfl) (by decide))
      have hdb := (show dedB (xs ++ [⟨0, 4, 1, 0, 0, 0, 1⟩]) rt mm = false by unfold dedB; rw [hnv]; rfl)
      have hde := (appR_no hdb).2
      have hap := (appR_no hdb).1
      have h5 := red_Deductions hgt (HT4.out.below HB9.out) (HD4.out.below HB9.out) mm
      rw [hde] at h5
      have H5 := Lib.hid h5
      clear h5
      go_wp2_with fail
      refine (H5.out).mono ?_
      rintro e w6 ⟨vx, rfl, hx, hb6⟩
      clear hx
      have h7 := red_Apply ((hgt).below hb6) (((HT4.out.below HB9.out)).below hb6) (((HD4.out.below HB9.out)).below hb6) mm
      rw [hap] at h7
      have H7 := Lib.hid h7
      have HB6 := Lib.hid (below_then (HW4.out.trans (HB9.out.mono hsw)) hb6)
      clear h7 hb6 hdb hde hap
      go_wp2_with fail
      refine (H7.out).mono ?_
      rintro e w7 ⟨vy, rfl, hy, hb7⟩
      have HB7 := Lib.hid (below_then HB6.out hb7)
      clear hb7 hy
      have hbz := HB7.out
      go_wp2
      go_ret
      exact ⟨rfl, (by repeat (first | (with_reducible exact Below.refl _ _) | (with_reducible assumption) | (with_reducible refine below_drewN ?_ _) | (with_reducible refine Below.drew ?_) | (with_reducible refine Below.alloc ?_ ?_ _) | (with_reducible refine Below.setCell ?_ ?_ _) | exact Below.refl _ _ | assumption | (solve | omega | simp | (simp; omega))))⟩
    · have hn40 : xs.length ≤ 40 := by have := HR6.out; omega
      go_wp2_with (at_builtin; go_loud (refine wpList_append_own_at _ rfl _ _ 22 rfl w4.heap.size 27 j0 (.agg #[.int .i64 0, .int .i64 0, .int .i64 0, .int .i64 0, .int .i64 0, .int .i64 0, .int .i64 0]) 7 56 Tryd.underlying22 hj hy0 hy1 hy2 rfl (by decide) _ _ _ rfl (show w4.ownsRow w4.heap.size 27 7 (.slice none 0 0) 0 [] from ⟨rfl, .inl ⟨rfl, rfl⟩⟩) ad _ c (grCells xs) rfl (grCells_len _) hcell (one_gr _) (by unfold maxLen; omega) (by omega) (Nat.le_refl _) ?_))
      intro v8 w8 hown8 hgrow8 _ _
      try simp only [Nat.zero_add, List.nil_append] at hown8
      obtain ⟨A8, c8', rfl⟩ := own_slice hown8
      have HO8 := Lib.hid hown8
      have HB8 : Hid (Below w4.heap.size w4 w8) := Lib.hid ((Below.refl w4.heap.size w4).grown hgrow8 (Nat.le_refl _) (fun g hg => by simp [Value.ownBlock] at hg))
      clear hown8 hgrow8 hcell
      have hs8 := HB8.out.size
      go_wp2_with (at_builtin; go_loud (refine wpList_append_own_at _ rfl _ _ 22 rfl w4.heap.size 27 j0 (.agg #[.int .i64 0, .int .i64 0, .int .i64 0, .int .i64 0, .int .i64 0, .int .i64 0, .int .i64 0]) 7 56 Tryd.underlying22 hj hy0 hy1 hy2 rfl (by decide) _ _ _ rfl (HO8.out.alloc _) ⟨w8.heap.size, 0, none⟩ 1 1 [.int .i64 0, .int .i64 4, .int .i64 1, .int .i64 0, .int .i64 0, .int .i64 0, .int .i64 1] rfl rfl ?c1 ?c2 ?c3 ?c4 ?c5 ?_))
      all_goals try (case c1 => (intro t u ht; match t, ht with | 0, ht => (simp at ht; subst ht; simp [Addr.add]) | 1, ht => (simp at ht; subst ht; simp [Addr.add]) | 2, ht => (simp at ht; subst ht; simp [Addr.add]) | 3, ht => (simp at ht; subst ht; simp [Addr.add]) | 4, ht => (simp at ht; subst ht; simp [Addr.add]) | 5, ht => (simp at ht; subst ht; simp [Addr.add]) | 6, ht => (simp at ht; subst ht; simp [Addr.add]) | t + 7, ht => (simp at ht)))
      all_goals try (case c2 => first | exact ⟨rfl, rfl, rfl, rfl, rfl, rfl, rfl⟩ | (intro u hu; simp at hu; rcases hu with rfl | rfl | rfl | rfl | rfl | rfl | rfl <;> rfl))
      all_goals try (case c3 => unfold maxLen; omega)
      all_goals try (case c4 => omega)
      all_goals try (case c5 => first | omega | (simp; done) | (simp; omega))
      intro v' w9 hown' hgrow _ hat'
      obtain ⟨A9, c9', rfl⟩ := own_slice hown'
      have HO9 : Hid (w9.ownsRow w4.heap.size 27 7 (.slice A9 (xs.length + 1) c9') (xs.length + 1) (grCells (xs ++ [⟨0, 4, 1, 0, 0, 0, 1⟩]))) := Lib.hid (by rw [grCells_snoc]; simpa using hown')
      have HB9 : Hid (Below w4.heap.size w4 w9) := Lib.hid ((HB8.out.alloc HB8.out.size _).grown hgrow (by first | (simp; done) | (simp; omega)) (fun g hg => by
        rcases HO8.out.2 with ⟨h1, _⟩ | ⟨g', cap, cur, h1, hg', _⟩
        · rw [h1] at hg; simp [Value.ownBlock] at hg
        · rw [h1] at hg; simp [Value.ownBlock] at hg; omega))
      clear hown' hgrow hat'
      have hgt := GTb.own HO9.out (by rw [List.length_append]; rfl) (by omega)
      have hnv : valG (xs ++ [⟨0, 4, 1, 0, 0, 0, 1⟩]) = false := valG_no (bad_elem (k := xs.length) (g := ⟨0, 4, 1, 0, 0, 0, 1⟩) (by rw [List.getElem?_append_right (Nat.le_refl _), Nat.sub_self]; rfl) (by decide))
      have hdb := (show dedB (xs ++ [⟨0, 4, 1, 0, 0, 0, 1⟩]) rt mm = false by unfold dedB; rw [hnv]; rfl)
      have hde := (appR_no hdb).2
      have hap := (appR_no hdb).1
      have h5 := red_Deductions hgt (HT4.out.below HB9.out) (HD4.out.below HB9.out) mm
      rw [hde] at h5
      have H5 := Lib.hid h5
      clear h5
      go_wp2_with fail
      refine (H5.out).mono ?_
      rintro e w6 ⟨vx, rfl, hx, hb6⟩
      clear hx
      have h7 := red_Apply ((hgt).below hb6) (((HT4.out.below HB9.out)).below hb6) (((HD4.out.below HB9.out)).below hb6) mm
      rw [hap] at h7
      have H7 := Lib.hid h7
      have HB6 := Lib.hid (below_then (HW4.out.trans (HB9.out.mono hsw)) hb6)
      clear h7 hb6 hdb hde hap
      go_wp2_with fail
      refine (H7.out).mono ?_
      rintro e w7 ⟨vy, rfl, hy, hb7⟩
      have HB7 := Lib.hid (below_then HB6.out hb7)
      clear hb7 hy
      have hbz := HB7.out
      go_wp2
      go_ret
      exact ⟨rfl, (by repeat (first | (with_reducible exact Below.refl _ _) | (with_reducible assumption) | (with_reducible refine below_drewN ?_ _) | (with_reducible refine Below.drew ?_) | (with_reducible refine Below.alloc ?_ ?_ _) | (with_reducible refine Below.setCell ?_ ?_ _) | exact Below.refl _ _ | assumption | (solve | omega | simp | (simp; omega))))⟩
end Go.Proofs.YthpknbflmcoanaaDoor
