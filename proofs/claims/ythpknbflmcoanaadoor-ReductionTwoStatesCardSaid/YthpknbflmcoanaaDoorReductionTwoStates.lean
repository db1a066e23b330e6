/-
  ReductionTwoStates: the walk.
-/
import Derived.Test.YthpknbflmcoanaaDoorHand
namespace Go.Proofs.YthpknbflmcoanaaDoor
open Go.RowKit Mny

/-- two elements that both reduce in full -/
theorem two_net {i1 p1 i2 p2 s1 s2 : Int} (hs : s1 ≠ s2) (h1 : 0 ≤ i1 ∧ i1 ≤ 1000000000000) (h2 : 0 ≤ p1 ∧ p1 ≤ 1000000000000) (h3 : 0 ≤ i2 ∧ i2 ≤ 1000000000000) (h4 : 0 ≤ p2 ∧ p2 ≤ 1000000000000) (hr1 : 0 ≤ s1 ∧ s1 ≤ 5) (hsw : Bool) :
    (netG (if hsw then [⟨s2, 1, 7, i2, p2, 1, 1⟩, ⟨s1, 1, 7, i1, p1, 1, 1⟩] else [⟨s1, 1, 7, i1, p1, 1, 1⟩, ⟨s2, 1, 7, i2, p2, 1, 1⟩]) [] 0 ⟨s1, 1, 7, i1, p1, 1, 1⟩).a = max (max (i1 - max i2 p2) p1) 0 := by
  obtain ⟨gh, hgh⟩ : ∃ q, grossV ⟨s2, 1, 7, i2, p2, 1, 1⟩ = q := ⟨_, rfl⟩
  have hmx : gh = max i2 p2 := by rw [← hgh]; unfold grossV; simp only; split <;> omega
  have hgb : 0 ≤ gh ∧ gh ≤ 1000000000000 := by omega
  have hok : okG ⟨s1, 1, 7, i1, p1, 1, 1⟩ = true := okG_iff.2 ⟨hr1, ⟨by omega, by omega⟩, ⟨by omega, by omega⟩, h1, h2, by decide, by omega, by omega⟩
  have e1 : partB ⟨s1, 1, 7, i1, p1, 1, 1⟩ ⟨s1, 1, 7, i1, p1, 1, 1⟩ = false := partB_1 rfl
  have hT : dedT (if hsw then [⟨s2, 1, 7, i2, p2, 1, 1⟩, ⟨s1, 1, 7, i1, p1, 1, 1⟩] else [⟨s1, 1, 7, i1, p1, 1, 1⟩, ⟨s2, 1, 7, i2, p2, 1, 1⟩]) [] 0 ⟨s1, 1, 7, i1, p1, 1, 1⟩ = if 0 < i1 then min i1 gh else 0 := by
    unfold dedT
    have hrb : redB ⟨s1, 1, 7, i1, p1, 1, 1⟩ = decide (0 < i1) := by unfold redB; simp
    rw [hrb]
    by_cases hi : 0 < i1
    · have hcnt : cntR (if hsw then [⟨s2, 1, 7, i2, p2, 1, 1⟩, ⟨s1, 1, 7, i1, p1, 1, 1⟩] else [⟨s1, 1, 7, i1, p1, 1, 1⟩, ⟨s2, 1, 7, i2, p2, 1, 1⟩]) s2 = 1 := by
        unfold cntR
        cases hsw <;> simp [redB, hi, hs]
      have hpv := (partV_one (rt := []) (m := 0) (q := 1) (f := ⟨s2, 1, 7, i2, p2, 1, 1⟩) (g := ⟨s1, 1, 7, i1, p1, 1, 1⟩) rfl hok (by rw [hgh]; exact hgb) ⟨by omega, by omega⟩ (by decide)).1
      rw [hgh] at hpv
      simp only [Int.natCast_one, Int.tdiv_one, Int.mul_one, Int.ediv_one] at hpv
      rw [decide_eq_true hi, if_pos rfl, if_pos hi]
      have hd1 : ∀ l, dedV l [] 0 ⟨s1, 1, 7, i1, p1, 1, 1⟩ ⟨s1, 1, 7, i1, p1, 1, 1⟩ = 0 := fun l => by unfold dedV; rw [e1]; rfl
      have hd2 : ∀ l, cntR l s2 = 1 → dedV l [] 0 ⟨s1, 1, 7, i1, p1, 1, 1⟩ ⟨s2, 1, 7, i2, p2, 1, 1⟩ = gh := fun l hl => by
        unfold dedV
        by_cases hg0 : gh = 0
        · rw [partB_2 (by rw [hgh]; exact hg0)]; simp; omega
        · rw [partB_yes (fun h => hs h.symm) (by rw [hgh]; exact hg0), if_pos rfl]
          simp only [hl]
          rw [hpv]
          omega
      cases hsw <;> simp only [Bool.false_eq_true, if_true, if_false, List.map_cons, List.map_nil, sumI] at hcnt ⊢ <;> rw [hd1, hd2 _ hcnt] <;> omega
    · rw [decide_eq_false hi, if_neg hi]; rfl
  unfold netG
  simp only
  rw [hT, hmx]
  split <;> omega

set_option maxRecDepth 100000 in
set_option maxHeartbeats 16000000 in
theorem walk_ReductionTwoStates (a b c d : Int) (W : World) (hD : DownAt W) : Calls Tryd.prog 17 #[.int .i64 a, .int .i64 b, .int .i64 c, .int .i64 d] W fun e w' => e = .returned (.bool true) ∧ Below W.heap.size W w' := by
  have HD := Lib.hid hD
  clear hD
  have XF := Lib.hid (Bx.made W 25 #[.int .i64 1, .int .i64 1] rfl)
  have BF := Lib.hid ((Below.refl W.heap.size W).alloc (Nat.le_refl _) (.cells #[.int .i64 1, .int .i64 1] 25))
  have hsf : W.heap.size < (W.alloc (.cells #[.int .i64 1, .int .i64 1] 25)).heap.size := by simp
  obtain ⟨wa, hwa⟩ : ∃ w, W.alloc (.cells #[.int .i64 1, .int .i64 1] 25) = w := ⟨_, rfl⟩
  rw [hwa] at XF BF hsf
  have HWA := Lib.hid hwa
  clear hwa
  go_enter Tryd.func17, Tryd.ntmps17
  go_upto_region 2 with (fail)
  rw [HWA.out]
  go_cut [10] (fun p wx => ∃ i1 p1 : Int, p = .pointer (some ⟨wa.heap.size, 0, none⟩) ∧ Bx wx wa.heap.size 27 #[.int .i64 2, .int .i64 1, .int .i64 7, .int .i64 i1, .int .i64 p1, .int .i64 1, .int .i64 1] ∧ (0 ≤ i1 ∧ i1 ≤ 1000000000000) ∧ (0 ≤ p1 ∧ p1 ≤ 1000000000000) ∧ Below wa.heap.size wa wx)
  case first =>
    have S0 : Below wa.heap.size wa wa.drew := (Below.refl _ _).drew
    have S1 : wa.cell? ⟨W.heap.size, 0, none⟩ = some (.int .i64 1) := XF.out.cell 0
    have S2 : wa.cell? ⟨W.heap.size, 1, none⟩ = some (.int .i64 1) := XF.out.cell 1
    have S3 := XF.out.lt
    have N1 : ¬ W.heap.size = wa.heap.size := by omega
    have N2 : ¬ wa.heap.size = W.heap.size := by omega
    go_region_held3 (fun w' => Below wa.heap.size wa w' ∧ w'.cell? ⟨W.heap.size, 0, none⟩ = some (.int .i64 1) ∧ w'.cell? ⟨W.heap.size, 1, none⟩ = some (.int .i64 1)) (first | exact ⟨by assumption, by assumption, by assumption⟩ | (refine ⟨(by repeat (first | (with_reducible exact Below.refl _ _) | (with_reducible assumption) | (with_reducible refine below_drewN ?_ _) | (with_reducible refine Below.drew ?_) | (with_reducible refine Below.alloc ?_ ?_ _) | (with_reducible refine Below.setCell ?_ ?_ _) | exact Below.refl _ _ | assumption | (solve | omega | simp | (simp; omega)))), ?_⟩; go_keep) | go_keep)
      (first | (go_at_call 38; refine (plain_Amount _ _).mono ?_; rintro e w' ⟨x, rfl, hx, rfl⟩))
    all_goals
      go_wp2_with fail
      go_meet
      exact ⟨_, _, rfl, (by first | exact Bx.made _ _ _ rfl | exact Bx.drew (Bx.made _ _ _ rfl) | exact Bx.drewN (Bx.made _ _ _ rfl) _ | trace_state), by assumption, by assumption, (by repeat (first | (with_reducible exact Below.refl _ _) | (with_reducible assumption) | (with_reducible refine below_drewN ?_ _) | (with_reducible refine Below.drew ?_) | (with_reducible refine Below.alloc ?_ ?_ _) | (with_reducible refine Below.setCell ?_ ?_ _) | exact Below.refl _ _ | assumption | (solve | omega | simp | (simp; omega))))⟩
  case rest =>
    obtain ⟨i1, p1, rfl, hbx, hi1, hp1, hbl⟩ := hcut
    have X1 := Lib.hid hbx
    have B1 := Lib.hid hbl
    have HI1 := Lib.hid hi1
    have HP1 := Lib.hid hp1
    have XF1 := Lib.hid (XF.out.below hbl)
    have hs1 := hbl.size
    have hl1 := hbx.lt
    clear hbx hi1 hp1 hbl
    obtain ⟨wb, eb⟩ : ∃ q, q = wc := ⟨_, rfl⟩
    subst eb
    go_upto_region 3 with (fail)
    go_cut [11] (fun p wx => ∃ i2 p2 : Int, p = .pointer (some ⟨wb.heap.size, 0, none⟩) ∧ Bx wx wb.heap.size 27 #[.int .i64 4, .int .i64 1, .int .i64 7, .int .i64 i2, .int .i64 p2, .int .i64 1, .int .i64 1] ∧ (0 ≤ i2 ∧ i2 ≤ 1000000000000) ∧ (0 ≤ p2 ∧ p2 ≤ 1000000000000) ∧ Below wb.heap.size wb wx)
    case first =>
      have S0 : Below wb.heap.size wb wb.drew := (Below.refl _ _).drew
      have S1 : wb.cell? ⟨W.heap.size, 0, none⟩ = some (.int .i64 1) := XF1.out.cell 0
      have S2 : wb.cell? ⟨W.heap.size, 1, none⟩ = some (.int .i64 1) := XF1.out.cell 1
      have S3 := XF1.out.lt
      have N1 : ¬ W.heap.size = wb.heap.size := by omega
      have N2 : ¬ wb.heap.size = W.heap.size := by omega
      go_region_held3 (fun w' => Below wb.heap.size wb w' ∧ w'.cell? ⟨W.heap.size, 0, none⟩ = some (.int .i64 1) ∧ w'.cell? ⟨W.heap.size, 1, none⟩ = some (.int .i64 1)) (first | exact ⟨by assumption, by assumption, by assumption⟩ | (refine ⟨(by repeat (first | (with_reducible exact Below.refl _ _) | (with_reducible assumption) | (with_reducible refine below_drewN ?_ _) | (with_reducible refine Below.drew ?_) | (with_reducible refine Below.alloc ?_ ?_ _) | (with_reducible refine Below.setCell ?_ ?_ _) | exact Below.refl _ _ | assumption | (solve | omega | simp | (simp; omega)))), ?_⟩; go_keep) | go_keep)
        (first | (go_at_call 38; refine (plain_Amount _ _).mono ?_; rintro e w' ⟨x, rfl, hx, rfl⟩))
      all_goals
        go_wp2_with fail
        go_meet
        exact ⟨_, _, rfl, (by first | exact Bx.made _ _ _ rfl | exact Bx.drew (Bx.made _ _ _ rfl) | exact Bx.drewN (Bx.made _ _ _ rfl) _ | trace_state), by assumption, by assumption, (by repeat (first | (with_reducible exact Below.refl _ _) | (with_reducible assumption) | (with_reducible refine below_drewN ?_ _) | (with_reducible refine Below.drew ?_) | (with_reducible refine Below.alloc ?_ ?_ _) | (with_reducible refine Below.setCell ?_ ?_ _) | exact Below.refl _ _ | assumption | (solve | omega | simp | (simp; omega))))⟩
    case rest =>
      obtain ⟨i2, p2, rfl, hbx, hi2, hp2, hbl⟩ := hcut
      have X2 := Lib.hid hbx
      have B2 := Lib.hid hbl
      have HI2 := Lib.hid hi2
      have HP2 := Lib.hid hp2
      have X1c := Lib.hid (X1.out.below hbl)
      have hs2 := hbl.size
      have hl2 := hbx.lt
      clear hbx hi2 hp2 hbl
      obtain ⟨wd, ed⟩ : ∃ q, q = wc := ⟨_, rfl⟩
      subst ed
      have y0 : wd.cell? ⟨wa.heap.size, 0, none⟩ = some (.int .i64 2) := X1c.out.cell 0
      have y1 : wd.cell? ⟨wa.heap.size, 1, none⟩ = some (.int .i64 1) := X1c.out.cell 1
      have y2 : wd.cell? ⟨wa.heap.size, 2, none⟩ = some (.int .i64 7) := X1c.out.cell 2
      have y3 : wd.cell? ⟨wa.heap.size, 3, none⟩ = some (.int .i64 i1) := X1c.out.cell 3
      have y4 : wd.cell? ⟨wa.heap.size, 4, none⟩ = some (.int .i64 p1) := X1c.out.cell 4
      have y5 : wd.cell? ⟨wa.heap.size, 5, none⟩ = some (.int .i64 1) := X1c.out.cell 5
      have y6 : wd.cell? ⟨wa.heap.size, 6, none⟩ = some (.int .i64 1) := X1c.out.cell 6
      have u0 : wd.cell? ⟨wb.heap.size, 0, none⟩ = some (.int .i64 4) := X2.out.cell 0
      have u1 : wd.cell? ⟨wb.heap.size, 1, none⟩ = some (.int .i64 1) := X2.out.cell 1
      have u2 : wd.cell? ⟨wb.heap.size, 2, none⟩ = some (.int .i64 7) := X2.out.cell 2
      have u3 : wd.cell? ⟨wb.heap.size, 3, none⟩ = some (.int .i64 i2) := X2.out.cell 3
      have u4 : wd.cell? ⟨wb.heap.size, 4, none⟩ = some (.int .i64 p2) := X2.out.cell 4
      have u5 : wd.cell? ⟨wb.heap.size, 5, none⟩ = some (.int .i64 1) := X2.out.cell 5
      have u6 : wd.cell? ⟨wb.heap.size, 6, none⟩ = some (.int .i64 1) := X2.out.cell 6
      have hbe : Below wd.heap.size wd (wd.alloc (.cells #[.int .i64 2, .int .i64 1, .int .i64 7, .int .i64 i1, .int .i64 p1, .int .i64 1, .int .i64 1, .int .i64 4, .int .i64 1, .int .i64 7, .int .i64 i2, .int .i64 p2, .int .i64 1, .int .i64 1] 27)) := (Below.refl _ _).alloc (Nat.le_refl _) _
      have hge : GrossAt (wd.alloc (.cells #[.int .i64 2, .int .i64 1, .int .i64 7, .int .i64 i1, .int .i64 p1, .int .i64 1, .int .i64 1, .int .i64 4, .int .i64 1, .int .i64 7, .int .i64 i2, .int .i64 p2, .int .i64 1, .int .i64 1] 27)) wd.heap.size 0 [⟨2, 1, 7, i1, p1, 1, 1⟩, ⟨4, 1, 7, i2, p2, 1, 1⟩] := fun k r hk => by
        have hx := Bx.made wd 27 #[.int .i64 2, .int .i64 1, .int .i64 7, .int .i64 i1, .int .i64 p1, .int .i64 1, .int .i64 1, .int .i64 4, .int .i64 1, .int .i64 7, .int .i64 i2, .int .i64 p2, .int .i64 1, .int .i64 1] rfl
        match k, hk with
        | 0, hk => injection hk with hk; subst hk; exact ⟨hx.cell 0, hx.cell 1, hx.cell 2, hx.cell 3, hx.cell 4, hx.cell 5, hx.cell 6⟩
        | 1, hk => injection hk with hk; subst hk; exact ⟨hx.cell 7, hx.cell 8, hx.cell 9, hx.cell 10, hx.cell 11, hx.cell 12, hx.cell 13⟩
        | k + 2, hk => simp at hk
      have hle : wd.heap.size < (wd.alloc (.cells #[.int .i64 2, .int .i64 1, .int .i64 7, .int .i64 i1, .int .i64 p1, .int .i64 1, .int .i64 1, .int .i64 4, .int .i64 1, .int .i64 7, .int .i64 i2, .int .i64 p2, .int .i64 1, .int .i64 1] 27)).heap.size := by simp
      have HVL : Hid (ValG [⟨2, 1, 7, i1, p1, 1, 1⟩, ⟨4, 1, 7, i2, p2, 1, 1⟩]) := Lib.hid ⟨(show 2 ≤ 18 by decide), fun k r hk hr => by
        match k, hr with
        | 0, hr =>
          injection hr with hr
          subst hr
          exact ⟨okG_iff.2 ⟨⟨by omega, by omega⟩, ⟨by omega, by omega⟩, ⟨by omega, by omega⟩, HI1.out, HP1.out, by decide, by omega, by omega⟩, NoTwin.zero _ _⟩
        | 1, hr =>
          injection hr with hr
          subst hr
          refine ⟨okG_iff.2 ⟨⟨by omega, by omega⟩, ⟨by omega, by omega⟩, ⟨by omega, by omega⟩, HI2.out, HP2.out, by decide, by omega, by omega⟩, fun i h hi hh => ?_⟩
          match i, hh with
          | 0, hh => injection hh with hh; subst hh; rfl
          | i + 1, hh => omega
        | k + 2, hr => simp at hr⟩
      have hap := (appR_yes (ded_all HVL.out (rt := []) (m := 0) (by decide) (by omega) (by omega))).1
      rw [netS_map (l := [⟨2, 1, 7, i1, p1, 1, 1⟩, ⟨4, 1, 7, i2, p2, 1, 1⟩]) (fun g hg => (okG.bd (HVL.out.ok hg)).1.1)] at hap
      have n1 := two_net (s1 := 2) (s2 := 4) (by decide) HI1.out HP1.out HI2.out HP2.out (by decide) false
      have n2 := two_net (s1 := 4) (s2 := 2) (by decide) HI2.out HP2.out HI1.out HP1.out (by decide) true
      simp only [Bool.false_eq_true, if_true, if_false] at n1 n2
      obtain ⟨N1, hN1⟩ : ∃ q, netG [⟨2, 1, 7, i1, p1, 1, 1⟩, ⟨4, 1, 7, i2, p2, 1, 1⟩] [] 0 ⟨2, 1, 7, i1, p1, 1, 1⟩ = q := ⟨_, rfl⟩
      obtain ⟨N2, hN2⟩ : ∃ q, netG [⟨2, 1, 7, i1, p1, 1, 1⟩, ⟨4, 1, 7, i2, p2, 1, 1⟩] [] 0 ⟨4, 1, 7, i2, p2, 1, 1⟩ = q := ⟨_, rfl⟩
      rw [hN1] at n1
      rw [hN2] at n2
      simp only [List.map_cons, List.map_nil, hN1, hN2] at hap
      clear hN1 hN2
      have BD := Lib.hid (BF.out.trans ((B1.out.trans (B2.out.mono hs1)).mono (Nat.le_of_lt hsf)))
      have h5 := red_Apply1 [⟨2, 1, 7, i1, p1, 1, 1⟩, ⟨4, 1, 7, i2, p2, 1, 1⟩] [] 2 wd.heap.size 0 2 (.slice none 0 0) 0 _ rfl hge hle (by decide) (by decide) (.inl ⟨_, _, rfl, rfl⟩) (HD.out.below (below_then BD.out hbe))
      rw [hap] at h5
      have H5 := Lib.hid h5
      have BE := Lib.hid (below_then BD.out hbe)
      have HBE := Lib.hid hbe
      clear h5 hap hge
      go_wp2_with fail
      refine (H5.out).mono ?_
      rintro e we ⟨vn, rfl, hn, hbn⟩
      have BG := Lib.hid (below_then BE.out hbn)
      have HWE := Lib.hid (below_then HBE.out hbn)
      have HTN := Lib.hid hn
      clear hn hbn y0 u0 y1 u1 y2 u2 y3 u3 y4 u4 y5 u5 y6 u6
      go_wp2_with fail
      refine (red_awake _ (HD.out.below BG.out)).mono ?_
      rintro e wf ⟨rfl, hbf⟩
      have BH := Lib.hid (below_then BG.out hbf)
      have HWF := Lib.hid (below_then HWE.out hbf)
      have HTF := Lib.hid (HTN.out.below hbf)
      clear hbf
      obtain ⟨An, cn, rfl⟩ := HTF.out.cut
      obtain ⟨bn, on, rfl, hat, hln⟩ := HTF.out.rowAt (k := 0) (r := N1) rfl
      obtain ⟨_, _, _, _, _, _, q6⟩ := hat 0 _ rfl
      obtain ⟨_, _, _, _, _, _, t6⟩ := hat 1 _ rfl
      rw [n1] at q6
      rw [n2] at t6
      simp only [List.length_cons, List.length_nil]
      have X1f := X1c.out.below HWF.out
      have X2f := X2.out.below HWF.out
      have y3 : wf.cell? ⟨wa.heap.size, 3, none⟩ = some (.int .i64 i1) := X1f.cell 3
      have y4 : wf.cell? ⟨wa.heap.size, 4, none⟩ = some (.int .i64 p1) := X1f.cell 4
      have u3 : wf.cell? ⟨wb.heap.size, 3, none⟩ = some (.int .i64 i2) := X2f.cell 3
      have u4 : wf.cell? ⟨wb.heap.size, 4, none⟩ = some (.int .i64 p2) := X2f.cell 4
      obtain ⟨i10, i11⟩ := HI1.out
      obtain ⟨p10, p11⟩ := HP1.out
      obtain ⟨i20, i21⟩ := HI2.out
      obtain ⟨p20, p21⟩ := HP2.out
      clear X1f X2f hat
      have hbz := BH.out
      go_wp2
      go_ret
      exact ⟨by first | rfl | (simp; done), (by repeat (first | (with_reducible exact Below.refl _ _) | (with_reducible assumption) | (with_reducible refine below_drewN ?_ _) | (with_reducible refine Below.drew ?_) | (with_reducible refine Below.alloc ?_ ?_ _) | (with_reducible refine Below.setCell ?_ ?_ _) | exact Below.refl _ _ | assumption | (solve | omega | simp | (simp; omega))))⟩
end Go.Proofs.YthpknbflmcoanaaDoor
