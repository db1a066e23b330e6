/-
  ReductionIsMonotone: the walk.
-/
import Derived.Test.YthpknbflmcoanaaDoorOwnV
import Derived.Test.YthpknbflmcoanaaDoorCopy
namespace Go.Proofs.YthpknbflmcoanaaDoor
open Go.RowKit Mny

set_option maxRecDepth 100000 in
set_option maxHeartbeats 16000000 in
theorem walk_ReductionIsMonotone (v0 : Value) (ak ad : Int) (W : World) (h0 : RawTb W v0) (hD : DownAt W) : Calls Tryd.prog 15 #[v0, .int .i64 ak, .int .i64 ad] W fun e w' => e = .returned (.bool true) ∧ Below W.heap.size W w' := by
  have HD := Lib.hid hD
  clear hD
  obtain ⟨j0, hj, hy0, hy1, hy2⟩ := info_parts info_gross
  go_enter Tryd.func15, Tryd.ntmps15
  go_wp2_with fail
  refine (law_One v0 W h0).mono ?_
  rintro e w1 ⟨va, xs, rfl, hx9, hgt, hc1, hown, hb1⟩
  have HB1 := Lib.hid hb1
  have HGT := Lib.hid hgt
  have HC1 := Lib.hid hc1
  have HOW := Lib.hid hown
  clear hb1 hgt hc1 hown
  have hs1 := HB1.out.size
  obtain ⟨A0, c0, rfl⟩ := HOW.out.cut
  obtain ⟨n, hn⟩ : ∃ n, xs.length = n := ⟨_, rfl⟩
  have HN := Lib.hid hn
  rw [hn] at HOW HGT hx9 ⊢
  clear hn
  rcases Nat.eq_zero_or_pos n with h00 | h00
  · subst h00
    go_wp2_with fail
    refine (red_awake _ (HD.out.below HB1.out)).mono ?_
    rintro e w2 ⟨rfl, hb2⟩
    have HB2 := Lib.hid (below_then HB1.out hb2)
    clear hb2
    have hbz := HB2.out
    go_wp2
    go_ret
    exact ⟨rfl, (by repeat (first | (with_reducible exact Below.refl _ _) | (with_reducible assumption) | (with_reducible refine below_drewN ?_ _) | (with_reducible refine Below.drew ?_) | (with_reducible refine Below.alloc ?_ ?_ _) | (with_reducible refine Below.setCell ?_ ?_ _) | exact Below.refl _ _ | assumption | (solve | omega | simp | (simp; omega))))⟩
  · have z0 : ((n : Int) == 0) = false := beq_eq_false_iff_ne.2 (by omega)
    have z1 : (n == 0) = false := beq_eq_false_iff_ne.2 (by omega)
    go_wp2_with fail
    refine (plain_ModN ak (n : Int) _ (by omega) (by omega)).mono ?_
    rintro e w' ⟨kk, rfl, hkk, rfl⟩
    have hkn : kk < n := by omega
    obtain ⟨r, hr⟩ : ∃ r, xs[kk]? = some r := ⟨xs[kk]'(by rw [HN.out]; exact hkn), List.getElem?_eq_getElem _⟩
    have HK := Lib.hid hr
    have hok := (HGT.out kk r hkn hr).1
    have hrc := HC1.out r (List.mem_of_getElem? hr)
    obtain ⟨gs, gb, gc, gi, gp, gn, gd⟩ := r
    simp only at hrc
    subst hrc
    obtain ⟨b1, b2, b3, b4, b5, b6⟩ := okG_iff.1 hok
    have hok1 : okG ⟨gs, gb, 1, gi, gp, 0, 1⟩ = true := okG_iff.2 ⟨b1, b2, b3, b4, b5, by decide, by omega, by omega⟩
    obtain ⟨g, ar, rfl, hg, hx, hri, hc, _⟩ := HOW.out.rowAt hr
    have HX := Lib.hid hx
    have HRI := Lib.hid hri
    have hgl := hx.lt
    have i1 : (kk : Int) < (n : Int) := by omega
    have k5 : w1.cell? ⟨g, kk * 7 + 5, none⟩ = some (.int .i64 gn) := (hx.cell _).trans (hri kk _ 5 hr (by omega))
    have k6 : w1.cell? ⟨g, kk * 7 + 6, none⟩ = some (.int .i64 gd) := (hx.cell _).trans (hri kk _ 6 hr (by omega))
    have f5 : w1.frozen? ⟨g, kk * 7 + 5, none⟩ = false := hx.free _
    have f6 : w1.frozen? ⟨g, kk * 7 + 6, none⟩ = false := hx.free _
    have hr1 := hri.put (t := 5) (r' := ⟨gs, gb, 1, gi, gp, 0, gd⟩) (v := 0) hr (by omega) (fun t ht => by match t, ht with | 0, _ => rfl | 1, _ => rfl | 2, _ => rfl | 3, _ => rfl | 4, _ => rfl | 5, _ => rfl | 6, _ => rfl)
    have hr2 := hr1.put (t := 6) (r' := ⟨gs, gb, 1, gi, gp, 0, 1⟩) (v := 1) (List.getElem?_set_self (by rw [HN.out]; exact hkn)) (by omega) (fun t ht => by match t, ht with | 0, _ => rfl | 1, _ => rfl | 2, _ => rfl | 3, _ => rfl | 4, _ => rfl | 5, _ => rfl | 6, _ => rfl)
    rw [List.set_set] at hr2
    have hgt1 := HGT.out.set hr (r' := ⟨gs, gb, 1, gi, gp, 0, 1⟩) rfl rfl hok1
    obtain ⟨ys, hys⟩ : ∃ ys, xs.set kk ⟨gs, gb, 1, gi, gp, 0, 1⟩ = ys := ⟨_, rfl⟩
    have hyk : ys[kk]? = some ⟨gs, gb, 1, gi, gp, 0, 1⟩ := by rw [← hys]; exact List.getElem?_set_self (by rw [HN.out]; exact hkn)
    have hyl : ys.length = n := by rw [← hys, List.length_set]; exact HN.out
    have hyc : ∀ z ∈ ys, z.c = 1 := fun z hz => by
      rw [← hys] at hz
      rcases List.mem_or_eq_of_mem_set hz with h | h
      · exact HC1.out z h
      · rw [h]
    rw [hys] at hr2 hgt1
    have HVY : Hid (ValG ys) := Lib.hid ⟨by omega, by rw [hyl]; exact hgt1⟩
    have HYK := Lib.hid hyk
    have HYC := Lib.hid hyc
    have HYL := Lib.hid hyl
    have HRY := Lib.hid hr2
    clear hr hok hok1 hx hri hr1 hr2 hgt1 hys hyk hyc hyl
    have HOY : Hid (OwnG ((w1.setCell ⟨g, kk * 7 + 5, none⟩ (.int .i64 0)).setCell ⟨g, kk * 7 + 6, none⟩ (.int .i64 1)) W.heap.size (.slice (some ⟨g, 0, none⟩) n c0) ys) := Lib.hid (OwnG.mk hg ((HX.out.put _ _).put _ _) HRY.out hc HYL.out)
    have hb1 := HB1.out
    have HB2 : Hid (Below W.heap.size W ((w1.setCell ⟨g, kk * 7 + 5, none⟩ (.int .i64 0)).setCell ⟨g, kk * 7 + 6, none⟩ (.int .i64 1))) := Lib.hid (by repeat (first | (with_reducible assumption) | (with_reducible exact Below.refl _ _) | (with_reducible refine Below.setCell ?_ ?_ _) | (with_reducible refine Below.alloc ?_ ?_ _) | (with_reducible refine Below.drew ?_) | (with_reducible refine below_drewN ?_ _) | (with_reducible exact Nat.le_refl _) | omega | (simp; done) | (simp; omega)))
    obtain ⟨w2, hw2⟩ : ∃ q, ((w1.setCell ⟨g, kk * 7 + 5, none⟩ (.int .i64 0)).setCell ⟨g, kk * 7 + 6, none⟩ (.int .i64 1)) = q := ⟨_, rfl⟩
    rw [hw2] at HOY HB2
    have HW2 := Lib.hid hw2
    clear hw2 hb1
    have HGY := Lib.hid (HOY.out.tab (by rw [HYL.out]; omega))
    have HAP := Lib.hid (appR_yes (ded_all HVY.out (rt := []) (m := 0) (by decide) (by omega) (by omega))).1
    have h3 := red_Apply HGY.out (tv := .slice none 0 0) (rt := []) (.inl ⟨_, _, rfl, rfl⟩) (HD.out.below HB2.out) 0
    rw [HAP.out] at h3
    have H3 := Lib.hid h3
    clear h3
    go_wp2_with fail
    rw [HW2.out]
    refine (H3.out).mono ?_
    rintro e w4 ⟨vn, rfl, hnt, hb4⟩
    have HB4 := Lib.hid (below_then HB2.out hb4)
    have HN4 := Lib.hid hnt
    have HG4 := Lib.hid (HGY.out.below hb4)
    have HO4 := Lib.hid (HOY.out.below hb4)
    clear hnt hb4 k5 k6 f5 f6
    have hs4 := HB4.out.size
    obtain ⟨g', ar', e1, _, hx4, hri4, _, _⟩ := HO4.out.rowAt HYK.out
    injection e1 with e1
    injection e1 with e1
    subst e1
    have hcell := gross_cells_at (hri4.gross hx4)
    have hll : (grCells ys).length = n * 7 := by rw [grCells_len, HYL.out]
    go_wp2_with (at_builtin; go_loud (refine wpList_append_own_at _ rfl _ _ 22 rfl w4.heap.size 27 j0 (.agg #[.int .i64 0, .int .i64 0, .int .i64 0, .int .i64 0, .int .i64 0, .int .i64 0, .int .i64 0]) 7 56 Tryd.underlying22 hj hy0 hy1 hy2 rfl (by decide) _ _ _ rfl (show w4.ownsRow w4.heap.size 27 7 (.slice none 0 0) 0 [] from ⟨rfl, .inl ⟨rfl, rfl⟩⟩) ⟨g, 0, none⟩ n c0 (grCells ys) rfl hll hcell (one_gr _) (by unfold maxLen; omega) (by omega) (Nat.le_refl _) ?_))
    intro v5 w5 hown5 hgrow5 _ _
    try simp only [Nat.zero_add, List.nil_append] at hown5
    obtain ⟨A5, c5, rfl⟩ := own_slice hown5
    have HB5 : Hid (Below w4.heap.size w4 w5) := Lib.hid ((Below.refl w4.heap.size w4).grown hgrow5 (Nat.le_refl _) (fun g hg => by simp [Value.ownBlock] at hg))
    have ho5 := OwnG.of hown5 HYL.out
    clear hown5 hgrow5 hcell hx4 hri4
    have hs5 := HB5.out.size
    obtain ⟨g5, ar5, rfl, hg5, hx5, hri5, hc5, _⟩ := ho5.rowAt HYK.out
    have HX5 := Lib.hid hx5
    have HR5 := Lib.hid hri5
    have hgl5 := hx5.lt
    have k3 : w5.cell? ⟨g5, kk * 7 + 3, none⟩ = some (.int .i64 gi) := (hx5.cell _).trans (hri5 kk _ 3 HYK.out (by omega))
    have f3 : w5.frozen? ⟨g5, kk * 7 + 3, none⟩ = false := hx5.free _
    clear ho5 hx5 hri5
    go_upto_region 8 with (fail)
    go_cut [] (fun wx => ∃ iv : Int, Bx wx g5 27 (ar5.setIfInBounds (kk * 7 + 3) (.int .i64 iv)) ∧ gi ≤ iv ∧ iv ≤ 1000000000000 ∧ Below w4.heap.size w4 wx)
    case first =>
      have S0 : Below w4.heap.size w4 w5 := HB5.out
      have S1 : Below w4.heap.size w4 w5.drew := HB5.out.drew
      go_region_with (first | (go_at_call 24; refine (plain_ModN ad 100000 _ (by decide) (by decide)).mono ?_; rintro e w' ⟨rr, rfl, hrr, rfl⟩; have V1 : IntKind.i64.wrap (gi + (rr : Int)) = gi + (rr : Int) := IntWalk.i64_in _ (by omega)))
      all_goals
        go_wp2_with fail
        go_meet
        exact ⟨_, (by first | exact HX5.out.put _ _ | exact (HX5.out.put _ _).drew | exact (HX5.out.drew).put _ _), by omega, by omega, (by repeat (first | (with_reducible assumption) | (with_reducible exact Below.refl _ _) | (with_reducible refine Below.setCell ?_ ?_ _) | (with_reducible refine Below.alloc ?_ ?_ _) | (with_reducible refine Below.drew ?_) | (with_reducible refine below_drewN ?_ _) | (with_reducible exact Nat.le_refl _) | omega | (simp; done) | (simp; omega)))⟩
    case rest =>
      obtain ⟨iv, hbx, hiv0, hiv1, hbl⟩ := hcut
      have HBc := Lib.hid hbl
      have hsc := hbl.size
      have hput := HR5.out.put (t := 3) (r' := ⟨gs, gb, 1, iv, gp, 0, 1⟩) (v := iv) HYK.out (by omega) (fun t ht => by match t, ht with | 0, _ => rfl | 1, _ => rfl | 2, _ => rfl | 3, _ => rfl | 4, _ => rfl | 5, _ => rfl | 6, _ => rfl)
      have hok2 : okG ⟨gs, gb, 1, iv, gp, 0, 1⟩ = true := okG_iff.2 ⟨b1, b2, b3, ⟨by omega, hiv1⟩, b5, by decide, by omega, by omega⟩
      have hgt2 := HVY.out.2.set HYK.out (r' := ⟨gs, gb, 1, iv, gp, 0, 1⟩) rfl rfl hok2
      have HOZ := Lib.hid (OwnG.mk (base := w4.heap.size) hg5 hbx hput hc5 (by rw [List.length_set]; exact HYL.out))
      have hmono := fun (i : Nat) (z : Gr) (h : ys[i]? = some z) => net_mono (l := ys) (rt := []) (m := 0) (gk' := ⟨gs, gb, 1, iv, gp, 0, 1⟩) HYK.out rfl rfl rfl rfl (by unfold grossV; simp only; split <;> split <;> omega) (okG.gross hok2).2 HYC.out (fun z hz => HVY.out.ok hz) (fun z hz => okG.gross (HVY.out.ok hz)) ⟨by omega, by omega⟩ (by decide) h
      have hzne : ∀ i z, i ≠ kk → ys[i]? = some z → (ys.set kk ⟨gs, gb, 1, iv, gp, 0, 1⟩)[i]? = some z := fun i z hi hz => by rw [List.getElem?_set_ne (fun h => hi h.symm)]; exact hz
      have hzl : (ys.set kk ⟨gs, gb, 1, iv, gp, 0, 1⟩).length = n := by rw [List.length_set]; exact HYL.out
      obtain ⟨zs, hzs⟩ : ∃ zs, ys.set kk ⟨gs, gb, 1, iv, gp, 0, 1⟩ = zs := ⟨_, rfl⟩
      rw [hzs] at hgt2 HOZ hmono hzl hzne
      have HVZ : Hid (ValG zs) := Lib.hid ⟨by omega, by rw [hzl, ← HYL.out]; exact hgt2⟩
      have HMN := Lib.hid hmono
      have HZN := Lib.hid hzne
      have HZL := Lib.hid hzl
      clear hbx hbl hput hok2 hgt2 hzs hmono hzne hzl k3 f3
      obtain ⟨w6, e6⟩ : ∃ q, q = wc := ⟨_, rfl⟩
      subst e6
      have HGZ := Lib.hid (HOZ.out.tab (by rw [HZL.out]; omega))
      have HAZ := Lib.hid (appR_yes (ded_all HVZ.out (rt := []) (m := 0) (by decide) (by omega) (by omega))).1
      have HB6 := Lib.hid (HB4.out.trans (HBc.out.mono hs4))
      have h7 := red_Apply HGZ.out (tv := .slice none 0 0) (rt := []) (.inl ⟨_, _, rfl, rfl⟩) (HD.out.below HB6.out) 0
      rw [HAZ.out] at h7
      have H7 := Lib.hid h7
      clear h7
      go_wp2_with fail
      refine (H7.out).mono ?_
      rintro e w7 ⟨vx, rfl, hx7, hb7⟩
      have HB7 := Lib.hid (below_then HBc.out hb7)
      have HX7 := Lib.hid hx7
      clear hx7 hb7
      have HB7W := Lib.hid (HB4.out.trans (HB7.out.mono hs4))
      go_wp2_with fail
      refine (red_awake _ (HD.out.below HB7W.out)).mono ?_
      rintro e w8 ⟨rfl, hb8⟩
      have HB8 := Lib.hid (below_then HB7.out hb8)
      have HX8 := Lib.hid (HX7.out.below hb8)
      have HN8 := Lib.hid (HN4.out.below HB8.out)
      have HBW := Lib.hid (HB4.out.trans (HB8.out.mono hs4))
      clear hb8
      have hsw := HBW.out.size
      obtain ⟨A1, c1, rfl⟩ := HN8.out.cut
      obtain ⟨A2, c2, rfl⟩ := HX8.out.cut
      rw [netS_len, HYL.out] at HN8 ⊢
      rw [netS_len, HZL.out] at HX8 ⊢
      have ce : ((n : Int) != (n : Int)) = false := by simp
      have ce2 : (n != n) = false := by simp
      go_wp2
      go_loopw [14] (fun i wr => ∃ k : Nat, k ≤ n ∧ i = .int .i64 k ∧ Below w8.heap.size w8 wr) (fun i _ => n - (intOf i).toNat)
      case atStart => exact ⟨0, Nat.zero_le _, rfl, Below.refl _ _⟩
      case round =>
        obtain ⟨k, hk, rfl, hbl⟩ := hrel
        have HBr := Lib.hid hbl
        clear hbl
        by_cases hlt : k < n
        · have i1 : (k : Int) < (n : Int) := by omega
          have hb4 := HBr.out
          by_cases ek : k = kk
          · have c3 : ((k : Int) != (kk : Int)) = false := bne_eq_false_iff_eq.2 (by omega)
            have c4 : (k != kk) = false := bne_eq_false_iff_eq.2 ek
            go_wp2
            go_quiet (fail)
            go_wp2
            go_roundw
            case rel => exact ⟨k + 1, by omega, by go_num, (by repeat (first | (with_reducible exact Below.refl _ _) | (with_reducible assumption) | (with_reducible refine below_drewN ?_ _) | (with_reducible refine Below.drew ?_) | (with_reducible refine Below.alloc ?_ ?_ _) | (with_reducible refine Below.setCell ?_ ?_ _) | exact Below.refl _ _ | assumption | (solve | omega | simp | (simp; omega))))⟩
            case measure => simp [intOf]; omega
          · have c3 : ((k : Int) != (kk : Int)) = true := bne_iff_ne.2 (by omega)
            have c4 : (k != kk) = true := bne_iff_ne.2 ek
            obtain ⟨z, hz⟩ : ∃ z, ys[k]? = some z := ⟨ys[k]'(by rw [HYL.out]; exact hlt), List.getElem?_eq_getElem _⟩
            have hm := HMN.out k z hz
            have hz2 := HZN.out k z ek hz
            have hn1 := netS_get (rt := []) (m := 0) hz (okG.bd (HVY.out.ok (List.mem_of_getElem? hz))).1.1
            have hn2 := netS_get (rt := []) (m := 0) hz2 (okG.bd (HVZ.out.ok (List.mem_of_getElem? hz2))).1.1
            obtain ⟨bn, on, rfl, an, ln⟩ := HN8.out.rowAt hn1
            obtain ⟨bx, ox, rfl, ax, lx⟩ := HX8.out.rowAt hn2
            obtain ⟨_, _, _, _, _, _, y6⟩ := an.below ln HBr.out k _ hn1
            obtain ⟨_, _, _, _, _, _, u6⟩ := ax.below lx HBr.out k _ hn2
            obtain ⟨a1, ha1⟩ : ∃ q, (netG ys [] 0 z).a = q := ⟨_, rfl⟩
            obtain ⟨a2, ha2⟩ : ∃ q, (netG zs [] 0 z).a = q := ⟨_, rfl⟩
            rw [ha1] at y6 hm
            rw [ha2] at u6 hm
            clear hz hz2 hn1 hn2 an ax ha1 ha2
            have v1 : decide (a1 < a2) = false := decide_eq_false (by omega)
            go_wp2
            go_quiet (fail)
            go_wp2
            go_roundw
            case rel => exact ⟨k + 1, by omega, by go_num, (by repeat (first | (with_reducible exact Below.refl _ _) | (with_reducible assumption) | (with_reducible refine below_drewN ?_ _) | (with_reducible refine Below.drew ?_) | (with_reducible refine Below.alloc ?_ ?_ _) | (with_reducible refine Below.setCell ?_ ?_ _) | exact Below.refl _ _ | assumption | (solve | omega | simp | (simp; omega))))⟩
            case measure => simp [intOf]; omega
        · obtain rfl : n = k := by omega
          have HBZ := Lib.hid (HBW.out.trans (HBr.out.mono hsw))
          have hbz := HBZ.out
          go_wp2
          go_ret
          exact ⟨rfl, (by repeat (first | (with_reducible exact Below.refl _ _) | (with_reducible assumption) | (with_reducible refine below_drewN ?_ _) | (with_reducible refine Below.drew ?_) | (with_reducible refine Below.alloc ?_ ?_ _) | (with_reducible refine Below.setCell ?_ ?_ _) | exact Below.refl _ _ | assumption | (solve | omega | simp | (simp; omega))))⟩
end Go.Proofs.YthpknbflmcoanaaDoor
