/-
  ReductionWithoutCuts: the walk.
-/
import Derived.Test.YthpknbflmcoanaaDoorOwnV
namespace Go.Proofs.YthpknbflmcoanaaDoor
open Go.RowKit Mny

set_option maxRecDepth 100000 in
set_option maxHeartbeats 16000000 in
theorem walk_ReductionWithoutCuts (v0 v1 : Value) (m : Int) (W : World) (h0 : RawTb W v0) (h1 : IntsIn W v1) (hD : DownAt W) : Calls Tryd.prog 14 #[v0, v1, .int .i64 m] W fun e w' => e = .returned (.bool true) ∧ Below W.heap.size W w' := by
  have HI := Lib.hid h1
  have HD := Lib.hid hD
  clear h1 hD
  go_enter Tryd.func14, Tryd.ntmps14
  go_wp2_with fail
  refine (law_List v0 W h0).mono ?_
  rintro e w1 ⟨va, xs, rfl, hx9, hgt, hown, hb1⟩
  have HB1 := Lib.hid hb1
  have HGT := Lib.hid hgt
  have HOW := Lib.hid (OwnG.of hown rfl)
  clear hb1 hown hgt
  have hs1 := HB1.out.size
  go_wp2_with fail
  refine (plain_Rates2 v1 _ (HI.out.below HB1.out)).mono ?_
  rintro e w2 ⟨vb, rt, rfl, hck, hr6, htab, hb2⟩
  have HB2 := Lib.hid (below_then HB1.out hb2)
  have HO2 := Lib.hid (HOW.out.below hb2)
  have HT := Lib.hid (TabFrom.own htab rfl (by omega))
  have HCK := Lib.hid hck
  have hs2' := hb2.size
  clear hb2 htab hck hr6
  have hs2 := HB2.out.size
  go_wp2_with fail
  refine (plain_Mod _ 2400 _ (by decide) (by decide)).mono ?_
  rintro e w' ⟨rfl, rfl⟩
  obtain ⟨mm, hmm⟩ : ∃ q, m % 2400 = q := ⟨_, rfl⟩
  have mm0 : 0 ≤ mm := by rw [← hmm]; exact Int.emod_nonneg _ (by decide)
  have mm1 : mm ≤ 2399 := by have := Int.emod_lt_of_pos m (show (0 : Int) < 2400 by decide); omega
  rw [hmm]
  clear hmm
  obtain ⟨A0, c0, rfl⟩ := HOW.out.cut
  obtain ⟨n, hn⟩ : ∃ n, xs.length = n := ⟨_, rfl⟩
  have HN := Lib.hid hn
  rw [hn] at HO2 HOW HGT hx9 ⊢
  clear hn
  go_wp2
  go_loopw [10] (fun i wr => ∃ (k : Nat) (ys : List Gr), k ≤ n ∧ i = .int .i64 k ∧ ys.length = n ∧ GoodTo ys n ∧ (∀ j r, j < k → ys[j]? = some r → r.n = 0) ∧ OwnG wr W.heap.size (.slice A0 n c0) ys ∧ TabFrom w1.heap.size wr vb rt ∧ Below W.heap.size W wr) (fun i _ => n - (intOf i).toNat)
  case atStart => exact ⟨0, xs, Nat.zero_le _, rfl, HN.out, HGT.out, (fun j r h => absurd h (Nat.not_lt_zero _)), HO2.out, HT.out, HB2.out⟩
  case round =>
    obtain ⟨k, ys, hk, rfl, hyl, hgt, hn0, hown, htab, hbl⟩ := hrel
    have HYL := Lib.hid hyl
    have HG := Lib.hid hgt
    have HN0 := Lib.hid hn0
    have HO := Lib.hid hown
    have HTr := Lib.hid htab
    have HB := Lib.hid hbl
    clear hyl hgt hn0 hown htab hbl
    have hsz := HB.out.size
    by_cases hlt : k < n
    · obtain ⟨r, hr⟩ : ∃ r, ys[k]? = some r := ⟨ys[k]'(by rw [HYL.out]; exact hlt), List.getElem?_eq_getElem _⟩
      have HK := Lib.hid hr
      have hok := (HG.out k r hlt hr).1
      obtain ⟨gs, gb, gc, gi, gp, gn, gd⟩ := r
      have HOK : Hid (okG ⟨gs, gb, gc, gi, gp, 0, 1⟩ = true) := Lib.hid (by
        obtain ⟨a1, a2, a3, a4, a5, _⟩ := okG_iff.1 hok
        exact okG_iff.2 ⟨a1, a2, a3, a4, a5, by decide, by omega, by omega⟩)
      obtain ⟨g, ar, rfl, hg, hx, hri, hc, _⟩ := HO.out.rowAt hr
      have hgl := hx.lt
      have hg1 : g < w1.heap.size := by
        obtain ⟨x0, hx0⟩ : ∃ x, xs[k]? = some x := ⟨xs[k]'(by rw [HN.out]; exact hlt), List.getElem?_eq_getElem _⟩
        obtain ⟨g', ar', e, _, h, _⟩ := HOW.out.rowAt hx0
        injection e with e
        injection e with e
        rw [e]
        exact h.lt
      have HX := Lib.hid hx
      have HRI := Lib.hid hri
      have k5 : wr.cell? ⟨g, k * 7 + 5, none⟩ = some (.int .i64 gn) := (hx.cell _).trans (hri k _ 5 hr (by omega))
      have k6 : wr.cell? ⟨g, k * 7 + 6, none⟩ = some (.int .i64 gd) := (hx.cell _).trans (hri k _ 6 hr (by omega))
      have f5 : wr.frozen? ⟨g, k * 7 + 5, none⟩ = false := hx.free _
      have f6 : wr.frozen? ⟨g, k * 7 + 6, none⟩ = false := hx.free _
      clear hr hok hx hri
      have i1 : (k : Int) < (n : Int) := by omega
      have hb := HB.out
      go_wp2
      go_roundw
      case rel =>
        have hr1 := HRI.out.put (t := 5) (r' := ⟨gs, gb, gc, gi, gp, 0, gd⟩) (v := 0) HK.out (by omega) (fun t ht => by match t, ht with | 0, _ => rfl | 1, _ => rfl | 2, _ => rfl | 3, _ => rfl | 4, _ => rfl | 5, _ => rfl | 6, _ => rfl)
        have hr2 := hr1.put (t := 6) (r' := ⟨gs, gb, gc, gi, gp, 0, 1⟩) (v := 1) (List.getElem?_set_self (by rw [HYL.out]; exact hlt)) (by omega) (fun t ht => by match t, ht with | 0, _ => rfl | 1, _ => rfl | 2, _ => rfl | 3, _ => rfl | 4, _ => rfl | 5, _ => rfl | 6, _ => rfl)
        rw [List.set_set] at hr2
        refine ⟨k + 1, ys.set k ⟨gs, gb, gc, gi, gp, 0, 1⟩, by omega, by go_num, ?_, HG.out.set HK.out rfl rfl HOK.out, ?_, OwnG.mk hg ((HX.out.put _ _).put _ _) hr2 hc ?_, (HTr.out.put hg1).put hg1, ?_⟩
        · rw [List.length_set]; exact HYL.out
        · intro j r hj hr
          by_cases e : k = j
          · subst e
            rw [List.getElem?_set_self (by rw [HYL.out]; exact hlt)] at hr
            injection hr with hr
            subst hr
            rfl
          · rw [List.getElem?_set_ne e] at hr
            exact HN0.out j r (by omega) hr
        · rw [List.length_set]; exact HYL.out
        · exact (by repeat (first | (with_reducible assumption) | (with_reducible exact Below.refl _ _) | (with_reducible refine Below.setCell ?_ ?_ _) | (with_reducible refine Below.alloc ?_ ?_ _) | (with_reducible refine Below.drew ?_) | (with_reducible refine below_drewN ?_ _) | (with_reducible exact Nat.le_refl _) | omega | (simp; done) | (simp; omega)))
      case measure => simp [intOf]; omega
    · obtain rfl : n = k := by omega
      clear HOW HO2 HT
      obtain ⟨wo, eo⟩ : ∃ q, q = wr := ⟨_, rfl⟩
      subst eo
      have HG3 := Lib.hid (HO.out.tab (by rw [HYL.out]; omega))
      have HVG : Hid (ValG ys) := Lib.hid ⟨by rw [HYL.out]; omega, by rw [HYL.out]; exact HG.out⟩
      have HAP := Lib.hid (appR_yes (ded_all HVG.out HCK.out mm0 mm1)).1
      have HNG : Hid (∀ (k : Nat) (g : Gr), ys[k]? = some g → (netS ys (dedS ys rt mm))[k]? = some (⟨g.s, g.b, g.c, g.i, g.p, 0, max g.i g.p⟩ : Nt)) := Lib.hid (fun k g hg => by
        have h1 := (okG.bd (HVG.out.ok (List.mem_of_getElem? hg))).1.1
        have h2 := HN0.out k g (by rw [← HYL.out]; exact (List.getElem?_eq_some_iff.1 hg).1) hg
        rw [netS_get hg h1]
        unfold netG
        rw [dedT_0 (show redB g = false by unfold redB; rw [h2]; rfl), Int.sub_zero])
      have h3 := red_Apply HG3.out HTr.out.tab (HD.out.below HB.out) mm
      rw [HAP.out] at h3
      have H3 := Lib.hid h3
      clear h3
      go_wp2_with fail
      refine (H3.out).mono ?_
      rintro e w3 ⟨vd, rfl, hd, hb3⟩
      have HB3 := Lib.hid hb3
      have HTN := Lib.hid hd
      clear hd hb3
      go_wp2_with fail
      refine (red_awake _ (HD.out.below (below_then HB.out HB3.out))).mono ?_
      rintro e w5 ⟨rfl, hbk⟩
      have HB5 := Lib.hid (below_then HB3.out hbk)
      have HN5 := Lib.hid (HTN.out.below hbk)
      have HG5 := Lib.hid (HG3.out.below HB5.out)
      have HBW := Lib.hid (below_then HB.out HB5.out)
      clear hbk
      obtain ⟨A1, c1, rfl⟩ := HN5.out.cut
      rw [netS_len, HYL.out] at HN5 ⊢
      have ce : ((n : Int) != (n : Int)) = false := by simp
      have ce2 : (n != n) = false := by simp
      have hsz5 := HBW.out.size
      go_wp2
      go_loopw [13] (fun i wr => ∃ k : Nat, k ≤ n ∧ i = .int .i64 k ∧ Below w5.heap.size w5 wr) (fun i _ => n - (intOf i).toNat)
      case atStart => exact ⟨0, Nat.zero_le _, rfl, Below.refl _ _⟩
      case round =>
        obtain ⟨k, hk, rfl, hbl⟩ := hrel
        have HBr := Lib.hid hbl
        clear hbl
        by_cases hlt : k < n
        · obtain ⟨r, hr⟩ : ∃ r, ys[k]? = some r := ⟨ys[k]'(by rw [HYL.out]; exact hlt), List.getElem?_eq_getElem _⟩
          have hrn := HNG.out k r hr
          obtain ⟨b, off, rfl, g1, l1, _⟩ := HG5.out.rowAt hr
          obtain ⟨b1, o1, rfl, n1, l2⟩ := HN5.out.rowAt hrn
          obtain ⟨gs, gb, gc, gi, gp, gn, gd⟩ := r
          obtain ⟨x0, x1, x2, x3, x4, _⟩ := g1.below l1 HBr.out k _ hr
          obtain ⟨y0, y1, y2, _, _, y5, y6⟩ := n1.below l2 HBr.out k _ hrn
          simp only at x0 x1 x2 x3 x4 y0 y1 y2 y5 y6
          clear hr hrn g1 n1
          have i1 : (k : Int) < (n : Int) := by omega
          have v1 : (max gi gp != max gi gp) = false := by simp
          have v2 : (gs != gs) = false := by simp
          have v3 : (gb != gb) = false := by simp
          have v4 : (gc != gc) = false := by simp
          have v5 : ((0 : Int) != 0) = false := by simp
          have hb4 := HBr.out
          go_wp2
          go_quiet (fail)
          go_wp2
          go_roundw
          case rel => exact ⟨k + 1, by omega, by go_num, (by repeat (first | (with_reducible exact Below.refl _ _) | (with_reducible assumption) | (with_reducible refine below_drewN ?_ _) | (with_reducible refine Below.drew ?_) | (with_reducible refine Below.alloc ?_ ?_ _) | (with_reducible refine Below.setCell ?_ ?_ _) | exact Below.refl _ _ | assumption | (solve | omega | simp | (simp; omega))))⟩
          case measure => simp [intOf]; omega
        · obtain rfl : n = k := by omega
          have HBZ := Lib.hid (HBW.out.trans (HBr.out.mono hsz5))
          have hbz := HBZ.out
          go_wp2
          go_ret
          exact ⟨rfl, (by repeat (first | (with_reducible exact Below.refl _ _) | (with_reducible assumption) | (with_reducible refine below_drewN ?_ _) | (with_reducible refine Below.drew ?_) | (with_reducible refine Below.alloc ?_ ?_ _) | (with_reducible refine Below.setCell ?_ ?_ _) | exact Below.refl _ _ | assumption | (solve | omega | simp | (simp; omega))))⟩
end Go.Proofs.YthpknbflmcoanaaDoor
