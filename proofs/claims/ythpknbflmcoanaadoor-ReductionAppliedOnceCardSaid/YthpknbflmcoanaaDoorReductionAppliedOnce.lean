/-
  ReductionAppliedOnce: the walk.
-/
import Derived.Test.YthpknbflmcoanaaDoorOne
namespace Go.Proofs.YthpknbflmcoanaaDoor
open Go.RowKit Mny

set_option maxRecDepth 100000 in
set_option maxHeartbeats 16000000 in
theorem walk_ReductionAppliedOnce (v0 : Value) (m : Int) (W : World) (h0 : RawTb W v0) (hD : DownAt W) : Calls Tryd.prog 12 #[v0, .int .i64 m] W fun e w' => e = .returned (.bool true) ∧ Below W.heap.size W w' := by
  have HD := Lib.hid hD
  clear hD
  go_enter Tryd.func12, Tryd.ntmps12
  go_wp2_with fail
  refine (law_One v0 W h0).mono ?_
  rintro e w1 ⟨va, xs, rfl, hx9, hgt, hc1, hown, hb1⟩
  have HB1 := Lib.hid hb1
  have HG1 := Lib.hid (hown.tab (by omega))
  have HVG := Lib.hid (hgt.val hx9)
  have HC1 := Lib.hid hc1
  clear hb1 hown hgt hc1
  have hs1 := HB1.out.size
  go_wp2_with fail
  refine (plain_Mod _ 2400 _ (by decide) (by decide)).mono ?_
  rintro e w' ⟨rfl, rfl⟩
  obtain ⟨mm, hmm⟩ : ∃ q, m % 2400 = q := ⟨_, rfl⟩
  have mm0 : 0 ≤ mm := by rw [← hmm]; exact Int.emod_nonneg _ (by decide)
  have mm1 : mm ≤ 2399 := by have := Int.emod_lt_of_pos m (show (0 : Int) < 2400 by decide); omega
  rw [hmm]
  clear hmm
  have HDE := Lib.hid (appR_yes (ded_all HVG.out (rt := []) (by decide) mm0 mm1)).2
  have h4 := red_Deductions HG1.out (tv := .slice none 0 0) (rt := []) (.inl ⟨_, _, rfl, rfl⟩) (HD.out.below HB1.out) mm
  rw [HDE.out] at h4
  have H4 := Lib.hid h4
  clear h4
  go_wp2_with fail
  refine (H4.out).mono ?_
  rintro e w4 ⟨ve, rfl, he, hb4⟩
  have HB4 := Lib.hid hb4
  have HTD := Lib.hid he
  clear he hb4
  go_wp2_with fail
  refine (red_awake _ (HD.out.below (below_then HB1.out HB4.out))).mono ?_
  rintro e w5 ⟨rfl, hbk⟩
  have HB5 := Lib.hid (below_then HB4.out hbk)
  have HD5 := Lib.hid (HTD.out.below hbk)
  have HG5 := Lib.hid (HG1.out.below HB5.out)
  have HBW := Lib.hid (below_then HB1.out HB5.out)
  clear hbk
  have HFR := Lib.hid (fun j f hf => dedS_from (l := xs) (rt := []) (m := mm) (j := j) (f := f) HC1.out ⟨mm0, mm1⟩ (by decide) hf (fun g hg => HVG.out.ok hg) (okG.gross (HVG.out.ok (List.mem_of_getElem? hf))))
  obtain ⟨ds, hds⟩ : ∃ ds, dedS xs [] mm = ds := ⟨_, rfl⟩
  have HOKD : Hid (∀ k r, ds[k]? = some r → OkD xs.length r) := Lib.hid (by intro k r h; rw [← hds] at h; exact dedS_ok h)
  have hdl : ds.length ≤ 324 := by rw [← hds]; exact dedS_len (by omega)
  rw [hds] at HD5 HFR
  clear hds
  obtain ⟨A0, c0, rfl⟩ := HG5.out.cut
  obtain ⟨A2, c2, rfl⟩ := HD5.out.cut
  obtain ⟨n, hn⟩ : ∃ n, xs.length = n := ⟨_, rfl⟩
  obtain ⟨q, hq⟩ : ∃ q, ds.length = q := ⟨_, rfl⟩
  have HN := Lib.hid hn
  have HQ := Lib.hid hq
  rw [hn] at HG5 HOKD hx9 ⊢
  rw [hq] at HD5 HFR hdl ⊢
  clear hn hq
  have hsz5 := HBW.out.size
  go_wp2
  go_loopw [9] (fun i wr => ∃ k : Nat, k ≤ n ∧ i = .int .i64 k ∧ Below w5.heap.size w5 wr) (fun i _ => n - (intOf i).toNat)
  case atStart => exact ⟨0, Nat.zero_le _, rfl, Below.refl _ _⟩
  case round =>
    obtain ⟨k, hk, rfl, hbl⟩ := hrel
    have HB := Lib.hid hbl
    clear hbl
    have hsz := HB.out.size
    by_cases hlt : k < n
    · obtain ⟨r, hr⟩ : ∃ r, xs[k]? = some r := ⟨xs[k]'(by rw [HN.out]; exact hlt), List.getElem?_eq_getElem _⟩
      have HK := Lib.hid hr
      obtain ⟨b, off, rfl, g1, l1, _⟩ := HG5.out.rowAt hr
      obtain ⟨gs, gb, gc, gi, gp, gn, gd⟩ := r
      have HFK := Lib.hid (HFR.out k _ hr)
      have HGA := Lib.hid g1
      clear g1 hr
      have i1 : (k : Int) < (n : Int) := by omega
      obtain ⟨wo, eo⟩ : ∃ q, q = wr := ⟨_, rfl⟩
      subst eo
      go_wp2
      go_loopw [10, 11] (fun s i wq => ∃ (j : Nat) (S : Int), j ≤ q ∧ i = .int .i64 j ∧ s = .int .i64 S ∧ fromK ds k j = S ∧ Below wo.heap.size wo wq) (fun _ i _ => q - (intOf i).toNat)
      case atStart => exact ⟨0, 0, Nat.zero_le _, rfl, rfl, rfl, Below.refl _ _⟩
      case round =>
        obtain ⟨j, S, hj', rfl, rfl, hS, hbl⟩ := hrel
        have HS := Lib.hid hS
        have HBi := Lib.hid hbl
        have HBo := Lib.hid (HB.out.trans (hbl.mono hsz))
        have hsb := fromK_bd (ds := ds) (j := k) (k := j) (fun r hr => by
          obtain ⟨j, hj⟩ := List.getElem?_of_mem hr
          obtain ⟨_, _, _, _, _, _, h, h2⟩ := HOKD.out j r hj
          exact ⟨h, h2⟩)
        rw [hS] at hsb
        obtain ⟨s0, s1⟩ := hsb
        clear hS hbl
        by_cases hlt2 : j < q
        · obtain ⟨r, hr⟩ : ∃ r, ds[j]? = some r := ⟨ds[j]'(by rw [HQ.out]; exact hlt2), List.getElem?_eq_getElem _⟩
          obtain ⟨x, y, hx, hy, hri, hrj, hrv0, hrv1⟩ := HOKD.out j r hr
          obtain ⟨ri, rj, rv⟩ := r
          simp only at hri hrj hrv0 hrv1
          subst hri hrj
          have HR2 := Lib.hid hr
          obtain ⟨b2, o2, rfl, hat, hb2⟩ := HD5.out.rowAt hr
          obtain ⟨d0, d1, d2⟩ := hat.below hb2 HBo.out j _ hr
          simp only at d0 d1 d2
          clear hr hat
          have i2 : (j : Int) < (q : Int) := by omega
          have hb4 := HBi.out
          by_cases e : y = k
          · have c3 : ((y : Int) == (k : Int)) = true := beq_iff_eq.2 (by omega)
            have c4 : (y == k) = true := beq_iff_eq.2 e
            have HNS := Lib.hid (fromK_hit (j := k) HR2.out (by simp only; omega))
            rw [HS.out] at HNS
            clear e
            have v1 : decide (rv < 1) = false := decide_eq_false (by omega)
            have v2 : decide (1000000000000 < rv) = false := decide_eq_false (by omega)
            go_wp2
            go_roundw
            case rel =>
              exact ⟨j + 1, _, by omega, by go_num, rfl, HNS.out, (by repeat (first | (with_reducible exact Below.refl _ _) | (with_reducible assumption) | (with_reducible refine below_drewN ?_ _) | (with_reducible refine Below.drew ?_) | (with_reducible refine Below.alloc ?_ ?_ _) | (with_reducible refine Below.setCell ?_ ?_ _) | exact Below.refl _ _ | assumption | (solve | omega | simp | (simp; omega))))⟩
            case measure => simp [intOf]; omega
          · have c3 : ((y : Int) == (k : Int)) = false := beq_eq_false_iff_ne.2 (by omega)
            have c4 : (y == k) = false := beq_eq_false_iff_ne.2 e
            have HNS := Lib.hid (fromK_miss (j := k) HR2.out (by simp only; omega))
            rw [HS.out] at HNS
            clear e
            go_wp2
            go_roundw
            case rel =>
              exact ⟨j + 1, _, by omega, by go_num, rfl, HNS.out, (by repeat (first | (with_reducible exact Below.refl _ _) | (with_reducible assumption) | (with_reducible refine below_drewN ?_ _) | (with_reducible refine Below.drew ?_) | (with_reducible refine Below.alloc ?_ ?_ _) | (with_reducible refine Below.setCell ?_ ?_ _) | exact Below.refl _ _ | assumption | (solve | omega | simp | (simp; omega))))⟩
            case measure => simp [intOf]; omega
        · obtain rfl : q = j := by omega
          have hle : S ≤ max gi gp := by
            have h := HFK.out
            rw [HS.out] at h
            unfold grossV at h
            simp only at h
            split at h <;> omega
          obtain ⟨_, _, _, x3, x4, _⟩ := HGA.out.below l1 HBo.out k _ HK.out
          simp only at x3 x4
          have v3 : decide (max gi gp < S) = false := decide_eq_false (by omega)
          have hb4 := HBi.out
          have hbo := HBo.out
          go_wp2
          go_quiet (fail)
          go_wp2
          go_roundw
          case rel => exact ⟨k + 1, by omega, by go_num, (by repeat (first | (with_reducible exact Below.refl _ _) | (with_reducible assumption) | (with_reducible refine below_drewN ?_ _) | (with_reducible refine Below.drew ?_) | (with_reducible refine Below.alloc ?_ ?_ _) | (with_reducible refine Below.setCell ?_ ?_ _) | exact Below.refl _ _ | assumption | (solve | omega | simp | (simp; omega))))⟩
          case measure => simp [intOf]; omega
    · obtain rfl : n = k := by omega
      have HBZ := Lib.hid (HBW.out.trans (HB.out.mono hsz5))
      have hbz := HBZ.out
      go_wp2
      go_ret
      exact ⟨rfl, (by repeat (first | (with_reducible exact Below.refl _ _) | (with_reducible assumption) | (with_reducible refine below_drewN ?_ _) | (with_reducible refine Below.drew ?_) | (with_reducible refine Below.alloc ?_ ?_ _) | (with_reducible refine Below.setCell ?_ ?_ _) | exact Below.refl _ _ | assumption | (solve | omega | simp | (simp; omega))))⟩
end Go.Proofs.YthpknbflmcoanaaDoor
