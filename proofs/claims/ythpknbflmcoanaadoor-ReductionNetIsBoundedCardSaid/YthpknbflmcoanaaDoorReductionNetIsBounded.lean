/-
  ReductionNetIsBounded: the walk.
-/
import Derived.Test.YthpknbflmcoanaaDoorHand
namespace Go.Proofs.YthpknbflmcoanaaDoor
open Go.RowKit Mny

set_option maxRecDepth 100000 in
set_option maxHeartbeats 16000000 in
theorem walk_ReductionNetIsBounded (v0 v1 : Value) (m : Int) (W : World) (h0 : RawTb W v0) (h1 : IntsIn W v1) (hD : DownAt W) : Calls Tryd.prog 11 #[v0, v1, .int .i64 m] W fun e w' => e = .returned (.bool true) ∧ Below W.heap.size W w' := by
  have HI := Lib.hid h1
  have HD := Lib.hid hD
  clear h1 hD
  go_enter Tryd.func11, Tryd.ntmps11
  go_wp2_with fail
  refine (law_List v0 W h0).mono ?_
  rintro e w1 ⟨va, xs, rfl, hx9, hgt, hown, hb1⟩
  have HB1 := Lib.hid hb1
  have HOW := Lib.hid hown
  have HG1 := Lib.hid (GTb.own hown rfl (by omega))
  have HVG := Lib.hid (hgt.val hx9)
  clear hb1 hown hgt
  have hs1 := HB1.out.size
  go_wp2_with fail
  refine (plain_Rates v1 _ (HI.out.below HB1.out)).mono ?_
  rintro e w2 ⟨vb, rt, rfl, hck, hr6, htab, hb2⟩
  have HB2 := Lib.hid (below_then HB1.out hb2)
  have HG := Lib.hid (HG1.out.below hb2)
  have HT := Lib.hid htab
  have HCK := Lib.hid hck
  clear hb2 htab hck hr6
  have hs2 := HB2.out.size
  have HD2 := Lib.hid (HD.out.below HB2.out)
  go_wp2_with fail
  refine (plain_Mod _ 2400 _ (by decide) (by decide)).mono ?_
  rintro e w' ⟨rfl, rfl⟩
  obtain ⟨mm, hmm⟩ : ∃ q, m % 2400 = q := ⟨_, rfl⟩
  have mm0 : 0 ≤ mm := by rw [← hmm]; exact Int.emod_nonneg _ (by decide)
  have mm1 : mm ≤ 2399 := by have := Int.emod_lt_of_pos m (show (0 : Int) < 2400 by decide); omega
  rw [hmm]
  clear hmm
  have HDB := Lib.hid (ded_all HVG.out HCK.out mm0 mm1)
  have HDE := Lib.hid (appR_yes HDB.out).2
  have HAP := Lib.hid (appR_yes HDB.out).1
  have h3 := red_Apply HG.out HT.out HD2.out mm
  rw [HAP.out] at h3
  have H3 := Lib.hid h3
  clear h3
  go_wp2_with fail
  refine (H3.out).mono ?_
  rintro e w3 ⟨vd, rfl, hd, hb3⟩
  have HB3 := Lib.hid hb3
  have HTN := Lib.hid hd
  clear hd hb3
  have h4 := red_Deductions (HG.out.below HB3.out) (HT.out.below HB3.out) (HD2.out.below HB3.out) mm
  rw [HDE.out] at h4
  have H4 := Lib.hid h4
  clear h4
  go_wp2_with fail
  refine (H4.out).mono ?_
  rintro e w4 ⟨ve, rfl, he, hb4⟩
  have HB4 := Lib.hid (below_then HB3.out hb4)
  have HTN4 := Lib.hid (HTN.out.below hb4)
  have HTD := Lib.hid he
  clear he hb4
  go_wp2_with fail
  refine (red_awake _ (HD2.out.below HB4.out)).mono ?_
  rintro e w5 ⟨rfl, hbk⟩
  have HB5 := Lib.hid (below_then HB4.out hbk)
  have HN5 := Lib.hid (HTN4.out.below hbk)
  have HD5 := Lib.hid (HTD.out.below hbk)
  have HG5 := Lib.hid (HG.out.below HB5.out)
  have HBW := Lib.hid (HB2.out.trans (HB5.out.mono hs2))
  clear hbk
  obtain ⟨ds, hds⟩ : ∃ ds, dedS xs rt mm = ds := ⟨_, rfl⟩
  have HOKD : Hid (∀ k r, ds[k]? = some r → OkD xs.length r) := Lib.hid (by intro k r h; rw [← hds] at h; exact dedS_ok h)
  have hdl : ds.length ≤ 324 := by rw [← hds]; exact dedS_len (by omega)
  rw [hds] at HN5 HD5 
  clear hds
  obtain ⟨A0, c0, rfl⟩ := HG5.out.cut
  obtain ⟨A1, c1, rfl⟩ := HN5.out.cut
  obtain ⟨A2, c2, rfl⟩ := HD5.out.cut
  rw [netS_len] at HN5 ⊢
  obtain ⟨n, hn⟩ : ∃ n, xs.length = n := ⟨_, rfl⟩
  obtain ⟨q, hq⟩ : ∃ q, ds.length = q := ⟨_, rfl⟩
  have HN := Lib.hid hn
  have HQ := Lib.hid hq
  rw [hn] at HN5 HG5 HOKD hx9 ⊢
  rw [hq] at HD5 hdl ⊢
  clear hn hq
  have ce : ((n : Int) != (n : Int)) = false := by simp
  have ce2 : (n != n) = false := by simp
  have hsz5 := HBW.out.size
  go_wp2
  go_loopw [14] (fun i wr => ∃ k : Nat, k ≤ n ∧ i = .int .i64 k ∧ Below w5.heap.size w5 wr) (fun i _ => n - (intOf i).toNat)
  case atStart => exact ⟨0, Nat.zero_le _, rfl, Below.refl _ _⟩
  case round =>
    obtain ⟨k, hk, rfl, hbl⟩ := hrel
    have HB := Lib.hid hbl
    clear hbl
    have hsz := HB.out.size
    by_cases hlt : k < n
    · obtain ⟨r, hr⟩ : ∃ r, xs[k]? = some r := ⟨xs[k]'(by rw [HN.out]; exact hlt), List.getElem?_eq_getElem _⟩
      have HK := Lib.hid hr
      obtain ⟨b, off, rfl, g1, l1, _⟩ := HG5.out.rowAt hr
      obtain ⟨gs, gb, gc, gi, gp, gn, gd⟩ := r
      obtain ⟨⟨i0b, i1b⟩, p0b, p1b⟩ := HVG.out.bd hr
      simp only at i0b i1b p0b p1b
      have hrn := netS_at (ds := ds) hr
      obtain ⟨b1, o1, rfl, n1, l2⟩ := HN5.out.rowAt hrn
      obtain ⟨S, hS⟩ : ∃ S, sumK ds k gi q = S := ⟨_, rfl⟩
      have hsb : ∀ j, 0 ≤ sumK ds k gi j ∧ sumK ds k gi j ≤ gi := fun j => sumK_bd i0b (fun r hr => by
        obtain ⟨j, hj⟩ := List.getElem?_of_mem hr
        obtain ⟨_, _, _, _, _, _, h, _⟩ := HOKD.out j r hj
        exact h)
      have HSB := Lib.hid hsb
      have HGA := Lib.hid g1
      have HNA := Lib.hid n1
      have HKN := Lib.hid hrn
      clear g1 n1 hr hrn hsb
      have HSS := Lib.hid hS
      clear hS
      have i1 : (k : Int) < (n : Int) := by omega
      obtain ⟨wo, eo⟩ : ∃ q, q = wr := ⟨_, rfl⟩
      subst eo
      go_wp2
      go_loopw [15, 16] (fun s i wq => ∃ (j : Nat) (S : Int), j ≤ q ∧ i = .int .i64 j ∧ s = .int .i64 S ∧ sumK ds k gi j = S ∧ Below wo.heap.size wo wq) (fun _ i _ => q - (intOf i).toNat)
      case atStart => exact ⟨0, 0, Nat.zero_le _, rfl, rfl, rfl, Below.refl _ _⟩
      case round =>
        obtain ⟨j, S', hj', rfl, rfl, hS, hbl⟩ := hrel
        have HS := Lib.hid hS
        have HBi := Lib.hid hbl
        have HBo := Lib.hid (HB.out.trans (hbl.mono hsz))
        have hsb := HSB.out j
        rw [hS] at hsb
        obtain ⟨s0, s1⟩ := hsb
        clear hS hbl
        by_cases hlt2 : j < q
        · obtain ⟨r, hr⟩ : ∃ r, ds[j]? = some r := ⟨ds[j]'(by rw [HQ.out]; exact hlt2), List.getElem?_eq_getElem _⟩
          obtain ⟨x, y, hx, hy, hri, hrj, hrv0, hrv1⟩ := HOKD.out j r hr
          obtain ⟨ri, rj, rv⟩ := r
          simp only at hri hrj hrv0 hrv1
          subst hri hrj
          have HR2 := Lib.hid hr
          obtain ⟨b2, o2, rfl, hat, hb2⟩ := HD5.out.rowAt hr
          obtain ⟨d0, d1, d2⟩ := hat.below hb2 HBo.out j _ hr
          simp only at d0 d1 d2
          clear hr hat
          have x3 := (HGA.out.below l1 HBo.out k _ HK.out).2.2.2.1
          simp only at x3
          have i2 : (j : Int) < (q : Int) := by omega
          have hb4 := HBi.out
          by_cases e : x = k
          · have c3 : ((x : Int) == (k : Int)) = true := beq_iff_eq.2 (by omega)
            have c4 : (x == k) = true := beq_iff_eq.2 e
            have HNS := Lib.hid (sumK_hit (x := k) (cap := gi) HR2.out (by simp only; omega))
            rw [HS.out] at HNS
            clear e
            go_wp2
            go_big_region
            go_wp2
            go_roundw
            case rel =>
              exact ⟨j + 1, _, by omega, by go_num, rfl, HNS.out, (by repeat (first | (with_reducible exact Below.refl _ _) | (with_reducible assumption) | (with_reducible refine below_drewN ?_ _) | (with_reducible refine Below.drew ?_) | (with_reducible refine Below.alloc ?_ ?_ _) | (with_reducible refine Below.setCell ?_ ?_ _) | exact Below.refl _ _ | assumption | (solve | omega | simp | (simp; omega))))⟩
            case measure => simp [intOf]; omega
          · have c3 : ((x : Int) == (k : Int)) = false := beq_eq_false_iff_ne.2 (by omega)
            have c4 : (x == k) = false := beq_eq_false_iff_ne.2 e
            have HNS := Lib.hid (sumK_miss (x := k) (cap := gi) HR2.out (by simp only; omega))
            rw [HS.out] at HNS
            clear e
            go_wp2
            go_roundw
            case rel =>
              exact ⟨j + 1, _, by omega, by go_num, rfl, HNS.out, (by repeat (first | (with_reducible exact Below.refl _ _) | (with_reducible assumption) | (with_reducible refine below_drewN ?_ _) | (with_reducible refine Below.drew ?_) | (with_reducible refine Below.alloc ?_ ?_ _) | (with_reducible refine Below.setCell ?_ ?_ _) | exact Below.refl _ _ | assumption | (solve | omega | simp | (simp; omega))))⟩
            case measure => simp [intOf]; omega
        · obtain rfl : q = j := by omega
          have hSS : S' = S := HS.out.symm.trans HSS.out
          subst hSS
          obtain ⟨_, _, _, x3, x4, _⟩ := HGA.out.below l1 HBo.out k _ HK.out
          simp only at x3 x4
          obtain ⟨_, _, _, _, _, y5, y6⟩ := HNA.out.below l2 HBo.out k _ HKN.out
          rw [show netV ds k ⟨gs, gb, gc, gi, gp, gn, gd⟩ = ⟨gs, gb, gc, gi, gp, S', max (gi - S') gp⟩ by unfold netV; simp only; rw [HQ.out, HS.out]] at y5 y6
          simp only at y5 y6
          have v1 : (S' != S') = false := by simp
          have v2 : decide (max (gi - S') gp < gp) = false := decide_eq_false (by omega)
          have v3 : decide (max gi gp < max (gi - S') gp) = false := decide_eq_false (by omega)
          have v4 : (max (gi - S') gp != max (gi - S') gp) = false := by simp
          have hb4 := HBi.out
          have hbo := HBo.out
          go_wp2
          go_quiet (fail)
          go_wp2
          go_roundw
          case rel => exact ⟨k + 1, by omega, by go_num, (by repeat (first | (with_reducible exact Below.refl _ _) | (with_reducible assumption) | (with_reducible refine below_drewN ?_ _) | (with_reducible refine Below.drew ?_) | (with_reducible refine Below.alloc ?_ ?_ _) | (with_reducible refine Below.setCell ?_ ?_ _) | exact Below.refl _ _ | assumption | (solve | omega | simp | (simp; omega))))⟩
          case measure => simp [intOf]; omega
    · obtain rfl : n = k := by omega
      have HBZ := Lib.hid (HBW.out.trans (HB.out.mono hsz5))
      have hbz := HBZ.out
      go_wp2
      go_ret
      exact ⟨rfl, (by repeat (first | (with_reducible exact Below.refl _ _) | (with_reducible assumption) | (with_reducible refine below_drewN ?_ _) | (with_reducible refine Below.drew ?_) | (with_reducible refine Below.alloc ?_ ?_ _) | (with_reducible refine Below.setCell ?_ ?_ _) | exact Below.refl _ _ | assumption | (solve | omega | simp | (simp; omega))))⟩
end Go.Proofs.YthpknbflmcoanaaDoor
