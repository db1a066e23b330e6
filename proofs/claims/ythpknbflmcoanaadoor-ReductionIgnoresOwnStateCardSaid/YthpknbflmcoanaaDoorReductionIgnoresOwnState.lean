/-
  ReductionIgnoresOwnState: the walk.
-/
import Derived.Test.YthpknbflmcoanaaDoorHand
namespace Go.Proofs.YthpknbflmcoanaaDoor
open Go.RowKit Mny

set_option maxRecDepth 100000 in
set_option maxHeartbeats 16000000 in
theorem walk_ReductionIgnoresOwnState (v0 v1 : Value) (m : Int) (W : World) (h0 : RawTb W v0) (h1 : IntsIn W v1) (hD : DownAt W) : Calls Tryd.prog 16 #[v0, v1, .int .i64 m] W fun e w' => e = .returned (.bool true) ∧ Below W.heap.size W w' := by
  have HI := Lib.hid h1
  have HD := Lib.hid hD
  clear h1 hD
  go_enter Tryd.func16, Tryd.ntmps16
  go_wp2_with fail
  refine (law_List v0 W h0).mono ?_
  rintro e w1 ⟨va, xs, rfl, hx9, hgt, hown, hb1⟩
  have HB1 := Lib.hid hb1
  have HOW := Lib.hid hown
  have HG1 := Lib.hid (GTb.own hown rfl (by omega))
  have HVG := Lib.hid (hgt.val hx9)
  clear hb1 hown hgt
  have hs1 := HB1.out.size
  go_wp2_with fail
  refine (plain_Rates v1 _ (HI.out.below HB1.out)).mono ?_
  rintro e w2 ⟨vb, rt, rfl, hck, hr6, htab, hb2⟩
  have HB2 := Lib.hid (below_then HB1.out hb2)
  have HG := Lib.hid (HG1.out.below hb2)
  have HT := Lib.hid htab
  have HCK := Lib.hid hck
  clear hb2 htab hck hr6
  have hs2 := HB2.out.size
  have HD2 := Lib.hid (HD.out.below HB2.out)
  go_wp2_with fail
  refine (plain_Mod _ 2400 _ (by decide) (by decide)).mono ?_
  rintro e w' ⟨rfl, rfl⟩
  obtain ⟨mm, hmm⟩ : ∃ q, m % 2400 = q := ⟨_, rfl⟩
  have mm0 : 0 ≤ mm := by rw [← hmm]; exact Int.emod_nonneg _ (by decide)
  have mm1 : mm ≤ 2399 := by have := Int.emod_lt_of_pos m (show (0 : Int) < 2400 by decide); omega
  rw [hmm]
  clear hmm
  have HDB := Lib.hid (ded_all HVG.out HCK.out mm0 mm1)
  have HDE := Lib.hid (appR_yes HDB.out).2
  have HAP := Lib.hid (appR_yes HDB.out).1
  have h4 := red_Deductions HG.out HT.out HD2.out mm
  rw [HDE.out] at h4
  have H4 := Lib.hid h4
  clear h4
  go_wp2_with fail
  refine (H4.out).mono ?_
  rintro e w4 ⟨ve, rfl, he, hb4⟩
  have HB4 := Lib.hid hb4
  have HTD := Lib.hid he
  clear he hb4
  go_wp2_with fail
  refine (red_awake _ (HD2.out.below HB4.out)).mono ?_
  rintro e w5 ⟨rfl, hbk⟩
  have HB5 := Lib.hid (below_then HB4.out hbk)
  have HD5 := Lib.hid (HTD.out.below hbk)
  have HG5 := Lib.hid (HG.out.below HB5.out)
  have HBW := Lib.hid (HB2.out.trans (HB5.out.mono hs2))
  clear hbk
  have HST := Lib.hid (fun k r h => dedS_states (l := xs) (rt := rt) (m := mm) (k := k) (r := r) h)
  have HNXT := Lib.hid (fun k a b h1 h2 => dedS_next (l := xs) (rt := rt) (m := mm) (k := k) (a := a) (b := b) h1 h2)
  obtain ⟨ds, hds⟩ : ∃ ds, dedS xs rt mm = ds := ⟨_, rfl⟩
  have hdl : ds.length ≤ 324 := by rw [← hds]; exact dedS_len (by omega)
  rw [hds] at HD5 HST HNXT
  clear hds
  obtain ⟨A0, c0, rfl⟩ := HG5.out.cut
  obtain ⟨A2, c2, rfl⟩ := HD5.out.cut
  obtain ⟨n, hn⟩ : ∃ n, xs.length = n := ⟨_, rfl⟩
  obtain ⟨q, hq⟩ : ∃ q, ds.length = q := ⟨_, rfl⟩
  have HN := Lib.hid hn
  have HQ := Lib.hid hq
  rw [hn] at HG5 hx9 ⊢
  rw [hq] at HD5 hdl ⊢
  clear hn hq
  have hsz5 := HBW.out.size
  go_wp2
  go_loopw [12] (fun i wr => ∃ k : Nat, k ≤ q ∧ i = .int .i64 k ∧ Below w5.heap.size w5 wr) (fun i _ => q - (intOf i).toNat)
  case atStart => exact ⟨0, Nat.zero_le _, rfl, Below.refl _ _⟩
  case round =>
    obtain ⟨k, hk, rfl, hbl⟩ := hrel
    have HB := Lib.hid hbl
    clear hbl
    have hsz := HB.out.size
    by_cases hlt : k < q
    · obtain ⟨r, hr⟩ : ∃ r, ds[k]? = some r := ⟨ds[k]'(by rw [HQ.out]; exact hlt), List.getElem?_eq_getElem _⟩
      obtain ⟨x, y, gx, gy, hri, hrj, hgx, hgy, hne⟩ := HST.out k r hr
      obtain ⟨ri, rj, rv⟩ := r
      simp only at hri hrj
      subst hri hrj
      have HR2 := Lib.hid hr
      have hx : x < n := by rw [← HN.out]; exact (List.getElem?_eq_some_iff.1 hgx).1
      have hy : y < n := by rw [← HN.out]; exact (List.getElem?_eq_some_iff.1 hgy).1
      obtain ⟨b2, o2, rfl, hat, hb2⟩ := HD5.out.rowAt hr
      obtain ⟨d0, d1, _⟩ := hat.below hb2 HB.out k _ hr
      simp only at d0 d1
      have HAT := Lib.hid hat
      obtain ⟨b, off, rfl, g1, l1, _⟩ := HG5.out.rowAt hgx
      obtain ⟨x0, _⟩ := g1.below l1 HB.out x _ hgx
      obtain ⟨y0, _⟩ := g1.below l1 HB.out y _ hgy
      obtain ⟨sx, hsx⟩ : ∃ s, gx.s = s := ⟨_, rfl⟩
      obtain ⟨sy, hsy⟩ : ∃ s, gy.s = s := ⟨_, rfl⟩
      rw [hsx] at x0 hne
      rw [hsy] at y0 hne
      have c0 : (sx == sy) = false := beq_eq_false_iff_ne.2 hne
      clear hat hr g1 hgx hgy hsx hsy hne
      have e1 : decide ((x : Int) < 0) = false := decide_eq_false (by omega)
      have e2 : decide ((n : Int) ≤ (x : Int)) = false := decide_eq_false (by omega)
      have e3 : decide (n ≤ x) = false := decide_eq_false (by omega)
      have e4 : decide ((y : Int) < 0) = false := decide_eq_false (by omega)
      have e5 : decide ((n : Int) ≤ (y : Int)) = false := decide_eq_false (by omega)
      have e6 : decide (n ≤ y) = false := decide_eq_false (by omega)
      have i1 : (k : Int) < (q : Int) := by omega
      have i2 : (x : Int) < (n : Int) := by omega
      have i3 : (y : Int) < (n : Int) := by omega
      have hb4 := HB.out
      go_wp2
      go_quiet (fail)
      clear x0 y0 c0 e1 e2 e3 e4 e5 e6 i2 i3
      rcases Nat.eq_zero_or_pos k with h0 | h0
      · subst h0
        have f0 : decide ((0 : Int) < ((0 : Nat) : Int)) = false := decide_eq_false (by omega)
        have f1 : decide ((0 : Nat) < 0) = false := decide_eq_false (by omega)
        go_wp2
        go_quiet (fail)
        go_wp2
        go_roundw
        case rel => exact ⟨0 + 1, by omega, by go_num, (by repeat (first | (with_reducible exact Below.refl _ _) | (with_reducible assumption) | (with_reducible refine below_drewN ?_ _) | (with_reducible refine Below.drew ?_) | (with_reducible refine Below.alloc ?_ ?_ _) | (with_reducible refine Below.setCell ?_ ?_ _) | exact Below.refl _ _ | assumption | (solve | omega | simp | (simp; omega))))⟩
        case measure => simp [intOf]; omega
      · obtain ⟨k', rfl⟩ : ∃ k', k = k' + 1 := ⟨k - 1, by omega⟩
        obtain ⟨r, hr⟩ : ∃ r, ds[k']? = some r := ⟨ds[k']'(by rw [HQ.out]; omega), List.getElem?_eq_getElem _⟩
        obtain ⟨x', y', gx', gy', hri, hrj, _, _, _⟩ := HST.out k' r hr
        obtain ⟨ri, rj, rv'⟩ := r
        simp only at hri hrj
        subst hri hrj
        obtain ⟨u0, u1, _⟩ := HAT.out.below hb2 HB.out k' _ hr
        simp only at u0 u1
        have hnx := HNXT.out k' _ _ hr HR2.out
        unfold Before at hnx
        simp only at hnx
        clear hr
        have z0 : ((k' + 1 : Nat) : Int) = (k' : Int) + 1 := by omega
        have z1 : (0 : Int) ≤ (k' : Int) := by omega
        have f0 : decide ((0 : Int) < (k' : Int) + 1) = true := decide_eq_true (by omega)
        have f2 : decide ((x : Int) < (x' : Int)) = false := decide_eq_false (by omega)
        have f3 : decide (x < x') = false := decide_eq_false (by omega)
        by_cases ex : x' = x
        · have m0 : ((x' : Int) == (x : Int)) = true := beq_iff_eq.2 (by omega)
          have m1 : (x' == x) = true := beq_iff_eq.2 ex
          have m2 : decide ((y : Int) ≤ (y' : Int)) = false := decide_eq_false (by omega)
          have m3 : decide (y ≤ y') = false := decide_eq_false (by omega)
          clear hnx ex
          go_wp2
          go_quiet (fail)
          go_wp2
          go_roundw
          case rel => exact ⟨k' + 1 + 1, by omega, by go_num, (by repeat (first | (with_reducible exact Below.refl _ _) | (with_reducible assumption) | (with_reducible refine below_drewN ?_ _) | (with_reducible refine Below.drew ?_) | (with_reducible refine Below.alloc ?_ ?_ _) | (with_reducible refine Below.setCell ?_ ?_ _) | exact Below.refl _ _ | assumption | (solve | omega | simp | (simp; omega))))⟩
          case measure => simp [intOf]; omega
        · have m0 : ((x' : Int) == (x : Int)) = false := beq_eq_false_iff_ne.2 (by omega)
          have m1 : (x' == x) = false := beq_eq_false_iff_ne.2 ex
          clear hnx ex
          go_wp2
          go_quiet (fail)
          go_wp2
          go_roundw
          case rel => exact ⟨k' + 1 + 1, by omega, by go_num, (by repeat (first | (with_reducible exact Below.refl _ _) | (with_reducible assumption) | (with_reducible refine below_drewN ?_ _) | (with_reducible refine Below.drew ?_) | (with_reducible refine Below.alloc ?_ ?_ _) | (with_reducible refine Below.setCell ?_ ?_ _) | exact Below.refl _ _ | assumption | (solve | omega | simp | (simp; omega))))⟩
          case measure => simp [intOf]; omega
    · obtain rfl : q = k := by omega
      have HBZ := Lib.hid (HBW.out.trans (HB.out.mono hsz5))
      have hbz := HBZ.out
      go_wp2
      go_ret
      exact ⟨rfl, (by repeat (first | (with_reducible exact Below.refl _ _) | (with_reducible assumption) | (with_reducible refine below_drewN ?_ _) | (with_reducible refine Below.drew ?_) | (with_reducible refine Below.alloc ?_ ?_ _) | (with_reducible refine Below.setCell ?_ ?_ _) | exact Below.refl _ _ | assumption | (solve | omega | simp | (simp; omega))))⟩
end Go.Proofs.YthpknbflmcoanaaDoor
