/-
  ReductionValidNeedsEachField: the walk.
-/
import Derived.Test.YthpknbflmcoanaaDoorOwnV
namespace Go.Proofs.YthpknbflmcoanaaDoor
open Go.RowKit Mny

set_option maxRecDepth 100000 in
set_option maxHeartbeats 16000000 in
theorem walk_ReductionValidNeedsEachField (v0 : Value) (ak af ad : Int) (W : World) (h0 : RawTb W v0) (hD : DownAt W) : Calls Tryd.prog 4 #[v0, .int .i64 ak, .int .i64 af, .int .i64 ad] W fun e w' => e = .returned (.bool true) ∧ Below W.heap.size W w' := by
  have HD := Lib.hid hD
  clear hD
  obtain ⟨j0, hj, hy0, hy1, hy2⟩ := info_parts info_gross
  go_enter Tryd.func4, Tryd.ntmps4
  go_wp2_with fail
  refine (law_List v0 W h0).mono ?_
  rintro e w1 ⟨va, xs, rfl, hx9, hgt, hown, hb1⟩
  have HB1 := Lib.hid hb1
  have HVG := Lib.hid (hgt.val hx9)
  have HOW := Lib.hid hown
  have HG1 := Lib.hid (GTb.own hown rfl (by omega))
  clear hb1 hgt hown
  have hs1 := HB1.out.size
  have hv := red_Valid HG1.out
  rw [valG_yes HVG.out] at hv
  have HV := Lib.hid hv
  clear hv
  go_wp2_with fail
  refine (HV.out).mono ?_
  rintro e w2 ⟨rfl, hb2⟩
  have HB2 := Lib.hid (below_then HB1.out hb2)
  have HO2 := Lib.hid (own_below HOW.out hb2)
  clear hb2
  go_wp2_with fail
  refine (red_awake _ (HD.out.below HB2.out)).mono ?_
  rintro e w3 ⟨rfl, hb3⟩
  have HB3 := Lib.hid (below_then HB2.out hb3)
  have HO3 := Lib.hid (own_below HO2.out hb3)
  have HG3 := Lib.hid (OwnG.of HO3.out rfl)
  clear hb3 HOW HG1 HO2
  have hs3 := HB3.out.size
  obtain ⟨A0, c0, rfl⟩ := HG3.out.cut
  obtain ⟨n, hn⟩ : ∃ n, xs.length = n := ⟨_, rfl⟩
  have HN := Lib.hid hn
  rw [hn] at HG3 HO3 hx9 ⊢
  clear hn
  rcases Nat.eq_zero_or_pos n with h00 | h00
  · subst h00
    have hb3 := HB3.out
    go_wp2
    go_ret
    exact ⟨rfl, (by repeat (first | (with_reducible exact Below.refl _ _) | (with_reducible assumption) | (with_reducible refine below_drewN ?_ _) | (with_reducible refine Below.drew ?_) | (with_reducible refine Below.alloc ?_ ?_ _) | (with_reducible refine Below.setCell ?_ ?_ _) | exact Below.refl _ _ | assumption | (solve | omega | simp | (simp; omega))))⟩
  · have z0 : ((n : Int) == 0) = false := beq_eq_false_iff_ne.2 (by omega)
    have z1 : (n == 0) = false := beq_eq_false_iff_ne.2 (by omega)
    go_wp2_with fail
    refine (plain_ModN ak (n : Int) _ (by omega) (by omega)).mono ?_
    rintro e w' ⟨kk, rfl, hkk, rfl⟩
    have hkn : kk < n := by omega
    go_wp2_with fail
    refine (plain_ModN ad 1000 _ (by decide) (by decide)).mono ?_
    rintro e w' ⟨d, rfl, hdd, rfl⟩
    obtain ⟨r, hr⟩ : ∃ r, xs[kk]? = some r := ⟨xs[kk]'(by rw [HN.out]; exact hkn), List.getElem?_eq_getElem _⟩
    have HK := Lib.hid hr
    have hok := (HVG.out.2 kk r (by rw [HN.out]; exact hkn) hr).1
    have HOK := Lib.hid hok
    obtain ⟨gs, gb, gc, gi, gp, gn, gd⟩ := r
    obtain ⟨b1, b2, b3, b4, b5, b6⟩ := okG_iff.1 hok
    obtain ⟨g, ar, rfl, hg, hx, hri, hc, _⟩ := HG3.out.rowAt hr
    have HX := Lib.hid hx
    have HRI := Lib.hid hri
    have hgl := hx.lt
    have i1 : (kk : Int) < (n : Int) := by omega
    have k0 : w3.cell? ⟨g, kk * 7, none⟩ = some (.int .i64 gs) := (hx.cell _).trans (hri kk _ 0 hr (by omega))
    have f0 : w3.frozen? ⟨g, kk * 7, none⟩ = false := hx.free _
    have k1 : w3.cell? ⟨g, kk * 7 + 1, none⟩ = some (.int .i64 gb) := (hx.cell _).trans (hri kk _ 1 hr (by omega))
    have f1 : w3.frozen? ⟨g, kk * 7 + 1, none⟩ = false := hx.free _
    have k2 : w3.cell? ⟨g, kk * 7 + 2, none⟩ = some (.int .i64 gc) := (hx.cell _).trans (hri kk _ 2 hr (by omega))
    have f2 : w3.frozen? ⟨g, kk * 7 + 2, none⟩ = false := hx.free _
    have k3 : w3.cell? ⟨g, kk * 7 + 3, none⟩ = some (.int .i64 gi) := (hx.cell _).trans (hri kk _ 3 hr (by omega))
    have f3 : w3.frozen? ⟨g, kk * 7 + 3, none⟩ = false := hx.free _
    have k4 : w3.cell? ⟨g, kk * 7 + 4, none⟩ = some (.int .i64 gp) := (hx.cell _).trans (hri kk _ 4 hr (by omega))
    have f4 : w3.frozen? ⟨g, kk * 7 + 4, none⟩ = false := hx.free _
    have k5 : w3.cell? ⟨g, kk * 7 + 5, none⟩ = some (.int .i64 gn) := (hx.cell _).trans (hri kk _ 5 hr (by omega))
    have f5 : w3.frozen? ⟨g, kk * 7 + 5, none⟩ = false := hx.free _
    have k6 : w3.cell? ⟨g, kk * 7 + 6, none⟩ = some (.int .i64 gd) := (hx.cell _).trans (hri kk _ 6 hr (by omega))
    have f6 : w3.frozen? ⟨g, kk * 7 + 6, none⟩ = false := hx.free _
    clear hr hok hx hri
    go_wp2_with fail
    refine (plain_Mod af 9 _ (by decide) (by decide)).mono ?_
    rintro e w' ⟨rfl, rfl⟩
    obtain ⟨f, hf⟩ : ∃ q, af % 9 = q := ⟨_, rfl⟩
    have hf0 : 0 ≤ f := by rw [← hf]; exact Int.emod_nonneg _ (by decide)
    have hf1 : f < 9 := by rw [← hf]; exact Int.emod_lt_of_pos _ (by decide)
    rw [hf]
    clear hf
    rcases (by omega : f = 0 ∨ f = 1 ∨ f = 2 ∨ f = 3 ∨ f = 4 ∨ f = 5 ∨ f = 6 ∨ f = 7 ∨ f = 8) with rfl | rfl | rfl | rfl | rfl | rfl | rfl | rfl | rfl
    · have hr0 := HRI.out.put (t := 0) (r' := ⟨(6 + (d : Int)), gb, gc, gi, gp, gn, gd⟩) (v := (6 + (d : Int))) HK.out (by omega) (fun t ht => by match t, ht with | 0, _ => rfl | 1, _ => rfl | 2, _ => rfl | 3, _ => rfl | 4, _ => rfl | 5, _ => rfl | 6, _ => rfl)
      have hbad : okG ⟨(6 + (d : Int)), gb, gc, gi, gp, gn, gd⟩ = false := okG_no (by
        intro h
        obtain ⟨c1, c2, c3, c4, c5, c6, c7, c8⟩ := h
        first | omega | (exact absurd c6 (by decide)))
      have hvf : valG (xs.set kk ⟨(6 + (d : Int)), gb, gc, gi, gp, gn, gd⟩) = false := valG_no (bad_elem (List.getElem?_set_self (by rw [HN.out]; exact hkn)) hbad)
      go_wp2_with fail
      refine (red_Valid (l := xs.set kk ⟨(6 + (d : Int)), gb, gc, gi, gp, gn, gd⟩) ((OwnG.mk hg (HX.out.put _ _) hr0 hc (by rw [List.length_set]; exact HN.out)).tab (by rw [List.length_set, HN.out]; omega))).mono ?_
      rw [hvf]
      rintro e w5 ⟨rfl, hb5⟩
      have hb3 := HB3.out
      have HB5 : Hid (Below W.heap.size W w5) := Lib.hid (below_then (show Below W.heap.size W _ from (by repeat (first | (with_reducible assumption) | (with_reducible exact Below.refl _ _) | (with_reducible refine Below.setCell ?_ ?_ _) | (with_reducible refine Below.alloc ?_ ?_ _) | (with_reducible refine Below.drew ?_) | (with_reducible refine below_drewN ?_ _) | (with_reducible exact Nat.le_refl _) | omega | (simp; done) | (simp; omega)))) hb5)
      clear hb5
      have hbz := HB5.out
      go_wp2
      go_ret
      exact ⟨rfl, (by repeat (first | (with_reducible exact Below.refl _ _) | (with_reducible assumption) | (with_reducible refine below_drewN ?_ _) | (with_reducible refine Below.drew ?_) | (with_reducible refine Below.alloc ?_ ?_ _) | (with_reducible refine Below.setCell ?_ ?_ _) | exact Below.refl _ _ | assumption | (solve | omega | simp | (simp; omega))))⟩
    · have hr0 := HRI.out.put (t := 0) (r' := ⟨(-1 - (d : Int)), gb, gc, gi, gp, gn, gd⟩) (v := (-1 - (d : Int))) HK.out (by omega) (fun t ht => by match t, ht with | 0, _ => rfl | 1, _ => rfl | 2, _ => rfl | 3, _ => rfl | 4, _ => rfl | 5, _ => rfl | 6, _ => rfl)
      have hbad : okG ⟨(-1 - (d : Int)), gb, gc, gi, gp, gn, gd⟩ = false := okG_no (by
        intro h
        obtain ⟨c1, c2, c3, c4, c5, c6, c7, c8⟩ := h
        first | omega | (exact absurd c6 (by decide)))
      have hvf : valG (xs.set kk ⟨(-1 - (d : Int)), gb, gc, gi, gp, gn, gd⟩) = false := valG_no (bad_elem (List.getElem?_set_self (by rw [HN.out]; exact hkn)) hbad)
      go_wp2_with fail
      refine (red_Valid (l := xs.set kk ⟨(-1 - (d : Int)), gb, gc, gi, gp, gn, gd⟩) ((OwnG.mk hg (HX.out.put _ _) hr0 hc (by rw [List.length_set]; exact HN.out)).tab (by rw [List.length_set, HN.out]; omega))).mono ?_
      rw [hvf]
      rintro e w5 ⟨rfl, hb5⟩
      have hb3 := HB3.out
      have HB5 : Hid (Below W.heap.size W w5) := Lib.hid (below_then (show Below W.heap.size W _ from (by repeat (first | (with_reducible assumption) | (with_reducible exact Below.refl _ _) | (with_reducible refine Below.setCell ?_ ?_ _) | (with_reducible refine Below.alloc ?_ ?_ _) | (with_reducible refine Below.drew ?_) | (with_reducible refine below_drewN ?_ _) | (with_reducible exact Nat.le_refl _) | omega | (simp; done) | (simp; omega)))) hb5)
      clear hb5
      have hbz := HB5.out
      go_wp2
      go_ret
      exact ⟨rfl, (by repeat (first | (with_reducible exact Below.refl _ _) | (with_reducible assumption) | (with_reducible refine below_drewN ?_ _) | (with_reducible refine Below.drew ?_) | (with_reducible refine Below.alloc ?_ ?_ _) | (with_reducible refine Below.setCell ?_ ?_ _) | exact Below.refl _ _ | assumption | (solve | omega | simp | (simp; omega))))⟩
    · have hr0 := HRI.out.put (t := 1) (r' := ⟨gs, (4 + (d : Int)), gc, gi, gp, gn, gd⟩) (v := (4 + (d : Int))) HK.out (by omega) (fun t ht => by match t, ht with | 0, _ => rfl | 1, _ => rfl | 2, _ => rfl | 3, _ => rfl | 4, _ => rfl | 5, _ => rfl | 6, _ => rfl)
      have hbad : okG ⟨gs, (4 + (d : Int)), gc, gi, gp, gn, gd⟩ = false := okG_no (by
        intro h
        obtain ⟨c1, c2, c3, c4, c5, c6, c7, c8⟩ := h
        first | omega | (exact absurd c6 (by decide)))
      have hvf : valG (xs.set kk ⟨gs, (4 + (d : Int)), gc, gi, gp, gn, gd⟩) = false := valG_no (bad_elem (List.getElem?_set_self (by rw [HN.out]; exact hkn)) hbad)
      go_wp2_with fail
      refine (red_Valid (l := xs.set kk ⟨gs, (4 + (d : Int)), gc, gi, gp, gn, gd⟩) ((OwnG.mk hg (HX.out.put _ _) hr0 hc (by rw [List.length_set]; exact HN.out)).tab (by rw [List.length_set, HN.out]; omega))).mono ?_
      rw [hvf]
      rintro e w5 ⟨rfl, hb5⟩
      have hb3 := HB3.out
      have HB5 : Hid (Below W.heap.size W w5) := Lib.hid (below_then (show Below W.heap.size W _ from (by repeat (first | (with_reducible assumption) | (with_reducible exact Below.refl _ _) | (with_reducible refine Below.setCell ?_ ?_ _) | (with_reducible refine Below.alloc ?_ ?_ _) | (with_reducible refine Below.drew ?_) | (with_reducible refine below_drewN ?_ _) | (with_reducible exact Nat.le_refl _) | omega | (simp; done) | (simp; omega)))) hb5)
      clear hb5
      have hbz := HB5.out
      go_wp2
      go_ret
      exact ⟨rfl, (by repeat (first | (with_reducible exact Below.refl _ _) | (with_reducible assumption) | (with_reducible refine below_drewN ?_ _) | (with_reducible refine Below.drew ?_) | (with_reducible refine Below.alloc ?_ ?_ _) | (with_reducible refine Below.setCell ?_ ?_ _) | exact Below.refl _ _ | assumption | (solve | omega | simp | (simp; omega))))⟩
    · have hr0 := HRI.out.put (t := 2) (r' := ⟨gs, gb, (1000 + (d : Int)), gi, gp, gn, gd⟩) (v := (1000 + (d : Int))) HK.out (by omega) (fun t ht => by match t, ht with | 0, _ => rfl | 1, _ => rfl | 2, _ => rfl | 3, _ => rfl | 4, _ => rfl | 5, _ => rfl | 6, _ => rfl)
      have hbad : okG ⟨gs, gb, (1000 + (d : Int)), gi, gp, gn, gd⟩ = false := okG_no (by
        intro h
        obtain ⟨c1, c2, c3, c4, c5, c6, c7, c8⟩ := h
        first | omega | (exact absurd c6 (by decide)))
      have hvf : valG (xs.set kk ⟨gs, gb, (1000 + (d : Int)), gi, gp, gn, gd⟩) = false := valG_no (bad_elem (List.getElem?_set_self (by rw [HN.out]; exact hkn)) hbad)
      go_wp2_with fail
      refine (red_Valid (l := xs.set kk ⟨gs, gb, (1000 + (d : Int)), gi, gp, gn, gd⟩) ((OwnG.mk hg (HX.out.put _ _) hr0 hc (by rw [List.length_set]; exact HN.out)).tab (by rw [List.length_set, HN.out]; omega))).mono ?_
      rw [hvf]
      rintro e w5 ⟨rfl, hb5⟩
      have hb3 := HB3.out
      have HB5 : Hid (Below W.heap.size W w5) := Lib.hid (below_then (show Below W.heap.size W _ from (by repeat (first | (with_reducible assumption) | (with_reducible exact Below.refl _ _) | (with_reducible refine Below.setCell ?_ ?_ _) | (with_reducible refine Below.alloc ?_ ?_ _) | (with_reducible refine Below.drew ?_) | (with_reducible refine below_drewN ?_ _) | (with_reducible exact Nat.le_refl _) | omega | (simp; done) | (simp; omega)))) hb5)
      clear hb5
      have hbz := HB5.out
      go_wp2
      go_ret
      exact ⟨rfl, (by repeat (first | (with_reducible exact Below.refl _ _) | (with_reducible assumption) | (with_reducible refine below_drewN ?_ _) | (with_reducible refine Below.drew ?_) | (with_reducible refine Below.alloc ?_ ?_ _) | (with_reducible refine Below.setCell ?_ ?_ _) | exact Below.refl _ _ | assumption | (solve | omega | simp | (simp; omega))))⟩
    · have hr0 := HRI.out.put (t := 3) (r' := ⟨gs, gb, gc, (-1 - (d : Int)), gp, gn, gd⟩) (v := (-1 - (d : Int))) HK.out (by omega) (fun t ht => by match t, ht with | 0, _ => rfl | 1, _ => rfl | 2, _ => rfl | 3, _ => rfl | 4, _ => rfl | 5, _ => rfl | 6, _ => rfl)
      have hbad : okG ⟨gs, gb, gc, (-1 - (d : Int)), gp, gn, gd⟩ = false := okG_no (by
        intro h
        obtain ⟨c1, c2, c3, c4, c5, c6, c7, c8⟩ := h
        first | omega | (exact absurd c6 (by decide)))
      have hvf : valG (xs.set kk ⟨gs, gb, gc, (-1 - (d : Int)), gp, gn, gd⟩) = false := valG_no (bad_elem (List.getElem?_set_self (by rw [HN.out]; exact hkn)) hbad)
      go_wp2_with fail
      refine (red_Valid (l := xs.set kk ⟨gs, gb, gc, (-1 - (d : Int)), gp, gn, gd⟩) ((OwnG.mk hg (HX.out.put _ _) hr0 hc (by rw [List.length_set]; exact HN.out)).tab (by rw [List.length_set, HN.out]; omega))).mono ?_
      rw [hvf]
      rintro e w5 ⟨rfl, hb5⟩
      have hb3 := HB3.out
      have HB5 : Hid (Below W.heap.size W w5) := Lib.hid (below_then (show Below W.heap.size W _ from (by repeat (first | (with_reducible assumption) | (with_reducible exact Below.refl _ _) | (with_reducible refine Below.setCell ?_ ?_ _) | (with_reducible refine Below.alloc ?_ ?_ _) | (with_reducible refine Below.drew ?_) | (with_reducible refine below_drewN ?_ _) | (with_reducible exact Nat.le_refl _) | omega | (simp; done) | (simp; omega)))) hb5)
      clear hb5
      have hbz := HB5.out
      go_wp2
      go_ret
      exact ⟨rfl, (by repeat (first | (with_reducible exact Below.refl _ _) | (with_reducible assumption) | (with_reducible refine below_drewN ?_ _) | (with_reducible refine Below.drew ?_) | (with_reducible refine Below.alloc ?_ ?_ _) | (with_reducible refine Below.setCell ?_ ?_ _) | exact Below.refl _ _ | assumption | (solve | omega | simp | (simp; omega))))⟩
    · have hr0 := HRI.out.put (t := 4) (r' := ⟨gs, gb, gc, gi, (1000000000001 + (d : Int)), gn, gd⟩) (v := (1000000000001 + (d : Int))) HK.out (by omega) (fun t ht => by match t, ht with | 0, _ => rfl | 1, _ => rfl | 2, _ => rfl | 3, _ => rfl | 4, _ => rfl | 5, _ => rfl | 6, _ => rfl)
      have hbad : okG ⟨gs, gb, gc, gi, (1000000000001 + (d : Int)), gn, gd⟩ = false := okG_no (by
        intro h
        obtain ⟨c1, c2, c3, c4, c5, c6, c7, c8⟩ := h
        first | omega | (exact absurd c6 (by decide)))
      have hvf : valG (xs.set kk ⟨gs, gb, gc, gi, (1000000000001 + (d : Int)), gn, gd⟩) = false := valG_no (bad_elem (List.getElem?_set_self (by rw [HN.out]; exact hkn)) hbad)
      go_wp2_with fail
      refine (red_Valid (l := xs.set kk ⟨gs, gb, gc, gi, (1000000000001 + (d : Int)), gn, gd⟩) ((OwnG.mk hg (HX.out.put _ _) hr0 hc (by rw [List.length_set]; exact HN.out)).tab (by rw [List.length_set, HN.out]; omega))).mono ?_
      rw [hvf]
      rintro e w5 ⟨rfl, hb5⟩
      have hb3 := HB3.out
      have HB5 : Hid (Below W.heap.size W w5) := Lib.hid (below_then (show Below W.heap.size W _ from (by repeat (first | (with_reducible assumption) | (with_reducible exact Below.refl _ _) | (with_reducible refine Below.setCell ?_ ?_ _) | (with_reducible refine Below.alloc ?_ ?_ _) | (with_reducible refine Below.drew ?_) | (with_reducible refine below_drewN ?_ _) | (with_reducible exact Nat.le_refl _) | omega | (simp; done) | (simp; omega)))) hb5)
      clear hb5
      have hbz := HB5.out
      go_wp2
      go_ret
      exact ⟨rfl, (by repeat (first | (with_reducible exact Below.refl _ _) | (with_reducible assumption) | (with_reducible refine below_drewN ?_ _) | (with_reducible refine Below.drew ?_) | (with_reducible refine Below.alloc ?_ ?_ _) | (with_reducible refine Below.setCell ?_ ?_ _) | exact Below.refl _ _ | assumption | (solve | omega | simp | (simp; omega))))⟩
    · have hr0 := HRI.out.put (t := 5) (r' := ⟨gs, gb, gc, gi, gp, (2 + (d : Int)), gd⟩) (v := (2 + (d : Int))) HK.out (by omega) (fun t ht => by match t, ht with | 0, _ => rfl | 1, _ => rfl | 2, _ => rfl | 3, _ => rfl | 4, _ => rfl | 5, _ => rfl | 6, _ => rfl)
      have hr1 := hr0.put (t := 6) (r' := ⟨gs, gb, gc, gi, gp, (2 + (d : Int)), 1⟩) (v := 1) (List.getElem?_set_self (by rw [HN.out]; exact hkn)) (by omega) (fun t ht => by match t, ht with | 0, _ => rfl | 1, _ => rfl | 2, _ => rfl | 3, _ => rfl | 4, _ => rfl | 5, _ => rfl | 6, _ => rfl)
      rw [List.set_set] at hr1
      have hbad : okG ⟨gs, gb, gc, gi, gp, (2 + (d : Int)), 1⟩ = false := okG_no (by
        intro h
        obtain ⟨c1, c2, c3, c4, c5, c6, c7, c8⟩ := h
        first | omega | (exact absurd c6 (by decide)))
      have hvf : valG (xs.set kk ⟨gs, gb, gc, gi, gp, (2 + (d : Int)), 1⟩) = false := valG_no (bad_elem (List.getElem?_set_self (by rw [HN.out]; exact hkn)) hbad)
      go_wp2_with fail
      refine (red_Valid (l := xs.set kk ⟨gs, gb, gc, gi, gp, (2 + (d : Int)), 1⟩) ((OwnG.mk hg ((HX.out.put _ _).put _ _) hr1 hc (by rw [List.length_set]; exact HN.out)).tab (by rw [List.length_set, HN.out]; omega))).mono ?_
      rw [hvf]
      rintro e w5 ⟨rfl, hb5⟩
      have hb3 := HB3.out
      have HB5 : Hid (Below W.heap.size W w5) := Lib.hid (below_then (show Below W.heap.size W _ from (by repeat (first | (with_reducible assumption) | (with_reducible exact Below.refl _ _) | (with_reducible refine Below.setCell ?_ ?_ _) | (with_reducible refine Below.alloc ?_ ?_ _) | (with_reducible refine Below.drew ?_) | (with_reducible refine below_drewN ?_ _) | (with_reducible exact Nat.le_refl _) | omega | (simp; done) | (simp; omega)))) hb5)
      clear hb5
      have hbz := HB5.out
      go_wp2
      go_ret
      exact ⟨rfl, (by repeat (first | (with_reducible exact Below.refl _ _) | (with_reducible assumption) | (with_reducible refine below_drewN ?_ _) | (with_reducible refine Below.drew ?_) | (with_reducible refine Below.alloc ?_ ?_ _) | (with_reducible refine Below.setCell ?_ ?_ _) | exact Below.refl _ _ | assumption | (solve | omega | simp | (simp; omega))))⟩
    · have hr0 := HRI.out.put (t := 5) (r' := ⟨gs, gb, gc, gi, gp, 2, gd⟩) (v := 2) HK.out (by omega) (fun t ht => by match t, ht with | 0, _ => rfl | 1, _ => rfl | 2, _ => rfl | 3, _ => rfl | 4, _ => rfl | 5, _ => rfl | 6, _ => rfl)
      have hr1 := hr0.put (t := 6) (r' := ⟨gs, gb, gc, gi, gp, 2, 4⟩) (v := 4) (List.getElem?_set_self (by rw [HN.out]; exact hkn)) (by omega) (fun t ht => by match t, ht with | 0, _ => rfl | 1, _ => rfl | 2, _ => rfl | 3, _ => rfl | 4, _ => rfl | 5, _ => rfl | 6, _ => rfl)
      rw [List.set_set] at hr1
      have hbad : okG ⟨gs, gb, gc, gi, gp, 2, 4⟩ = false := okG_no (by
        intro h
        obtain ⟨c1, c2, c3, c4, c5, c6, c7, c8⟩ := h
        first | omega | (exact absurd c6 (by decide)))
      have hvf : valG (xs.set kk ⟨gs, gb, gc, gi, gp, 2, 4⟩) = false := valG_no (bad_elem (List.getElem?_set_self (by rw [HN.out]; exact hkn)) hbad)
      go_wp2_with fail
      refine (red_Valid (l := xs.set kk ⟨gs, gb, gc, gi, gp, 2, 4⟩) ((OwnG.mk hg ((HX.out.put _ _).put _ _) hr1 hc (by rw [List.length_set]; exact HN.out)).tab (by rw [List.length_set, HN.out]; omega))).mono ?_
      rw [hvf]
      rintro e w5 ⟨rfl, hb5⟩
      have hb3 := HB3.out
      have HB5 : Hid (Below W.heap.size W w5) := Lib.hid (below_then (show Below W.heap.size W _ from (by repeat (first | (with_reducible assumption) | (with_reducible exact Below.refl _ _) | (with_reducible refine Below.setCell ?_ ?_ _) | (with_reducible refine Below.alloc ?_ ?_ _) | (with_reducible refine Below.drew ?_) | (with_reducible refine below_drewN ?_ _) | (with_reducible exact Nat.le_refl _) | omega | (simp; done) | (simp; omega)))) hb5)
      clear hb5
      have hbz := HB5.out
      go_wp2
      go_ret
      exact ⟨rfl, (by repeat (first | (with_reducible exact Below.refl _ _) | (with_reducible assumption) | (with_reducible refine below_drewN ?_ _) | (with_reducible refine Below.drew ?_) | (with_reducible refine Below.alloc ?_ ?_ _) | (with_reducible refine Below.setCell ?_ ?_ _) | exact Below.refl _ _ | assumption | (solve | omega | simp | (simp; omega))))⟩
    · go_wp2_with (at_builtin; go_loud (refine wpList_append_own_at _ rfl _ _ 22 rfl W.heap.size 27 j0 (.agg #[.int .i64 0, .int .i64 0, .int .i64 0, .int .i64 0, .int .i64 0, .int .i64 0, .int .i64 0]) 7 56 Tryd.underlying22 hj hy0 hy1 hy2 rfl (by decide) _ _ _ rfl (HO3.out.alloc _) ⟨w3.heap.size, 0, none⟩ 1 1 [.int .i64 gs, .int .i64 gb, .int .i64 gc, .int .i64 gi, .int .i64 gp, .int .i64 gn, .int .i64 gd] rfl rfl ?c1 ?c2 ?c3 ?c4 ?c5 ?_))
      all_goals try (case c1 => (intro t u ht; match t, ht with | 0, ht => (simp at ht; subst ht; simp [Addr.add]) | 1, ht => (simp at ht; subst ht; simp [Addr.add]) | 2, ht => (simp at ht; subst ht; simp [Addr.add]) | 3, ht => (simp at ht; subst ht; simp [Addr.add]) | 4, ht => (simp at ht; subst ht; simp [Addr.add]) | 5, ht => (simp at ht; subst ht; simp [Addr.add]) | 6, ht => (simp at ht; subst ht; simp [Addr.add]) | t + 7, ht => (simp at ht)))
      case c2 => first | exact ⟨rfl, rfl, rfl, rfl, rfl, rfl, rfl⟩ | (intro u hu; simp at hu; rcases hu with rfl | rfl | rfl | rfl | rfl | rfl | rfl <;> rfl)
      case c3 => unfold maxLen; omega
      case c4 => omega
      case c5 => first | omega | (simp; done) | (simp; omega)
      intro v' w9 hown' hgrow _ hat
      obtain ⟨A9, c9', rfl⟩ := own_slice hown'
      have HO9 : Hid (w9.ownsRow W.heap.size 27 7 (.slice A9 (n + 1) c9') (n + 1) (grCells (xs ++ [⟨gs, gb, gc, gi, gp, gn, gd⟩]))) := Lib.hid (by rw [grCells_snoc]; exact hown')
      have HB9 : Hid (Below W.heap.size W w9) := Lib.hid ((HB3.out.alloc HB3.out.size _).grown hgrow (by simp; omega) (fun g hg => by
        rcases HO3.out.2 with ⟨h1, _⟩ | ⟨g', cap, cur, h1, hg', _⟩
        · rw [h1] at hg; simp [Value.ownBlock] at hg
        · rw [h1] at hg; simp [Value.ownBlock] at hg; omega))
      clear hown' hgrow hat
      have hvf : valG (xs ++ [⟨gs, gb, gc, gi, gp, gn, gd⟩]) = false := valG_no (bad_twin (k := n) (j := kk) (g := ⟨gs, gb, gc, gi, gp, gn, gd⟩) (x := ⟨gs, gb, gc, gi, gp, gn, gd⟩) (by rw [List.getElem?_append_right (by rw [HN.out]; exact Nat.le_refl _), HN.out, Nat.sub_self]; rfl) hkn (by rw [List.getElem?_append_left (by rw [HN.out]; exact hkn)]; exact HK.out) (by unfold twinB; simp))
      have hv9 := red_Valid (GTb.own HO9.out (by rw [List.length_append, HN.out]; rfl) (by omega))
      rw [hvf] at hv9
      have HV9 := Lib.hid hv9
      clear hv9 hvf
      go_wp2_with fail
      refine (HV9.out).mono ?_
      rintro e w5 ⟨rfl, hb5⟩
      have HB5 := Lib.hid (below_then HB9.out hb5)
      clear hb5
      have hbz := HB5.out
      go_wp2
      go_ret
      exact ⟨rfl, (by repeat (first | (with_reducible exact Below.refl _ _) | (with_reducible assumption) | (with_reducible refine below_drewN ?_ _) | (with_reducible refine Below.drew ?_) | (with_reducible refine Below.alloc ?_ ?_ _) | (with_reducible refine Below.setCell ?_ ?_ _) | exact Below.refl _ _ | assumption | (solve | omega | simp | (simp; omega))))⟩
end Go.Proofs.YthpknbflmcoanaaDoor
