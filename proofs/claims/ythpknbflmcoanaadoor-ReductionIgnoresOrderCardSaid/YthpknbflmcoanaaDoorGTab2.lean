/-
  The contract of the reference's ValidGross.
-/
import Derived.Test.YthpknbflmcoanaaDoorGTab
namespace Go.Proofs.YthpknbflmcoanaaDoor
open Go.RowKit Mny

set_option maxRecDepth 100000 in
set_option maxHeartbeats 8000000 in
theorem ref_ValidGross1 (l : List Gr) (n b off cc : Nat) (w : World) (hn : l.length = n) (hr : GrossAt w b off l) (hb : b < w.heap.size) (hl : n ≤ cc) :
    Calls Tryd.prog 22 #[.slice (some ⟨b, off, none⟩) n cc] w fun e w' => e = .returned (.bool (valG l)) ∧ Below w.heap.size w w' := by
  by_cases h18 : 18 < n
  · have HF := Lib.hid (valG_no (l := l) (fun h => by have := h.1; omega))
    clear hn hr
    go_enter Tryd.func22, Tryd.ntmps22
    go_wp2
    go_ret
    exact ⟨ret_bool HF.out.symm, (by repeat (first | (with_reducible exact Below.refl _ _) | (with_reducible assumption) | (with_reducible refine below_drewN ?_ _) | (with_reducible refine Below.drew ?_) | (with_reducible refine Below.alloc ?_ ?_ _) | (with_reducible refine Below.setCell ?_ ?_ _) | exact Below.refl _ _ | assumption | (solve | omega | simp | (simp; omega))))⟩
  · have HN := Lib.hid hn
    have HR := Lib.hid hr
    clear hn hr
    go_enter Tryd.func22, Tryd.ntmps22
    go_wp2
    go_loopw [3] (fun i wr => ∃ k : Nat, k ≤ n ∧ i = .int .i64 k ∧ GoodTo l k ∧ Below w.heap.size w wr) (fun i _ => n - (intOf i).toNat)
    case atStart => exact ⟨0, Nat.zero_le _, rfl, GoodTo.zero l, (by repeat (first | (with_reducible exact Below.refl _ _) | (with_reducible assumption) | (with_reducible refine below_drewN ?_ _) | (with_reducible refine Below.drew ?_) | (with_reducible refine Below.alloc ?_ ?_ _) | (with_reducible refine Below.setCell ?_ ?_ _) | exact Below.refl _ _ | assumption | (solve | omega | simp | (simp; omega))))⟩
    case round =>
      obtain ⟨wo, rfl⟩ : ∃ wo : World, wo = wr := ⟨_, rfl⟩
      obtain ⟨k, hk, rfl, hch, hbl⟩ := hrel
      have HC := Lib.hid hch
      have HB := Lib.hid hbl
      have HRW := Lib.hid (HR.out.below hb hbl)
      have hsz : b < wo.heap.size := Nat.lt_of_lt_of_le hb hbl.size
      have hsz0 : w.heap.size ≤ wo.heap.size := hbl.size
      clear hch hbl
      by_cases hlt : k < n
      · obtain ⟨r, hr⟩ : ∃ r, l[k]? = some r := ⟨l[k]'(by rw [HN.out]; exact hlt), List.getElem?_eq_getElem _⟩
        obtain ⟨k0, k1, k2, k3, k4, k5, k6⟩ := HRW.out k r hr
        have HK := Lib.hid hr
        obtain ⟨gs, gb, gc, gi, gp, gn, gd⟩ := r
        simp only at k0 k1 k2 k3 k4 k5 k6
        clear hr
        have hB := HB.out
        by_cases t1 : gs < 0
        · have t1b : decide (gs < 0) = true := decide_eq_true t1
          have HF := Lib.hid (valG_no (bad_elem HK.out (okG_no (s := gs) (b := gb) (c := gc) (i := gi) (p := gp) (n := gn) (d := gd) (fun h => by omega))))
          go_wp2
          go_ret
          exact ⟨ret_bool HF.out.symm, (by repeat (first | (with_reducible exact Below.refl _ _) | (with_reducible assumption) | (with_reducible refine below_drewN ?_ _) | (with_reducible refine Below.drew ?_) | (with_reducible refine Below.alloc ?_ ?_ _) | (with_reducible refine Below.setCell ?_ ?_ _) | exact Below.refl _ _ | assumption | (solve | omega | simp | (simp; omega))))⟩
        · have t1b : decide (gs < 0) = false := decide_eq_false t1
          by_cases t2 : 6 ≤ gs
          · have t2b : decide (6 ≤ gs) = true := decide_eq_true t2
            have HF := Lib.hid (valG_no (bad_elem HK.out (okG_no (s := gs) (b := gb) (c := gc) (i := gi) (p := gp) (n := gn) (d := gd) (fun h => by omega))))
            go_wp2
            go_ret
            exact ⟨ret_bool HF.out.symm, (by repeat (first | (with_reducible exact Below.refl _ _) | (with_reducible assumption) | (with_reducible refine below_drewN ?_ _) | (with_reducible refine Below.drew ?_) | (with_reducible refine Below.alloc ?_ ?_ _) | (with_reducible refine Below.setCell ?_ ?_ _) | exact Below.refl _ _ | assumption | (solve | omega | simp | (simp; omega))))⟩
          · have t2b : decide (6 ≤ gs) = false := decide_eq_false t2
            by_cases t3 : gb < 1
            · have t3b : decide (gb < 1) = true := decide_eq_true t3
              have HF := Lib.hid (valG_no (bad_elem HK.out (okG_no (s := gs) (b := gb) (c := gc) (i := gi) (p := gp) (n := gn) (d := gd) (fun h => by omega))))
              go_wp2
              go_ret
              exact ⟨ret_bool HF.out.symm, (by repeat (first | (with_reducible exact Below.refl _ _) | (with_reducible assumption) | (with_reducible refine below_drewN ?_ _) | (with_reducible refine Below.drew ?_) | (with_reducible refine Below.alloc ?_ ?_ _) | (with_reducible refine Below.setCell ?_ ?_ _) | exact Below.refl _ _ | assumption | (solve | omega | simp | (simp; omega))))⟩
            · have t3b : decide (gb < 1) = false := decide_eq_false t3
              by_cases t4 : 3 < gb
              · have t4b : decide (3 < gb) = true := decide_eq_true t4
                have HF := Lib.hid (valG_no (bad_elem HK.out (okG_no (s := gs) (b := gb) (c := gc) (i := gi) (p := gp) (n := gn) (d := gd) (fun h => by omega))))
                go_wp2
                go_ret
                exact ⟨ret_bool HF.out.symm, (by repeat (first | (with_reducible exact Below.refl _ _) | (with_reducible assumption) | (with_reducible refine below_drewN ?_ _) | (with_reducible refine Below.drew ?_) | (with_reducible refine Below.alloc ?_ ?_ _) | (with_reducible refine Below.setCell ?_ ?_ _) | exact Below.refl _ _ | assumption | (solve | omega | simp | (simp; omega))))⟩
              · have t4b : decide (3 < gb) = false := decide_eq_false t4
                by_cases t5 : gc < 1
                · have t5b : decide (gc < 1) = true := decide_eq_true t5
                  have HF := Lib.hid (valG_no (bad_elem HK.out (okG_no (s := gs) (b := gb) (c := gc) (i := gi) (p := gp) (n := gn) (d := gd) (fun h => by omega))))
                  go_wp2
                  go_ret
                  exact ⟨ret_bool HF.out.symm, (by repeat (first | (with_reducible exact Below.refl _ _) | (with_reducible assumption) | (with_reducible refine below_drewN ?_ _) | (with_reducible refine Below.drew ?_) | (with_reducible refine Below.alloc ?_ ?_ _) | (with_reducible refine Below.setCell ?_ ?_ _) | exact Below.refl _ _ | assumption | (solve | omega | simp | (simp; omega))))⟩
                · have t5b : decide (gc < 1) = false := decide_eq_false t5
                  by_cases t6 : 999 < gc
                  · have t6b : decide (999 < gc) = true := decide_eq_true t6
                    have HF := Lib.hid (valG_no (bad_elem HK.out (okG_no (s := gs) (b := gb) (c := gc) (i := gi) (p := gp) (n := gn) (d := gd) (fun h => by omega))))
                    go_wp2
                    go_ret
                    exact ⟨ret_bool HF.out.symm, (by repeat (first | (with_reducible exact Below.refl _ _) | (with_reducible assumption) | (with_reducible refine below_drewN ?_ _) | (with_reducible refine Below.drew ?_) | (with_reducible refine Below.alloc ?_ ?_ _) | (with_reducible refine Below.setCell ?_ ?_ _) | exact Below.refl _ _ | assumption | (solve | omega | simp | (simp; omega))))⟩
                  · have t6b : decide (999 < gc) = false := decide_eq_false t6
                    by_cases t7 : gi < 0
                    · have t7b : decide (gi < 0) = true := decide_eq_true t7
                      have HF := Lib.hid (valG_no (bad_elem HK.out (okG_no (s := gs) (b := gb) (c := gc) (i := gi) (p := gp) (n := gn) (d := gd) (fun h => by omega))))
                      go_wp2
                      go_ret
                      exact ⟨ret_bool HF.out.symm, (by repeat (first | (with_reducible exact Below.refl _ _) | (with_reducible assumption) | (with_reducible refine below_drewN ?_ _) | (with_reducible refine Below.drew ?_) | (with_reducible refine Below.alloc ?_ ?_ _) | (with_reducible refine Below.setCell ?_ ?_ _) | exact Below.refl _ _ | assumption | (solve | omega | simp | (simp; omega))))⟩
                    · have t7b : decide (gi < 0) = false := decide_eq_false t7
                      by_cases t8 : 1000000000000 < gi
                      · have t8b : decide (1000000000000 < gi) = true := decide_eq_true t8
                        have HF := Lib.hid (valG_no (bad_elem HK.out (okG_no (s := gs) (b := gb) (c := gc) (i := gi) (p := gp) (n := gn) (d := gd) (fun h => by omega))))
                        go_wp2
                        go_ret
                        exact ⟨ret_bool HF.out.symm, (by repeat (first | (with_reducible exact Below.refl _ _) | (with_reducible assumption) | (with_reducible refine below_drewN ?_ _) | (with_reducible refine Below.drew ?_) | (with_reducible refine Below.alloc ?_ ?_ _) | (with_reducible refine Below.setCell ?_ ?_ _) | exact Below.refl _ _ | assumption | (solve | omega | simp | (simp; omega))))⟩
                      · have t8b : decide (1000000000000 < gi) = false := decide_eq_false t8
                        by_cases t9 : gp < 0
                        · have t9b : decide (gp < 0) = true := decide_eq_true t9
                          have HF := Lib.hid (valG_no (bad_elem HK.out (okG_no (s := gs) (b := gb) (c := gc) (i := gi) (p := gp) (n := gn) (d := gd) (fun h => by omega))))
                          go_wp2
                          go_ret
                          exact ⟨ret_bool HF.out.symm, (by repeat (first | (with_reducible exact Below.refl _ _) | (with_reducible assumption) | (with_reducible refine below_drewN ?_ _) | (with_reducible refine Below.drew ?_) | (with_reducible refine Below.alloc ?_ ?_ _) | (with_reducible refine Below.setCell ?_ ?_ _) | exact Below.refl _ _ | assumption | (solve | omega | simp | (simp; omega))))⟩
                        · have t9b : decide (gp < 0) = false := decide_eq_false t9
                          by_cases t10 : 1000000000000 < gp
                          · have t10b : decide (1000000000000 < gp) = true := decide_eq_true t10
                            have HF := Lib.hid (valG_no (bad_elem HK.out (okG_no (s := gs) (b := gb) (c := gc) (i := gi) (p := gp) (n := gn) (d := gd) (fun h => by omega))))
                            go_wp2
                            go_ret
                            exact ⟨ret_bool HF.out.symm, (by repeat (first | (with_reducible exact Below.refl _ _) | (with_reducible assumption) | (with_reducible refine below_drewN ?_ _) | (with_reducible refine Below.drew ?_) | (with_reducible refine Below.alloc ?_ ?_ _) | (with_reducible refine Below.setCell ?_ ?_ _) | exact Below.refl _ _ | assumption | (solve | omega | simp | (simp; omega))))⟩
                          · have t10b : decide (1000000000000 < gp) = false := decide_eq_false t10
                            have hva := fun W => ref_ValidFraction gn gd W
                            rcases Bool.eq_false_or_eq_true (validF gn gd) with hv | hv
                            · rw [hv] at hva
                              have HVA := Lib.hid hva
                              clear hva
                              go_wp2_with fail
                              refine (HVA.out _).mono ?_
                              rintro e w1 ⟨rfl, hb1⟩
                              have HB1 := Lib.hid (below_then (w := w) (by repeat (first | (with_reducible exact Below.refl _ _) | (with_reducible assumption) | (with_reducible refine below_drewN ?_ _) | (with_reducible refine Below.drew ?_) | (with_reducible refine Below.alloc ?_ ?_ _) | (with_reducible refine Below.setCell ?_ ?_ _) | exact Below.refl _ _ | assumption | (solve | omega | simp | (simp; omega)))) hb1)
                              have HV := Lib.hid hv
                              clear hv
                              have B1 := Lib.hid ((Bx.made wo 27 #[.int .i64 gs, .int .i64 gb, .int .i64 gc, .int .i64 gi, .int .i64 gp, .int .i64 gn, .int .i64 gd] rfl).below hb1)
                              obtain ⟨x9, y9⟩ := B1.out.of
                              clear hb1
                              by_cases t11 : gn < 0
                              · have t11b : decide (gn < 0) = true := decide_eq_true t11
                                have HF := Lib.hid (valG_no (bad_elem HK.out (okG_no (s := gs) (b := gb) (c := gc) (i := gi) (p := gp) (n := gn) (d := gd) (fun h => by omega))))
                                have hBf := HB1.out
                                go_wp2
                                go_ret
                                exact ⟨ret_bool HF.out.symm, (by repeat (first | (with_reducible exact Below.refl _ _) | (with_reducible assumption) | (with_reducible refine below_drewN ?_ _) | (with_reducible refine Below.drew ?_) | (with_reducible refine Below.alloc ?_ ?_ _) | (with_reducible refine Below.setCell ?_ ?_ _) | exact Below.refl _ _ | assumption | (solve | omega | simp | (simp; omega))))⟩
                              · have t11b : decide (gn < 0) = false := decide_eq_false t11
                                by_cases t12 : gd < gn
                                · have t12b : decide (gd < gn) = true := decide_eq_true t12
                                  have HF := Lib.hid (valG_no (bad_elem HK.out (okG_no (s := gs) (b := gb) (c := gc) (i := gi) (p := gp) (n := gn) (d := gd) (fun h => by omega))))
                                  have hBf := HB1.out
                                  go_wp2
                                  go_ret
                                  exact ⟨ret_bool HF.out.symm, (by repeat (first | (with_reducible exact Below.refl _ _) | (with_reducible assumption) | (with_reducible refine below_drewN ?_ _) | (with_reducible refine Below.drew ?_) | (with_reducible refine Below.alloc ?_ ?_ _) | (with_reducible refine Below.setCell ?_ ?_ _) | exact Below.refl _ _ | assumption | (solve | omega | simp | (simp; omega))))⟩
                                · have t12b : decide (gd < gn) = false := decide_eq_false t12
                                  clear k0 k1 k2 k3 k4 k5 k6 hB
                                  have HO := Lib.hid (okG_iff (s := gs) (b := gb) (c := gc) (i := gi) (p := gp) (n := gn) (d := gd) |>.2 ⟨⟨by omega, by omega⟩, ⟨by omega, by omega⟩, ⟨by omega, by omega⟩, ⟨by omega, by omega⟩, ⟨by omega, by omega⟩, HV.out, by omega, by omega⟩)
                                  go_wp2
                                  clear x9 y9
                                  go_loopw [5] (fun i wi => ∃ j : Nat, j ≤ k ∧ i = .int .i64 j ∧ NoTwin l ⟨gs, gb, gc, gi, gp, gn, gd⟩ j ∧ Below w1.heap.size w1 wi) (fun i _ => k - (intOf i).toNat)
                                  case atStart => exact ⟨0, Nat.zero_le _, rfl, NoTwin.zero l _, (by repeat (first | (with_reducible exact Below.refl _ _) | (with_reducible assumption) | (with_reducible refine below_drewN ?_ _) | (with_reducible refine Below.drew ?_) | (with_reducible refine Below.alloc ?_ ?_ _) | (with_reducible refine Below.setCell ?_ ?_ _) | exact Below.refl _ _ | assumption | (solve | omega | simp | (simp; omega))))⟩
                                  case round =>
                                    obtain ⟨j, hj, rfl, hnt, hbi⟩ := hrel
                                    have HNT := Lib.hid hnt
                                    have HBI := Lib.hid hbi
                                    have HB2 := Lib.hid (below_then HB1.out hbi)
                                    have HR2 := Lib.hid (HR.out.below hb HB2.out)
                                    have B2 := Lib.hid (B1.out.below hbi)
                                    have hsz2 : b < wr.heap.size := Nat.lt_of_lt_of_le hb HB2.out.size
                                    have hsz3 : w1.heap.size ≤ wr.heap.size := hbi.size
                                    have hsz4 : w.heap.size ≤ wr.heap.size := HB2.out.size
                                    clear hnt hbi
                                    by_cases hjk : j < k
                                    · obtain ⟨t, ht⟩ : ∃ t, l[j]? = some t := ⟨l[j]'(by rw [HN.out]; omega), List.getElem?_eq_getElem _⟩
                                      obtain ⟨j0, j1, j2, j3, j4, j5, j6⟩ := HR2.out j t ht
                                      have HJ := Lib.hid ht
                                      obtain ⟨hs, hbn, hc, hi, hp, hn, hd⟩ := t
                                      simp only at j0 j1 j2 j3 j4 j5 j6
                                      clear ht
                                      obtain ⟨x0, y0⟩ := B2.out.of
                                      have hlb := B2.out.lt
                                      have i0 : (j : Int) < (n : Int) := by omega
                                      have hBI := HBI.out
                                      have hB2 := HB2.out
                                      by_cases e1 : hs = gs
                                      · have c1 : (hs == gs) = true := beq_iff_eq.2 e1
                                        by_cases e2 : hbn = gb
                                        · have c2 : (hbn == gb) = true := beq_iff_eq.2 e2
                                          have HF := Lib.hid (valG_no (bad_twin HK.out hjk HJ.out (by unfold twinB; simp [e1, e2])))
                                          clear e1 e2
                                          go_wp2
                                          go_quiet (fail)
                                          go_wp2
                                          go_ret
                                          exact ⟨ret_bool HF.out.symm, (by repeat (first | (with_reducible exact Below.refl _ _) | (with_reducible assumption) | (with_reducible refine below_drewN ?_ _) | (with_reducible refine Below.drew ?_) | (with_reducible refine Below.alloc ?_ ?_ _) | (with_reducible refine Below.setCell ?_ ?_ _) | exact Below.refl _ _ | assumption | (solve | omega | simp | (simp; omega))))⟩
                                        · have c2 : (hbn == gb) = false := beq_eq_false_iff_ne.2 e2
                                          have HNX := Lib.hid (HNT.out.next HJ.out (by unfold twinB; simp [e2]))
                                          clear e1 e2
                                          go_wp2
                                          go_quiet (fail)
                                          go_wp2
                                          go_roundw
                                          case rel => exact ⟨j + 1, by omega, by go_num, HNX.out, (by repeat (first | (with_reducible exact Below.refl _ _) | (with_reducible assumption) | (with_reducible refine below_drewN ?_ _) | (with_reducible refine Below.drew ?_) | (with_reducible refine Below.alloc ?_ ?_ _) | (with_reducible refine Below.setCell ?_ ?_ _) | exact Below.refl _ _ | assumption | (solve | omega | simp | (simp; omega))))⟩
                                          case measure => simp [intOf]; omega
                                      · have c1 : (hs == gs) = false := beq_eq_false_iff_ne.2 e1
                                        have HNX := Lib.hid (HNT.out.next HJ.out (by unfold twinB; simp [e1]))
                                        clear e1
                                        go_wp2
                                        go_quiet (fail)
                                        go_wp2
                                        go_roundw
                                        case rel => exact ⟨j + 1, by omega, by go_num, HNX.out, (by repeat (first | (with_reducible exact Below.refl _ _) | (with_reducible assumption) | (with_reducible refine below_drewN ?_ _) | (with_reducible refine Below.drew ?_) | (with_reducible refine Below.alloc ?_ ?_ _) | (with_reducible refine Below.setCell ?_ ?_ _) | exact Below.refl _ _ | assumption | (solve | omega | simp | (simp; omega))))⟩
                                        case measure => simp [intOf]; omega
                                    · obtain rfl : j = k := by omega
                                      have HNX := Lib.hid (HC.out.next HK.out HO.out HNT.out)
                                      have hB2 := HB2.out
                                      go_wp2
                                      go_roundw
                                      case rel => exact ⟨j + 1, by omega, by go_num, HNX.out, (by repeat (first | (with_reducible exact Below.refl _ _) | (with_reducible assumption) | (with_reducible refine below_drewN ?_ _) | (with_reducible refine Below.drew ?_) | (with_reducible refine Below.alloc ?_ ?_ _) | (with_reducible refine Below.setCell ?_ ?_ _) | exact Below.refl _ _ | assumption | (solve | omega | simp | (simp; omega))))⟩
                                      case measure => simp [intOf]; omega
                            · rw [hv] at hva
                              have HVA := Lib.hid hva
                              clear hva
                              go_wp2_with fail
                              refine (HVA.out _).mono ?_
                              rintro e w1 ⟨rfl, hb1⟩
                              have HB1 := Lib.hid (below_then (w := w) (by repeat (first | (with_reducible exact Below.refl _ _) | (with_reducible assumption) | (with_reducible refine below_drewN ?_ _) | (with_reducible refine Below.drew ?_) | (with_reducible refine Below.alloc ?_ ?_ _) | (with_reducible refine Below.setCell ?_ ?_ _) | exact Below.refl _ _ | assumption | (solve | omega | simp | (simp; omega)))) hb1)
                              clear hb1
                              have HF := Lib.hid (valG_no (bad_elem HK.out (okG_no (s := gs) (b := gb) (c := gc) (i := gi) (p := gp) (n := gn) (d := gd) (fun h => absurd h.2.2.2.2.2.1 (by rw [hv]; decide)))))
                              have hBf := HB1.out
                              go_wp2
                              go_ret
                              exact ⟨ret_bool HF.out.symm, (by repeat (first | (with_reducible exact Below.refl _ _) | (with_reducible assumption) | (with_reducible refine below_drewN ?_ _) | (with_reducible refine Below.drew ?_) | (with_reducible refine Below.alloc ?_ ?_ _) | (with_reducible refine Below.setCell ?_ ?_ _) | exact Below.refl _ _ | assumption | (solve | omega | simp | (simp; omega))))⟩
      · obtain rfl : k = n := by omega
        have HF := Lib.hid (valG_yes (l := l) ⟨by rw [HN.out]; omega, by rw [HN.out]; exact HC.out⟩)
        have hB := HB.out
        go_wp2
        go_ret
        exact ⟨ret_bool HF.out.symm, (by repeat (first | (with_reducible exact Below.refl _ _) | (with_reducible assumption) | (with_reducible refine below_drewN ?_ _) | (with_reducible refine Below.drew ?_) | (with_reducible refine Below.alloc ?_ ?_ _) | (with_reducible refine Below.setCell ?_ ?_ _) | exact Below.refl _ _ | assumption | (solve | omega | simp | (simp; omega))))⟩
end Go.Proofs.YthpknbflmcoanaaDoor
