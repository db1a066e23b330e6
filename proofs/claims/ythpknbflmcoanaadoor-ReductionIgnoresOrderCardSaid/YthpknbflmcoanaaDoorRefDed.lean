/-
  The contract of the reference's Deductions.
-/
import Derived.Test.YthpknbflmcoanaaDoorPart
import Derived.Test.YthpknbflmcoanaaDoorGTab2
namespace Go.Proofs.YthpknbflmcoanaaDoor
open Go.RowKit Mny

set_option maxRecDepth 100000 in
set_option maxHeartbeats 16000000 in
theorem ref_Deductions1 (l : List Gr) (rt : List Rt) (n b off cc : Nat) (v : Value) (m : Int) (w : World) (hn : l.length = n) (hr : GrossAt w b off l) (hb : b < w.heap.size) (hl : n ≤ cc) (hl2 : n ≤ 2600000000000) (hT : Tab w v rt) :
    Calls Tryd.prog 30 #[.slice (some ⟨b, off, none⟩) n cc, v, .int .i64 m] w (DedOut w (dedR l rt m).1 (dedR l rt m).2) := by
  have HV := Lib.hid (ref_ValidGross1 l n b off cc w hn hr hb hl)
  have HN := Lib.hid hn
  have HR := Lib.hid hr
  have HT := Lib.hid hT
  clear hn hr hT
  have hok := fun (W : World) (h : Below w.heap.size w W) => ref_okRates v rt m W (HT.out.below h)
  cases hv : valG l
  · have HF := Lib.hid (dedR_1 (rt := rt) (m := m) hv)
    rw [hv] at HV
    clear hv hok
    go_enter Tryd.func30, Tryd.ntmps30
    go_wp2_with fail
    refine (HV.out).mono ?_
    rintro e w1 ⟨rfl, hb1⟩
    have HB1 := Lib.hid hb1
    go_wp2
    refine bodyPost_ret (v := .tuple #[.slice none 0 0, .int .i64 1]) (by simp [results, Tryd.results30, go_sem]) rfl ⟨.slice none 0 0, by rw [HF.out], .inl ⟨_, _, rfl, by rw [HF.out]⟩, ?_⟩
    exact (by repeat (first | (with_reducible exact Below.refl _ _) | (with_reducible assumption) | (with_reducible refine below_drewN ?_ _) | (with_reducible refine Below.drew ?_) | (with_reducible refine Below.alloc ?_ ?_ _) | (with_reducible refine Below.setCell ?_ ?_ _) | exact Below.refl _ _ | assumption | (solve | omega | simp | (simp; omega))))
  · have HVG := Lib.hid hv
    rw [hv] at HV
    clear hv
    cases ho : (inB 0 2399 m && decide (chkS rt = 0))
    · have HF := Lib.hid (show dedR l rt m = ([], 1) by unfold dedR dedB; rw [ho, Bool.and_false]; rfl)
      rw [ho] at hok
      have HOK := Lib.hid hok
      clear hok ho HVG
      go_enter Tryd.func30, Tryd.ntmps30
      go_wp2_with fail
      refine (HV.out).mono ?_
      rintro e w1 ⟨rfl, hb1⟩
      have HB1 := Lib.hid hb1
      clear hb1
      go_wp2_with fail
      refine (HOK.out _ HB1.out).mono ?_
      rintro e w2 ⟨rfl, hb2⟩
      have HB2 := Lib.hid (below_then HB1.out hb2)
      clear hb2
      have hb2 := HB2.out
      go_wp2
      refine bodyPost_ret (v := .tuple #[.slice none 0 0, .int .i64 1]) (by simp [results, Tryd.results30, go_sem]) rfl ⟨.slice none 0 0, by rw [HF.out], .inl ⟨_, _, rfl, by rw [HF.out]⟩, ?_⟩
      exact (by repeat (first | (with_reducible exact Below.refl _ _) | (with_reducible assumption) | (with_reducible refine below_drewN ?_ _) | (with_reducible refine Below.drew ?_) | (with_reducible refine Below.alloc ?_ ?_ _) | (with_reducible refine Below.setCell ?_ ?_ _) | exact Below.refl _ _ | assumption | (solve | omega | simp | (simp; omega))))
    · have HF := Lib.hid (show dedR l rt m = (dedS l rt m, 0) by unfold dedR dedB; rw [ho, HVG.out]; rfl)
      rw [ho] at hok
      have HOK := Lib.hid hok
      clear hok ho
      have hn18 : n ≤ 18 := by rw [← HN.out]; exact (valG_iff.1 HVG.out).1
      obtain ⟨j0, hj, hy0, hy1, hy2⟩ := info_parts info_ded
      go_enter Tryd.func30, Tryd.ntmps30
      go_wp2_with fail
      refine (HV.out).mono ?_
      rintro e w1 ⟨rfl, hb1⟩
      have HB1 := Lib.hid hb1
      clear hb1
      go_wp2_with fail
      refine (HOK.out _ HB1.out).mono ?_
      rintro e w2 ⟨rfl, hb2⟩
      have HB2 := Lib.hid (below_then HB1.out hb2)
      clear hb2
      go_wp2
      go_loopw [8, 9] (fun s i wr => ∃ (k : Nat) (xs : List Ded) (A : Option Addr) (c9 : Nat), k ≤ n ∧ i = .int .i64 k ∧ s = .slice A xs.length c9 ∧ dedK l rt m k = xs ∧ xs.length ≤ k * 18 ∧ wr.ownsRow w.heap.size 47 3 (.slice A xs.length c9) xs.length (dedCells xs) ∧ Below w.heap.size w wr) (fun _ i _ => n - (intOf i).toNat)
      case atStart => exact ⟨0, [], none, 0, Nat.zero_le _, rfl, rfl, rfl, Nat.zero_le _, ⟨rfl, .inl ⟨rfl, rfl⟩⟩, HB2.out⟩
      case round =>
        obtain ⟨k, xs, A, c9, hk, rfl, rfl, hxs, hxl, hown, hbl⟩ := hrel
        have HXS := Lib.hid hxs
        have HO := Lib.hid hown
        have HBo := Lib.hid hbl
        clear hxs hown hbl
        have hso := HBo.out.size
        by_cases hlt : k < n
        · obtain ⟨r, hr⟩ : ∃ r, l[k]? = some r := ⟨l[k]'(by rw [HN.out]; exact hlt), List.getElem?_eq_getElem _⟩
          have HK := Lib.hid hr
          obtain ⟨gs, gb, gc, gi, gp, gn, gd⟩ := r
          clear hr
          have hre := fun W => ref_reduces gs gb gc gi gp gn gd W
          rcases Bool.eq_false_or_eq_true (redB ⟨gs, gb, gc, gi, gp, gn, gd⟩) with hrb | hrb
          · have HNX := Lib.hid (dedK_yes (rt := rt) (m := m) HK.out hrb)
            have HRB := Lib.hid hrb
            rw [hrb] at hre
            have HRE := Lib.hid hre
            clear hrb hre
            obtain ⟨wo, eo⟩ : ∃ q, q = wr := ⟨_, rfl⟩
            subst eo
            go_wp2
            go_loopw [8, 10] (fun s i wr => ∃ (j : Nat) (ys : List Ded) (A : Option Addr) (c9 : Nat), j ≤ n ∧ i = .int .i64 j ∧ s = .slice A ys.length c9 ∧ dedRow l rt m ⟨gs, gb, gc, gi, gp, gn, gd⟩ k xs j = ys ∧ ys.length ≤ xs.length + j ∧ wr.ownsRow w.heap.size 47 3 (.slice A ys.length c9) ys.length (dedCells ys) ∧ Below w.heap.size w wr) (fun _ i _ => n - (intOf i).toNat)
            case atStart => exact ⟨0, xs, A, c9, Nat.zero_le _, rfl, rfl, rfl, Nat.le_refl _, HO.out, HBo.out⟩
            case round =>
              obtain ⟨j, ys, A', c', hj', rfl, rfl, hys, hyl, hown, hbl⟩ := hrel
              have HYS := Lib.hid hys
              have HOi := Lib.hid hown
              have HBi := Lib.hid hbl
              clear hys hown hbl
              have HRi := Lib.hid (HR.out.below hb HBi.out)
              have hsi := HBi.out.size
              have hbi : b < wr.heap.size := by omega
              by_cases hlt2 : j < n
              · obtain ⟨r, hr⟩ : ∃ r, l[j]? = some r := ⟨l[j]'(by rw [HN.out]; exact hlt2), List.getElem?_eq_getElem _⟩
                have HJ := Lib.hid hr
                obtain ⟨fs, fb, fc, fi, fp, fn, fd⟩ := r
                clear hr
                have i1 : (k : Int) < (n : Int) := by omega
                have i2 : (j : Int) < (n : Int) := by omega
                go_wp2
                have p0 : ∀ z : BW wr, z.val.cell? ⟨b, off + k * 7, none⟩ = some (.int .i64 gs) := fun z => ((HRi.out.below hbi z.ok) k _ HK.out).1
                have q0 : ∀ z : BW wr, z.val.cell? ⟨b, off + j * 7, none⟩ = some (.int .i64 fs) := fun z => ((HRi.out.below hbi z.ok) j _ HJ.out).1
                have p1 : ∀ z : BW wr, z.val.cell? ⟨b, off + k * 7 + 1, none⟩ = some (.int .i64 gb) := fun z => ((HRi.out.below hbi z.ok) k _ HK.out).2.1
                have q1 : ∀ z : BW wr, z.val.cell? ⟨b, off + j * 7 + 1, none⟩ = some (.int .i64 fb) := fun z => ((HRi.out.below hbi z.ok) j _ HJ.out).2.1
                have p2 : ∀ z : BW wr, z.val.cell? ⟨b, off + k * 7 + 2, none⟩ = some (.int .i64 gc) := fun z => ((HRi.out.below hbi z.ok) k _ HK.out).2.2.1
                have q2 : ∀ z : BW wr, z.val.cell? ⟨b, off + j * 7 + 2, none⟩ = some (.int .i64 fc) := fun z => ((HRi.out.below hbi z.ok) j _ HJ.out).2.2.1
                have p3 : ∀ z : BW wr, z.val.cell? ⟨b, off + k * 7 + 3, none⟩ = some (.int .i64 gi) := fun z => ((HRi.out.below hbi z.ok) k _ HK.out).2.2.2.1
                have q3 : ∀ z : BW wr, z.val.cell? ⟨b, off + j * 7 + 3, none⟩ = some (.int .i64 fi) := fun z => ((HRi.out.below hbi z.ok) j _ HJ.out).2.2.2.1
                have p4 : ∀ z : BW wr, z.val.cell? ⟨b, off + k * 7 + 4, none⟩ = some (.int .i64 gp) := fun z => ((HRi.out.below hbi z.ok) k _ HK.out).2.2.2.2.1
                have q4 : ∀ z : BW wr, z.val.cell? ⟨b, off + j * 7 + 4, none⟩ = some (.int .i64 fp) := fun z => ((HRi.out.below hbi z.ok) j _ HJ.out).2.2.2.2.1
                have p5 : ∀ z : BW wr, z.val.cell? ⟨b, off + k * 7 + 5, none⟩ = some (.int .i64 gn) := fun z => ((HRi.out.below hbi z.ok) k _ HK.out).2.2.2.2.2.1
                have q5 : ∀ z : BW wr, z.val.cell? ⟨b, off + j * 7 + 5, none⟩ = some (.int .i64 fn) := fun z => ((HRi.out.below hbi z.ok) j _ HJ.out).2.2.2.2.2.1
                have p6 : ∀ z : BW wr, z.val.cell? ⟨b, off + k * 7 + 6, none⟩ = some (.int .i64 gd) := fun z => ((HRi.out.below hbi z.ok) k _ HK.out).2.2.2.2.2.2
                have q6 : ∀ z : BW wr, z.val.cell? ⟨b, off + j * 7 + 6, none⟩ = some (.int .i64 fd) := fun z => ((HRi.out.below hbi z.ok) j _ HJ.out).2.2.2.2.2.2
                have hga := fun W => ref_GrossAmount fs fb fc fi fp fn fd W
                obtain ⟨gv, hgv⟩ : ∃ q, grossV ⟨fs, fb, fc, fi, fp, fn, fd⟩ = q := ⟨_, rfl⟩
                have HGV := Lib.hid hgv
                rw [hgv] at hga
                have HGA := Lib.hid hga
                clear hgv hga
                have HPA := Lib.hid (partS_at (rt := rt) (m := m) (g := ⟨gs, gb, gc, gi, gp, gn, gd⟩) HJ.out)
                by_cases e1 : fs = gs
                · have c1 : (fs == gs) = true := beq_iff_eq.2 e1
                  have HNX := Lib.hid ((dedRow_no (i := k) (xs := xs) (by rw [HPA.out, partB_1 e1]; simp)).trans HYS.out)
                  clear e1
                  refine wp_region_below (by kernel_rfl) (by kernel_rfl) ?_
                  repeat (go_big_quiet_step ((first | (go_at_call 43; exact bq_below (HRE.out _)) | (go_at_call 19; exact bq_below (HGA.out _)))))
                  refine wpQuiet_nil ?_
                  intro w6 hw'
                  obtain ⟨⟨_, hb6⟩, rfl⟩ := hw'
                  have HO6 := Lib.hid (own_below HOi.out hb6)
                  have HBB := Lib.hid (below_then HBi.out hb6)
                  clear hb6 p0 p1 p2 p3 p4 p5 p6 q0 q1 q2 q3 q4 q5 q6
                  have hs6 := HBB.out.size
                  go_wp2
                  go_roundw
                  case rel => exact ⟨j + 1, ys, A', c', by omega, by go_num, rfl, HNX.out, by omega, HO6.out, HBB.out⟩
                  case measure => simp [intOf]; omega
                · have c1 : (fs == gs) = false := beq_eq_false_iff_ne.2 e1
                  by_cases e2 : gv = 0
                  · have c2 : (gv == 0) = true := beq_iff_eq.2 e2
                    have HNX := Lib.hid ((dedRow_no (i := k) (xs := xs) (by rw [HPA.out, partB_2 (HGV.out.trans e2)]; simp)).trans HYS.out)
                    clear e2
                    refine wp_region_below (by kernel_rfl) (by kernel_rfl) ?_
                    repeat (go_big_quiet_step ((first | (go_at_call 43; exact bq_below (HRE.out _)) | (go_at_call 19; exact bq_below (HGA.out _)))))
                    refine wpQuiet_nil ?_
                    intro w6 hw'
                    obtain ⟨⟨_, hb6⟩, rfl⟩ := hw'
                    have HO6 := Lib.hid (own_below HOi.out hb6)
                    have HBB := Lib.hid (below_then HBi.out hb6)
                    clear hb6 p0 p1 p2 p3 p4 p5 p6 q0 q1 q2 q3 q4 q5 q6
                    have hs6 := HBB.out.size
                    go_wp2
                    go_roundw
                    case rel => exact ⟨j + 1, ys, A', c', by omega, by go_num, rfl, HNX.out, by omega, HO6.out, HBB.out⟩
                    case measure => simp [intOf]; omega
                  · have c2 : (gv == 0) = false := beq_eq_false_iff_ne.2 e2
                    have HPB := Lib.hid (partB_yes (g := ⟨gs, gb, gc, gi, gp, gn, gd⟩) (f := ⟨fs, fb, fc, fi, fp, fn, fd⟩) e1 (by rw [HGV.out]; exact e2))
                    have HPV := Lib.hid (show partS l rt m ⟨gs, gb, gc, gi, gp, gn, gd⟩ j = partV rt m ⟨gs, gb, gc, gi, gp, gn, gd⟩ ⟨fs, fb, fc, fi, fp, fn, fd⟩ (redK l fs l.length).length by rw [HPA.out, HPB.out]; rfl)
                    have HQ1 := Lib.hid (red_some (f := ⟨fs, fb, fc, fi, fp, fn, fd⟩) HK.out HRB.out e1)
                    clear e1 e2
                    refine wp_region_below (by kernel_rfl) (by kernel_rfl) ?_
                    repeat (go_big_quiet_step ((first | (go_at_call 43; exact bq_below (HRE.out _)) | (go_at_call 19; exact bq_below (HGA.out _)))))
                    refine wpQuiet_nil ?_
                    intro w6 hw'
                    obtain ⟨⟨_, hb6⟩, rfl⟩ := hw'
                    have HO6 := Lib.hid (own_below HOi.out hb6)
                    have HBB := Lib.hid (below_then HBi.out hb6)
                    clear hb6 p0 p1 p2 p3 p4 p5 p6 q0 q1 q2 q3 q4 q5 q6
                    have hs6 := HBB.out.size
                    have hp := ref_part1 l rt n b off cc k j v m w6 gs gb gc gi gp gn gd fs fb fc fi fp fn fd HN.out (HR.out.below hb HBB.out) (by omega) hl2 (HT.out.below HBB.out) HK.out HJ.out HQ1.out
                    obtain ⟨sh, hsh⟩ : ∃ sh, partV rt m ⟨gs, gb, gc, gi, gp, gn, gd⟩ ⟨fs, fb, fc, fi, fp, fn, fd⟩ (redK l fs l.length).length = sh := ⟨_, rfl⟩
                    rw [hsh] at hp
                    have HP := Lib.hid hp
                    have HPS := Lib.hid (HPV.out.trans hsh)
                    clear hp hsh
                    go_wp2_with fail
                    refine HP.out.mono ?_
                    rintro e w8 ⟨rfl, hb8⟩
                    have HO8 := Lib.hid (own_below HO6.out hb8)
                    have HBB8 := Lib.hid (below_then HBB.out hb8)
                    clear hb8
                    have hs8 := HBB8.out.size
                    by_cases e5 : 0 < sh
                    · have c5 : decide (0 < sh) = true := decide_eq_true e5
                      have HNX := Lib.hid (dedRow_yes (i := k) (xs := xs) (by rw [HPS.out]; exact e5))
                      rw [HPS.out, HYS.out] at HNX
                      clear e5
                      go_wp2_with (at_builtin; go_loud (refine wpList_append_own _ rfl _ _ 41 rfl w.heap.size 47 j0 (.agg #[.int .i64 0, .int .i64 0, .int .i64 0]) 3 24 Tryd.underlying41 hj hy0 hy1 hy2 rfl (by decide) _ _ _ rfl (HO8.out.alloc _) ⟨w8.heap.size, 0, none⟩ 1 1 [.int .i64 (k : Int), .int .i64 (j : Int), .int .i64 sh] rfl rfl ?c1 ?c2 ?c3 ?c4 ?c5 ?_))
                      case c1 =>
                        intro t u ht
                        match t, ht with
                        | 0, ht => simp at ht; subst ht; simp [Addr.add]
                        | 1, ht => simp at ht; subst ht; simp [Addr.add]
                        | 2, ht => simp at ht; subst ht; simp [Addr.add]
                        | t + 3, ht => simp at ht
                      case c2 =>
                        intro u hu
                        simp at hu
                        rcases hu with rfl | rfl | rfl <;> rfl
                      case c3 => unfold maxLen; omega
                      case c4 => omega
                      case c5 => simp; omega
                      intro v' w9 hown' hgrow _
                      obtain ⟨A9, c9', rfl⟩ := own_slice hown'
                      have HO9 : Hid (w9.ownsRow w.heap.size 47 3 (.slice A9 (ys.length + 1) c9') (ys.length + 1) (dedCells (ys ++ [⟨(k : Int), (j : Int), sh⟩]))) := Lib.hid (by rw [dedCells_snoc]; exact hown')
                      have HB9 : Hid (Below w.heap.size w w9) := Lib.hid ((HBB8.out.alloc HBB8.out.size _).grown hgrow (by simp; omega) (fun g hg => by
                        rcases HO8.out.2 with ⟨h1, _⟩ | ⟨g', cap, cur, h1, hg', _⟩
                        · rw [h1] at hg; simp [Value.ownBlock] at hg
                        · rw [h1] at hg; simp [Value.ownBlock] at hg; omega))
                      clear hown' hgrow
                      go_wp2
                      go_roundw
                      case rel => exact ⟨j + 1, ys ++ [⟨(k : Int), (j : Int), sh⟩], A9, c9', by omega, by go_num, by simp, HNX.out, by simp; omega, (by rw [List.length_append]; exact HO9.out), HB9.out⟩
                      case measure => simp [intOf]; omega
                    · have c5 : decide (0 < sh) = false := decide_eq_false e5
                      have HNX := Lib.hid ((dedRow_no (i := k) (xs := xs) (by rw [HPS.out]; exact e5)).trans HYS.out)
                      clear e5
                      go_wp2
                      go_roundw
                      case rel => exact ⟨j + 1, ys, A', c', by omega, by go_num, rfl, HNX.out, by omega, HO8.out, HBB8.out⟩
                      case measure => simp [intOf]; omega
              · obtain rfl : n = j := by omega
                have HNY := Lib.hid (HNX.out.trans (show dedRow l rt m ⟨gs, gb, gc, gi, gp, gn, gd⟩ k (dedK l rt m k) l.length = ys by rw [HN.out, HXS.out]; exact HYS.out))
                go_wp2
                go_roundw
                case rel => exact ⟨k + 1, ys, A', c', by omega, by go_num, rfl, HNY.out, by omega, HOi.out, HBi.out⟩
                case measure => simp [intOf]; omega
          · have HNX := Lib.hid ((dedK_no (rt := rt) (m := m) HK.out hrb).trans HXS.out)
            have HRB := Lib.hid hrb
            rw [hrb] at hre
            have HRE := Lib.hid hre
            clear hrb hre
            obtain ⟨wo, eo⟩ : ∃ q, q = wr := ⟨_, rfl⟩
            subst eo
            go_wp2
            go_loopw [8, 10] (fun s i wr => ∃ (j : Nat) (ys : List Ded) (A : Option Addr) (c9 : Nat), j ≤ n ∧ i = .int .i64 j ∧ s = .slice A ys.length c9 ∧ xs = ys ∧ ys.length ≤ xs.length + j ∧ wr.ownsRow w.heap.size 47 3 (.slice A ys.length c9) ys.length (dedCells ys) ∧ Below w.heap.size w wr) (fun _ i _ => n - (intOf i).toNat)
            case atStart => exact ⟨0, xs, A, c9, Nat.zero_le _, rfl, rfl, rfl, Nat.le_refl _, HO.out, HBo.out⟩
            case round =>
              obtain ⟨j, ys, A', c', hj', rfl, rfl, hys, hyl, hown, hbl⟩ := hrel
              have HYS := Lib.hid hys
              have HOi := Lib.hid hown
              have HBi := Lib.hid hbl
              clear hys hown hbl
              have HRi := Lib.hid (HR.out.below hb HBi.out)
              have hsi := HBi.out.size
              have hbi : b < wr.heap.size := by omega
              by_cases hlt2 : j < n
              · obtain ⟨r, hr⟩ : ∃ r, l[j]? = some r := ⟨l[j]'(by rw [HN.out]; exact hlt2), List.getElem?_eq_getElem _⟩
                have HJ := Lib.hid hr
                obtain ⟨fs, fb, fc, fi, fp, fn, fd⟩ := r
                clear hr
                have i1 : (k : Int) < (n : Int) := by omega
                have i2 : (j : Int) < (n : Int) := by omega
                go_wp2
                have p0 : ∀ z : BW wr, z.val.cell? ⟨b, off + k * 7, none⟩ = some (.int .i64 gs) := fun z => ((HRi.out.below hbi z.ok) k _ HK.out).1
                have p1 : ∀ z : BW wr, z.val.cell? ⟨b, off + k * 7 + 1, none⟩ = some (.int .i64 gb) := fun z => ((HRi.out.below hbi z.ok) k _ HK.out).2.1
                have p2 : ∀ z : BW wr, z.val.cell? ⟨b, off + k * 7 + 2, none⟩ = some (.int .i64 gc) := fun z => ((HRi.out.below hbi z.ok) k _ HK.out).2.2.1
                have p3 : ∀ z : BW wr, z.val.cell? ⟨b, off + k * 7 + 3, none⟩ = some (.int .i64 gi) := fun z => ((HRi.out.below hbi z.ok) k _ HK.out).2.2.2.1
                have p4 : ∀ z : BW wr, z.val.cell? ⟨b, off + k * 7 + 4, none⟩ = some (.int .i64 gp) := fun z => ((HRi.out.below hbi z.ok) k _ HK.out).2.2.2.2.1
                have p5 : ∀ z : BW wr, z.val.cell? ⟨b, off + k * 7 + 5, none⟩ = some (.int .i64 gn) := fun z => ((HRi.out.below hbi z.ok) k _ HK.out).2.2.2.2.2.1
                have p6 : ∀ z : BW wr, z.val.cell? ⟨b, off + k * 7 + 6, none⟩ = some (.int .i64 gd) := fun z => ((HRi.out.below hbi z.ok) k _ HK.out).2.2.2.2.2.2
                refine wp_region_below (by kernel_rfl) (by kernel_rfl) ?_
                repeat (go_big_quiet_step (((go_at_call 43; exact bq_below (HRE.out _)))))
                refine wpQuiet_nil ?_
                intro w6 hw'
                obtain ⟨⟨_, hb6⟩, rfl⟩ := hw'
                have HO6 := Lib.hid (own_below HOi.out hb6)
                have HBB := Lib.hid (below_then HBi.out hb6)
                clear hb6 p0 p1 p2 p3 p4 p5 p6
                have hs6 := HBB.out.size
                have HNX := HYS
                go_wp2
                go_roundw
                case rel => exact ⟨j + 1, ys, A', c', by omega, by go_num, rfl, HNX.out, by omega, HO6.out, HBB.out⟩
                case measure => simp [intOf]; omega
              · obtain rfl : n = j := by omega
                have HNY := Lib.hid (HNX.out.trans HYS.out)
                go_wp2
                go_roundw
                case rel => exact ⟨k + 1, ys, A', c', by omega, by go_num, rfl, HNY.out, by omega, HOi.out, HBi.out⟩
                case measure => simp [intOf]; omega
        · obtain rfl : n = k := by omega
          go_wp2
          refine bodyPost_ret (v := .tuple #[.slice A xs.length c9, .int .i64 0]) (by simp [results, Tryd.results30, go_sem]) rfl ⟨.slice A xs.length c9, by rw [HF.out], ?_, ?_⟩
          · rw [HF.out]; exact DedTab.own (by rw [show dedS l rt m = xs by unfold dedS; rw [HN.out]; exact HXS.out]; exact HO.out) (by unfold dedS; rw [HN.out, HXS.out])
          · exact HBo.out
end Go.Proofs.YthpknbflmcoanaaDoor
