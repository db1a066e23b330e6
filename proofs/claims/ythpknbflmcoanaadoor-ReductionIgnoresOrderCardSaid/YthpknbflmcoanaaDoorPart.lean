/-
  The reference's part: what one element deducts because of another.
-/
import Derived.Test.YthpknbflmcoanaaDoorRefD
namespace Go.Proofs.YthpknbflmcoanaaDoor
open Go.RowKit Mny

set_option maxRecDepth 100000 in
set_option maxHeartbeats 8000000 in
theorem ref_part1 (l : List Gr) (rt : List Rt) (n b off cc i j : Nat) (v : Value) (m : Int) (w : World) (gs gb gc gi gp gn gd fs fb fc fi fp fn fd : Int) (hn : l.length = n) (hr : GrossAt w b off l) (hb : b < w.heap.size) (hl : n ≤ 2600000000000) (hT : Tab w v rt)
    (hi : l[i]? = some ⟨gs, gb, gc, gi, gp, gn, gd⟩) (hj : l[j]? = some ⟨fs, fb, fc, fi, fp, fn, fd⟩) (hq1 : 1 ≤ (redK l fs l.length).length) :
    Calls Tryd.prog 49 #[.slice (some ⟨b, off, none⟩) n cc, .int .i64 i, .int .i64 j, v, .int .i64 m] w fun e w' =>
      e = .returned (.int .i64 (partV rt m ⟨gs, gb, gc, gi, gp, gn, gd⟩ ⟨fs, fb, fc, fi, fp, fn, fd⟩ (redK l fs l.length).length)) ∧ Below w.heap.size w w' := by
  have hin := (List.getElem?_eq_some_iff.1 hi).1
  have hjn := (List.getElem?_eq_some_iff.1 hj).1
  rw [hn] at hin hjn
  have HI := Lib.hid hi
  have HJ := Lib.hid hj
  have HN := Lib.hid hn
  have HR := Lib.hid hr
  have HT := Lib.hid hT
  have HRED := Lib.hid (ref_Reducers1 l n b off cc (j : Int) w hn hr hb hl)
  rw [redS_in hj] at HRED
  simp only at HRED
  clear hn hr hT hi hj
  obtain ⟨q, hq⟩ : ∃ q, redK l fs l.length = q := ⟨_, rfl⟩
  rw [hq] at HRED
  rw [hq] at hq1
  rw [hq]
  clear hq
  obtain ⟨gv, hgv⟩ : ∃ q, grossV ⟨fs, fb, fc, fi, fp, fn, fd⟩ = q := ⟨_, rfl⟩
  have HGV := Lib.hid hgv
  obtain ⟨x, er, hcv⟩ : ∃ x er, cvS rt m ⟨gs, gb, gc, gi, gp, gn, gd⟩ ⟨fs, fb, fc, fi, fp, fn, fd⟩ = (x, er) := ⟨_, _, rfl⟩
  have HCV := Lib.hid hcv
  have hcc := fun (W : World) (h : Below w.heap.size w W) => ref_Convert gv fc gc m 1 1 v rt W (HT.out.below h)
  rw [show convS gv fc gc m rt 1 1 = (x, er) by rw [← hcv, ← hgv]; rfl] at hcc
  simp only [IE] at hcc
  have HCC := Lib.hid hcc
  have hga := fun W => ref_GrossAmount fs fb fc fi fp fn fd W
  rw [hgv] at hga
  have HGA := Lib.hid hga
  clear hcc hcv hga hgv
  go_enter Tryd.func49, Tryd.ntmps49
  go_wp2_with fail
  refine HRED.out.mono ?_
  rintro e w1 ⟨v1, rfl, hnt, hb1⟩
  obtain ⟨A1, c1, rfl⟩ := hnt.slice
  clear hnt
  have HB1 := Lib.hid hb1
  clear hb1
  have hs1 := HB1.out.size
  have hb1x : b < w1.heap.size := by omega
  have HR1 := Lib.hid (HR.out.below hb HB1.out)
  go_wp2
  have q0 : ∀ z : BW w1, z.val.cell? ⟨b, off + j * 7, none⟩ = some (.int .i64 fs) := fun z => ((HR1.out.below hb1x z.ok) j _ HJ.out).1
  have q1 : ∀ z : BW w1, z.val.cell? ⟨b, off + j * 7 + 1, none⟩ = some (.int .i64 fb) := fun z => ((HR1.out.below hb1x z.ok) j _ HJ.out).2.1
  have q2 : ∀ z : BW w1, z.val.cell? ⟨b, off + j * 7 + 2, none⟩ = some (.int .i64 fc) := fun z => ((HR1.out.below hb1x z.ok) j _ HJ.out).2.2.1
  have q3 : ∀ z : BW w1, z.val.cell? ⟨b, off + j * 7 + 3, none⟩ = some (.int .i64 fi) := fun z => ((HR1.out.below hb1x z.ok) j _ HJ.out).2.2.2.1
  have q4 : ∀ z : BW w1, z.val.cell? ⟨b, off + j * 7 + 4, none⟩ = some (.int .i64 fp) := fun z => ((HR1.out.below hb1x z.ok) j _ HJ.out).2.2.2.2.1
  have q5 : ∀ z : BW w1, z.val.cell? ⟨b, off + j * 7 + 5, none⟩ = some (.int .i64 fn) := fun z => ((HR1.out.below hb1x z.ok) j _ HJ.out).2.2.2.2.2.1
  have q6 : ∀ z : BW w1, z.val.cell? ⟨b, off + j * 7 + 6, none⟩ = some (.int .i64 fd) := fun z => ((HR1.out.below hb1x z.ok) j _ HJ.out).2.2.2.2.2.2
  have qi : ∀ z : BW w1, z.val.cell? ⟨b, off + i * 7 + 2, none⟩ = some (.int .i64 gc) := fun z => ((HR1.out.below hb1x z.ok) i _ HI.out).2.2.1
  have i1 : (j : Int) < (n : Int) := by omega
  have i2 : (i : Int) < (n : Int) := by omega
  refine wp_region_below (by kernel_rfl) (by kernel_rfl) ?_
  repeat (go_big_quiet_step ((first | (go_at_call 19; exact bq_below (HGA.out _)) | (go_at_call 64; exact bq_below (ref_down _)) | (go_at_call 63; exact bq_below (HCC.out _ (below_then HB1.out (BW.ok _)))))))
  refine wpQuiet_nil ?_
  intro w2 hw'
  obtain ⟨⟨_, hb2⟩, rfl⟩ := hw'
  have HB2 := Lib.hid (below_then HB1.out hb2)
  clear hb2 qi q0 q1 q2 q3 q4 q5 q6
  have hs2 := HB2.out.size
  have hb2x : b < w2.heap.size := by omega
  have hl3 : ((q.length : Int) == 0) = false := beq_eq_false_iff_ne.2 (by omega)
  have hl4 : (q.length == 0) = false := beq_eq_false_iff_ne.2 (by omega)
  have hl5 : (q.length : Int) ≠ 0 := by omega
  by_cases e3 : er = 0
  · have c3 : (er != 0) = false := bne_eq_false_iff_eq.2 e3
    subst e3
    have HR2 := Lib.hid (HR.out.below hb HB2.out)
    have q5 : ∀ z : BW w2, z.val.cell? ⟨b, off + i * 7 + 5, none⟩ = some (.int .i64 gn) := fun z => ((HR2.out.below hb2x z.ok) i _ HI.out).2.2.2.2.2.1
    have q6 : ∀ z : BW w2, z.val.cell? ⟨b, off + i * 7 + 6, none⟩ = some (.int .i64 gd) := fun z => ((HR2.out.below hb2x z.ok) i _ HI.out).2.2.2.2.2.2
    have hx1 := cv_bd HCV.out
    have hy1 := tdiv_bd q.length hx1
    obtain ⟨sh, es, hsv⟩ : ∃ sh es, shS ⟨gs, gb, gc, gi, gp, gn, gd⟩ x q.length = (sh, es) := ⟨_, _, rfl⟩
    have HSV := Lib.hid hsv
    obtain ⟨y, hy⟩ : ∃ y, x.tdiv (q.length : Int) = y := ⟨_, rfl⟩
    rw [hy] at hy1
    have hsc := fun W => ref_Scale y gn gd 1 1 W
    rw [show scaleS y gn gd 1 1 = (sh, es) by rw [← hsv, ← hy]; rfl] at hsc
    simp only [IE] at hsc
    have HSC := Lib.hid hsc
    clear hsc hsv
    go_wp2
    refine wp_region_below (by kernel_rfl) (by kernel_rfl) ?_
    repeat (go_big_quiet_step ((first | (go_at_call 64; exact bq_below (ref_down _)) | (go_at_call 65; exact bq_below (HSC.out _)))))
    refine wpQuiet_nil ?_
    intro w3 hw'
    obtain ⟨⟨_, hb3⟩, rfl⟩ := hw'
    have HB3 := Lib.hid (below_then HB2.out hb3)
    clear hb3 q5 q6
    by_cases e4 : es = 0
    · have c4 : (es != 0) = false := bne_eq_false_iff_eq.2 e4
      subst e4
      go_wp2
      go_ret
      exact ⟨by rw [partV_3 HCV.out HSV.out]; rfl, HB3.out⟩
    · have c4 : (es != 0) = true := bne_iff_ne.2 e4
      go_wp2
      go_ret
      exact ⟨by rw [partV_2 HCV.out (by rw [HSV.out]; exact e4)]; rfl, HB3.out⟩
  · have c3 : (er != 0) = true := bne_iff_ne.2 e3
    go_wp2
    go_ret
    exact ⟨by rw [partV_1 (by rw [HCV.out]; exact e3)]; rfl, HB2.out⟩
end Go.Proofs.YthpknbflmcoanaaDoor
