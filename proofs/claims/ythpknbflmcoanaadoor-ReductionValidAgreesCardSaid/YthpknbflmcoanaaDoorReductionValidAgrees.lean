/-
  ReductionValidAgrees: the walk.
-/
import Derived.Test.YthpknbflmcoanaaDoorGtb
import Derived.Test.YthpknbflmcoanaaDoorAwk
namespace Go.Proofs.YthpknbflmcoanaaDoor
open Go.RowKit Mny

set_option maxRecDepth 100000 in
set_option maxHeartbeats 8000000 in
theorem walk_ReductionValidAgrees (l : List Gr) (v : Value) (W : World) (hg : GTb W v l) (hD : DownAt W) : Calls Tryd.prog 3 #[v] W fun e w' => e = .returned (.bool true) ∧ Below W.heap.size W w' := by
  have hn2 := hg.len
  obtain ⟨A, c, rfl⟩ := hg.cut
  obtain ⟨n, hn⟩ : ∃ n, l.length = n := ⟨_, rfl⟩
  rw [hn] at hg hn2 ⊢
  have HN := Lib.hid hn
  have HG := Lib.hid hg
  have HD := Lib.hid hD
  clear hg hn hD
  go_enter Tryd.func3, Tryd.ntmps3
  go_wp2
  go_loopw [3] (fun i wr => ∃ k : Nat, k ≤ n ∧ i = .int .i64 k ∧ Below W.heap.size W wr) (fun i _ => n - (intOf i).toNat)
  case atStart => exact ⟨0, Nat.zero_le _, rfl, Below.refl _ _⟩
  case round =>
    obtain ⟨k, hk, rfl, hbl⟩ := hrel
    have HB := Lib.hid hbl
    clear hbl
    by_cases hlt : k < n
    · obtain ⟨r, hr⟩ : ∃ r, l[k]? = some r := ⟨l[k]'(by rw [HN.out]; exact hlt), List.getElem?_eq_getElem _⟩
      obtain ⟨b, off, rfl, g1, l1, _⟩ := HG.out.rowAt hr
      obtain ⟨gs, gb, gc, gi, gp, gn, gd⟩ := r
      have hbw : b < wr.heap.size := Nat.lt_of_lt_of_le l1 HB.out.size
      have HGR := Lib.hid (g1.below l1 HB.out)
      have HK := Lib.hid hr
      clear g1 hr
      have i1 : (k : Int) < (n : Int) := by omega
      go_wp2
      have p0 : ∀ z : BW wr, z.val.cell? ⟨b, off + k * 7, none⟩ = some (.int .i64 gs) := fun z => ((HGR.out.below hbw z.ok) k _ HK.out).1
      have p1 : ∀ z : BW wr, z.val.cell? ⟨b, off + k * 7 + 1, none⟩ = some (.int .i64 gb) := fun z => ((HGR.out.below hbw z.ok) k _ HK.out).2.1
      have p2 : ∀ z : BW wr, z.val.cell? ⟨b, off + k * 7 + 2, none⟩ = some (.int .i64 gc) := fun z => ((HGR.out.below hbw z.ok) k _ HK.out).2.2.1
      have p3 : ∀ z : BW wr, z.val.cell? ⟨b, off + k * 7 + 3, none⟩ = some (.int .i64 gi) := fun z => ((HGR.out.below hbw z.ok) k _ HK.out).2.2.2.1
      have p4 : ∀ z : BW wr, z.val.cell? ⟨b, off + k * 7 + 4, none⟩ = some (.int .i64 gp) := fun z => ((HGR.out.below hbw z.ok) k _ HK.out).2.2.2.2.1
      have p5 : ∀ z : BW wr, z.val.cell? ⟨b, off + k * 7 + 5, none⟩ = some (.int .i64 gn) := fun z => ((HGR.out.below hbw z.ok) k _ HK.out).2.2.2.2.2.1
      have p6 : ∀ z : BW wr, z.val.cell? ⟨b, off + k * 7 + 6, none⟩ = some (.int .i64 gd) := fun z => ((HGR.out.below hbw z.ok) k _ HK.out).2.2.2.2.2.2
      have hra := fun W => red_Amount gs gb gc gi gp gn gd W
      have hga := fun W => ref_GrossAmount gs gb gc gi gp gn gd W
      obtain ⟨gv, hgv⟩ : ∃ q, grossV ⟨gs, gb, gc, gi, gp, gn, gd⟩ = q := ⟨_, rfl⟩
      rw [hgv] at hra hga
      have HRA := Lib.hid hra
      have HGA := Lib.hid hga
      clear hra hga hgv
      have c0 : (gv != gv) = false := by simp
      refine wp_region_below (by kernel_rfl) (by kernel_rfl) ?_
      repeat (go_big_quiet_step ((first | (go_at_call 18; exact bq_below (HRA.out _)) | (go_at_call 19; exact bq_below (HGA.out _)))))
      refine wpQuiet_nil ?_
      intro w2 hw'
      obtain ⟨⟨_, hb2⟩, rfl⟩ := hw'
      have HB2 := Lib.hid (below_then HB.out hb2)
      clear hb2 p0 p1 p2 p3 p4 p5 p6
      have hb2 := HB2.out
      go_wp2
      go_roundw
      case rel => exact ⟨k + 1, by omega, by go_num, (by repeat (first | (with_reducible exact Below.refl _ _) | (with_reducible assumption) | (with_reducible refine below_drewN ?_ _) | (with_reducible refine Below.drew ?_) | (with_reducible refine Below.alloc ?_ ?_ _) | (with_reducible refine Below.setCell ?_ ?_ _) | exact Below.refl _ _ | assumption | (solve | omega | simp | (simp; omega))))⟩
      case measure => simp [intOf]; omega
    · obtain rfl : n = k := by omega
      go_wp2_with fail
      refine (red_awake _ (HD.out.below HB.out)).mono ?_
      rintro e w2 ⟨rfl, hb2⟩
      have HB2 := Lib.hid (below_then HB.out hb2)
      clear hb2
      have hv := red_Valid (HG.out.below HB2.out)
      have hv2 := fun (W2 : World) (h : Below W.heap.size W W2) => ref_ValidGross (HG.out.below h)
      obtain ⟨bv, hbv⟩ : ∃ q, valG l = q := ⟨_, rfl⟩
      rw [hbv] at hv hv2
      have HV := Lib.hid hv
      have HV2 := Lib.hid hv2
      clear hv hv2 hbv
      go_wp2_with fail
      refine (HV.out).mono ?_
      rintro e w3 ⟨rfl, hb3⟩
      have HB3 := Lib.hid (below_then HB2.out hb3)
      clear hb3
      go_wp2_with fail
      refine (HV2.out _ HB3.out).mono ?_
      rintro e w4 ⟨rfl, hb4⟩
      have HB4 := Lib.hid (below_then HB3.out hb4)
      clear hb4
      have hb4 := HB4.out
      have ce : (bv == bv) = true := by simp
      go_wp2
      go_ret
      exact ⟨by first | rfl | (simp; done) | (rw [ce]), (by repeat (first | (with_reducible exact Below.refl _ _) | (with_reducible assumption) | (with_reducible refine below_drewN ?_ _) | (with_reducible refine Below.drew ?_) | (with_reducible refine Below.alloc ?_ ?_ _) | (with_reducible refine Below.setCell ?_ ?_ _) | exact Below.refl _ _ | assumption | (solve | omega | simp | (simp; omega))))⟩
end Go.Proofs.YthpknbflmcoanaaDoor
