/-
  The contract of chapter 21's List: a valid list of at most nine elements comes out.
-/
import Derived.Test.YthpknbflmcoanaaDoorOwnG
import Derived.Test.YthpknbflmcoanaaDoorMake
import Derived.Maps.AppendAt
import Derived.Deep.RegionHeld3
namespace Go.Proofs.YthpknbflmcoanaaDoor
open Go.RowKit Mny

/-- a valid list of at most nine elements came out, in a row of the call's own -/
def ListOut (w : World) (e : Ending) (w' : World) : Prop := ∃ v xs, e = .returned v ∧ xs.length ≤ 9 ∧ GoodTo xs xs.length ∧ w'.ownsRow w.heap.size 27 7 v xs.length (grCells xs) ∧ Below w.heap.size w w'

set_option maxRecDepth 100000 in
set_option maxHeartbeats 16000000 in
theorem law_List (v : Value) (w : World) (hr : RawTb w v) : Calls Tryd.prog 23 #[v] w (ListOut w) := by
  obtain ⟨A0, n, c0, rfl, hn⟩ := hr.cut
  have hn2 : n ≤ 9223372036854775807 := hn
  have HR := Lib.hid hr
  clear hr hn
  obtain ⟨j0, hj, hy0, hy1, hy2⟩ := info_parts info_gross
  go_enter Tryd.func23, Tryd.ntmps23
  go_wp2
  go_loopw [3, 4] (fun s i wr => ∃ (k : Nat) (xs : List Gr) (A : Option Addr) (c9 : Nat), k ≤ n ∧ i = .int .i64 k ∧ s = .slice A xs.length c9 ∧ xs.length ≤ 9 ∧ GoodTo xs xs.length ∧ wr.ownsRow w.heap.size 27 7 (.slice A xs.length c9) xs.length (grCells xs) ∧ Below w.heap.size w wr) (fun _ i _ => n - (intOf i).toNat)
  case atStart => exact ⟨0, [], none, 0, Nat.zero_le _, rfl, rfl, Nat.zero_le _, GoodTo.zero _, ⟨rfl, .inl ⟨rfl, rfl⟩⟩, Below.refl _ _⟩
  case round =>
    obtain ⟨k, xs, A, c9, hk, rfl, rfl, hx9, hgt, hown, hbl⟩ := hrel
    have HGT := Lib.hid hgt
    have HO := Lib.hid hown
    have HB := Lib.hid hbl
    clear hgt hown hbl
    have hsz := HB.out.size
    by_cases hlt : k < n
    · have c0 : decide ((k : Int) < (n : Int)) = true := decide_eq_true (by omega)
      by_cases h9 : xs.length < 9
      · have c1 : decide ((xs.length : Int) < 9) = true := decide_eq_true (by omega)
        obtain ⟨b, off, l, r, rfl, hat, hlr, hbw⟩ := HR.out.rowAt hlt
        obtain ⟨r0, r1, r2, r3, r4, r5, r6⟩ := r
        obtain ⟨k0, k1, k2, k3, k4, k5, k6⟩ := hat.below hbw HB.out k _ hlr
        simp only at k0 k1 k2 k3 k4 k5 k6
        clear hat hlr
        have hbr : b < wr.heap.size := by omega
        have hm0 := fun W => plain_Mod r0 6 W (by decide) (by decide)
        obtain ⟨gs, hgs⟩ : ∃ q, r0 % 6 = q := ⟨_, rfl⟩
        have gs0 : 0 ≤ gs := by rw [← hgs]; exact Int.emod_nonneg _ (by decide)
        have gs1 : gs < 6 := by rw [← hgs]; exact Int.emod_lt_of_pos _ (by decide)
        rw [hgs] at hm0
        have HM0 := Lib.hid hm0
        clear hm0 hgs
        have hm1 := fun W => plain_Mod r1 3 W (by decide) (by decide)
        obtain ⟨gb, hgb⟩ : ∃ q, r1 % 3 = q := ⟨_, rfl⟩
        have gb0 : 0 ≤ gb := by rw [← hgb]; exact Int.emod_nonneg _ (by decide)
        have gb1 : gb < 3 := by rw [← hgb]; exact Int.emod_lt_of_pos _ (by decide)
        rw [hgb] at hm1
        have HM1 := Lib.hid hm1
        clear hm1 hgb
        have hm2 := fun W => plain_Mod r2 3 W (by decide) (by decide)
        obtain ⟨gc, hgc⟩ : ∃ q, r2 % 3 = q := ⟨_, rfl⟩
        have gc0 : 0 ≤ gc := by rw [← hgc]; exact Int.emod_nonneg _ (by decide)
        have gc1 : gc < 3 := by rw [← hgc]; exact Int.emod_lt_of_pos _ (by decide)
        rw [hgc] at hm2
        have HM2 := Lib.hid hm2
        clear hm2 hgc
        obtain ⟨wo, eo⟩ : ∃ q, q = wr := ⟨_, rfl⟩
        subst eo
        go_upto_region 5 with (fail)
        go_cut [5] (fun p wx => p = .pointer (some ⟨wo.heap.size, 0, none⟩) ∧ Bx wx wo.heap.size 27 #[.int .i64 gs, .int .i64 (1 + gb), .int .i64 (1 + gc), .int .i64 0, .int .i64 0, .int .i64 0, .int .i64 0] ∧ Below wo.heap.size wo wx)
        case first =>
          have V1 : IntKind.i64.wrap (1 + gb) = 1 + gb := IntWalk.i64_in _ (by omega)
          have V2 : IntKind.i64.wrap (1 + gc) = 1 + gc := IntWalk.i64_in _ (by omega)
          have S0 : Below wo.heap.size wo wo.drew := (Below.refl _ _).drew
          have N1 : ¬ b = wo.heap.size := by omega
          have N2 : ¬ wo.heap.size = b := by omega
          go_region_held3 (fun w' => Below wo.heap.size wo w' ∧ w'.cell? ⟨b, off + k * 7, none⟩ = some (.int .i64 r0) ∧ w'.cell? ⟨b, off + k * 7 + 1, none⟩ = some (.int .i64 r1) ∧ w'.cell? ⟨b, off + k * 7 + 2, none⟩ = some (.int .i64 r2)) (first | exact ⟨by assumption, by assumption, by assumption, by assumption⟩ | (refine ⟨(by repeat (first | (with_reducible exact Below.refl _ _) | (with_reducible assumption) | (with_reducible refine below_drewN ?_ _) | (with_reducible refine Below.drew ?_) | (with_reducible refine Below.alloc ?_ ?_ _) | (with_reducible refine Below.setCell ?_ ?_ _) | exact Below.refl _ _ | assumption | (solve | omega | simp | (simp; omega)))), ?_⟩; go_keep) | go_keep)
            (first
              | (go_at_call_of 24 (Value.int IntKind.i64 r0); refine (HM0.out _).mono ?_; rintro e w' ⟨rfl, rfl⟩)
              | (go_at_call_of 24 (Value.int IntKind.i64 r1); refine (HM1.out _).mono ?_; rintro e w' ⟨rfl, rfl⟩)
              | (go_at_call_of 24 (Value.int IntKind.i64 r2); refine (HM2.out _).mono ?_; rintro e w' ⟨rfl, rfl⟩))
          all_goals
            go_wp2_with fail
            go_meet
            exact ⟨rfl, (by (try rw [V1, V2]); first | exact Bx.made _ _ _ rfl | exact Bx.drew (Bx.made _ _ _ rfl) | exact Bx.drewN (Bx.made _ _ _ rfl) _ | trace_state), (by repeat (first | (with_reducible exact Below.refl _ _) | (with_reducible assumption) | (with_reducible refine below_drewN ?_ _) | (with_reducible refine Below.drew ?_) | (with_reducible refine Below.alloc ?_ ?_ _) | (with_reducible refine Below.setCell ?_ ?_ _) | exact Below.refl _ _ | assumption | (solve | omega | simp | (simp; omega))))⟩
        case rest =>
          obtain ⟨rfl, hbx, hbw5⟩ := hcut
          have HX5 := Lib.hid hbx
          have HB5 := Lib.hid (HB.out.trans (hbw5.mono hsz))
          have HW5 := Lib.hid hbw5
          clear hbx hbw5 k0 k1 k2
          have hs5 := HW5.out.size
          have hl5 := HX5.out.lt
          have k3 := (HW5.out.cell (p := ⟨b, off + k * 7 + 3, none⟩) hbr).trans k3
          have k4 := (HW5.out.cell (p := ⟨b, off + k * 7 + 4, none⟩) hbr).trans k4
          have k5 := (HW5.out.cell (p := ⟨b, off + k * 7 + 5, none⟩) hbr).trans k5
          have k6 := (HW5.out.cell (p := ⟨b, off + k * 7 + 6, none⟩) hbr).trans k6
          obtain ⟨wp, ep⟩ : ∃ q, q = wc := ⟨_, rfl⟩
          subst ep
          go_upto_region 6 with (fail)
          go_cut [] (fun wx => ∃ gi gp gn gd : Int, Bx wx wo.heap.size 27 #[.int .i64 gs, .int .i64 (1 + gb), .int .i64 (1 + gc), .int .i64 gi, .int .i64 gp, .int .i64 gn, .int .i64 gd] ∧ (0 ≤ gi ∧ gi ≤ 1000000000000) ∧ (0 ≤ gp ∧ gp ≤ 1000000000000) ∧ validF gn gd = true ∧ 0 ≤ gn ∧ gn ≤ gd ∧ Below wo.heap.size wo wx)
          case first =>
            have S0 : Below wo.heap.size wo wp := HW5.out
            have S1 : Below wo.heap.size wo wp.drew := HW5.out.drew
            have N1 : ¬ b = wo.heap.size := by omega
            have N2 : ¬ wo.heap.size = b := by omega
            have hbp : b < wp.heap.size := by omega
            go_region_held3 (fun w' => Below wo.heap.size wo w' ∧ w'.cell? ⟨b, off + k * 7 + 3, none⟩ = some (.int .i64 r3) ∧ w'.cell? ⟨b, off + k * 7 + 4, none⟩ = some (.int .i64 r4) ∧ w'.cell? ⟨b, off + k * 7 + 5, none⟩ = some (.int .i64 r5) ∧ w'.cell? ⟨b, off + k * 7 + 6, none⟩ = some (.int .i64 r6)) (first | exact ⟨by assumption, by assumption, by assumption, by assumption, by assumption⟩ | (refine ⟨(by repeat (first | (with_reducible exact Below.refl _ _) | (with_reducible assumption) | (with_reducible refine below_drewN ?_ _) | (with_reducible refine Below.drew ?_) | (with_reducible refine Below.alloc ?_ ?_ _) | (with_reducible refine Below.setCell ?_ ?_ _) | exact Below.refl _ _ | assumption | (solve | omega | simp | (simp; omega)))), ?_⟩; go_keep) | go_keep)
              (first
                | (go_at_call 38; refine (plain_Amount _ _).mono ?_; rintro e w' ⟨x, rfl, hx, rfl⟩)
                | (go_at_call 41; refine (plain_Cut _ _ _).mono ?_; rintro e w1 ⟨cn, cd, rfl, hc1, hc2, hc3, hb1⟩; have T0 := below_then (w := wp) (by first | assumption | exact (by repeat (first | (with_reducible exact Below.refl _ _) | (with_reducible assumption) | (with_reducible refine below_drewN ?_ _) | (with_reducible refine Below.drew ?_) | (with_reducible refine Below.alloc ?_ ?_ _) | (with_reducible refine Below.setCell ?_ ?_ _) | exact Below.refl _ _ | assumption | (solve | omega | simp | (simp; omega))))) hb1; have T7 := below_then S0 T0; have T6 := T0.size; have T1 := (T0.cell (p := ⟨b, off + k * 7 + 3, none⟩) hbp).trans k3; have T2 := (T0.cell (p := ⟨b, off + k * 7 + 4, none⟩) hbp).trans k4; have T3 := (T0.cell (p := ⟨b, off + k * 7 + 5, none⟩) hbp).trans k5; have T4 := (T0.cell (p := ⟨b, off + k * 7 + 6, none⟩) hbp).trans k6; have BX1 := HX5.out.below T0; have q3 : w1.cell? ⟨wo.heap.size, 3, none⟩ = some (.int .i64 0) := BX1.cell 3; have z3 : w1.frozen? ⟨wo.heap.size, 3, none⟩ = false := BX1.free 3; have q4 : w1.cell? ⟨wo.heap.size, 4, none⟩ = some (.int .i64 0) := BX1.cell 4; have z4 : w1.frozen? ⟨wo.heap.size, 4, none⟩ = false := BX1.free 4; have q5 : w1.cell? ⟨wo.heap.size, 5, none⟩ = some (.int .i64 0) := BX1.cell 5; have z5 : w1.frozen? ⟨wo.heap.size, 5, none⟩ = false := BX1.free 5; have q6 : w1.cell? ⟨wo.heap.size, 6, none⟩ = some (.int .i64 0) := BX1.cell 6; have z6 : w1.frozen? ⟨wo.heap.size, 6, none⟩ = false := BX1.free 6; have T9 := BX1.lt))
            all_goals
              go_wp2_with fail
              go_meet
              refine ⟨_, _, _, _, (by (with_reducible refine BxP.out ?_); repeat (first | (with_reducible refine BxP.put ?_) | ((with_reducible refine BxP.far ?_ ?_); (focus first | omega | (simp; done) | (simp; omega))) | ((with_reducible refine BxP.made ?_ ?_); (focus first | (with_reducible rfl) | (simp; done)); rfl) | (with_reducible refine BxP.alloc ?_) | (with_reducible refine BxP.drew ?_) | (with_reducible refine BxP.drewN ?_) | exact BxP.of BX1 rfl)), by assumption, by assumption, by assumption, by assumption, by assumption, (by repeat (first | (with_reducible exact Below.refl _ _) | (with_reducible assumption) | (with_reducible refine below_drewN ?_ _) | (with_reducible refine Below.drew ?_) | (with_reducible refine Below.alloc ?_ ?_ _) | (with_reducible refine Below.setCell ?_ ?_ _) | exact Below.refl _ _ | assumption | (solve | omega | simp | (simp; omega))))⟩
          case rest =>
            obtain ⟨gi, gp, gn, gd, hbx, hgi, hgp, hgf, hgn, hgd, hbw6⟩ := hcut
            have HX6 := Lib.hid hbx
            have HB6 := Lib.hid (HB.out.trans (hbw6.mono hsz))
            have HW6 := Lib.hid hbw6
            have HOK : Hid (okG ⟨gs, 1 + gb, 1 + gc, gi, gp, gn, gd⟩ = true) := Lib.hid (okG_iff.2 ⟨⟨gs0, by omega⟩, ⟨by omega, by omega⟩, ⟨by omega, by omega⟩, hgi, hgp, hgf, hgn, hgd⟩)
            have HO6 := Lib.hid (own_below HO.out HW6.out)
            have HT6 := Lib.hid (GTb.own HO6.out rfl (by omega))
            clear hbx hgi hgp hgf hgn hgd hbw6 k3 k4 k5 k6
            have hs6 := HB6.out.size
            have hl6 := HX6.out.lt
            obtain ⟨w7, e7⟩ : ∃ q, q = wc := ⟨_, rfl⟩
            subst e7
            go_wp2
            go_loopw [6, 7] (fun t j wr => ∃ (q : Nat) (tw : Bool), q ≤ xs.length ∧ j = .int .i64 q ∧ t = .bool tw ∧ (tw = false → NoTwin xs ⟨gs, 1 + gb, 1 + gc, gi, gp, gn, gd⟩ q) ∧ Below w7.heap.size w7 wr) (fun _ j _ => xs.length - (intOf j).toNat)
            case atStart => exact ⟨0, false, Nat.zero_le _, rfl, rfl, fun _ => NoTwin.zero _ _, Below.refl _ _⟩
            case round =>
              obtain ⟨q, tw, hq, rfl, rfl, hnt, hbl⟩ := hrel
              have HNT := Lib.hid hnt
              have HBi := Lib.hid hbl
              clear hnt hbl
              have hsi := HBi.out.size
              by_cases hqx : q < xs.length
              · obtain ⟨h, hh⟩ : ∃ h, xs[q]? = some h := ⟨_, List.getElem?_eq_getElem hqx⟩
                obtain ⟨b3, o3, rfl, hat3, hb3, hcc⟩ := HT6.out.rowAt hh
                have HH := Lib.hid hh
                obtain ⟨fs, fb, fc, fi, fp, fn, fd⟩ := h
                obtain ⟨u0, u1, _⟩ := hat3.below hb3 HBi.out q _ hh
                simp only at u0 u1
                clear hat3 hh
                have HXi := HX6.out.below HBi.out
                have x0 : wr.cell? ⟨wo.heap.size, 0, none⟩ = some (.int .i64 gs) := HXi.cell 0
                have x1 : wr.cell? ⟨wo.heap.size, 1, none⟩ = some (.int .i64 (1 + gb)) := HXi.cell 1
                clear HXi
                have d0 : decide ((q : Int) < (xs.length : Int)) = true := decide_eq_true (by omega)
                have i1 : (q : Int) < (xs.length : Int) := by omega
                have hbi := HBi.out
                cases tw
                · by_cases e1 : fs = gs
                  · have c3 : (fs == gs) = true := beq_iff_eq.2 e1
                    by_cases e2 : fb = 1 + gb
                    · have c4 : (fb == 1 + gb) = true := beq_iff_eq.2 e2
                      clear e1 e2
                      go_wp2
                      go_quiet (fail)
                      go_wp2
                      go_roundw
                      case rel => exact ⟨q + 1, true, by omega, by go_num, rfl, (fun h => by cases h), (by repeat (first | (with_reducible exact Below.refl _ _) | (with_reducible assumption) | (with_reducible refine below_drewN ?_ _) | (with_reducible refine Below.drew ?_) | (with_reducible refine Below.alloc ?_ ?_ _) | (with_reducible refine Below.setCell ?_ ?_ _) | exact Below.refl _ _ | assumption | (solve | omega | simp | (simp; omega))))⟩
                      case measure => simp [intOf]; omega
                    · have c4 : (fb == 1 + gb) = false := beq_eq_false_iff_ne.2 e2
                      have HN2 := Lib.hid ((HNT.out rfl).next HH.out (by unfold twinB; simp [e2]))
                      clear e1 e2
                      go_wp2
                      go_quiet (fail)
                      go_wp2
                      go_roundw
                      case rel => exact ⟨q + 1, false, by omega, by go_num, rfl, (fun _ => HN2.out), (by repeat (first | (with_reducible exact Below.refl _ _) | (with_reducible assumption) | (with_reducible refine below_drewN ?_ _) | (with_reducible refine Below.drew ?_) | (with_reducible refine Below.alloc ?_ ?_ _) | (with_reducible refine Below.setCell ?_ ?_ _) | exact Below.refl _ _ | assumption | (solve | omega | simp | (simp; omega))))⟩
                      case measure => simp [intOf]; omega
                  · have c3 : (fs == gs) = false := beq_eq_false_iff_ne.2 e1
                    have HN2 := Lib.hid ((HNT.out rfl).next HH.out (by unfold twinB; simp [e1]))
                    clear e1
                    go_wp2
                    go_quiet (fail)
                    go_wp2
                    go_roundw
                    case rel => exact ⟨q + 1, false, by omega, by go_num, rfl, (fun _ => HN2.out), (by repeat (first | (with_reducible exact Below.refl _ _) | (with_reducible assumption) | (with_reducible refine below_drewN ?_ _) | (with_reducible refine Below.drew ?_) | (with_reducible refine Below.alloc ?_ ?_ _) | (with_reducible refine Below.setCell ?_ ?_ _) | exact Below.refl _ _ | assumption | (solve | omega | simp | (simp; omega))))⟩
                    case measure => simp [intOf]; omega
                · go_wp2
                  go_quiet (fail)
                  go_wp2
                  go_roundw
                  case rel => exact ⟨q + 1, true, by omega, by go_num, rfl, (fun h => by cases h), (by repeat (first | (with_reducible exact Below.refl _ _) | (with_reducible assumption) | (with_reducible refine below_drewN ?_ _) | (with_reducible refine Below.drew ?_) | (with_reducible refine Below.alloc ?_ ?_ _) | (with_reducible refine Below.setCell ?_ ?_ _) | exact Below.refl _ _ | assumption | (solve | omega | simp | (simp; omega))))⟩
                  case measure => simp [intOf]; omega
              · have hqe : q = xs.length := by omega
                subst hqe
                have d0 : decide ((xs.length : Int) < (xs.length : Int)) = false := decide_eq_false (by omega)
                have HBj := Lib.hid (HB6.out.trans (HBi.out.mono hs6))
                have HOj := Lib.hid (own_below HO6.out HBi.out)
                cases tw
                · have HN2 := Lib.hid (HGT.out.snoc HOK.out (HNT.out rfl))
                  have HXi := HX6.out.below HBi.out
                  have x0 : wr.cell? ⟨wo.heap.size, 0, none⟩ = some (.int .i64 gs) := HXi.cell 0
                  have x1 : wr.cell? ⟨wo.heap.size, 1, none⟩ = some (.int .i64 (1 + gb)) := HXi.cell 1
                  have x2 : wr.cell? ⟨wo.heap.size, 2, none⟩ = some (.int .i64 (1 + gc)) := HXi.cell 2
                  have x3 : wr.cell? ⟨wo.heap.size, 3, none⟩ = some (.int .i64 gi) := HXi.cell 3
                  have x4 : wr.cell? ⟨wo.heap.size, 4, none⟩ = some (.int .i64 gp) := HXi.cell 4
                  have x5 : wr.cell? ⟨wo.heap.size, 5, none⟩ = some (.int .i64 gn) := HXi.cell 5
                  have x6 : wr.cell? ⟨wo.heap.size, 6, none⟩ = some (.int .i64 gd) := HXi.cell 6
                  clear HXi
                  go_wp2_with (at_builtin; go_loud (refine wpList_append_own_at _ rfl _ _ 22 rfl w.heap.size 27 j0 (.agg #[.int .i64 0, .int .i64 0, .int .i64 0, .int .i64 0, .int .i64 0, .int .i64 0, .int .i64 0]) 7 56 Tryd.underlying22 hj hy0 hy1 hy2 rfl (by decide) _ _ _ rfl (HOj.out.alloc _) ⟨wr.heap.size, 0, none⟩ 1 1 [.int .i64 gs, .int .i64 (1 + gb), .int .i64 (1 + gc), .int .i64 gi, .int .i64 gp, .int .i64 gn, .int .i64 gd] rfl rfl ?c1 ?c2 ?c3 ?c4 ?c5 ?_))
                  case c2 => exact ⟨rfl, rfl, rfl, rfl, rfl, rfl, rfl⟩
                  case c3 => unfold maxLen; omega
                  case c4 => omega
                  case c5 => first | omega | (simp; done) | (simp; omega)
                  intro v' w9 hown' hgrow _ hat
                  obtain ⟨A9, c9', rfl⟩ := own_slice hown'
                  have HO9 : Hid (w9.ownsRow w.heap.size 27 7 (.slice A9 (xs.length + 1) c9') (xs.length + 1) (grCells (xs ++ [⟨gs, 1 + gb, 1 + gc, gi, gp, gn, gd⟩]))) := Lib.hid (by rw [grCells_snoc]; exact hown')
                  have HB9 : Hid (Below w.heap.size w w9) := Lib.hid ((HBj.out.alloc HBj.out.size _).grown hgrow (by simp; omega) (fun g hg => by
                    rcases HOj.out.2 with ⟨h1, _⟩ | ⟨g', cap, cur, h1, hg', _⟩
                    · rw [h1] at hg; simp [Value.ownBlock] at hg
                    · rw [h1] at hg; simp [Value.ownBlock] at hg; omega))
                  clear hown' hgrow hat
                  go_wp2
                  go_roundw
                  case rel => exact ⟨k + 1, xs ++ [⟨gs, 1 + gb, 1 + gc, gi, gp, gn, gd⟩], A9, c9', by omega, by go_num, by simp, by simp; omega, HN2.out, (by rw [List.length_append]; exact HO9.out), HB9.out⟩
                  case measure => simp [intOf]; omega
                · have hbj := HBj.out
                  go_wp2
                  go_roundw
                  case rel => exact ⟨k + 1, xs, A, c9, by omega, by go_num, rfl, hx9, HGT.out, HOj.out, (by repeat (first | (with_reducible exact Below.refl _ _) | (with_reducible assumption) | (with_reducible refine below_drewN ?_ _) | (with_reducible refine Below.drew ?_) | (with_reducible refine Below.alloc ?_ ?_ _) | (with_reducible refine Below.setCell ?_ ?_ _) | exact Below.refl _ _ | assumption | (solve | omega | simp | (simp; omega))))⟩
                  case measure => simp [intOf]; omega
      · have c1 : decide ((xs.length : Int) < 9) = false := decide_eq_false (by omega)
        have hb := HB.out
        go_wp2
        go_ret
        exact ⟨_, _, rfl, hx9, HGT.out, HO.out, (by repeat (first | (with_reducible exact Below.refl _ _) | (with_reducible assumption) | (with_reducible refine below_drewN ?_ _) | (with_reducible refine Below.drew ?_) | (with_reducible refine Below.alloc ?_ ?_ _) | (with_reducible refine Below.setCell ?_ ?_ _) | exact Below.refl _ _ | assumption | (solve | omega | simp | (simp; omega))))⟩
    · have c0 : decide ((k : Int) < (n : Int)) = false := decide_eq_false (by omega)
      have hb := HB.out
      go_wp2
      go_ret
      exact ⟨_, _, rfl, hx9, HGT.out, HO.out, (by repeat (first | (with_reducible exact Below.refl _ _) | (with_reducible assumption) | (with_reducible refine below_drewN ?_ _) | (with_reducible refine Below.drew ?_) | (with_reducible refine Below.alloc ?_ ?_ _) | (with_reducible refine Below.setCell ?_ ?_ _) | exact Below.refl _ _ | assumption | (solve | omega | simp | (simp; omega))))⟩
end Go.Proofs.YthpknbflmcoanaaDoor
