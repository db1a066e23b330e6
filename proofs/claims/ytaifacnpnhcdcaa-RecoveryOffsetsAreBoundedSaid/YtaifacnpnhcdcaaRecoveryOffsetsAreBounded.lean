/-
  RecoveryOffsetsAreBounded: the walk.
-/
import Derived.Test.YtaifacnpnhcdcaaRoffs
import Derived.Test.YtaifacnpnhcdcaaAwakeV
import Derived.Test.YtaifacnpnhcdcaaSameV
import Derived.Test.YtaifacnpnhcdcaaRecM
import Derived.Test.YtaifacnpnhcdcaaRlist
import Derived.Test.YtaifacnpnhcdcaaRatesV
namespace Go.Proofs.Ytaifacnpnhcdcaa
open Go.RowKit Mny

set_option maxRecDepth 100000 in
set_option maxHeartbeats 16000000 in
theorem walk_RecoveryOffsetsAreBounded (b0 b1 b2 m0 : Int) (v rv : Value) (w : World) (hR : R3Tb w v) (hI : IntsIn w rv) : Calls Try.prog 8 #[.agg #[.int .i64 b0, .int .i64 b1, .int .i64 b2], v, rv, .int .i64 m0] w fun e w' => e = .returned (.bool true) ∧ Below w.heap.size w w' := by
  have HR := Lib.hid hR
  have HI := Lib.hid hI
  clear hR hI
  have hm0 := fun W => plain_Mod b0 6 W (by decide) (by decide)
  obtain ⟨gs, hgs⟩ : ∃ q, b0 % 6 = q := ⟨_, rfl⟩
  have gs0 : 0 ≤ gs := by rw [← hgs]; exact Int.emod_nonneg _ (by decide)
  have gs1 : gs < 6 := by rw [← hgs]; exact Int.emod_lt_of_pos _ (by decide)
  rw [hgs] at hm0
  have HM0 := Lib.hid hm0
  clear hm0 hgs
  have hm1 := fun W => plain_Mod b1 3 W (by decide) (by decide)
  obtain ⟨gc, hgc⟩ : ∃ q, b1 % 3 = q := ⟨_, rfl⟩
  have gc0 : 0 ≤ gc := by rw [← hgc]; exact Int.emod_nonneg _ (by decide)
  have gc1 : gc < 3 := by rw [← hgc]; exact Int.emod_lt_of_pos _ (by decide)
  rw [hgc] at hm1
  have HM1 := Lib.hid hm1
  clear hm1 hgc
  go_enter Try.func8, Try.ntmps8
  have hb1 : Below w.heap.size w (w.alloc (.cells #[.int .i64 b0, .int .i64 b1, .int .i64 b2] 29)) := (Below.refl _ _).alloc (Nat.le_refl _) _
  have bx1 := Bx.made w 29 #[.int .i64 b0, .int .i64 b1, .int .i64 b2] rfl
  go_upto_region 1 with (fail)
  obtain ⟨wo, hwo⟩ : ∃ W, w.alloc (.cells #[.int .i64 b0, .int .i64 b1, .int .i64 b2] 29) = W := ⟨_, rfl⟩
  rw [hwo] at hb1 bx1 ⊢
  have hsz : w.heap.size < wo.heap.size := bx1.lt
  have k0 : wo.cell? ⟨w.heap.size, 0, none⟩ = some (.int .i64 b0) := bx1.cell 0
  have k1 : wo.cell? ⟨w.heap.size, 1, none⟩ = some (.int .i64 b1) := bx1.cell 1
  have k2 : wo.cell? ⟨w.heap.size, 2, none⟩ = some (.int .i64 b2) := bx1.cell 2
  have HB1 := Lib.hid hb1
  clear hb1 bx1 hwo
  go_cut [9] (fun p wx => p = .pointer (some ⟨wo.heap.size, 0, none⟩) ∧ (∃ go : Int, Bx wx wo.heap.size 33 #[.int .i64 gs, .int .i64 (1 + gc), .int .i64 go, .int .i64 0] ∧ 0 ≤ go ∧ go ≤ 1000000000000) ∧ Below wo.heap.size wo wx)
  case first =>
    have V2 : IntKind.i64.wrap (1 + gc) = 1 + gc := IntWalk.i64_in _ (by omega)
    have S0 : Below wo.heap.size wo wo.drew := (Below.refl _ _).drew
    have N1 : ¬ w.heap.size = wo.heap.size := by omega
    have N2 : ¬ wo.heap.size = w.heap.size := by omega
    go_region_held3 (fun w' => Below wo.heap.size wo w' ∧ w'.cell? ⟨w.heap.size, 0, none⟩ = some (.int .i64 b0) ∧ w'.cell? ⟨w.heap.size, 1, none⟩ = some (.int .i64 b1) ∧ w'.cell? ⟨w.heap.size, 2, none⟩ = some (.int .i64 b2)) (first | exact ⟨by assumption, by assumption, by assumption, by assumption⟩ | (refine ⟨(by repeat (first | (with_reducible exact Below.refl _ _) | (with_reducible assumption) | (with_reducible refine below_drewN ?_ _) | (with_reducible refine Below.drew ?_) | (with_reducible refine Below.alloc ?_ ?_ _) | (with_reducible refine Below.setCell ?_ ?_ _) | exact Below.refl _ _ | assumption | (solve | omega | simp | (simp; omega)))), ?_⟩; go_keep) | go_keep)
      (first
        | (go_at_call_of 11 (Value.int IntKind.i64 b0); refine (HM0.out _).mono ?_; rintro e w' ⟨rfl, rfl⟩)
        | (go_at_call_of 11 (Value.int IntKind.i64 b1); refine (HM1.out _).mono ?_; rintro e w' ⟨rfl, rfl⟩)
        | (go_at_call 12; refine (plain_Amount _ _).mono ?_; rintro e w' ⟨x, rfl, hx, rfl⟩))
    all_goals
      go_wp2_with fail
      go_meet
      exact ⟨rfl, ⟨_, (by (try rw [V2]); first | exact Bx.made _ _ _ rfl | exact Bx.drew (Bx.made _ _ _ rfl) | exact Bx.drewN (Bx.made _ _ _ rfl) _ | trace_state), by omega, by omega⟩, (by repeat (first | (with_reducible exact Below.refl _ _) | (with_reducible assumption) | (with_reducible refine below_drewN ?_ _) | (with_reducible refine Below.drew ?_) | (with_reducible refine Below.alloc ?_ ?_ _) | (with_reducible refine Below.setCell ?_ ?_ _) | exact Below.refl _ _ | assumption | (solve | omega | simp | (simp; omega))))⟩
  case rest =>
    obtain ⟨rfl, ⟨go, hbx, go0, go1⟩, hbw2⟩ := hcut
    have HB2 := Lib.hid (below_then HB1.out hbw2)
    have HX2 := Lib.hid hbx
    have HPO : Hid (okS ⟨gs, 1 + gc, go, 0⟩ = true) := Lib.hid (okS_mk ⟨⟨gs0, by omega⟩, ⟨by omega, by omega⟩, ⟨go0, go1⟩, ⟨by decide, by decide⟩⟩)
    clear hbw2 hbx k0 k1 k2
    have hsl2 := HX2.out.lt
    obtain ⟨B, hB⟩ : ∃ B, wo.heap.size = B := ⟨_, rfl⟩
    rw [hB] at HX2 hsl2 ⊢
    clear hB
    go_wp2_with fail
    refine (law_List v _ (HR.out.below HB2.out)).mono ?_
    rintro e w3 ⟨v3, xs, rfl, hgt, hp3, hown, hb3⟩
    obtain ⟨A3, c3, rfl⟩ := own_slice hown
    have HB3 := Lib.hid (below_then HB2.out hb3)
    have HX3 := Lib.hid (HX2.out.below hb3)
    have HS3 := Lib.hid (StTab.own hown rfl)
    have HO3 := Lib.hid hown
    have HG := Lib.hid hgt
    have HP3 := Lib.hid hp3
    have hx6 : xs.length ≤ 6 := good_len hgt
    have hs23 := hb3.size
    clear hgt hp3 hown hb3
    go_wp2_with fail
    refine (plain_Rates2 rv _ (HI.out.below HB3.out)).mono ?_
    rintro e w4 ⟨v4, rt, rfl, hck, hl6, hown4, hb4⟩
    obtain ⟨A4, c4, rfl⟩ := own_slice hown4
    have HB4 := Lib.hid (below_then HB3.out hb4)
    have HX4 := Lib.hid (HX3.out.below hb4)
    have HS4 := Lib.hid (HS3.out.later hb4)
    have HT4 := Lib.hid (Tab.own hown4 rfl (by omega))
    have HCK := Lib.hid hck
    have HO4 := Lib.hid (own_below HO3.out hb4)
    have hs34 := hb4.size
    clear hck hown4 hb4
    go_wp2_with fail
    refine (plain_Mod _ 2400 _ (by decide) (by decide)).mono ?_
    rintro e _ ⟨rfl, rfl⟩
    obtain ⟨m, em⟩ : ∃ q, m0 % 2400 = q := ⟨_, rfl⟩
    have lm : 0 ≤ m := by rw [← em]; exact Int.emod_nonneg _ (by decide)
    have um : m < 2400 := by rw [← em]; exact Int.emod_lt_of_pos _ (by decide)
    rw [em]
    clear em
    obtain ⟨n, hn⟩ : ∃ n, xs.length = n := ⟨_, rfl⟩
    rw [hn] at HS4 HS3 HO3 HO4 hx6 ⊢
    have HN := Lib.hid hn
    clear hn
    clear HS3 HO3
    have HIM : Hid (inB 0 2399 m = true) := Lib.hid (inB_iff.2 ⟨lm, by omega⟩)
    have hR0 := offR_yes (xs := xs) (l := rt) (m := m) HPO.out HIM.out HCK.out HG.out
    have hInv := offA_inv (l := rt) (m := m) HPO.out (xs := srt xs) (fun x hx => HG.out.1 x ((mem_srt HG.out).1 hx)) (srt_asc HG.out)
    obtain ⟨ts, hts⟩ : ∃ ts, (offA ⟨gs, 1 + gc, go, 0⟩ rt m (srt xs)).2 = ts := ⟨_, rfl⟩
    have HEA : Hid (∀ i r, ts[i]? = some r → OkT ⟨gs, 1 + gc, go, 0⟩ (srt xs) ts i r) := Lib.hid (by have := hInv.each; rw [hts] at this; exact this)
    rw [hts] at hR0
    have HRR := Lib.hid hR0
    clear hR0 hInv hts
    obtain ⟨cP, qP⟩ := HX4.out.of
    have hof5 := rec_Offsets gs (1 + gc) go 0 xs n A3 c3 _ rt m _ HN.out (by omega) HS4.out HT4.out
    rw [HRR.out] at hof5
    have HOF5 := Lib.hid hof5
    clear hof5
    go_wp2_with fail
    refine (HOF5.out).mono ?_
    rintro e w5 ⟨v5, rfl, ht5, hb5⟩
    obtain ⟨A5, c5, rfl⟩ := ht5.cut
    have HB5 := Lib.hid (below_then HB4.out hb5)
    have HTT5 := Lib.hid ht5
    obtain ⟨nt, hnt⟩ : ∃ q, ts.length = q := ⟨_, rfl⟩
    simp only at hnt HTT5
    rw [hnt] at HTT5 ⊢
    have hn6 : nt ≤ 6 := by have := offR_len ⟨gs, 1 + gc, go, 0⟩ xs rt m; rw [HRR.out] at this; rw [← hnt]; exact this
    have HNT := Lib.hid hnt
    have HX5 := Lib.hid (HX4.out.below hb5)
    have HS5 := Lib.hid (HS4.out.later hb5)
    have hs45 := hb5.size
    clear ht5 hb5 cP qP hnt
    go_wp2_with fail
    refine (rec_awake _).mono ?_
    rintro e w6 ⟨rfl, hb6⟩
    have HB6 := Lib.hid (below_then HB5.out hb6)
    have HTT6 := Lib.hid (HTT5.out.below hb6)
    have HX6 := Lib.hid (HX5.out.below hb6)
    have HS6 := Lib.hid (HS5.out.later hb6)
    have hs56 := hb6.size
    clear hb6
    have x2 : w6.cell? ⟨B, 2, none⟩ = some (.int .i64 go) := HX6.out.cell 2
    go_wp2
    clear x2
    go_loopw [15, 16] (fun s15 i wr => ∃ (k : Nat) (lf : Int), k ≤ nt ∧ i = .int .i64 k ∧ s15 = .int .i64 lf ∧ Hid (lf = go - sumT (ts.take k)) ∧ 0 ≤ lf ∧ lf ≤ 1000000000000 ∧ Below w6.heap.size w6 wr) (fun _ i _ => nt - (intOf i).toNat)
    case atStart => exact ⟨0, go, Nat.zero_le _, rfl, rfl, Lib.hid (by simp [sumT]), go0, go1, Below.refl _ _⟩
    case round =>
      obtain ⟨k, lf, hk, rfl, rfl, HLF, lf0, lf1, hbl⟩ := hrel
      have HB := Lib.hid hbl
      have hsz := hbl.size
      clear hbl
      by_cases hlt : k < nt
      · have c0 : decide ((k : Int) < (nt : Int)) = true := decide_eq_true (by omega)
        have i1 : (k : Int) < (nt : Int) := by omega
        obtain ⟨r, hr⟩ : ∃ r, ts[k]? = some r := ⟨ts[k]'(by rw [HNT.out]; exact hlt), List.getElem?_eq_getElem _⟩
        obtain ⟨b, off, rfl, hat, hb⟩ := HTT6.out.rowAt hr
        have HAT := Lib.hid hat
        obtain ⟨t0, t1, t2, t3, t4⟩ := hat.below hb HB.out k r hr
        obtain ⟨o1, o2, ⟨o3, o4⟩, o5, ⟨x, hx, ox1, ox2, ox3⟩, o6⟩ := HEA.out k r hr
        have HR := Lib.hid hr
        have HSM : Hid (sumT (ts.take (k + 1)) = sumT (ts.take k) + r.s) := Lib.hid (sumT_take hr)
        have HOR : Hid (∀ j q, j < k → ts[j]? = some q → q.t < r.t) := Lib.hid o6
        obtain ⟨jx, hjx⟩ : ∃ j, xs[j]? = some x := by
          obtain ⟨j, hj, e⟩ := List.getElem_of_mem ((mem_srt HG.out).1 hx)
          exact ⟨j, by rw [List.getElem?_eq_getElem hj, e]⟩
        have hjn : jx < n := by rw [← HN.out]; exact (List.getElem?_eq_some_iff.1 hjx).1
        have HJX := Lib.hid hjx
        have ho4 : r.s ≤ lf := by rw [HLF.out]; exact o4
        clear hr hat hx o4 o6 hjx
        obtain ⟨rf, rt', rc, rs, rk⟩ := r
        simp only at t0 t1 t2 t3 t4 o1 o2 o3 o5 ox1 ox2 ox3 ho4 HSM HOR
        subst o1
        have x0 : wr.cell? ⟨B, 0, none⟩ = some (.int .i64 rf) := (HX6.out.below HB.out).cell 0
        have e0 : (rt' == rf) = false := beq_eq_false_iff_ne.2 o2
        have d1 : decide (rs < 1) = false := decide_eq_false (by omega)
        have d2 : decide (lf < rs) = false := decide_eq_false (by omega)
        have d3 : decide (rk < 1) = false := decide_eq_false (by omega)
        have v0 : IntKind.i64.wrap (lf - rs) = lf - rs := IntWalk.i64_in _ (by omega)
        have hB := HB.out
        by_cases hz : k = 0
        · have z1 : decide ((0 : Int) < (k : Int)) = false := decide_eq_false (by omega)
          have z2 : decide (0 < k) = false := decide_eq_false (by omega)
          clear hz
          go_wp2
          go_quiet (fail)
          go_wp2
          clear t0 t3 x0
          go_loopw [17, 18] (fun f i wr => ∃ (q : Nat) (bf : Bool), q ≤ n ∧ i = .int .i64 q ∧ f = .bool bf ∧ (jx < q → bf = true) ∧ Below w6.heap.size w6 wr) (fun _ i _ => n - (intOf i).toNat)
          case atStart => exact ⟨0, false, Nat.zero_le _, rfl, rfl, fun h => absurd h (by omega), by first | exact HB.out | exact (by repeat (first | (with_reducible exact Below.refl _ _) | (with_reducible assumption) | (with_reducible refine below_drewN ?_ _) | (with_reducible refine Below.drew ?_) | (with_reducible refine Below.alloc ?_ ?_ _) | (with_reducible refine Below.setCell ?_ ?_ _) | exact Below.refl _ _ | assumption | (solve | omega | simp | (simp; omega))))⟩
          case round =>
            obtain ⟨q, bf, hq, rfl, rfl, hbf, hbl⟩ := hrel
            have HBF := Lib.hid hbf
            have HBL := Lib.hid hbl
            have hsz2 := hbl.size
            clear hbf hbl
            by_cases hqn : q < n
            · have c1 : decide ((q : Int) < (n : Int)) = true := decide_eq_true (by omega)
              have i2 : (q : Int) < (n : Int) := by omega
              obtain ⟨y, hy⟩ : ∃ y, xs[q]? = some y := ⟨xs[q]'(by rw [HN.out]; exact hqn), List.getElem?_eq_getElem _⟩
              obtain ⟨b3, f3, rfl, hb3, hat3⟩ := HS6.out.rowAt hy
              obtain ⟨y0, y1, -, y3⟩ := hat3.below hb3 HBL.out q y hy
              obtain ⟨-, z1, z2, -, z4⟩ := HAT.out.below hb HBL.out k _ HR.out
              simp only at z1 z2 z4
              have HY := Lib.hid hy
              clear hat3 hy
              have hbl := HBL.out
              cases bf
              · obtain ⟨ys, yc, ya, yo⟩ := y
                simp only at y0 y1 y3
                by_cases a1 : ys = rt'
                · have g1 : (ys == rt') = true := beq_iff_eq.2 a1
                  by_cases a2 : yc = rc
                  · have g2 : (yc == rc) = true := beq_iff_eq.2 a2
                    by_cases a3 : rk ≤ yo
                    · have g3 : decide (rk ≤ yo) = true := decide_eq_true a3
                      go_wp2
                      go_quiet (fail)
                      go_wp2
                      go_roundw
                      case rel => exact ⟨q + 1, true, by omega, by go_num, rfl, (fun _ => rfl), (by repeat (first | (with_reducible exact Below.refl _ _) | (with_reducible assumption) | (with_reducible refine below_drewN ?_ _) | (with_reducible refine Below.drew ?_) | (with_reducible refine Below.alloc ?_ ?_ _) | (with_reducible refine Below.setCell ?_ ?_ _) | exact Below.refl _ _ | assumption | (solve | omega | simp | (simp; omega))))⟩
                      case measure => simp [intOf]; omega
                    · have HNE : Hid (jx ≠ q) := Lib.hid (fun e => by subst e; rw [HJX.out] at HY; have hy2 := HY.out; injection hy2 with hy2; subst hy2; exact a3 ox3)
                      have g3 : decide (rk ≤ yo) = false := decide_eq_false a3
                      go_wp2
                      go_quiet (fail)
                      go_wp2
                      go_roundw
                      case rel => exact ⟨q + 1, false, by omega, by go_num, rfl, (fun h => by rcases Nat.lt_or_eq_of_le (Nat.le_of_lt_succ h) with h | h; exact HBF.out h; exact absurd h HNE.out), (by repeat (first | (with_reducible exact Below.refl _ _) | (with_reducible assumption) | (with_reducible refine below_drewN ?_ _) | (with_reducible refine Below.drew ?_) | (with_reducible refine Below.alloc ?_ ?_ _) | (with_reducible refine Below.setCell ?_ ?_ _) | exact Below.refl _ _ | assumption | (solve | omega | simp | (simp; omega))))⟩
                      case measure => simp [intOf]; omega
                  · have HNE : Hid (jx ≠ q) := Lib.hid (fun e => by subst e; rw [HJX.out] at HY; have hy2 := HY.out; injection hy2 with hy2; subst hy2; exact a2 ox2)
                    have g2 : (yc == rc) = false := beq_eq_false_iff_ne.2 a2
                    go_wp2
                    go_quiet (fail)
                    go_wp2
                    go_roundw
                    case rel => exact ⟨q + 1, false, by omega, by go_num, rfl, (fun h => by rcases Nat.lt_or_eq_of_le (Nat.le_of_lt_succ h) with h | h; exact HBF.out h; exact absurd h HNE.out), (by repeat (first | (with_reducible exact Below.refl _ _) | (with_reducible assumption) | (with_reducible refine below_drewN ?_ _) | (with_reducible refine Below.drew ?_) | (with_reducible refine Below.alloc ?_ ?_ _) | (with_reducible refine Below.setCell ?_ ?_ _) | exact Below.refl _ _ | assumption | (solve | omega | simp | (simp; omega))))⟩
                    case measure => simp [intOf]; omega
                · have HNE : Hid (jx ≠ q) := Lib.hid (fun e => by subst e; rw [HJX.out] at HY; have hy2 := HY.out; injection hy2 with hy2; subst hy2; exact a1 ox1)
                  have g1 : (ys == rt') = false := beq_eq_false_iff_ne.2 a1
                  go_wp2
                  go_quiet (fail)
                  go_wp2
                  go_roundw
                  case rel => exact ⟨q + 1, false, by omega, by go_num, rfl, (fun h => by rcases Nat.lt_or_eq_of_le (Nat.le_of_lt_succ h) with h | h; exact HBF.out h; exact absurd h HNE.out), (by repeat (first | (with_reducible exact Below.refl _ _) | (with_reducible assumption) | (with_reducible refine below_drewN ?_ _) | (with_reducible refine Below.drew ?_) | (with_reducible refine Below.alloc ?_ ?_ _) | (with_reducible refine Below.setCell ?_ ?_ _) | exact Below.refl _ _ | assumption | (solve | omega | simp | (simp; omega))))⟩
                  case measure => simp [intOf]; omega
              · obtain ⟨ys, yc, ya, yo⟩ := y
                simp only at y0 y1 y3
                go_wp2
                go_quiet (fail)
                go_wp2
                go_roundw
                case rel => exact ⟨q + 1, true, by omega, by go_num, rfl, (fun _ => rfl), (by repeat (first | (with_reducible exact Below.refl _ _) | (with_reducible assumption) | (with_reducible refine below_drewN ?_ _) | (with_reducible refine Below.drew ?_) | (with_reducible refine Below.alloc ?_ ?_ _) | (with_reducible refine Below.setCell ?_ ?_ _) | exact Below.refl _ _ | assumption | (solve | omega | simp | (simp; omega))))⟩
                case measure => simp [intOf]; omega
            · obtain rfl : n = q := by omega
              have c1 : decide ((n : Int) < (n : Int)) = false := decide_eq_false (by omega)
              obtain rfl : bf = true := HBF.out hjn
              have hbl := HBL.out
              go_wp2
              go_roundw
              case rel => exact ⟨k + 1, lf - rs, by omega, by go_num, rfl, Lib.hid (by rw [HSM.out]; have := HLF.out; omega), by omega, by omega, (by repeat (first | (with_reducible exact Below.refl _ _) | (with_reducible assumption) | (with_reducible refine below_drewN ?_ _) | (with_reducible refine Below.drew ?_) | (with_reducible refine Below.alloc ?_ ?_ _) | (with_reducible refine Below.setCell ?_ ?_ _) | exact Below.refl _ _ | assumption | (solve | omega | simp | (simp; omega))))⟩
              case measure => simp [intOf]; omega
        · have z1 : decide ((0 : Int) < (k : Int)) = true := decide_eq_true (by omega)
          have z2 : decide (0 < k) = true := decide_eq_true (by omega)
          obtain ⟨s, hs⟩ : ∃ s, ts[k - 1]? = some s := ⟨ts[k - 1]'(by rw [HNT.out]; omega), List.getElem?_eq_getElem _⟩
          obtain ⟨-, j1, -, -, -⟩ := HAT.out.below hb HB.out (k - 1) s hs
          have hlt2 := HOR.out (k - 1) s (by omega) hs
          obtain ⟨sf, st, sc, ss, sk⟩ := s
          simp only at j1 hlt2
          clear hs
          have v1 : IntKind.i64.wrap ((k : Int) - 1) = (k : Int) - 1 := IntWalk.i64_in _ (by omega)
          have v2 : (0 : Int) ≤ (k : Int) - 1 := by omega
          have v3 : (k : Int) - 1 < (nt : Int) := by omega
          have v4 : ((k : Int) - 1).toNat = k - 1 := by omega
          have d4 : decide (rt' ≤ st) = false := decide_eq_false (by omega)
          go_wp2
          go_quiet (fail)
          clear j1
          go_wp2
          clear t0 t3 x0
          go_loopw [17, 18] (fun f i wr => ∃ (q : Nat) (bf : Bool), q ≤ n ∧ i = .int .i64 q ∧ f = .bool bf ∧ (jx < q → bf = true) ∧ Below w6.heap.size w6 wr) (fun _ i _ => n - (intOf i).toNat)
          case atStart => exact ⟨0, false, Nat.zero_le _, rfl, rfl, fun h => absurd h (by omega), by first | exact HB.out | exact (by repeat (first | (with_reducible exact Below.refl _ _) | (with_reducible assumption) | (with_reducible refine below_drewN ?_ _) | (with_reducible refine Below.drew ?_) | (with_reducible refine Below.alloc ?_ ?_ _) | (with_reducible refine Below.setCell ?_ ?_ _) | exact Below.refl _ _ | assumption | (solve | omega | simp | (simp; omega))))⟩
          case round =>
            obtain ⟨q, bf, hq, rfl, rfl, hbf, hbl⟩ := hrel
            have HBF := Lib.hid hbf
            have HBL := Lib.hid hbl
            have hsz2 := hbl.size
            clear hbf hbl
            by_cases hqn : q < n
            · have c1 : decide ((q : Int) < (n : Int)) = true := decide_eq_true (by omega)
              have i2 : (q : Int) < (n : Int) := by omega
              obtain ⟨y, hy⟩ : ∃ y, xs[q]? = some y := ⟨xs[q]'(by rw [HN.out]; exact hqn), List.getElem?_eq_getElem _⟩
              obtain ⟨b3, f3, rfl, hb3, hat3⟩ := HS6.out.rowAt hy
              obtain ⟨y0, y1, -, y3⟩ := hat3.below hb3 HBL.out q y hy
              obtain ⟨-, z1, z2, -, z4⟩ := HAT.out.below hb HBL.out k _ HR.out
              simp only at z1 z2 z4
              have HY := Lib.hid hy
              clear hat3 hy
              have hbl := HBL.out
              cases bf
              · obtain ⟨ys, yc, ya, yo⟩ := y
                simp only at y0 y1 y3
                by_cases a1 : ys = rt'
                · have g1 : (ys == rt') = true := beq_iff_eq.2 a1
                  by_cases a2 : yc = rc
                  · have g2 : (yc == rc) = true := beq_iff_eq.2 a2
                    by_cases a3 : rk ≤ yo
                    · have g3 : decide (rk ≤ yo) = true := decide_eq_true a3
                      go_wp2
                      go_quiet (fail)
                      go_wp2
                      go_roundw
                      case rel => exact ⟨q + 1, true, by omega, by go_num, rfl, (fun _ => rfl), (by repeat (first | (with_reducible exact Below.refl _ _) | (with_reducible assumption) | (with_reducible refine below_drewN ?_ _) | (with_reducible refine Below.drew ?_) | (with_reducible refine Below.alloc ?_ ?_ _) | (with_reducible refine Below.setCell ?_ ?_ _) | exact Below.refl _ _ | assumption | (solve | omega | simp | (simp; omega))))⟩
                      case measure => simp [intOf]; omega
                    · have HNE : Hid (jx ≠ q) := Lib.hid (fun e => by subst e; rw [HJX.out] at HY; have hy2 := HY.out; injection hy2 with hy2; subst hy2; exact a3 ox3)
                      have g3 : decide (rk ≤ yo) = false := decide_eq_false a3
                      go_wp2
                      go_quiet (fail)
                      go_wp2
                      go_roundw
                      case rel => exact ⟨q + 1, false, by omega, by go_num, rfl, (fun h => by rcases Nat.lt_or_eq_of_le (Nat.le_of_lt_succ h) with h | h; exact HBF.out h; exact absurd h HNE.out), (by repeat (first | (with_reducible exact Below.refl _ _) | (with_reducible assumption) | (with_reducible refine below_drewN ?_ _) | (with_reducible refine Below.drew ?_) | (with_reducible refine Below.alloc ?_ ?_ _) | (with_reducible refine Below.setCell ?_ ?_ _) | exact Below.refl _ _ | assumption | (solve | omega | simp | (simp; omega))))⟩
                      case measure => simp [intOf]; omega
                  · have HNE : Hid (jx ≠ q) := Lib.hid (fun e => by subst e; rw [HJX.out] at HY; have hy2 := HY.out; injection hy2 with hy2; subst hy2; exact a2 ox2)
                    have g2 : (yc == rc) = false := beq_eq_false_iff_ne.2 a2
                    go_wp2
                    go_quiet (fail)
                    go_wp2
                    go_roundw
                    case rel => exact ⟨q + 1, false, by omega, by go_num, rfl, (fun h => by rcases Nat.lt_or_eq_of_le (Nat.le_of_lt_succ h) with h | h; exact HBF.out h; exact absurd h HNE.out), (by repeat (first | (with_reducible exact Below.refl _ _) | (with_reducible assumption) | (with_reducible refine below_drewN ?_ _) | (with_reducible refine Below.drew ?_) | (with_reducible refine Below.alloc ?_ ?_ _) | (with_reducible refine Below.setCell ?_ ?_ _) | exact Below.refl _ _ | assumption | (solve | omega | simp | (simp; omega))))⟩
                    case measure => simp [intOf]; omega
                · have HNE : Hid (jx ≠ q) := Lib.hid (fun e => by subst e; rw [HJX.out] at HY; have hy2 := HY.out; injection hy2 with hy2; subst hy2; exact a1 ox1)
                  have g1 : (ys == rt') = false := beq_eq_false_iff_ne.2 a1
                  go_wp2
                  go_quiet (fail)
                  go_wp2
                  go_roundw
                  case rel => exact ⟨q + 1, false, by omega, by go_num, rfl, (fun h => by rcases Nat.lt_or_eq_of_le (Nat.le_of_lt_succ h) with h | h; exact HBF.out h; exact absurd h HNE.out), (by repeat (first | (with_reducible exact Below.refl _ _) | (with_reducible assumption) | (with_reducible refine below_drewN ?_ _) | (with_reducible refine Below.drew ?_) | (with_reducible refine Below.alloc ?_ ?_ _) | (with_reducible refine Below.setCell ?_ ?_ _) | exact Below.refl _ _ | assumption | (solve | omega | simp | (simp; omega))))⟩
                  case measure => simp [intOf]; omega
              · obtain ⟨ys, yc, ya, yo⟩ := y
                simp only at y0 y1 y3
                go_wp2
                go_quiet (fail)
                go_wp2
                go_roundw
                case rel => exact ⟨q + 1, true, by omega, by go_num, rfl, (fun _ => rfl), (by repeat (first | (with_reducible exact Below.refl _ _) | (with_reducible assumption) | (with_reducible refine below_drewN ?_ _) | (with_reducible refine Below.drew ?_) | (with_reducible refine Below.alloc ?_ ?_ _) | (with_reducible refine Below.setCell ?_ ?_ _) | exact Below.refl _ _ | assumption | (solve | omega | simp | (simp; omega))))⟩
                case measure => simp [intOf]; omega
            · obtain rfl : n = q := by omega
              have c1 : decide ((n : Int) < (n : Int)) = false := decide_eq_false (by omega)
              obtain rfl : bf = true := HBF.out hjn
              have hbl := HBL.out
              go_wp2
              go_roundw
              case rel => exact ⟨k + 1, lf - rs, by omega, by go_num, rfl, Lib.hid (by rw [HSM.out]; have := HLF.out; omega), by omega, by omega, (by repeat (first | (with_reducible exact Below.refl _ _) | (with_reducible assumption) | (with_reducible refine below_drewN ?_ _) | (with_reducible refine Below.drew ?_) | (with_reducible refine Below.alloc ?_ ?_ _) | (with_reducible refine Below.setCell ?_ ?_ _) | exact Below.refl _ _ | assumption | (solve | omega | simp | (simp; omega))))⟩
              case measure => simp [intOf]; omega
      · obtain rfl : nt = k := by omega
        have hB := below_then HB6.out HB.out
        have c0 : decide ((nt : Int) < (nt : Int)) = false := decide_eq_false (by omega)
        go_wp2
        go_ret
        exact ⟨rfl, (by repeat (first | (with_reducible exact Below.refl _ _) | (with_reducible assumption) | (with_reducible refine below_drewN ?_ _) | (with_reducible refine Below.drew ?_) | (with_reducible refine Below.alloc ?_ ?_ _) | (with_reducible refine Below.setCell ?_ ?_ _) | exact Below.refl _ _ | assumption | (solve | omega | simp | (simp; omega))))⟩
end Go.Proofs.Ytaifacnpnhcdcaa
