/-
  RecoveryOffsetsAgree: the walk.
-/
import Derived.Test.YtaifacnpnhcdcaaRoffs
import Derived.Test.YtaifacnpnhcdcaaAwakeV
import Derived.Test.YtaifacnpnhcdcaaSameV
import Derived.Test.YtaifacnpnhcdcaaRecM
import Derived.Test.YtaifacnpnhcdcaaRlist
import Derived.Test.YtaifacnpnhcdcaaRatesV
namespace Go.Proofs.Ytaifacnpnhcdcaa
open Go.RowKit Mny

set_option maxRecDepth 100000 in
set_option maxHeartbeats 16000000 in
theorem walk_RecoveryOffsetsAgree (b0 b1 b2 m0 : Int) (v rv : Value) (w : World) (hR : R3Tb w v) (hI : IntsIn w rv) : Calls Try.prog 6 #[.agg #[.int .i64 b0, .int .i64 b1, .int .i64 b2], v, rv, .int .i64 m0] w fun e w' => e = .returned (.bool true) ∧ Below w.heap.size w w' := by
  have HR := Lib.hid hR
  have HI := Lib.hid hI
  clear hR hI
  have hm0 := fun W => plain_Mod b0 6 W (by decide) (by decide)
  obtain ⟨gs, hgs⟩ : ∃ q, b0 % 6 = q := ⟨_, rfl⟩
  have gs0 : 0 ≤ gs := by rw [← hgs]; exact Int.emod_nonneg _ (by decide)
  have gs1 : gs < 6 := by rw [← hgs]; exact Int.emod_lt_of_pos _ (by decide)
  rw [hgs] at hm0
  have HM0 := Lib.hid hm0
  clear hm0 hgs
  have hm1 := fun W => plain_Mod b1 3 W (by decide) (by decide)
  obtain ⟨gc, hgc⟩ : ∃ q, b1 % 3 = q := ⟨_, rfl⟩
  have gc0 : 0 ≤ gc := by rw [← hgc]; exact Int.emod_nonneg _ (by decide)
  have gc1 : gc < 3 := by rw [← hgc]; exact Int.emod_lt_of_pos _ (by decide)
  rw [hgc] at hm1
  have HM1 := Lib.hid hm1
  clear hm1 hgc
  go_enter Try.func6, Try.ntmps6
  have hb1 : Below w.heap.size w (w.alloc (.cells #[.int .i64 b0, .int .i64 b1, .int .i64 b2] 29)) := (Below.refl _ _).alloc (Nat.le_refl _) _
  have bx1 := Bx.made w 29 #[.int .i64 b0, .int .i64 b1, .int .i64 b2] rfl
  go_upto_region 1 with (fail)
  obtain ⟨wo, hwo⟩ : ∃ W, w.alloc (.cells #[.int .i64 b0, .int .i64 b1, .int .i64 b2] 29) = W := ⟨_, rfl⟩
  rw [hwo] at hb1 bx1 ⊢
  have hsz : w.heap.size < wo.heap.size := bx1.lt
  have k0 : wo.cell? ⟨w.heap.size, 0, none⟩ = some (.int .i64 b0) := bx1.cell 0
  have k1 : wo.cell? ⟨w.heap.size, 1, none⟩ = some (.int .i64 b1) := bx1.cell 1
  have k2 : wo.cell? ⟨w.heap.size, 2, none⟩ = some (.int .i64 b2) := bx1.cell 2
  have HB1 := Lib.hid hb1
  clear hb1 bx1 hwo
  go_cut [9] (fun p wx => p = .pointer (some ⟨wo.heap.size, 0, none⟩) ∧ (∃ go : Int, Bx wx wo.heap.size 33 #[.int .i64 gs, .int .i64 (1 + gc), .int .i64 go, .int .i64 0] ∧ 0 ≤ go ∧ go ≤ 1000000000000) ∧ Below wo.heap.size wo wx)
  case first =>
    have V2 : IntKind.i64.wrap (1 + gc) = 1 + gc := IntWalk.i64_in _ (by omega)
    have S0 : Below wo.heap.size wo wo.drew := (Below.refl _ _).drew
    have N1 : ¬ w.heap.size = wo.heap.size := by omega
    have N2 : ¬ wo.heap.size = w.heap.size := by omega
    go_region_held3 (fun w' => Below wo.heap.size wo w' ∧ w'.cell? ⟨w.heap.size, 0, none⟩ = some (.int .i64 b0) ∧ w'.cell? ⟨w.heap.size, 1, none⟩ = some (.int .i64 b1) ∧ w'.cell? ⟨w.heap.size, 2, none⟩ = some (.int .i64 b2)) (first | exact ⟨by assumption, by assumption, by assumption, by assumption⟩ | (refine ⟨(by repeat (first | (with_reducible exact Below.refl _ _) | (with_reducible assumption) | (with_reducible refine below_drewN ?_ _) | (with_reducible refine Below.drew ?_) | (with_reducible refine Below.alloc ?_ ?_ _) | (with_reducible refine Below.setCell ?_ ?_ _) | exact Below.refl _ _ | assumption | (solve | omega | simp | (simp; omega)))), ?_⟩; go_keep) | go_keep)
      (first
        | (go_at_call_of 11 (Value.int IntKind.i64 b0); refine (HM0.out _).mono ?_; rintro e w' ⟨rfl, rfl⟩)
        | (go_at_call_of 11 (Value.int IntKind.i64 b1); refine (HM1.out _).mono ?_; rintro e w' ⟨rfl, rfl⟩)
        | (go_at_call 12; refine (plain_Amount _ _).mono ?_; rintro e w' ⟨x, rfl, hx, rfl⟩))
    all_goals
      go_wp2_with fail
      go_meet
      exact ⟨rfl, ⟨_, (by (try rw [V2]); first | exact Bx.made _ _ _ rfl | exact Bx.drew (Bx.made _ _ _ rfl) | exact Bx.drewN (Bx.made _ _ _ rfl) _ | trace_state), by omega, by omega⟩, (by repeat (first | (with_reducible exact Below.refl _ _) | (with_reducible assumption) | (with_reducible refine below_drewN ?_ _) | (with_reducible refine Below.drew ?_) | (with_reducible refine Below.alloc ?_ ?_ _) | (with_reducible refine Below.setCell ?_ ?_ _) | exact Below.refl _ _ | assumption | (solve | omega | simp | (simp; omega))))⟩
  case rest =>
    obtain ⟨rfl, ⟨go, hbx, go0, go1⟩, hbw2⟩ := hcut
    have HB2 := Lib.hid (below_then HB1.out hbw2)
    have HX2 := Lib.hid hbx
    have HPO : Hid (okS ⟨gs, 1 + gc, go, 0⟩ = true) := Lib.hid (okS_mk ⟨⟨gs0, by omega⟩, ⟨by omega, by omega⟩, ⟨go0, go1⟩, ⟨by decide, by decide⟩⟩)
    clear hbw2 hbx k0 k1 k2
    have hsl2 := HX2.out.lt
    obtain ⟨B, hB⟩ : ∃ B, wo.heap.size = B := ⟨_, rfl⟩
    rw [hB] at HX2 hsl2 ⊢
    clear hB
    go_wp2_with fail
    refine (law_List v _ (HR.out.below HB2.out)).mono ?_
    rintro e w3 ⟨v3, xs, rfl, hgt, hp3, hown, hb3⟩
    obtain ⟨A3, c3, rfl⟩ := own_slice hown
    have HB3 := Lib.hid (below_then HB2.out hb3)
    have HX3 := Lib.hid (HX2.out.below hb3)
    have HS3 := Lib.hid (StTab.own hown rfl)
    have HO3 := Lib.hid hown
    have HG := Lib.hid hgt
    have HP3 := Lib.hid hp3
    have hx6 : xs.length ≤ 6 := good_len hgt
    have hs23 := hb3.size
    clear hgt hp3 hown hb3
    go_wp2_with fail
    refine (plain_Rates2 rv _ (HI.out.below HB3.out)).mono ?_
    rintro e w4 ⟨v4, rt, rfl, hck, hl6, hown4, hb4⟩
    obtain ⟨A4, c4, rfl⟩ := own_slice hown4
    have HB4 := Lib.hid (below_then HB3.out hb4)
    have HX4 := Lib.hid (HX3.out.below hb4)
    have HS4 := Lib.hid (HS3.out.later hb4)
    have HT4 := Lib.hid (Tab.own hown4 rfl (by omega))
    have HCK := Lib.hid hck
    have HO4 := Lib.hid (own_below HO3.out hb4)
    have hs34 := hb4.size
    clear hck hown4 hb4
    go_wp2_with fail
    refine (plain_Mod _ 2400 _ (by decide) (by decide)).mono ?_
    rintro e _ ⟨rfl, rfl⟩
    obtain ⟨m, em⟩ : ∃ q, m0 % 2400 = q := ⟨_, rfl⟩
    have lm : 0 ≤ m := by rw [← em]; exact Int.emod_nonneg _ (by decide)
    have um : m < 2400 := by rw [← em]; exact Int.emod_lt_of_pos _ (by decide)
    rw [em]
    clear em
    obtain ⟨n, hn⟩ : ∃ n, xs.length = n := ⟨_, rfl⟩
    rw [hn] at HS4 HS3 HO3 HO4 hx6 ⊢
    have HN := Lib.hid hn
    clear hn
    clear HS3 HO3
    obtain ⟨R, hR⟩ : ∃ R, offR ⟨gs, 1 + gc, go, 0⟩ xs rt m = R := ⟨_, rfl⟩
    have hRl : R.1.length ≤ 6 := by rw [← hR]; exact offR_len _ _ _ _
    obtain ⟨ts, er⟩ := R
    simp only at hRl
    have HRR := Lib.hid hR
    clear hR
    obtain ⟨cP, qP⟩ := HX4.out.of
    have hof5 := rec_Offsets gs (1 + gc) go 0 xs n A3 c3 _ rt m _ HN.out (by omega) HS4.out HT4.out
    rw [HRR.out] at hof5
    have HOF5 := Lib.hid hof5
    clear hof5
    go_wp2_with fail
    refine (HOF5.out).mono ?_
    rintro e w5 ⟨v5, rfl, ht5, hb5⟩
    obtain ⟨A5, c5, rfl⟩ := ht5.cut
    have HB5 := Lib.hid (below_then HB4.out hb5)
    have HTT5 := Lib.hid ht5
    have HX5 := Lib.hid (HX4.out.below hb5)
    have HS5 := Lib.hid (HS4.out.later hb5)
    have HT5 := Lib.hid (HT4.out.below hb5)
    clear ht5 hb5 cP qP
    obtain ⟨cP, qP⟩ := HX5.out.of
    have hof6 := ref_Offsets gs (1 + gc) go 0 xs n A3 c3 _ rt m _ HN.out (by omega) HS5.out HT5.out
    rw [HRR.out] at hof6
    have HOF6 := Lib.hid hof6
    clear hof6
    go_wp2_with fail
    refine (HOF6.out).mono ?_
    rintro e w6 ⟨v6, rfl, ht6, hb6⟩
    obtain ⟨A6, c6, rfl⟩ := ht6.cut
    have HB6 := Lib.hid (below_then HB5.out hb6)
    have HTT6 := Lib.hid ht6
    have HTA := Lib.hid (HTT5.out.below hb6)
    clear ht6 hb6 cP qP
    go_wp2_with fail
    refine (rec_awake _).mono ?_
    rintro e w7 ⟨rfl, hb7⟩
    have HB7 := Lib.hid (below_then HB6.out hb7)
    have HTB := Lib.hid (HTA.out.below hb7)
    have HTC := Lib.hid (HTT6.out.below hb7)
    clear hb7
    have ce : (er == er) = true := by simp
    have HSM := Lib.hid (plain_SameT ts _ _ _ HTB.out HTC.out (by omega))
    go_wp2_with fail
    refine (HSM.out).mono ?_
    rintro e w8 ⟨rfl, hb8⟩
    have HB8 := Lib.hid (below_then HB7.out hb8)
    clear hb8
    have hbz := HB8.out
    go_wp2
    go_ret
    exact ⟨rfl, (by repeat (first | (with_reducible exact Below.refl _ _) | (with_reducible assumption) | (with_reducible refine below_drewN ?_ _) | (with_reducible refine Below.drew ?_) | (with_reducible refine Below.alloc ?_ ?_ _) | (with_reducible refine Below.setCell ?_ ?_ _) | exact Below.refl _ _ | assumption | (solve | omega | simp | (simp; omega))))⟩
end Go.Proofs.Ytaifacnpnhcdcaa
