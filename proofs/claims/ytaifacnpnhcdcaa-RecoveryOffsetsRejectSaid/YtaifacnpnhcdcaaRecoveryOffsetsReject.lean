/-
  RecoveryOffsetsReject: the walk.
-/
import Derived.Test.YtaifacnpnhcdcaaRoffs
import Derived.Test.YtaifacnpnhcdcaaAwakeV
import Derived.Test.YtaifacnpnhcdcaaSameV
import Derived.Test.YtaifacnpnhcdcaaRecM
namespace Go.Proofs.Ytaifacnpnhcdcaa
open Go.RowKit Mny

set_option maxRecDepth 100000 in
set_option maxHeartbeats 16000000 in
theorem walk_RecoveryOffsetsReject (ps pc pa po : Int) (l : List St) (rt : List Rt) (m : Int) (v tv : Value) (w : World) (hX : StTab w.heap.size w v l) (hT : Tab w tv rt) : Calls Try.prog 7 #[.agg #[.int .i64 ps, .int .i64 pc, .int .i64 pa, .int .i64 po], v, tv, .int .i64 m] w fun e w' => e = .returned (.bool true) ∧ Below w.heap.size w w' := by
  obtain ⟨A, c, rfl⟩ := hX.cut
  obtain ⟨n, hn⟩ : ∃ n, l.length = n := ⟨_, rfl⟩
  rw [hn] at hX ⊢
  have HN := Lib.hid hn
  have HX := Lib.hid hX
  have HT := Lib.hid hT
  clear hX hT hn
  have HB0 : Hid (Below w.heap.size w (w.alloc (.cells #[.int .i64 ps, .int .i64 pc, .int .i64 pa, .int .i64 po] 33))) := Lib.hid ((Below.refl _ _).alloc (Nat.le_refl _) _)
  have BX0 := Lib.hid (Bx.made w 33 #[.int .i64 ps, .int .i64 pc, .int .i64 pa, .int .i64 po] rfl)
  obtain ⟨R, hR⟩ : ∃ R, offR ⟨ps, pc, pa, po⟩ l rt m = R := ⟨_, rfl⟩
  have hRl : R.1.length ≤ 6 := by rw [← hR]; exact offR_len _ _ _ _
  obtain ⟨ts, er⟩ := R
  simp only at hRl
  have HRR := Lib.hid hR
  clear hR
  by_cases h12 : n ≤ 12
  · have c0 : decide (12 < (n : Int)) = false := decide_eq_false (by omega)
    go_enter Try.func7, Try.ntmps7
    have HS0 := Lib.hid (HX.out.later HB0.out)
    have HT0 := Lib.hid (HT.out.below HB0.out)
    obtain ⟨cP, qP⟩ := BX0.out.of
    have hof1 := rec_Offsets ps pc pa po l n A c tv rt m _ HN.out (by omega) HS0.out HT0.out
    rw [HRR.out] at hof1
    have HOF1 := Lib.hid hof1
    clear hof1
    go_wp2_with fail
    refine (HOF1.out).mono ?_
    rintro e w1 ⟨v1, rfl, ht1, hb1⟩
    obtain ⟨A1, c1, rfl⟩ := ht1.cut
    have HB1 := Lib.hid (below_then HB0.out hb1)
    have HTT1 := Lib.hid ht1
    have BX1 := Lib.hid (BX0.out.below hb1)
    have HS1 := Lib.hid (HS0.out.later hb1)
    have HT1 := Lib.hid (HT0.out.below hb1)
    clear ht1 hb1 cP qP
    obtain ⟨cP, qP⟩ := BX1.out.of
    have hof2 := ref_Offsets ps pc pa po l n A c tv rt m _ HN.out (by omega) HS1.out HT1.out
    rw [HRR.out] at hof2
    have HOF2 := Lib.hid hof2
    clear hof2
    go_wp2_with fail
    refine (HOF2.out).mono ?_
    rintro e w2 ⟨v2, rfl, ht2, hb2⟩
    obtain ⟨A2, c2, rfl⟩ := ht2.cut
    have HB2 := Lib.hid (below_then HB1.out hb2)
    have HTT2 := Lib.hid ht2
    have HTA := Lib.hid (HTT1.out.below hb2)
    clear ht2 hb2 cP qP
    go_wp2_with fail
    refine (rec_awake _).mono ?_
    rintro e w3 ⟨rfl, hb3⟩
    have HB3 := Lib.hid (below_then HB2.out hb3)
    have HTB := Lib.hid (HTA.out.below hb3)
    have HTC := Lib.hid (HTT2.out.below hb3)
    clear hb3
    have ce : (er == er) = true := by simp
    have HSM := Lib.hid (plain_SameT ts _ _ _ HTB.out HTC.out (by omega))
    go_wp2_with fail
    refine (HSM.out).mono ?_
    rintro e w4 ⟨rfl, hb4⟩
    have HB4 := Lib.hid (below_then HB3.out hb4)
    clear hb4
    have hbz := HB4.out
    go_wp2
    go_ret
    exact ⟨rfl, (by repeat (first | (with_reducible exact Below.refl _ _) | (with_reducible assumption) | (with_reducible refine below_drewN ?_ _) | (with_reducible refine Below.drew ?_) | (with_reducible refine Below.alloc ?_ ?_ _) | (with_reducible refine Below.setCell ?_ ?_ _) | exact Below.refl _ _ | assumption | (solve | omega | simp | (simp; omega))))⟩
  · have c0 : decide (12 < (n : Int)) = true := decide_eq_true (by omega)
    go_enter Try.func7, Try.ntmps7
    go_wp2_with fail
    refine (rec_awake _).mono ?_
    rintro e w1 ⟨rfl, hb1⟩
    have HB1 := Lib.hid (below_then HB0.out hb1)
    clear hb1
    have hbz := HB1.out
    go_wp2
    go_ret
    exact ⟨rfl, (by repeat (first | (with_reducible exact Below.refl _ _) | (with_reducible assumption) | (with_reducible refine below_drewN ?_ _) | (with_reducible refine Below.drew ?_) | (with_reducible refine Below.alloc ?_ ?_ _) | (with_reducible refine Below.setCell ?_ ?_ _) | exact Below.refl _ _ | assumption | (solve | omega | simp | (simp; omega))))⟩
end Go.Proofs.Ytaifacnpnhcdcaa
