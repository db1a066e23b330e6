/-
  RecoveryOffsetsInOneCurrency: the walk.
-/
import Derived.Test.YtaifacnpnhcdcaaAwakeV
import Derived.Test.YtaifacnpnhcdcaaRecM
import Derived.Test.YtaifacnpnhcdcaaRlist
import Derived.Test.YtaifacnpnhcdcaaOneC
import Derived.Test.YtaifacnpnhcdcaaOwnS
namespace Go.Proofs.Ytaifacnpnhcdcaa
open Go.RowKit Mny

set_option maxRecDepth 100000 in
set_option maxHeartbeats 16000000 in
theorem walk_RecoveryOffsetsInOneCurrency (a0 : Int) (v : Value) (w : World) (hR : R3Tb w v) : Calls Try.prog 9 #[.int .i64 a0, v] w fun e w' => e = .returned (.bool true) ∧ Below w.heap.size w w' := by
  have HR := Lib.hid hR
  clear hR
  go_enter Try.func9, Try.ntmps9
  go_wp2_with fail
  refine (plain_Amount _ _).mono ?_
  rintro e _ ⟨a, rfl, ⟨ha0, ha1⟩, rfl⟩
  go_upto_region 2 with (fail)
  have hb1 : Below w.heap.size w (w.alloc (.cells #[.int .i64 5, .int .i64 4, .int .i64 a, .int .i64 0] 33)) := (Below.refl _ _).alloc (Nat.le_refl _) _
  have bx1 := Bx.made w 33 #[.int .i64 5, .int .i64 4, .int .i64 a, .int .i64 0] rfl
  obtain ⟨w1, hw1⟩ : ∃ W, w.alloc (.cells #[.int .i64 5, .int .i64 4, .int .i64 a, .int .i64 0] 33) = W := ⟨_, rfl⟩
  rw [hw1] at hb1 bx1 ⊢
  have HB1 := Lib.hid hb1
  have HX1 := Lib.hid bx1
  have hs1 := bx1.lt
  clear hb1 bx1 hw1
  go_wp2_with fail
  refine (law_List v _ (HR.out.below HB1.out)).mono ?_
  rintro e w2 ⟨v2, xs, rfl, hgt, hp3, hown, hb2⟩
  obtain ⟨A2, c2, rfl⟩ := own_slice hown
  have HB2 := Lib.hid (below_then HB1.out hb2)
  have HX2 := Lib.hid (HX1.out.below hb2)
  have HO2 := Lib.hid (OwnS.of hown rfl)
  have HG := Lib.hid hgt
  have hx6 : xs.length ≤ 6 := good_len hgt
  have hs2 := hb2.size
  obtain ⟨ts, hR0, hsum, heach⟩ := one_cur (xs := xs) ha0 ha1 hgt
  have hRl : ts.length ≤ 6 := by have := offR_len ⟨5, 4, a, 0⟩ (xs.map to4) [] 0; rw [hR0] at this; exact this
  have HRR := Lib.hid hR0
  have HSUM := Lib.hid hsum
  have HEA := Lib.hid heach
  clear hgt hp3 hown hb2 hR0 hsum heach
  obtain ⟨n, hn⟩ : ∃ n, xs.length = n := ⟨_, rfl⟩
  rw [hn] at hx6 HO2 ⊢
  have HN := Lib.hid hn
  clear hn
  go_wp2
  go_loopw [7, 8] (fun s7 i wr => ∃ (k : Nat) (ow : Int), k ≤ n ∧ i = .int .i64 k ∧ s7 = .int .i64 ow ∧ Hid (ow = owedS (xs.take k)) ∧ 0 ≤ ow ∧ ow ≤ 1000000000000 * k ∧ OwnS wr w1.heap.size (.slice A2 n c2) (upd xs k) ∧ Bx wr w.heap.size 33 #[.int .i64 5, .int .i64 4, .int .i64 a, .int .i64 0] ∧ Below w.heap.size w wr) (fun _ i _ => n - (intOf i).toNat)
  case atStart => exact ⟨0, 0, Nat.zero_le _, rfl, rfl, Lib.hid rfl, Int.le_refl _, by omega, by rw [upd_zero]; exact HO2.out, HX2.out, HB2.out⟩
  case round =>
    obtain ⟨k, ow, hk, rfl, rfl, HOW, ow0, ow1, hown, hbx, hbl⟩ := hrel
    have HO := Lib.hid hown
    have HX := Lib.hid hbx
    have HB := Lib.hid hbl
    have hsz := hbl.size
    clear hown hbx hbl
    by_cases hlt : k < n
    · obtain ⟨r, hr⟩ : ∃ r, xs[k]? = some r := ⟨xs[k]'(by rw [HN.out]; exact hlt), List.getElem?_eq_getElem _⟩
      obtain ⟨g, ar, rfl, hg, hx, hri, hc2, hul⟩ := HO.out.rowAt (upd_at hr)
      have hro := (okS_all (HG.out.1 r (List.mem_of_getElem? hr))).2.2.2
      have hput : RowsS (ar.setIfInBounds (k * 4 + 1) (.int .i64 4)) (upd xs (k + 1)) := by
        rw [← upd_set hr]
        exact hri.put (upd_at hr) (by omega) (fun t ht => by
          match t, ht with
          | 0, _ => rfl
          | 1, _ => rfl
          | 2, _ => rfl
          | 3, _ => rfl)
      have hxp := hx.put (k * 4 + 1) (.int .i64 4)
      have hnx : (upd xs (k + 1))[k]? = some (to4 r) := by rw [← upd_set hr]; exact List.getElem?_set_self (by rw [upd_len xs k (by rw [HN.out]; omega), HN.out]; exact hlt)
      have HR2 := Lib.hid hr
      have HT := Lib.hid (owedS_take hr)
      have HXP := Lib.hid hxp
      have HRP := Lib.hid hput
      have hgl := hx.lt
      have HON : Hid (OwnS (wr.setCell ⟨g, k * 4 + 1, none⟩ (.int .i64 4)) w1.heap.size (.slice (some ⟨g, 0, none⟩) n c2) (upd xs (k + 1))) := Lib.hid (.inr ⟨g, c2, _, by rw [upd_len xs (k + 1) (by rw [HN.out]; omega), HN.out], hg, hxp, hput, by rw [upd_len xs (k + 1) (by rw [HN.out]; omega), HN.out]; exact hc2⟩)
      have HXN : Hid (Bx (wr.setCell ⟨g, k * 4 + 1, none⟩ (.int .i64 4)) w.heap.size 33 #[.int .i64 5, .int .i64 4, .int .i64 a, .int .i64 0]) := Lib.hid (HX.out.far (by simp only; omega) _)
      have q1 : wr.cell? ⟨g, k * 4 + 1, none⟩ = some (.int .i64 r.c) := (hx.cell _).trans (hri k _ 1 (upd_at hr) (by omega))
      have f1 : wr.frozen? ⟨g, k * 4 + 1, none⟩ = false := hx.free _
      have p0 : (wr.setCell ⟨g, k * 4 + 1, none⟩ (.int .i64 4)).cell? ⟨g, k * 4, none⟩ = some (.int .i64 r.s) := (hxp.cell _).trans (hput k (to4 r) 0 hnx (by omega))
      have p3 : (wr.setCell ⟨g, k * 4 + 1, none⟩ (.int .i64 4)).cell? ⟨g, k * 4 + 3, none⟩ = some (.int .i64 r.o) := (hxp.cell _).trans (hput k (to4 r) 3 hnx (by omega))
      have q0 : wr.cell? ⟨g, k * 4, none⟩ = some (.int .i64 r.s) := (hx.cell _).trans (hri k _ 0 (upd_at hr) (by omega))
      have q3 : wr.cell? ⟨g, k * 4 + 3, none⟩ = some (.int .i64 r.o) := (hx.cell _).trans (hri k _ 3 (upd_at hr) (by omega))
      clear hr hx hri hput hxp hnx hul
      obtain ⟨rs, rc, ra, ro⟩ := r
      simp only at p0 p3 q0 q1 q3 hro HT
      have i1 : (k : Int) < (n : Int) := by omega
      have hb := HB.out
      by_cases h5 : rs = 5
      · have c5 : (rs != 5) = false := by simp [h5]
        rw [if_pos h5] at HT
        clear h5
        go_wp2
        go_roundw
        case rel =>
          refine ⟨k + 1, ow, by omega, by go_num, rfl, Lib.hid (by have h1 := HT.out; have h2 := HOW.out; omega), by omega, by omega, HON.out, HXN.out, ?_⟩
          exact (by repeat (first | (with_reducible assumption) | (with_reducible exact Below.refl _ _) | (with_reducible refine Below.setCell ?_ ?_ _) | (with_reducible refine Below.alloc ?_ ?_ _) | (with_reducible refine Below.drew ?_) | (with_reducible refine below_drewN ?_ _) | (with_reducible exact Nat.le_refl _) | (exact Nat.le_add_right _ _) | omega | (simp; done) | (simp; omega)))
        case measure => simp [intOf]; omega
      · have c5 : (rs != 5) = true := by simpa using h5
        rw [if_neg h5] at HT
        clear h5
        have v1 : IntKind.i64.wrap (ow + ro) = ow + ro := IntWalk.i64_in _ (by omega)
        go_wp2
        go_roundw
        case rel =>
          refine ⟨k + 1, ow + ro, by omega, by go_num, rfl, Lib.hid (by have h1 := HT.out; have h2 := HOW.out; omega), by omega, by omega, HON.out, HXN.out, ?_⟩
          exact (by repeat (first | (with_reducible assumption) | (with_reducible exact Below.refl _ _) | (with_reducible refine Below.setCell ?_ ?_ _) | (with_reducible refine Below.alloc ?_ ?_ _) | (with_reducible refine Below.drew ?_) | (with_reducible refine below_drewN ?_ _) | (with_reducible exact Nat.le_refl _) | (exact Nat.le_add_right _ _) | omega | (simp; done) | (simp; omega)))
        case measure => simp [intOf]; omega
    · obtain rfl : n = k := by omega
      have HSO : Hid (ow = owedS xs) := Lib.hid (by rw [HOW.out, ← HN.out, List.take_length])
      have hst := HO.out.tab
      rw [upd_all HN.out] at hst
      have HS := Lib.hid hst
      clear hst
      have HX3 := HX
      obtain ⟨cP, qP⟩ := HX.out.of
      have hof := rec_Offsets 5 4 a 0 (xs.map to4) n A2 c2 (.slice none 0 0) [] 0 _ (by rw [List.length_map]; exact HN.out) (by omega) HS.out (.inl ⟨_, _, rfl, rfl⟩)
      rw [HRR.out] at hof
      have HOF := Lib.hid hof
      clear hof
      go_wp2_with fail
      refine (HOF.out).mono ?_
      rintro e w5 ⟨v5, rfl, ht5, hb5⟩
      obtain ⟨A5, c5, rfl⟩ := ht5.cut
      have HB5 := Lib.hid (below_then HB.out hb5)
      have HTT5 := Lib.hid ht5
      have HX5 := Lib.hid (HX.out.below hb5)
      obtain ⟨nt, hnt⟩ : ∃ q, ts.length = q := ⟨_, rfl⟩
      simp only at hnt HTT5
      rw [hnt] at HTT5 hRl ⊢
      have HNT := Lib.hid hnt
      clear ht5 hb5 cP qP hnt
      go_wp2_with fail
      refine (rec_awake _).mono ?_
      rintro e w6 ⟨rfl, hb6⟩
      have HB6 := Lib.hid (below_then HB5.out hb6)
      have HTT6 := Lib.hid (HTT5.out.below hb6)
      have HX6 := Lib.hid (HX5.out.below hb6)
      clear hb6
      go_wp2
      go_loopw [11, 12] (fun s11 i wr => ∃ (k : Nat) (se : Int), k ≤ nt ∧ i = .int .i64 k ∧ s11 = .int .i64 se ∧ Hid (se = sumT (ts.take k)) ∧ 0 ≤ se ∧ se ≤ a ∧ Below w6.heap.size w6 wr) (fun _ i _ => nt - (intOf i).toNat)
      case atStart => exact ⟨0, 0, Nat.zero_le _, rfl, rfl, Lib.hid (by simp [sumT]), Int.le_refl _, ha0, Below.refl _ _⟩
      case round =>
        obtain ⟨k, se, hk2, rfl, rfl, HSE, se0, se1, hbl⟩ := hrel
        have HBL := Lib.hid hbl
        have hsl := hbl.size
        clear hbl
        by_cases hlt2 : k < nt
        · have c0 : decide ((k : Int) < (nt : Int)) = true := decide_eq_true (by omega)
          have i1 : (k : Int) < (nt : Int) := by omega
          obtain ⟨r, hr⟩ : ∃ r, ts[k]? = some r := ⟨ts[k]'(by rw [HNT.out]; exact hlt2), List.getElem?_eq_getElem _⟩
          obtain ⟨b, off, rfl, hat, hb⟩ := HTT6.out.rowAt hr
          obtain ⟨-, -, -, t3, t4⟩ := hat.below hb HBL.out k r hr
          obtain ⟨r1, r2, r3⟩ := HEA.out k r hr
          have HSM := Lib.hid (sumT_take hr)
          have r4 : r.s ≤ a - se := by rw [HSE.out]; exact r3
          clear hat hr r3
          obtain ⟨rf, rt', rc, rs, rk⟩ := r
          simp only at t3 t4 r1 r2 r4 HSM
          subst r1
          have d0 : (rs != rs) = false := by simp
          have d1 : decide (rs < 1) = false := decide_eq_false (by omega)
          have d2 : decide (1000000000000 < rs) = false := decide_eq_false (by omega)
          have v0 : IntKind.i64.wrap (se + rs) = se + rs := IntWalk.i64_in _ (by omega)
          have hbl := HBL.out
          go_wp2
          go_quiet (fail)
          go_wp2
          go_roundw
          case rel => exact ⟨k + 1, se + rs, by omega, by go_num, rfl, Lib.hid (by have h1 := HSM.out; have h2 := HSE.out; omega), by omega, by omega, (by repeat (first | (with_reducible exact Below.refl _ _) | (with_reducible assumption) | (with_reducible refine below_drewN ?_ _) | (with_reducible refine Below.drew ?_) | (with_reducible refine Below.alloc ?_ ?_ _) | (with_reducible refine Below.setCell ?_ ?_ _) | exact Below.refl _ _ | assumption | (solve | omega | simp | (simp; omega))))⟩
          case measure => simp [intOf]; omega
        · obtain rfl : nt = k := by omega
          have c0 : decide ((nt : Int) < (nt : Int)) = false := decide_eq_false (by omega)
          have x2 : wr.cell? ⟨w.heap.size, 2, none⟩ = some (.int .i64 a) := (HX6.out.below HBL.out).cell 2
          have ef : (se == min a ow) = true := by
            rw [beq_iff_eq, HSE.out, HSO.out, ← HSUM.out, ← HNT.out, List.take_length]
          have hB := below_then HB6.out HBL.out
          go_wp2
          go_ret
          exact ⟨rfl, (by repeat (first | (with_reducible exact Below.refl _ _) | (with_reducible assumption) | (with_reducible refine below_drewN ?_ _) | (with_reducible refine Below.drew ?_) | (with_reducible refine Below.alloc ?_ ?_ _) | (with_reducible refine Below.setCell ?_ ?_ _) | exact Below.refl _ _ | assumption | (solve | omega | simp | (simp; omega))))⟩
end Go.Proofs.Ytaifacnpnhcdcaa
