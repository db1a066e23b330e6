/-
  RecoveryOffsetsIgnoreOrder: the walk.
-/
import Derived.Test.YtaifacnpnhcdcaaRoffs
import Derived.Test.YtaifacnpnhcdcaaAwakeV
import Derived.Test.YtaifacnpnhcdcaaSameV
import Derived.Test.YtaifacnpnhcdcaaRecM
import Derived.Test.YtaifacnpnhcdcaaRlist
import Derived.Test.YtaifacnpnhcdcaaRatesV
import Derived.Test.YtaifacnpnhcdcaaRotV
namespace Go.Proofs.Ytaifacnpnhcdcaa
open Go.RowKit Mny

set_option maxRecDepth 100000 in
set_option maxHeartbeats 16000000 in
theorem walk_RecoveryOffsetsIgnoreOrder (b0 b1 b2 m0 ak : Int) (v rv : Value) (w : World) (hR : R3Tb w v) (hI : IntsIn w rv) : Calls Try.prog 10 #[.agg #[.int .i64 b0, .int .i64 b1, .int .i64 b2], v, rv, .int .i64 m0, .int .i64 ak] w fun e w' => e = .returned (.bool true) ∧ Below w.heap.size w w' := by
  obtain ⟨j0, hj, hy0, hy1, hy2⟩ := info_parts info_std
  have HR := Lib.hid hR
  have HI := Lib.hid hI
  clear hR hI
  have hm0 := fun W => plain_Mod b0 6 W (by decide) (by decide)
  obtain ⟨gs, hgs⟩ : ∃ q, b0 % 6 = q := ⟨_, rfl⟩
  have gs0 : 0 ≤ gs := by rw [← hgs]; exact Int.emod_nonneg _ (by decide)
  have gs1 : gs < 6 := by rw [← hgs]; exact Int.emod_lt_of_pos _ (by decide)
  rw [hgs] at hm0
  have HM0 := Lib.hid hm0
  clear hm0 hgs
  have hm1 := fun W => plain_Mod b1 3 W (by decide) (by decide)
  obtain ⟨gc, hgc⟩ : ∃ q, b1 % 3 = q := ⟨_, rfl⟩
  have gc0 : 0 ≤ gc := by rw [← hgc]; exact Int.emod_nonneg _ (by decide)
  have gc1 : gc < 3 := by rw [← hgc]; exact Int.emod_lt_of_pos _ (by decide)
  rw [hgc] at hm1
  have HM1 := Lib.hid hm1
  clear hm1 hgc
  go_enter Try.func10, Try.ntmps10
  have hb1 : Below w.heap.size w (w.alloc (.cells #[.int .i64 b0, .int .i64 b1, .int .i64 b2] 29)) := (Below.refl _ _).alloc (Nat.le_refl _) _
  have bx1 := Bx.made w 29 #[.int .i64 b0, .int .i64 b1, .int .i64 b2] rfl
  go_upto_region 1 with (fail)
  obtain ⟨wo, hwo⟩ : ∃ W, w.alloc (.cells #[.int .i64 b0, .int .i64 b1, .int .i64 b2] 29) = W := ⟨_, rfl⟩
  rw [hwo] at hb1 bx1 ⊢
  have hsz : w.heap.size < wo.heap.size := bx1.lt
  have k0 : wo.cell? ⟨w.heap.size, 0, none⟩ = some (.int .i64 b0) := bx1.cell 0
  have k1 : wo.cell? ⟨w.heap.size, 1, none⟩ = some (.int .i64 b1) := bx1.cell 1
  have k2 : wo.cell? ⟨w.heap.size, 2, none⟩ = some (.int .i64 b2) := bx1.cell 2
  have HB1 := Lib.hid hb1
  clear hb1 bx1 hwo
  go_cut [11] (fun p wx => p = .pointer (some ⟨wo.heap.size, 0, none⟩) ∧ (∃ go : Int, Bx wx wo.heap.size 33 #[.int .i64 gs, .int .i64 (1 + gc), .int .i64 go, .int .i64 0] ∧ 0 ≤ go ∧ go ≤ 1000000000000) ∧ Below wo.heap.size wo wx)
  case first =>
    have V2 : IntKind.i64.wrap (1 + gc) = 1 + gc := IntWalk.i64_in _ (by omega)
    have S0 : Below wo.heap.size wo wo.drew := (Below.refl _ _).drew
    have N1 : ¬ w.heap.size = wo.heap.size := by omega
    have N2 : ¬ wo.heap.size = w.heap.size := by omega
    go_region_held3 (fun w' => Below wo.heap.size wo w' ∧ w'.cell? ⟨w.heap.size, 0, none⟩ = some (.int .i64 b0) ∧ w'.cell? ⟨w.heap.size, 1, none⟩ = some (.int .i64 b1) ∧ w'.cell? ⟨w.heap.size, 2, none⟩ = some (.int .i64 b2)) (first | exact ⟨by assumption, by assumption, by assumption, by assumption⟩ | (refine ⟨(by repeat (first | (with_reducible exact Below.refl _ _) | (with_reducible assumption) | (with_reducible refine below_drewN ?_ _) | (with_reducible refine Below.drew ?_) | (with_reducible refine Below.alloc ?_ ?_ _) | (with_reducible refine Below.setCell ?_ ?_ _) | exact Below.refl _ _ | assumption | (solve | omega | simp | (simp; omega)))), ?_⟩; go_keep) | go_keep)
      (first
        | (go_at_call_of 11 (Value.int IntKind.i64 b0); refine (HM0.out _).mono ?_; rintro e w' ⟨rfl, rfl⟩)
        | (go_at_call_of 11 (Value.int IntKind.i64 b1); refine (HM1.out _).mono ?_; rintro e w' ⟨rfl, rfl⟩)
        | (go_at_call 12; refine (plain_Amount _ _).mono ?_; rintro e w' ⟨x, rfl, hx, rfl⟩))
    all_goals
      go_wp2_with fail
      go_meet
      exact ⟨rfl, ⟨_, (by (try rw [V2]); first | exact Bx.made _ _ _ rfl | exact Bx.drew (Bx.made _ _ _ rfl) | exact Bx.drewN (Bx.made _ _ _ rfl) _ | trace_state), by omega, by omega⟩, (by repeat (first | (with_reducible exact Below.refl _ _) | (with_reducible assumption) | (with_reducible refine below_drewN ?_ _) | (with_reducible refine Below.drew ?_) | (with_reducible refine Below.alloc ?_ ?_ _) | (with_reducible refine Below.setCell ?_ ?_ _) | exact Below.refl _ _ | assumption | (solve | omega | simp | (simp; omega))))⟩
  case rest =>
    obtain ⟨rfl, ⟨go, hbx, go0, go1⟩, hbw2⟩ := hcut
    have HB2 := Lib.hid (below_then HB1.out hbw2)
    have HX2 := Lib.hid hbx
    have HPO : Hid (okS ⟨gs, 1 + gc, go, 0⟩ = true) := Lib.hid (okS_mk ⟨⟨gs0, by omega⟩, ⟨by omega, by omega⟩, ⟨go0, go1⟩, ⟨by decide, by decide⟩⟩)
    clear hbw2 hbx k0 k1 k2
    have hsl2 := HX2.out.lt
    obtain ⟨B, hB⟩ : ∃ B, wo.heap.size = B := ⟨_, rfl⟩
    rw [hB] at HX2 hsl2 ⊢
    clear hB
    go_wp2_with fail
    refine (law_List v _ (HR.out.below HB2.out)).mono ?_
    rintro e w3 ⟨v3, xs, rfl, hgt, hp3, hown, hb3⟩
    obtain ⟨A3, c3, rfl⟩ := own_slice hown
    have HB3 := Lib.hid (below_then HB2.out hb3)
    have HX3 := Lib.hid (HX2.out.below hb3)
    have HS3 := Lib.hid (StTab.own hown rfl)
    have HO3 := Lib.hid hown
    have HG := Lib.hid hgt
    have HP3 := Lib.hid hp3
    have hx6 : xs.length ≤ 6 := good_len hgt
    have hs23 := hb3.size
    clear hgt hp3 hown hb3
    go_wp2_with fail
    refine (plain_Rates2 rv _ (HI.out.below HB3.out)).mono ?_
    rintro e w4 ⟨v4, rt, rfl, hck, hl6, hown4, hb4⟩
    obtain ⟨A4, c4, rfl⟩ := own_slice hown4
    have HB4 := Lib.hid (below_then HB3.out hb4)
    have HX4 := Lib.hid (HX3.out.below hb4)
    have HS4 := Lib.hid (HS3.out.later hb4)
    have HT4 := Lib.hid (Tab.own hown4 rfl (by omega))
    have HCK := Lib.hid hck
    have HO4 := Lib.hid (own_below HO3.out hb4)
    have hs34 := hb4.size
    clear hck hown4 hb4
    go_wp2_with fail
    refine (plain_Mod _ 2400 _ (by decide) (by decide)).mono ?_
    rintro e _ ⟨rfl, rfl⟩
    obtain ⟨m, em⟩ : ∃ q, m0 % 2400 = q := ⟨_, rfl⟩
    have lm : 0 ≤ m := by rw [← em]; exact Int.emod_nonneg _ (by decide)
    have um : m < 2400 := by rw [← em]; exact Int.emod_lt_of_pos _ (by decide)
    rw [em]
    clear em
    obtain ⟨n, hn⟩ : ∃ n, xs.length = n := ⟨_, rfl⟩
    rw [hn] at HS4 HS3 HO3 HO4 hx6 ⊢
    have HN := Lib.hid hn
    clear hn
    clear HS3 HO3
    rcases Nat.eq_zero_or_pos n with h00 | h00
    · subst h00
      go_wp2_with fail
      refine (rec_awake _).mono ?_
      rintro e w5 ⟨rfl, hb5⟩
      have HB5 := Lib.hid (below_then HB4.out hb5)
      clear hb5
      have hbz := HB5.out
      go_wp2
      go_ret
      exact ⟨rfl, (by repeat (first | (with_reducible exact Below.refl _ _) | (with_reducible assumption) | (with_reducible refine below_drewN ?_ _) | (with_reducible refine Below.drew ?_) | (with_reducible refine Below.alloc ?_ ?_ _) | (with_reducible refine Below.setCell ?_ ?_ _) | exact Below.refl _ _ | assumption | (solve | omega | simp | (simp; omega))))⟩
    · have z0 : ((n : Int) == 0) = false := beq_eq_false_iff_ne.2 (by omega)
      have z1 : (n == 0) = false := beq_eq_false_iff_ne.2 (by omega)
      have hmo := fun W => ref_ValidMonth m W
      rw [inB_iff.2 ⟨lm, by omega⟩] at hmo
      have HMO := Lib.hid hmo
      clear hmo
      go_wp2_with fail
      refine (HMO.out _).mono ?_
      rintro e _ ⟨rfl, rfl⟩
      go_wp2_with fail
      refine (plain_ModN ak (n : Int) _ (by omega) (by omega)).mono ?_
      rintro e w' ⟨kk, rfl, hkk, rfl⟩
      have hkn : kk < n := by omega
      have HIM : Hid (inB 0 2399 m = true) := Lib.hid (inB_iff.2 ⟨lm, by omega⟩)
      have hR0 := offR_yes (xs := xs) (l := rt) (m := m) HPO.out HIM.out HCK.out HG.out
      obtain ⟨ts, hts⟩ : ∃ ts, (offA ⟨gs, 1 + gc, go, 0⟩ rt m (srt xs)).2 = ts := ⟨_, rfl⟩
      rw [hts] at hR0
      have hRl : ts.length ≤ 6 := by have := offR_len ⟨gs, 1 + gc, go, 0⟩ xs rt m; rw [hR0] at this; exact this
      have HRR := Lib.hid hR0
      clear hR0 hts
      obtain ⟨cP, qP⟩ := HX4.out.of
      have hof5 := rec_Offsets gs (1 + gc) go 0 xs n A3 c3 _ rt m _ HN.out (by omega) HS4.out HT4.out
      rw [HRR.out] at hof5
      have HOF5 := Lib.hid hof5
      clear hof5
      go_wp2_with fail
      refine (HOF5.out).mono ?_
      rintro e w5 ⟨v5, rfl, ht5, hb5⟩
      obtain ⟨A5, c5, rfl⟩ := ht5.cut
      have HB5 := Lib.hid (below_then HB4.out hb5)
      have HTT5 := Lib.hid ht5
      have HX5 := Lib.hid (HX4.out.below hb5)
      have HT5 := Lib.hid (HT4.out.below hb5)
      have HO5 := Lib.hid (own_below HO4.out hb5)
      have hs45 := hb5.size
      clear ht5 hb5 cP qP
      obtain ⟨g, rfl, hat, hgl, hc3⟩ := own_row4 HO5.out HN.out h00
      obtain ⟨aa, has⟩ : ∃ aa, xs.take kk = aa := ⟨_, rfl⟩
      obtain ⟨bs, hbs⟩ : ∃ bs, xs.drop kk = bs := ⟨_, rfl⟩
      have hab : aa ++ bs = xs := by rw [← has, ← hbs]; exact List.take_append_drop _ _
      have hal : aa.length = kk := by rw [← has, List.length_take, HN.out]; omega
      have hbl : bs.length = n - kk := by rw [← hbs, List.length_drop, HN.out]
      have hda : StAt w5 g 0 aa := by rw [← has]; exact hat.take
      have hdb : StAt w5 g (kk * 4) bs := by
        have h := hat.drop (k := kk)
        rw [Nat.zero_add, hbs] at h
        exact h
      have HRH : Hid (offR ⟨gs, 1 + gc, go, 0⟩ (bs ++ aa) rt m = (ts, 0)) := Lib.hid ((offR_perm (xs := aa ++ bs) List.perm_append_comm).trans (by rw [hab]; exact HRR.out))
      have N1 : Hid (∀ j u, (stCells bs)[j]? = some u → w5.drew.cell? ((⟨g, kk * 4, none⟩ : Addr).add j) = some u) := Lib.hid (st_cells_at (w := w5.drew) hdb)
      have N2 : Hid (∀ j u, (stCells aa)[j]? = some u → w5.drew.cell? ((⟨g, 0, none⟩ : Addr).add j) = some u) := Lib.hid (st_cells_at (w := w5.drew) hda)
      have L1 : Hid ((stCells bs).length = (n - kk) * 4) := Lib.hid (by rw [stCells_len, hbl])
      have L2 : Hid ((stCells aa).length = kk * 4) := Lib.hid (by rw [stCells_len, hal])
      have HLN : Hid ((bs ++ aa).length = n) := Lib.hid (by rw [List.length_append, hal, hbl]; omega)
      clear has hbs hab hal hbl hda hdb hat
      have e1 : ¬ c3 = kk := by omega
      have e2 : kk ≤ c3 := by omega
      have e3 : kk ≤ n := by omega
      have e4 : (kk : Int) ≤ (n : Int) := by omega
      have e5 : (kk : Int) ≤ (c3 : Int) := by omega
      have e6 : ¬ c3 = 0 := by omega
      have e7 : (0 : Int) ≤ (kk : Int) := by omega
      have hBl := HX5.out.lt
      have y0 : w5.cell? ⟨B, 0, none⟩ = some (.int .i64 gs) := HX5.out.cell 0
      have y1 : w5.cell? ⟨B, 1, none⟩ = some (.int .i64 (1 + gc)) := HX5.out.cell 1
      have y2 : w5.cell? ⟨B, 2, none⟩ = some (.int .i64 go) := HX5.out.cell 2
      have y3 : w5.cell? ⟨B, 3, none⟩ = some (.int .i64 0) := HX5.out.cell 3
      go_upto_region 7 with (fail)
      go_cut [18, 19] (fun v z wx => z = .int .i64 0 ∧ TrTab wx v ts ∧ Below w.heap.size w wx ∧ Below w5.heap.size w5 wx)
      case first =>
        go_region_law (first
          | (refine step_append_at _ rfl (.const (.slice none 0 0)) (.tmp 62) 34 rfl w5.heap.size 33 j0 (.agg #[.int .i64 0, .int .i64 0, .int .i64 0, .int .i64 0]) 4 32 Try.underlying34 hj hy0 hy1 hy2 rfl (by decide) (.slice none 0 0) 0 [] (by first | (simp [Act.eval]; done) | (simp [Act.eval, Act.put]; done)) (show w5.drew.ownsRow w5.heap.size 33 4 (.slice none 0 0) 0 [] from ⟨rfl, .inl ⟨rfl, rfl⟩⟩) ⟨g, kk * 4, none⟩ (n - kk) (c3 - kk) (stCells bs) (by first | (simp [Act.eval]; done) | (simp [Act.eval, Act.put]; done)) L1.out N1.out (one_st _) (by unfold maxLen; omega) (by omega) (Nat.le_refl _) ?_; intro v6 w6 hown6 hgrow6; try simp only [Nat.zero_add, List.nil_append] at hown6; have B6 := (Below.refl w5.heap.size w5).drew.grown hgrow6 (Nat.le_refl _) (fun g hg => by simp [Value.ownBlock] at hg); have N3 : Hid (∀ j u, (stCells aa)[j]? = some u → w6.cell? ((⟨g, 0, none⟩ : Addr).add j) = some u) := Lib.hid (fun j u hu => (B6.cell (p := (⟨g, 0, none⟩ : Addr).add j) (by rw [Go.WideShapes.add_plain]; exact hgl)).trans (N2.out j u hu)); have yw60 : w6.cell? ⟨B, 0, none⟩ = some (.int .i64 gs) := (B6.cell (p := ⟨B, 0, none⟩) hBl).trans y0; have yw61 : w6.cell? ⟨B, 1, none⟩ = some (.int .i64 (1 + gc)) := (B6.cell (p := ⟨B, 1, none⟩) hBl).trans y1; have yw62 : w6.cell? ⟨B, 2, none⟩ = some (.int .i64 go) := (B6.cell (p := ⟨B, 2, none⟩) hBl).trans y2; have yw63 : w6.cell? ⟨B, 3, none⟩ = some (.int .i64 0) := (B6.cell (p := ⟨B, 3, none⟩) hBl).trans y3; have HO6 := Lib.hid hown6; have HB6 := Lib.hid B6; clear hown6 hgrow6 B6)
          | (refine step_append_at _ rfl (.tmp 63) (.tmp 66) 34 rfl w5.heap.size 33 j0 (.agg #[.int .i64 0, .int .i64 0, .int .i64 0, .int .i64 0]) 4 32 Try.underlying34 hj hy0 hy1 hy2 rfl (by decide) v6 (n - kk) (stCells bs) (by first | (simp [Act.eval]; done) | (simp [Act.eval, Act.put]; done)) HO6.out ⟨g, 0, none⟩ kk c3 (stCells aa) (by first | (simp [Act.eval]; done) | (simp [Act.eval, Act.put]; done)) L2.out N3.out (one_st _) (by unfold maxLen; omega) (by omega) HB6.out.size ?_; intro v7 w7 hown7 hgrow7; rw [← stCells_app, (by omega : n - kk + kk = n)] at hown7; have B7 := HB6.out.grown hgrow7 HB6.out.size (fun g hg => own_base HO6.out hg); obtain ⟨A7, c7, rfl⟩ := own_slice hown7; have yw70 : w7.cell? ⟨B, 0, none⟩ = some (.int .i64 gs) := (B7.cell (p := ⟨B, 0, none⟩) hBl).trans y0; have yw71 : w7.cell? ⟨B, 1, none⟩ = some (.int .i64 (1 + gc)) := (B7.cell (p := ⟨B, 1, none⟩) hBl).trans y1; have yw72 : w7.cell? ⟨B, 2, none⟩ = some (.int .i64 go) := (B7.cell (p := ⟨B, 2, none⟩) hBl).trans y2; have yw73 : w7.cell? ⟨B, 3, none⟩ = some (.int .i64 0) := (B7.cell (p := ⟨B, 3, none⟩) hBl).trans y3; have hof7 := rec_Offsets gs (1 + gc) go 0 (bs ++ aa) n A7 c7 _ rt m w7 HLN.out (by omega) (StTab.own hown7 HLN.out) (HT5.out.below B7); rw [HRH.out] at hof7; have HOF7 := Lib.hid hof7; have HB7 := Lib.hid B7; clear hown7 hgrow7 B7 hof7)
          | (go_simp; go_at_call 19; refine (HOF7.out).mono ?_; rintro e wz ⟨vz, rfl, htz, hbz⟩; have HTZ := Lib.hid htz; have HBZ := Lib.hid (below_then HB7.out hbz); clear htz hbz))
        all_goals
          go_wp2_with fail
          go_meet
          exact ⟨rfl, HTZ.out, below_then HB5.out HBZ.out, HBZ.out⟩
      case rest =>
        obtain ⟨rfl, htz, hbw, hb5⟩ := hcut
        obtain ⟨A8, c8, rfl⟩ := htz.cut
        have HTZ := Lib.hid htz
        have HBW := Lib.hid hbw
        have HTA := Lib.hid (HTT5.out.below hb5)
        clear htz hbw hb5 N1 N2 L1 L2 y0 y1 y2 y3
        go_wp2_with fail
        refine (rec_awake _).mono ?_
        rintro e w8 ⟨rfl, hb8⟩
        have HB8 := Lib.hid (below_then HBW.out hb8)
        have HSM := Lib.hid (plain_SameT ts _ _ _ (HTA.out.below hb8) (HTZ.out.below hb8) (by omega))
        clear hb8
        go_wp2_with fail
        refine (HSM.out).mono ?_
        rintro e w9 ⟨rfl, hb9⟩
        have HB9 := Lib.hid (below_then HB8.out hb9)
        clear hb9
        have hbz := HB9.out
        go_wp2
        go_ret
        exact ⟨rfl, (by repeat (first | (with_reducible exact Below.refl _ _) | (with_reducible assumption) | (with_reducible refine below_drewN ?_ _) | (with_reducible refine Below.drew ?_) | (with_reducible refine Below.alloc ?_ ?_ _) | (with_reducible refine Below.setCell ?_ ?_ _) | exact Below.refl _ _ | assumption | (solve | omega | simp | (simp; omega))))⟩
end Go.Proofs.Ytaifacnpnhcdcaa
