/-
  ReductionIgnoresOrder: the walk.
-/
import Derived.Test.YthpknbflmcoanaaDoorOwnW
import Derived.Test.YthpknbflmcoanaaDoorRot
namespace Go.Proofs.YthpknbflmcoanaaDoor
open Go.RowKit Mny

theorem OwnG.cut' {w : World} {base : Nat} {v : Value} {ys : List Gr} (h : OwnG w base v ys) : ∃ A c, v = .slice A ys.length c := by
  rcases h with ⟨rfl, rfl⟩ | ⟨g, cap, ar, rfl, _⟩
  · exact ⟨_, _, rfl⟩
  · exact ⟨_, _, rfl⟩
theorem OwnG.rowAt' {w : World} {base n c k : Nat} {A : Option Addr} {ys : List Gr} {r : Gr} (h : OwnG w base (.slice A n c) ys) (hk : ys[k]? = some r) : ∃ g ar, A = some ⟨g, 0, none⟩ ∧ base ≤ g ∧ Bx w g 27 ar ∧ RowsIn ar ys ∧ n ≤ c ∧ ys.length = n := by
  rcases h with ⟨_, rfl⟩ | ⟨g, cap, ar, he, h1, h2, h3, h4⟩
  · cases hk
  · injection he with e1 e2 e3
    subst e2 e3
    exact ⟨g, ar, e1, h1, h2, h3, h4, rfl⟩
theorem own_base {w : World} {base n size g : Nat} {e : TypeId} {v : Value} {xs : List Value} (h : w.ownsRow base e size v n xs) (hg : v.ownBlock = some g) : base ≤ g := by
  rcases h.2 with ⟨rfl, _⟩ | ⟨g', cap, cur, rfl, h1, _⟩
  · simp [Value.ownBlock] at hg
  · simp [Value.ownBlock] at hg
    omega
theorem NetTab.rowAt' {w : World} {A : Option Addr} {n c k : Nat} {ds : List Nt} {r : Nt} (h : NetTab w (.slice A n c) ds) (hk : ds[k]? = some r) : ∃ b off, A = some ⟨b, off, none⟩ ∧ NetAt w b off ds ∧ b < w.heap.size ∧ n ≤ c := by
  rcases h with ⟨A', c', _, rfl⟩ | ⟨b, off, n', c', he, _, h1, h2, h3⟩
  · cases hk
  · injection he with e1 e2 e3
    subst e2 e3
    exact ⟨b, off, e1, h1, h2, h3⟩

set_option maxRecDepth 100000 in
set_option maxHeartbeats 16000000 in
theorem walk_ReductionIgnoresOrder (v0 v1 : Value) (m ak : Int) (W : World) (h0 : RawTb W v0) (h1 : IntsIn W v1) (hD : DownAt W) : Calls Tryd.prog 13 #[v0, v1, .int .i64 m, .int .i64 ak] W fun e w' => e = .returned (.bool true) ∧ Below W.heap.size W w' := by
  have HI := Lib.hid h1
  have HD := Lib.hid hD
  clear h1 hD
  obtain ⟨j0, hj, hy0, hy1, hy2⟩ := info_parts info_gross
  obtain ⟨i0, hi, hz0, hz1, hz2⟩ := info_parts info_net
  go_enter Tryd.func13, Tryd.ntmps13
  go_wp2_with fail
  refine (law_List v0 W h0).mono ?_
  rintro e w1 ⟨va, xs, rfl, hx9, hgt, hown, hb1⟩
  have HB1 := Lib.hid hb1
  have HG1 := Lib.hid (GTb.own hown rfl (by omega))
  have HVG := Lib.hid (hgt.val hx9)
  have HOW := Lib.hid (OwnG.of hown rfl)
  clear hb1 hown hgt
  have hs1 := HB1.out.size
  go_wp2_with fail
  refine (plain_Rates v1 _ (HI.out.below HB1.out)).mono ?_
  rintro e w2 ⟨vb, rt, rfl, hck, hr6, htab, hb2⟩
  have HBR := Lib.hid hb2; have HB2 := Lib.hid (below_then HB1.out hb2)
  have HG := Lib.hid (HG1.out.below hb2)
  have HT := Lib.hid htab
  have HCK := Lib.hid hck
  clear hb2 htab hck hr6
  have hs2 := HB2.out.size
  have HD2 := Lib.hid (HD.out.below HB2.out)
  go_wp2_with fail
  refine (plain_Mod _ 2400 _ (by decide) (by decide)).mono ?_
  rintro e w' ⟨rfl, rfl⟩
  obtain ⟨mm, hmm⟩ : ∃ q, m % 2400 = q := ⟨_, rfl⟩
  have mm0 : 0 ≤ mm := by rw [← hmm]; exact Int.emod_nonneg _ (by decide)
  have mm1 : mm ≤ 2399 := by have := Int.emod_lt_of_pos m (show (0 : Int) < 2400 by decide); omega
  rw [hmm]
  clear hmm
  have HDB := Lib.hid (ded_all HVG.out HCK.out mm0 mm1)
  have HDE := Lib.hid (appR_yes HDB.out).2
  have HAP := Lib.hid (appR_yes HDB.out).1
  have HO2 : Hid (OwnG w2 W.heap.size va xs) := Lib.hid (HOW.out.below HBR.out)
  obtain ⟨A0, c0, rfl⟩ := HO2.out.cut'
  obtain ⟨n, hn⟩ : ∃ n, xs.length = n := ⟨_, rfl⟩
  have HN := Lib.hid hn
  rw [hn] at HO2 HG hx9 ⊢
  clear hn HOW HG1
  rcases Nat.eq_zero_or_pos n with h00 | h00
  · subst h00
    go_wp2_with fail
    refine (red_awake _ HD2.out).mono ?_
    rintro e w3 ⟨rfl, hb3⟩
    have HB3 := Lib.hid (below_then HB2.out hb3)
    clear hb3
    have hbz := HB3.out
    go_wp2
    go_ret
    exact ⟨rfl, (by repeat (first | (with_reducible exact Below.refl _ _) | (with_reducible assumption) | (with_reducible refine below_drewN ?_ _) | (with_reducible refine Below.drew ?_) | (with_reducible refine Below.alloc ?_ ?_ _) | (with_reducible refine Below.setCell ?_ ?_ _) | exact Below.refl _ _ | assumption | (solve | omega | simp | (simp; omega))))⟩
  · have z0 : ((n : Int) == 0) = false := beq_eq_false_iff_ne.2 (by omega)
    have z1 : (n == 0) = false := beq_eq_false_iff_ne.2 (by omega)
    go_wp2_with fail
    refine (plain_ModN ak (n : Int) _ (by omega) (by omega)).mono ?_
    rintro e w' ⟨kk, rfl, hkk, rfl⟩
    have hkn : kk < n := by omega
    obtain ⟨r, hr⟩ : ∃ r, xs[kk]? = some r := ⟨xs[kk]'(by rw [HN.out]; exact hkn), List.getElem?_eq_getElem _⟩
    obtain ⟨g, ar, rfl, hg, hx, hri, hc, _⟩ := HO2.out.rowAt' hr
    have hgr := hri.gross hx
    have hgl := hx.lt
    clear hr hx hri
    obtain ⟨aa, has⟩ : ∃ aa, xs.take kk = aa := ⟨_, rfl⟩
    obtain ⟨bs, hbs⟩ : ∃ bs, xs.drop kk = bs := ⟨_, rfl⟩
    have hab : aa ++ bs = xs := by rw [← has, ← hbs]; exact List.take_append_drop _ _
    have hal : aa.length = kk := by rw [← has, List.length_take, HN.out]; omega
    have hbl : bs.length = n - kk := by rw [← hbs, List.length_drop, HN.out]
    have hda : GrossAt w2 g 0 aa := by rw [← has]; exact hgr.take
    have hdb : GrossAt w2 g (kk * 7) bs := by
      have h := hgr.drop (k := kk)
      rw [Nat.zero_add, hbs] at h
      exact h
    subst hab
    have HAL := Lib.hid hal
    have HBL := Lib.hid hbl
    have N1 : Hid (∀ j u, (grCells bs)[j]? = some u → w2.drew.cell? ((⟨g, kk * 7, none⟩ : Addr).add j) = some u) := Lib.hid (gross_cells_at (w := w2.drew) hdb)
    have N2 : Hid (∀ j u, (grCells aa)[j]? = some u → w2.drew.cell? ((⟨g, 0, none⟩ : Addr).add j) = some u) := Lib.hid (gross_cells_at (w := w2.drew) hda)
    have L1 : Hid ((grCells bs).length = (n - kk) * 7) := Lib.hid (by rw [grCells_len, hbl])
    have L2 : Hid ((grCells aa).length = kk * 7) := Lib.hid (by rw [grCells_len, hal])
    clear has hbs hal hbl hda hdb hgr
    have e1 : ¬ c0 = kk := by omega
    have e2 : kk ≤ c0 := by omega
    have e3 : kk ≤ n := by omega
    have e4 : (kk : Int) ≤ (n : Int) := by omega
    have e5 : (kk : Int) ≤ (c0 : Int) := by omega
    have e6 : ¬ c0 = 0 := by omega
    have e7 : (0 : Int) ≤ (kk : Int) := by omega
    go_upto_region 5 with (fail)
    go_cut [13] (fun v wx => ∃ A c, v = .slice A n c ∧ wx.ownsRow w2.heap.size 27 7 (.slice A n c) n (grCells (bs ++ aa)) ∧ Below w2.heap.size w2 wx)
    case first =>
      go_region_law (first
        | (refine step_append_at _ rfl (.const (.slice none 0 0)) (.tmp 34) 22 rfl w2.heap.size 27 j0 (.agg #[.int .i64 0, .int .i64 0, .int .i64 0, .int .i64 0, .int .i64 0, .int .i64 0, .int .i64 0]) 7 56 Tryd.underlying22 hj hy0 hy1 hy2 rfl (by decide) (.slice none 0 0) 0 [] (by first | (simp [Act.eval]; done) | (simp [Act.eval, Act.put]; done)) (show w2.drew.ownsRow w2.heap.size 27 7 (.slice none 0 0) 0 [] from ⟨rfl, .inl ⟨rfl, rfl⟩⟩) ⟨g, kk * 7, none⟩ (n - kk) (c0 - kk) (grCells bs) (by first | (simp [Act.eval]; done) | (simp [Act.eval, Act.put]; done)) L1.out N1.out (one_gr _) (by unfold maxLen; omega) (by omega) (Nat.le_refl _) ?_; intro v3 w3 hown3 hgrow3; try simp only [Nat.zero_add, List.nil_append] at hown3; have B3 := (Below.refl w2.heap.size w2).drew.grown hgrow3 (Nat.le_refl _) (fun g hg => by simp [Value.ownBlock] at hg); have N3 : Hid (∀ j u, (grCells aa)[j]? = some u → w3.cell? ((⟨g, 0, none⟩ : Addr).add j) = some u) := Lib.hid (fun j u hu => (B3.cell (p := (⟨g, 0, none⟩ : Addr).add j) (by rw [Go.WideShapes.add_plain]; exact hgl)).trans (N2.out j u hu)); have HO3 := Lib.hid hown3; have HB3 := Lib.hid B3; clear hown3 hgrow3 B3)
        | (refine step_append_at _ rfl (.tmp 35) (.tmp 38) 22 rfl w2.heap.size 27 j0 (.agg #[.int .i64 0, .int .i64 0, .int .i64 0, .int .i64 0, .int .i64 0, .int .i64 0, .int .i64 0]) 7 56 Tryd.underlying22 hj hy0 hy1 hy2 rfl (by decide) v3 (n - kk) (grCells bs) (by first | (simp [Act.eval]; done) | (simp [Act.eval, Act.put]; done)) HO3.out ⟨g, 0, none⟩ kk c0 (grCells aa) (by first | (simp [Act.eval]; done) | (simp [Act.eval, Act.put]; done)) L2.out N3.out (one_gr _) (by unfold maxLen; omega) (by omega) HB3.out.size ?_; intro v4 w4 hown4 hgrow4; rw [← grCells_app, (by omega : n - kk + kk = n)] at hown4; have B4 := HB3.out.grown hgrow4 HB3.out.size (fun g hg => own_base HO3.out hg); obtain ⟨A4, c4, rfl⟩ := own_slice hown4; have HO4 := Lib.hid hown4; have HB4 := Lib.hid B4; clear hown4 hgrow4 B4))
      all_goals
        go_wp2_with fail
        go_meet
        exact ⟨_, _, rfl, HO4.out, HB4.out⟩
    case rest =>
      obtain ⟨A4, c4, rfl, hown, hbl⟩ := hcut
      have HBc := Lib.hid hbl
      have HOH := Lib.hid hown
      have hsc := hbl.size
      clear hown hbl N1 N2 L1 L2
      obtain ⟨w4, e9⟩ : ∃ q, q = wc := ⟨_, rfl⟩
      subst e9
      have HGH := Lib.hid (GTb.own HOH.out (by rw [List.length_append, HBL.out, HAL.out]; omega) (by omega))
      have HVH := Lib.hid HVG.out.rot
      have HAH := Lib.hid (appR_yes (ded_all HVH.out HCK.out mm0 mm1)).1
      have hrot := netS_rot (a := aa) (b := bs) (rt := rt) (m := mm) (fun z hz => (okG.bd (HVG.out.ok hz)).1.1)
      have HROT := Lib.hid hrot
      clear hrot
      have h5 := red_Apply (HG.out.below HBc.out) (HT.out.below HBc.out) (HD2.out.below HBc.out) mm
      rw [HAP.out, HROT.out.1] at h5
      have H5 := Lib.hid h5
      clear h5
      go_wp2_with fail
      refine (H5.out).mono ?_
      rintro e w5 ⟨vn, rfl, hnt, hb5⟩
      have HB5 := Lib.hid (below_then HBc.out hb5)
      have HN5 := Lib.hid hnt
      have HGH5 := Lib.hid (HGH.out.below hb5)
      clear hnt hb5
      have h6 := red_Apply HGH5.out (HT.out.below HB5.out) (HD2.out.below HB5.out) mm
      rw [HAH.out, HROT.out.2] at h6
      have H6 := Lib.hid h6
      clear h6
      go_wp2_with fail
      refine (H6.out).mono ?_
      rintro e w6 ⟨vx, rfl, hxt, hb6⟩
      have HB6 := Lib.hid (below_then HB5.out hb6)
      have HX6 := Lib.hid hxt
      have HN6 := Lib.hid (HN5.out.below hb6)
      clear hxt hb6
      go_wp2_with fail
      refine (red_awake _ (HD2.out.below HB6.out)).mono ?_
      rintro e w7 ⟨rfl, hb7⟩
      have HB7 := Lib.hid (below_then HB6.out hb7)
      have HX7 := Lib.hid (HX6.out.below hb7)
      have HN7 := Lib.hid (HN6.out.below hb7)
      clear hb7
      have hs7 := HB7.out.size
      obtain ⟨fn, hfn⟩ : ∃ f, netG (aa ++ bs) rt mm = f := ⟨_, rfl⟩
      rw [hfn] at HX7 HN7
      clear hfn
      obtain ⟨ms, hms⟩ : ∃ ms, aa.map fn = ms := ⟨_, rfl⟩
      obtain ⟨ns, hns⟩ : ∃ ns, bs.map fn = ns := ⟨_, rfl⟩
      rw [hms, hns] at HX7 HN7
      have hml : ms.length = kk := by rw [← hms, List.length_map]; exact HAL.out
      have hnl : ns.length = n - kk := by rw [← hns, List.length_map]; exact HBL.out
      clear hms hns
      have hl1 : (ms ++ ns).length = n := by rw [List.length_append, hml, hnl]; omega
      have hl2 : (ns ++ ms).length = n := by rw [List.length_append, hml, hnl]; omega
      obtain ⟨A1, c1, rfl⟩ := HN7.out.cut
      obtain ⟨A2, c2, rfl⟩ := HX7.out.cut
      rw [hl1] at HN7 ⊢
      rw [hl2] at HX7 ⊢
      obtain ⟨r, hr⟩ : ∃ r, (ms ++ ns)[0]? = some r := ⟨(ms ++ ns)[0]'(by rw [hl1]; exact h00), List.getElem?_eq_getElem _⟩
      obtain ⟨b1, o1, rfl, hat, hbl1, hc1⟩ := HN7.out.rowAt' hr
      clear hr
      have hda : NetAt w7 b1 o1 ms := by
        have h := hat.take (k := kk)
        rw [List.take_append_of_le_length (by rw [hml]; exact Nat.le_refl _), ← hml, List.take_length] at h
        exact h
      have hdb : NetAt w7 b1 (o1 + kk * 7) ns := by
        have h := hat.drop (k := kk)
        rw [← hml, List.drop_left] at h
        rw [← hml]
        exact h
      have N1 : Hid (∀ j u, (neCells ns)[j]? = some u → w7.drew.cell? ((⟨b1, o1 + kk * 7, none⟩ : Addr).add j) = some u) := Lib.hid (net_cells_at (w := w7.drew) hdb)
      have N2 : Hid (∀ j u, (neCells ms)[j]? = some u → w7.drew.cell? ((⟨b1, o1, none⟩ : Addr).add j) = some u) := Lib.hid (net_cells_at (w := w7.drew) hda)
      have L1 : Hid ((neCells ns).length = (n - kk) * 7) := Lib.hid (by rw [neCells_len, hnl])
      have L2 : Hid ((neCells ms).length = kk * 7) := Lib.hid (by rw [neCells_len, hml])
      have HL2 := Lib.hid hl2
      clear hda hdb hat hl1 hl2 hml hnl e1 e2 e5 e6
      have e1 : ¬ c1 = kk := by omega
      have e2 : kk ≤ c1 := by omega
      have e5 : (kk : Int) ≤ (c1 : Int) := by omega
      have e6 : ¬ c1 = 0 := by omega
      have ce : ((n : Int) != (n : Int)) = false := by simp
      have ce2 : (n != n) = false := by simp
      have HBY := Lib.hid (HB2.out.trans (HB7.out.mono hs2))
      go_upto_region 10 with (fail)
      go_cut [8] (fun v wx => v = .bool true ∧ Below W.heap.size W wx)
      case first =>
        go_region_law (first
          | (refine step_append_at _ rfl (.const (.slice none 0 0)) (.tmp 80) 51 rfl w7.heap.size 60 i0 (.agg #[.int .i64 0, .int .i64 0, .int .i64 0, .int .i64 0, .int .i64 0, .int .i64 0, .int .i64 0]) 7 56 Tryd.underlying51 hi hz0 hz1 hz2 rfl (by decide) (.slice none 0 0) 0 [] (by first | (simp [Act.eval]; done) | (simp [Act.eval, Act.put]; done)) (show w7.drew.ownsRow w7.heap.size 60 7 (.slice none 0 0) 0 [] from ⟨rfl, .inl ⟨rfl, rfl⟩⟩) ⟨b1, o1 + kk * 7, none⟩ (n - kk) (c1 - kk) (neCells ns) (by first | (simp [Act.eval]; done) | (simp [Act.eval, Act.put]; done)) L1.out N1.out (one_ne _) (by unfold maxLen; omega) (by omega) (Nat.le_refl _) ?_; intro v8 w8 hown8 hgrow8; try simp only [Nat.zero_add, List.nil_append] at hown8; have B8 := (Below.refl w7.heap.size w7).drew.grown hgrow8 (Nat.le_refl _) (fun g hg => by simp [Value.ownBlock] at hg); have N3 : Hid (∀ j u, (neCells ms)[j]? = some u → w8.cell? ((⟨b1, o1, none⟩ : Addr).add j) = some u) := Lib.hid (fun j u hu => (B8.cell (p := (⟨b1, o1, none⟩ : Addr).add j) (by rw [Go.WideShapes.add_plain]; exact hbl1)).trans (N2.out j u hu)); have HO8 := Lib.hid hown8; have HB8 := Lib.hid B8; clear hown8 hgrow8 B8)
          | (refine step_append_at _ rfl (.tmp 81) (.tmp 84) 51 rfl w7.heap.size 60 i0 (.agg #[.int .i64 0, .int .i64 0, .int .i64 0, .int .i64 0, .int .i64 0, .int .i64 0, .int .i64 0]) 7 56 Tryd.underlying51 hi hz0 hz1 hz2 rfl (by decide) v8 (n - kk) (neCells ns) (by first | (simp [Act.eval]; done) | (simp [Act.eval, Act.put]; done)) HO8.out ⟨b1, o1, none⟩ kk c1 (neCells ms) (by first | (simp [Act.eval]; done) | (simp [Act.eval, Act.put]; done)) L2.out N3.out (one_ne _) (by unfold maxLen; omega) (by omega) HB8.out.size ?_; intro v9 w9 hown9 hgrow9; rw [← neCells_app, (by omega : n - kk + kk = n)] at hown9; have B9 := HB8.out.grown hgrow9 HB8.out.size (fun g hg => own_base HO8.out hg); obtain ⟨A9, c9, rfl⟩ := own_slice hown9; have HS9 := Lib.hid (plain_SameN _ _ _ w9 (NetTab.own hown9 HL2.out) (HX7.out.below B9) (by rw [HL2.out]; omega)); have HB9 := Lib.hid B9; clear hown9 hgrow9 B9)
          | (go_simp; go_at_call 36; refine (HS9.out).mono ?_; rintro e wz ⟨rfl, hbz⟩; have HBZ := Lib.hid (HBY.out.trans ((below_then HB9.out hbz).mono (by have := HBY.out.size; omega))); clear hbz))
        all_goals
          go_wp2_with fail
          go_meet
          exact ⟨rfl, HBZ.out⟩
      case rest =>
        obtain ⟨rfl, hbl⟩ := hcut
        go_wp2
        go_ret
        exact ⟨rfl, (by repeat (first | (with_reducible exact Below.refl _ _) | (with_reducible assumption) | (with_reducible refine below_drewN ?_ _) | (with_reducible refine Below.drew ?_) | (with_reducible refine Below.alloc ?_ ?_ _) | (with_reducible refine Below.setCell ?_ ?_ _) | exact Below.refl _ _ | assumption | (solve | omega | simp | (simp; omega))))⟩
end Go.Proofs.YthpknbflmcoanaaDoor
