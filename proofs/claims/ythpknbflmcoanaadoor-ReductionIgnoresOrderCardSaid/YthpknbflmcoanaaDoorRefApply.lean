/-
  The contract of the reference's Apply.
-/
import Derived.Test.YthpknbflmcoanaaDoorGtb
import Derived.Test.YthpknbflmcoanaaDoorSame
import Derived.Maps.AppendAt
namespace Go.Proofs.YthpknbflmcoanaaDoor
open Go.RowKit Mny

/-- the cells of net benefits -/
def neCells (l : List Nt) : List Value := l.flatMap fun r => [.int .i64 r.s, .int .i64 r.b, .int .i64 r.c, .int .i64 r.i, .int .i64 r.p, .int .i64 r.d, .int .i64 r.a]
theorem neCells_len (l : List Nt) : (neCells l).length = l.length * 7 := by
  induction l with
  | nil => rfl
  | cons r l ih => simp only [neCells, List.flatMap_cons, List.length_append, List.length_cons, List.length_nil] at *; omega
theorem neCells_snoc (l : List Nt) (r : Nt) : neCells (l ++ [r]) = neCells l ++ [.int .i64 r.s, .int .i64 r.b, .int .i64 r.c, .int .i64 r.i, .int .i64 r.p, .int .i64 r.d, .int .i64 r.a] := by simp [neCells]
theorem neCells_at {l : List Nt} : ∀ {k : Nat} {r : Nt}, l[k]? = some r → (neCells l)[k * 7]? = some (.int .i64 r.s) ∧ (neCells l)[k * 7 + 1]? = some (.int .i64 r.b) ∧ (neCells l)[k * 7 + 2]? = some (.int .i64 r.c) ∧ (neCells l)[k * 7 + 3]? = some (.int .i64 r.i) ∧ (neCells l)[k * 7 + 4]? = some (.int .i64 r.p) ∧ (neCells l)[k * 7 + 5]? = some (.int .i64 r.d) ∧ (neCells l)[k * 7 + 6]? = some (.int .i64 r.a) := by
  induction l with
  | nil => intro k r h; cases h
  | cons s l ih =>
    intro k r h
    cases k with
    | zero => injection h with h; subst h; exact ⟨rfl, rfl, rfl, rfl, rfl, rfl, rfl⟩
    | succ k =>
      obtain ⟨a0, a1, a2, a3, a4, a5, a6⟩ := ih (k := k) (r := r) (by simpa using h)
      have e : ∀ j, (neCells (s :: l))[(k + 1) * 7 + j]? = (neCells l)[k * 7 + j]? := fun j => by
        show ([.int .i64 s.s, .int .i64 s.b, .int .i64 s.c, .int .i64 s.i, .int .i64 s.p, .int .i64 s.d, .int .i64 s.a] ++ neCells l)[(k + 1) * 7 + j]? = _
        rw [List.getElem?_append_right (by simp; omega)]
        congr 1
        simp
        omega
      exact ⟨by rw [← Nat.add_zero ((k + 1) * 7), e]; exact a0, by rw [e]; exact a1, by rw [e]; exact a2, by rw [e]; exact a3, by rw [e]; exact a4, by rw [e]; exact a5, by rw [e]; exact a6⟩
theorem NetTab.own {w : World} {base n : Nat} {v : Value} {l : List Nt} (h : w.ownsRow base 60 7 v n (neCells l)) (hl : l.length = n) : NetTab w v l := by
  rcases h.2 with ⟨rfl, h0⟩ | ⟨g, cap, cur, rfl, _, hh, hc, _, _, ht⟩
  · exact .inl ⟨_, _, rfl, List.length_eq_zero_iff.1 (by omega)⟩
  · refine .inr ⟨g, 0, n, cap, rfl, hl, fun k r hk => ?_, Bx.lt hh, hc⟩
    have hk2 : k < l.length := (List.getElem?_eq_some_iff.1 hk).1
    obtain ⟨a0, a1, a2, a3, a4, a5, a6⟩ := neCells_at hk
    have e : ∀ j u, (neCells l)[j]? = some u → w.cell? ⟨g, 0 + j, none⟩ = some u := fun j u hj => by
      have hj2 := (List.getElem?_eq_some_iff.1 hj).1
      rw [neCells_len] at hj2
      rw [Nat.zero_add, Bx.cell hh, ← hj, ← ht, List.getElem?_take, if_pos (by omega), Array.getElem?_toList]
    exact ⟨e _ _ a0, e (k * 7 + 1) _ a1, e (k * 7 + 2) _ a2, e (k * 7 + 3) _ a3, e (k * 7 + 4) _ a4, e (k * 7 + 5) _ a5, e (k * 7 + 6) _ a6⟩

set_option maxRecDepth 100000 in
set_option maxHeartbeats 16000000 in
theorem ref_Apply {v tv : Value} {l : List Gr} {rt : List Rt} (w : World) (h : GTb w v l) (hT : Tab w tv rt) (m : Int) : Calls Tryd.prog 35 #[v, tv, .int .i64 m] w (NetOut w (appR l rt m).1 (appR l rt m).2) := by
  have HV := Lib.hid (ref_Deductions h hT m)
  clear hT
  cases hd : dedB l rt m
  · obtain ⟨ha, hde⟩ := appR_no hd
    rw [hde] at HV
    have HF := Lib.hid ha
    clear ha hde hd h
    go_enter Tryd.func35, Tryd.ntmps35
    go_wp2_with fail
    refine (HV.out).mono ?_
    rintro e w1 ⟨v1, rfl, hdt, hb1⟩
    clear hdt
    go_wp2
    refine bodyPost_ret (v := .tuple #[.slice none 0 0, .int .i64 1]) (by simp [results, Tryd.results35, go_sem]) rfl ⟨.slice none 0 0, by rw [HF.out], .inl ⟨_, _, rfl, by rw [HF.out]⟩, ?_⟩
    exact (by repeat (first | (with_reducible exact Below.refl _ _) | (with_reducible assumption) | (with_reducible refine below_drewN ?_ _) | (with_reducible refine Below.drew ?_) | (with_reducible refine Below.alloc ?_ ?_ _) | (with_reducible refine Below.setCell ?_ ?_ _) | exact Below.refl _ _ | assumption | (solve | omega | simp | (simp; omega))))
  · have hvb : valG l = true := by
      unfold dedB at hd
      simp only [Bool.and_eq_true] at hd
      exact hd.1
    have HVB := Lib.hid (valG_iff.1 hvb)
    have hn18 : l.length ≤ 18 := HVB.out.1
    obtain ⟨ha, hde⟩ := appR_yes hd
    rw [hde] at HV
    have HF := Lib.hid ha
    clear ha hde hd hvb
    obtain ⟨ds, hds⟩ : ∃ ds, dedS l rt m = ds := ⟨_, rfl⟩
    rw [hds] at HV HF
    have HOKD : Hid (∀ k r, ds[k]? = some r → OkD l.length r) := Lib.hid (by intro k r h; rw [← hds] at h; exact dedS_ok h)
    have hdl : ds.length ≤ 324 := by rw [← hds]; exact dedS_len hn18
    clear hds
    obtain ⟨A0, c0, rfl⟩ := h.cut
    have HG := Lib.hid h
    clear h
    obtain ⟨n, hn⟩ : ∃ n, l.length = n := ⟨_, rfl⟩
    have HN := Lib.hid hn
    rw [hn] at hn18 HV HG HOKD ⊢
    clear hn
    obtain ⟨j0, hj, hy0, hy1, hy2⟩ := info_parts info_net
    go_enter Tryd.func35, Tryd.ntmps35
    go_wp2_with fail
    refine (HV.out).mono ?_
    rintro e w1 ⟨v1, rfl, hdt, hb1⟩
    obtain ⟨A1, c1, rfl⟩ := hdt.cut
    obtain ⟨q, hq⟩ : ∃ q, ds.length = q := ⟨_, rfl⟩
    have HQ := Lib.hid hq
    rw [hq] at hdt hdl ⊢
    clear hq
    have HDT := Lib.hid hdt
    have HB1 := Lib.hid hb1
    clear hdt hb1
    have hs1 := HB1.out.size
    go_wp2
    go_loopw [10, 11] (fun s i wr => ∃ (k : Nat) (ys : List Nt) (A : Option Addr) (c9 : Nat), k ≤ n ∧ i = .int .i64 k ∧ s = .slice A ys.length c9 ∧ netK l ds k = ys ∧ ys.length = k ∧ wr.ownsRow w1.heap.size 60 7 (.slice A ys.length c9) ys.length (neCells ys) ∧ Below w1.heap.size w1 wr) (fun _ i _ => n - (intOf i).toNat)
    case atStart => exact ⟨0, [], none, 0, Nat.zero_le _, rfl, rfl, rfl, rfl, ⟨rfl, .inl ⟨rfl, rfl⟩⟩, Below.refl _ _⟩
    case round =>
      obtain ⟨k, ys, A, c9, hk, rfl, rfl, hys, hyl, hown, hbl⟩ := hrel
      have HYS := Lib.hid hys
      have HYL := Lib.hid hyl
      have hy18 : ys.length ≤ 18 := by omega
      have HO := Lib.hid hown
      have HB := Lib.hid hbl
      clear hys hyl hown hbl
      have hsz := HB.out.size
      by_cases hlt : k < n
      · obtain ⟨wo, eo⟩ : ∃ q, q = wr := ⟨_, rfl⟩
        subst eo
        obtain ⟨r, hr⟩ : ∃ r, l[k]? = some r := ⟨l[k]'(by rw [HN.out]; exact hlt), List.getElem?_eq_getElem _⟩
        have HK := Lib.hid hr
        obtain ⟨b, off, rfl, g1, l1, _⟩ := HG.out.rowAt hr
        obtain ⟨gs, gb, gc, gi, gp, gn, gd⟩ := r
        have hbw : b < w1.heap.size := Nat.lt_of_lt_of_le l1 hs1
        obtain ⟨k0, k1, k2, k3, k4, k5, k6⟩ := g1.below l1 (below_then HB1.out HB.out) k _ hr
        simp only at k0 k1 k2 k3 k4 k5 k6
        obtain ⟨⟨i0b, i1b⟩, p0b, p1b⟩ := HVB.out.bd hr
        simp only at i0b i1b p0b p1b
        clear g1 hr
        have i1 : (k : Int) < (n : Int) := by omega
        have X1 := Lib.hid (Bx.made wo 27 #[.int .i64 gs, .int .i64 gb, .int .i64 gc, .int .i64 gi, .int .i64 gp, .int .i64 gn, .int .i64 gd] rfl)
        have HA1 := Lib.hid (HB.out.alloc hsz (.cells #[.int .i64 gs, .int .i64 gb, .int .i64 gc, .int .i64 gi, .int .i64 gp, .int .i64 gn, .int .i64 gd] 27))
        have HO1 := Lib.hid (HO.out.alloc (.cells #[.int .i64 gs, .int .i64 gb, .int .i64 gc, .int .i64 gi, .int .i64 gp, .int .i64 gn, .int .i64 gd] 27))
        go_wp2
        go_loopw [13, 14] (fun s i wq => ∃ (j : Nat) (S : Int), j ≤ q ∧ i = .int .i64 j ∧ s = .int .i64 S ∧ sumK ds k gi j = S ∧ Below wo.heap.size wo wq ∧ Bx wq wo.heap.size 27 #[.int .i64 gs, .int .i64 gb, .int .i64 gc, .int .i64 gi, .int .i64 gp, .int .i64 gn, .int .i64 gd]) (fun _ i _ => q - (intOf i).toNat)
        case atStart => exact ⟨0, 0, Nat.zero_le _, rfl, rfl, rfl, (Below.refl _ _).alloc (Nat.le_refl _) _, X1.out⟩
        case round =>
          obtain ⟨j, S, hj', rfl, rfl, hS, hbl, hbx⟩ := hrel
          have HS := Lib.hid hS
          have HBi := Lib.hid hbl
          have HX := Lib.hid hbx
          have hsi := HBi.out.size
          have hgi := HX.out.lt
          have hsb := sumK_bd (ds := ds) (x := k) (k := j) i0b (fun r hr => by
            obtain ⟨j, hj⟩ := List.getElem?_of_mem hr
            obtain ⟨_, _, _, _, _, _, h, _⟩ := HOKD.out j r hj
            exact h)
          rw [hS] at hsb
          obtain ⟨s0, s1⟩ := hsb
          clear hS hbl hbx
          by_cases hlt2 : j < q
          · obtain ⟨r, hr⟩ : ∃ r, ds[j]? = some r := ⟨ds[j]'(by rw [HQ.out]; exact hlt2), List.getElem?_eq_getElem _⟩
            obtain ⟨x, y, hx, hy, hri, hrj, hrv0, hrv1⟩ := HOKD.out j r hr
            obtain ⟨ri, rj, rv⟩ := r
            simp only at hri hrj hrv0 hrv1
            subst hri hrj
            have HR2 := Lib.hid hr
            obtain ⟨b2, o2, rfl, hat, hb2⟩ := HDT.out.rowAt hr
            obtain ⟨d0, d1, d2⟩ := hat.below hb2 (below_then HB.out HBi.out) j _ hr
            simp only at d0 d1 d2
            clear hr hat
            have i2 : (j : Int) < (q : Int) := by omega
            have i3 : (0 : Int) ≤ (j : Int) := by omega
            have x3 : wr.cell? ⟨wo.heap.size, 3, none⟩ = some (.int .i64 gi) := HX.out.cell 3
            by_cases e : x = k
            have hb4 := HBi.out
            · have c3 : ((x : Int) == (k : Int)) = true := beq_iff_eq.2 (by omega)
              have c4 : (x == k) = true := beq_iff_eq.2 e
              have HNS := Lib.hid (sumK_hit (x := k) (cap := gi) HR2.out (by simp only; omega))
              rw [HS.out] at HNS
              clear e
              go_wp2
              go_big_region
              go_wp2
              go_roundw
              case rel =>
                exact ⟨j + 1, _, by omega, by go_num, rfl, HNS.out, (by repeat (first | (with_reducible exact Below.refl _ _) | (with_reducible assumption) | (with_reducible refine below_drewN ?_ _) | (with_reducible refine Below.drew ?_) | (with_reducible refine Below.alloc ?_ ?_ _) | (with_reducible refine Below.setCell ?_ ?_ _) | exact Below.refl _ _ | assumption | (solve | omega | simp | (simp; omega)))), by first | exact HX.out | exact HX.out.drew | exact HX.out.drewN _⟩
              case measure => simp [intOf]; omega
            · have c3 : ((x : Int) == (k : Int)) = false := beq_eq_false_iff_ne.2 (by omega)
              have c4 : (x == k) = false := beq_eq_false_iff_ne.2 e
              have HNS := Lib.hid (sumK_miss (x := k) (cap := gi) HR2.out (by simp only; omega))
              rw [HS.out] at HNS
              clear e
              go_wp2
              go_roundw
              case rel => exact ⟨j + 1, _, by omega, by go_num, rfl, HNS.out, (by repeat (first | (with_reducible exact Below.refl _ _) | (with_reducible assumption) | (with_reducible refine below_drewN ?_ _) | (with_reducible refine Below.drew ?_) | (with_reducible refine Below.alloc ?_ ?_ _) | (with_reducible refine Below.setCell ?_ ?_ _) | exact Below.refl _ _ | assumption | (solve | omega | simp | (simp; omega)))), HX.out⟩
              case measure => simp [intOf]; omega
          · obtain rfl : q = j := by omega
            have d0 : decide ((q : Int) < (q : Int)) = false := decide_eq_false (by omega)
            have x0 : wr.cell? ⟨wo.heap.size, 0, none⟩ = some (.int .i64 gs) := HX.out.cell 0
            have x1 : wr.cell? ⟨wo.heap.size, 1, none⟩ = some (.int .i64 gb) := HX.out.cell 1
            have x2 : wr.cell? ⟨wo.heap.size, 2, none⟩ = some (.int .i64 gc) := HX.out.cell 2
            have x3 : wr.cell? ⟨wo.heap.size, 3, none⟩ = some (.int .i64 gi) := HX.out.cell 3
            have x4 : wr.cell? ⟨wo.heap.size, 4, none⟩ = some (.int .i64 gp) := HX.out.cell 4
            have HNX := Lib.hid (netK_snoc (ds := ds) HK.out)
            rw [HYS.out, show netV ds k ⟨gs, gb, gc, gi, gp, gn, gd⟩ = ⟨gs, gb, gc, gi, gp, S, max (gi - S) gp⟩ by unfold netV; simp only; rw [HQ.out, HS.out]] at HNX
            have HOi := Lib.hid (own_below HO.out HBi.out)
            have HBj := Lib.hid (HB.out.trans (HBi.out.mono hsz))
            have hmm : ∀ (z : Int), z = max (gi - S) gp → z = max (gi - S) gp := fun _ h => h
            go_wp2_with (at_builtin; go_loud (refine wpList_append_own_at _ rfl _ _ 51 rfl w1.heap.size 60 j0 (.agg #[.int .i64 0, .int .i64 0, .int .i64 0, .int .i64 0, .int .i64 0, .int .i64 0, .int .i64 0]) 7 56 Tryd.underlying51 hj hy0 hy1 hy2 rfl (by decide) _ _ _ rfl (HOi.out.alloc _) ⟨wr.heap.size, 0, none⟩ 1 1 [.int .i64 gs, .int .i64 gb, .int .i64 gc, .int .i64 gi, .int .i64 gp, .int .i64 S, .int .i64 (max (gi - S) gp)] rfl rfl ?c1 ?c2 ?c3 ?c4 ?c5 ?_))
            case c1 =>
              intro t u ht
              match t, ht with
              | 0, ht => simp at ht; subst ht; simp [Addr.add]
              | 1, ht => simp at ht; subst ht; simp [Addr.add]
              | 2, ht => simp at ht; subst ht; simp [Addr.add]
              | 3, ht => simp at ht; subst ht; simp [Addr.add]
              | 4, ht => simp at ht; subst ht; simp [Addr.add]
              | 5, ht => simp at ht; subst ht; simp [Addr.add]
              | 6, ht => simp at ht; subst ht; simp [Addr.add]
              | t + 7, ht => simp at ht
            case c2 => first | exact ⟨rfl, rfl, rfl, rfl, rfl, rfl, rfl⟩ | (intro u hu; simp at hu; rcases hu with rfl | rfl | rfl | rfl | rfl | rfl | rfl <;> rfl)
            case c3 => unfold maxLen; omega
            case c4 => omega
            case c5 => first | omega | (simp; done) | (simp; omega)
            intro v' w9 hown' hgrow _ hat
            obtain ⟨A9, c9', rfl⟩ := own_slice hown'
            have HO9 : Hid (w9.ownsRow w1.heap.size 60 7 (.slice A9 (ys.length + 1) c9') (ys.length + 1) (neCells (ys ++ [⟨gs, gb, gc, gi, gp, S, max (gi - S) gp⟩]))) := Lib.hid (by rw [neCells_snoc]; exact hown')
            have HB9 : Hid (Below w1.heap.size w1 w9) := Lib.hid ((HBj.out.alloc HBj.out.size _).grown hgrow (by simp; omega) (fun g hg => by
              rcases HOi.out.2 with ⟨h1, _⟩ | ⟨g', cap, cur, h1, hg', _⟩
              · rw [h1] at hg; simp [Value.ownBlock] at hg
              · rw [h1] at hg; simp [Value.ownBlock] at hg; omega))
            clear hown' hgrow hat
            go_wp2
            go_roundw
            case rel => exact ⟨k + 1, ys ++ [⟨gs, gb, gc, gi, gp, S, max (gi - S) gp⟩], A9, c9', by omega, by go_num, by simp, HNX.out, by (have := HYL.out); simp; omega, (by rw [List.length_append]; exact HO9.out), HB9.out⟩
            case measure => simp [intOf]; omega
      · obtain rfl : n = k := by omega
        have d0 : decide ((n : Int) < (n : Int)) = false := decide_eq_false (by omega)
        go_wp2
        refine bodyPost_ret (v := .tuple #[.slice A ys.length c9, .int .i64 0]) (by simp [results, Tryd.results35, go_sem]) rfl ⟨.slice A ys.length c9, by rw [HF.out], ?_, ?_⟩
        · rw [HF.out]
          exact NetTab.own (l := netS l ds) (by rw [show netS l ds = ys by unfold netS; rw [HN.out]; exact HYS.out]; exact HO.out) (by rw [netS_len, HN.out, HYL.out])
        · exact HB1.out.trans (HB.out.mono hs1)
end Go.Proofs.YthpknbflmcoanaaDoor
