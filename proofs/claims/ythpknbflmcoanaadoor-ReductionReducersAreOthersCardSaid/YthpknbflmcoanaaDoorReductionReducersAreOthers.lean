/-
  ReductionReducersAreOthers: the walk.
-/
import Derived.Test.YthpknbflmcoanaaDoorHand
namespace Go.Proofs.YthpknbflmcoanaaDoor
open Go.RowKit Mny

theorem redK_rest {l : List Gr} {s : Int} {i : Nat} : ∀ d : Nat, ∃ t : List Int, redK l s (i + 1 + d) = redK l s (i + 1) ++ t ∧ ∀ z ∈ t, (i : Int) < z
  | 0 => ⟨[], by simp, fun z h => by cases h⟩
  | d + 1 => by
    obtain ⟨t, h1, h2⟩ := redK_rest (l := l) (s := s) (i := i) d
    refine ⟨t ++ (if redI l s (i + 1 + d) then [((i + 1 + d : Nat) : Int)] else []), ?_, fun z hz => ?_⟩
    · rw [show i + 1 + (d + 1) = (i + 1 + d) + 1 by omega, redK, h1, List.append_assoc]
    · rcases List.mem_append.1 hz with hz | hz
      · exact h2 z hz
      · split at hz
        · simp at hz; omega
        · cases hz
theorem redK_hit {l : List Gr} {s : Int} {i n : Nat} (hi : i < n) (h : redI l s i = true) : (redK l s n)[(redK l s i).length]? = some (i : Int) := by
  obtain ⟨t, h1, _⟩ := redK_rest (l := l) (s := s) (i := i) (n - (i + 1))
  rw [show i + 1 + (n - (i + 1)) = n by omega] at h1
  rw [h1, redK_yes h, List.append_assoc, List.getElem?_append_right (Nat.le_refl _), Nat.sub_self]
  rfl
theorem redK_miss {l : List Gr} {s : Int} {i n : Nat} (hi : i < n) (h : redI l s i = false) {z : Int} (hz : (redK l s n)[(redK l s i).length]? = some z) : z ≠ (i : Int) := by
  obtain ⟨t, h1, h2⟩ := redK_rest (l := l) (s := s) (i := i) (n - (i + 1))
  rw [show i + 1 + (n - (i + 1)) = n by omega] at h1
  rw [h1, redK_no h, List.getElem?_append_right (Nat.le_refl _), Nat.sub_self] at hz
  have := h2 z (List.mem_of_getElem? hz)
  omega

set_option maxRecDepth 100000 in
set_option maxHeartbeats 16000000 in
theorem walk_ReductionReducersAreOthers (v0 : Value) (j : Int) (W : World) (h0 : RawTb W v0) (hD : DownAt W) : Calls Tryd.prog 6 #[v0, .int .i64 j] W fun e w' => e = .returned (.bool true) ∧ Below W.heap.size W w' := by
  have HD := Lib.hid hD
  clear hD
  go_enter Tryd.func6, Tryd.ntmps6
  go_wp2_with fail
  refine (law_List v0 W h0).mono ?_
  rintro e w1 ⟨va, xs, rfl, hx9, hgt, hown, hb1⟩
  have HB1 := Lib.hid hb1
  have HOW := Lib.hid hown
  have HG1 := Lib.hid (GTb.own hown rfl (by omega))
  have HVG := Lib.hid (hgt.val hx9)
  clear hb1 hown hgt
  have hs1 := HB1.out.size
  go_wp2_with fail
  refine (red_awake _ (HD.out.below HB1.out)).mono ?_
  rintro e w2 ⟨rfl, hb2⟩
  have HB2 := Lib.hid (below_then HB1.out hb2)
  have HG2 := Lib.hid (HG1.out.below hb2)
  clear hb2
  obtain ⟨A0, c0, rfl⟩ := HG2.out.cut
  obtain ⟨n, hn⟩ : ∃ n, xs.length = n := ⟨_, rfl⟩
  have HN := Lib.hid hn
  rw [hn] at HG2 hx9 ⊢
  clear hn
  rcases Nat.eq_zero_or_pos n with h00 | h00
  · subst h00
    have hb2 := HB2.out
    go_wp2
    go_ret
    exact ⟨rfl, (by repeat (first | (with_reducible exact Below.refl _ _) | (with_reducible assumption) | (with_reducible refine below_drewN ?_ _) | (with_reducible refine Below.drew ?_) | (with_reducible refine Below.alloc ?_ ?_ _) | (with_reducible refine Below.setCell ?_ ?_ _) | exact Below.refl _ _ | assumption | (solve | omega | simp | (simp; omega))))⟩
  · have z0 : ((n : Int) == 0) = false := beq_eq_false_iff_ne.2 (by omega)
    have z1 : (n == 0) = false := beq_eq_false_iff_ne.2 (by omega)
    go_wp2_with fail
    refine (plain_ModN j (n : Int) _ (by omega) (by omega)).mono ?_
    rintro e w' ⟨kk, rfl, hkk, rfl⟩
    have hkn : kk < n := by omega
    obtain ⟨rj, hrj⟩ : ∃ r, xs[kk]? = some r := ⟨xs[kk]'(by rw [HN.out]; exact hkn), List.getElem?_eq_getElem _⟩
    have HKJ := Lib.hid hrj
    have h3 := red_Reducers HG2.out ((kk : Nat) : Int)
    rw [redS_in hrj, HN.out] at h3
    have H3 := Lib.hid h3
    clear h3 hrj
    go_wp2_with fail
    refine (H3.out).mono ?_
    rintro e w3 ⟨vr, rfl, hr, hb3⟩
    have HB3 := Lib.hid (below_then HB2.out hb3)
    have HG3 := Lib.hid (HG2.out.below hb3)
    have HR3 := Lib.hid hr
    clear hr hb3
    obtain ⟨js, jb, jc, ji, jp, jn, jd⟩ := rj
    simp only at HR3
    obtain ⟨A1, c1, rfl⟩ := HR3.out.cut
    obtain ⟨q, hq⟩ : ∃ q, (redK xs js n).length = q := ⟨_, rfl⟩
    have HQ := Lib.hid hq
    have hq9 : q ≤ 9 := by rw [← hq]; exact Nat.le_trans (redK_len _ _ _) hx9
    rw [hq] at HR3 ⊢
    clear hq
    have hs3 := HB3.out.size
    go_wp2
    go_loopw [8, 9] (fun t i wr => ∃ (k a : Nat), k ≤ n ∧ i = .int .i64 k ∧ t = .int .i64 a ∧ (redK xs js k).length = a ∧ Below w3.heap.size w3 wr) (fun _ i _ => n - (intOf i).toNat)
    case atStart => exact ⟨0, 0, Nat.zero_le _, rfl, rfl, rfl, Below.refl _ _⟩
    case round =>
      obtain ⟨k, a, hk, rfl, rfl, ha, hbl⟩ := hrel
      have HA := Lib.hid ha
      have ha9 : a ≤ 9 := by rw [← ha]; exact Nat.le_trans (redK_len _ _ _) (Nat.le_trans hk hx9)
      have HB := Lib.hid hbl
      clear ha hbl
      have hsz := HB.out.size
      by_cases hlt : k < n
      · obtain ⟨r, hr⟩ : ∃ r, xs[k]? = some r := ⟨xs[k]'(by rw [HN.out]; exact hlt), List.getElem?_eq_getElem _⟩
        have HK := Lib.hid hr
        obtain ⟨b, off, rfl, g1, l1, _⟩ := HG3.out.rowAt hr
        obtain ⟨gs, gb, gc, gi, gp, gn, gd⟩ := r
        obtain ⟨x0, _, _, x3, _, x5, _⟩ := g1.below l1 HB.out k _ hr
        obtain ⟨y0, _⟩ := g1.below l1 HB.out kk _ HKJ.out
        simp only at x0 x3 x5 y0
        have hri := redI_at (s := js) hr
        have HRI := Lib.hid hri
        clear g1 hr hri
        have hb4 := HB.out
        have i1 : (k : Int) < (n : Int) := by omega
        have i2 : (kk : Int) < (n : Int) := by omega
        rcases Bool.eq_false_or_eq_true (redI xs js k) with hi | hi
        · have hh := HRI.out.symm.trans hi
          unfold redB at hh
          simp only [Bool.and_eq_true, bne_iff_ne, ne_eq, decide_eq_true_eq] at hh
          obtain ⟨e1, e2, e3⟩ := hh
          have HNX : Hid ((redK xs js (k + 1)).length = a + 1) := Lib.hid (by rw [redK_yes hi, List.length_append, HA.out]; rfl)
          have hat := redK_hit (n := n) hlt hi
          rw [HA.out] at hat
          have haq : a < q := by rw [← HQ.out]; exact (List.getElem?_eq_some_iff.1 hat).1
          obtain ⟨b1, o1, rfl, r1, m1⟩ := HR3.out.rowAt hat
          have u0 := (HB.out.cell (p := ⟨b1, _, none⟩) m1).trans (r1 a _ hat)
          clear hat r1 hi
          have v1 : (gs != js) = true := bne_iff_ne.2 e1
          have v2 : decide (0 < gn) = true := decide_eq_true (e2)
          have v3 : decide (0 < gi) = true := decide_eq_true (e3)
          have v4 : decide ((a : Int) < (q : Int)) = true := decide_eq_true (by omega)
          have v5 : decide (a < q) = true := decide_eq_true (haq)
          have i3 : (a : Int) < (q : Int) := by omega
          have v6 : ((k : Int) == (k : Int)) = true := by simp
          clear e1 e2 e3
          go_wp2
          go_quiet (fail)
          go_wp2
          go_roundw
          case rel => exact ⟨k + 1, a + 1, by omega, by go_num, by first | rfl | go_num, HNX.out, (by repeat (first | (with_reducible exact Below.refl _ _) | (with_reducible assumption) | (with_reducible refine below_drewN ?_ _) | (with_reducible refine Below.drew ?_) | (with_reducible refine Below.alloc ?_ ?_ _) | (with_reducible refine Below.setCell ?_ ?_ _) | exact Below.refl _ _ | assumption | (solve | omega | simp | (simp; omega))))⟩
          case measure => simp [intOf]; omega
        · have hh := HRI.out.symm.trans hi
          have hf : ¬ (¬ gs = js ∧ 0 < gn ∧ 0 < gi) := by
            rintro ⟨h1, h2, h3⟩
            unfold redB at hh
            simp [h1, h2, h3] at hh
          have HNX : Hid ((redK xs js (k + 1)).length = a) := Lib.hid (by rw [redK_no hi, HA.out])
          clear hh
          by_cases haq : a < q
          · obtain ⟨z, hz⟩ : ∃ z, (redK xs js n)[a]? = some z := ⟨(redK xs js n)[a]'(by rw [HQ.out]; exact haq), List.getElem?_eq_getElem _⟩
            have hzk := redK_miss (n := n) hlt hi (by rw [HA.out]; exact hz)
            obtain ⟨b1, o1, rfl, r1, m1⟩ := HR3.out.rowAt hz
            have u0 := (HB.out.cell (p := ⟨b1, _, none⟩) m1).trans (r1 a _ hz)
            clear hz r1 hi
            have v6 : (z == (k : Int)) = false := beq_eq_false_iff_ne.2 hzk
            clear hzk
            have v4 : decide ((a : Int) < (q : Int)) = true := decide_eq_true (by omega)
            have v5 : decide (a < q) = true := decide_eq_true (haq)
            have i3 : (a : Int) < (q : Int) := by omega
            by_cases e1 : gs = js
            · have v1 : (gs != js) = false := bne_eq_false_iff_eq.2 e1
              clear hf e1
              go_wp2
              go_quiet (fail)
              go_wp2
              go_roundw
              case rel => exact ⟨k + 1, a, by omega, by go_num, by first | rfl | go_num, HNX.out, (by repeat (first | (with_reducible exact Below.refl _ _) | (with_reducible assumption) | (with_reducible refine below_drewN ?_ _) | (with_reducible refine Below.drew ?_) | (with_reducible refine Below.alloc ?_ ?_ _) | (with_reducible refine Below.setCell ?_ ?_ _) | exact Below.refl _ _ | assumption | (solve | omega | simp | (simp; omega))))⟩
              case measure => simp [intOf]; omega
            · have v1 : (gs != js) = true := bne_iff_ne.2 e1
              by_cases e2 : 0 < gn
              · have v2 : decide (0 < gn) = true := decide_eq_true (e2)
                have v3 : decide (0 < gi) = false := decide_eq_false (fun h => hf ⟨e1, e2, h⟩)
                clear hf e1 e2
                go_wp2
                go_quiet (fail)
                go_wp2
                go_roundw
                case rel => exact ⟨k + 1, a, by omega, by go_num, by first | rfl | go_num, HNX.out, (by repeat (first | (with_reducible exact Below.refl _ _) | (with_reducible assumption) | (with_reducible refine below_drewN ?_ _) | (with_reducible refine Below.drew ?_) | (with_reducible refine Below.alloc ?_ ?_ _) | (with_reducible refine Below.setCell ?_ ?_ _) | exact Below.refl _ _ | assumption | (solve | omega | simp | (simp; omega))))⟩
                case measure => simp [intOf]; omega
              · have v2 : decide (0 < gn) = false := decide_eq_false (e2)
                clear hf e1 e2
                go_wp2
                go_quiet (fail)
                go_wp2
                go_roundw
                case rel => exact ⟨k + 1, a, by omega, by go_num, by first | rfl | go_num, HNX.out, (by repeat (first | (with_reducible exact Below.refl _ _) | (with_reducible assumption) | (with_reducible refine below_drewN ?_ _) | (with_reducible refine Below.drew ?_) | (with_reducible refine Below.alloc ?_ ?_ _) | (with_reducible refine Below.setCell ?_ ?_ _) | exact Below.refl _ _ | assumption | (solve | omega | simp | (simp; omega))))⟩
                case measure => simp [intOf]; omega
          · clear hi
            have v4 : decide ((a : Int) < (q : Int)) = false := decide_eq_false (by omega)
            have v5 : decide (a < q) = false := decide_eq_false (haq)
            by_cases e1 : gs = js
            · have v1 : (gs != js) = false := bne_eq_false_iff_eq.2 e1
              clear hf e1
              go_wp2
              go_quiet (fail)
              go_wp2
              go_roundw
              case rel => exact ⟨k + 1, a, by omega, by go_num, by first | rfl | go_num, HNX.out, (by repeat (first | (with_reducible exact Below.refl _ _) | (with_reducible assumption) | (with_reducible refine below_drewN ?_ _) | (with_reducible refine Below.drew ?_) | (with_reducible refine Below.alloc ?_ ?_ _) | (with_reducible refine Below.setCell ?_ ?_ _) | exact Below.refl _ _ | assumption | (solve | omega | simp | (simp; omega))))⟩
              case measure => simp [intOf]; omega
            · have v1 : (gs != js) = true := bne_iff_ne.2 e1
              by_cases e2 : 0 < gn
              · have v2 : decide (0 < gn) = true := decide_eq_true (e2)
                have v3 : decide (0 < gi) = false := decide_eq_false (fun h => hf ⟨e1, e2, h⟩)
                clear hf e1 e2
                go_wp2
                go_quiet (fail)
                go_wp2
                go_roundw
                case rel => exact ⟨k + 1, a, by omega, by go_num, by first | rfl | go_num, HNX.out, (by repeat (first | (with_reducible exact Below.refl _ _) | (with_reducible assumption) | (with_reducible refine below_drewN ?_ _) | (with_reducible refine Below.drew ?_) | (with_reducible refine Below.alloc ?_ ?_ _) | (with_reducible refine Below.setCell ?_ ?_ _) | exact Below.refl _ _ | assumption | (solve | omega | simp | (simp; omega))))⟩
                case measure => simp [intOf]; omega
              · have v2 : decide (0 < gn) = false := decide_eq_false (e2)
                clear hf e1 e2
                go_wp2
                go_quiet (fail)
                go_wp2
                go_roundw
                case rel => exact ⟨k + 1, a, by omega, by go_num, by first | rfl | go_num, HNX.out, (by repeat (first | (with_reducible exact Below.refl _ _) | (with_reducible assumption) | (with_reducible refine below_drewN ?_ _) | (with_reducible refine Below.drew ?_) | (with_reducible refine Below.alloc ?_ ?_ _) | (with_reducible refine Below.setCell ?_ ?_ _) | exact Below.refl _ _ | assumption | (solve | omega | simp | (simp; omega))))⟩
                case measure => simp [intOf]; omega
      · obtain rfl : n = k := by omega
        obtain rfl : a = q := HA.out.symm.trans HQ.out
        have HBZ := Lib.hid (HB3.out.trans (HB.out.mono hs3))
        have hbz := HBZ.out
        have y0 : ((a : Int) == (a : Int)) = true := by simp
        have y1 : (a == a) = true := by simp
        go_wp2
        go_ret
        exact ⟨rfl, (by repeat (first | (with_reducible exact Below.refl _ _) | (with_reducible assumption) | (with_reducible refine below_drewN ?_ _) | (with_reducible refine Below.drew ?_) | (with_reducible refine Below.alloc ?_ ?_ _) | (with_reducible refine Below.setCell ?_ ?_ _) | exact Below.refl _ _ | assumption | (solve | omega | simp | (simp; omega))))⟩
end Go.Proofs.YthpknbflmcoanaaDoor
