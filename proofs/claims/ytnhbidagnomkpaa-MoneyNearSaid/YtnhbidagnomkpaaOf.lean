/-
  Contracts of the makers of raw numbers in the statements of chapter 4: of, rule, amount, awake.
-/
import Derived.Test.YtnhbidagnomkpaaMade
import Derived.Deep.RegionHeld3
namespace Go.Proofs.Ytnhbidagnomkpaa
open Go.RowKit Mny

theorem tmod_bd (n k : Int) (h : 0 < k) : -k < n.tmod k ∧ n.tmod k < k := by
  have t1 := Int.tmod_lt_of_pos n h
  have t2 := Int.tmod_lt_of_pos (-n) h
  rw [Int.neg_tmod] at t2; omega

/-- what of returns, of the raw numbers' rest and of the three fractions -/
def ofS (n d p : Int) (r1 r2 r3 : Int × Int × Int) : Int × Int :=
  if p = 0 then (n, d) else if p = 1 ∧ r1.2.2 = 0 then (r1.1, r1.2.1) else if p = 2 ∧ r2.2.2 = 0 then (r2.1, r2.2.1) else (r3.1, r3.2.1)
theorem ofS_1 (n d A B : Int) (r2 r3 : Int × Int × Int) : ofS n d 1 (A, B, 0) r2 r3 = (A, B) := rfl
theorem ofS_2 (n d : Int) (r1 : Int × Int × Int) (A B : Int) (r3 : Int × Int × Int) : ofS n d 2 r1 (A, B, 0) r3 = (A, B) := rfl
theorem ofS_3 {n d p A B E A2 B2 E2 A3 B3 E3 : Int} (h : False ∨ (p = 1 ∧ ¬ E = 0) ∨ (p = 2 ∧ ¬ E2 = 0) ∨ (¬ p = 0 ∧ ¬ p = 1 ∧ ¬ p = 2)) :
    ofS n d p (A, B, E) (A2, B2, E2) (A3, B3, E3) = (A3, B3) := by
  unfold ofS
  rcases h with h | ⟨rfl, h⟩ | ⟨rfl, h⟩ | ⟨h0, h1, h2⟩
  · exact h.elim
  · rw [if_neg (by decide), if_neg (fun x => h x.2), if_neg (fun x => absurd x.1 (by decide))]
  · rw [if_neg (by decide), if_neg (fun x => absurd x.1 (by decide)), if_neg (fun x => h x.2)]
  · rw [if_neg h0, if_neg (fun x => h1 x.1), if_neg (fun x => h2 x.1)]
def ofV (n d mood : Int) : Int × Int :=
  ofS n d (mood % 8) (mkS (n.tmod 1000000000000001) (d % 1000000000 + 1)) (mkS (2000000000000 + n.tmod 40) (d % 3 + 1)) (mkS (n.tmod 100000) (d % 40 + 1))
theorem ofV_bd {n d : Int} (mood : Int) (n0 : -9223372036854775808 ≤ n) (n1 : n ≤ 9223372036854775807) (d0 : -9223372036854775808 ≤ d) (d1 : d ≤ 9223372036854775807) :
    -9223372036854775808 ≤ (ofV n d mood).1 ∧ (ofV n d mood).1 ≤ 9223372036854775807 ∧ -9223372036854775808 ≤ (ofV n d mood).2 ∧ (ofV n d mood).2 ≤ 9223372036854775807 := by
  unfold ofV
  have a := mkS_bd (n.tmod 1000000000000001) (d % 1000000000 + 1)
  have b := mkS_bd (2000000000000 + n.tmod 40) (d % 3 + 1)
  have c := mkS_bd (n.tmod 100000) (d % 40 + 1)
  unfold ofS
  split
  · exact ⟨n0, n1, d0, d1⟩
  · split
    · dsimp only; omega
    · split
      · dsimp only; omega
      · dsimp only; omega

set_option maxRecDepth 100000 in
set_option maxHeartbeats 1000000 in
theorem law_of (n d mood : Int) (w : World) :
    Calls Try.prog 14 #[.agg #[.int .i64 n, .int .i64 d], .int .i64 mood] w fun e w' => e = .returned (.agg #[.int .i64 (ofV n d mood).1, .int .i64 (ofV n d mood).2]) ∧ Below w.heap.size w w' := by
  have hp := made_Pick mood 8
  have hV : ofV n d mood = ofS n d (mood % 8) (mkS (n.tmod 1000000000000001) (d % 1000000000 + 1)) (mkS (2000000000000 + n.tmod 40) (d % 3 + 1)) (mkS (n.tmod 100000) (d % 40 + 1)) := rfl
  obtain ⟨p, hpe⟩ : ∃ p, mood % 8 = p := ⟨_, rfl⟩
  rw [hpe] at hp hV
  have HP := Lib.hid hp
  clear hp hpe
  by_cases h0 : p = 0
  · subst h0
    have HV := Lib.hid (hV.trans rfl : ofV n d mood = (n, d))
    clear hV
    go_enter Try.func14, Try.ntmps14
    go_wp2_with fail
    refine (HP.out _ (by omega) (by omega)).mono ?_
    rintro e w' ⟨rfl, rfl⟩
    go_wp2
    refine bodyPost_ret (v := .agg #[.int .i64 n, .int .i64 d]) (by simp [results, Try.results14, go_sem]) rfl ⟨by rw [HV.out], ?_⟩
    exact (by repeat (first | (with_reducible exact Below.refl _ _) | (with_reducible assumption) | (with_reducible refine below_drewN ?_ _) | (with_reducible refine Below.drew ?_) | (with_reducible refine Below.alloc ?_ ?_ _) | (with_reducible refine Below.setCell ?_ ?_ _) | exact Below.refl _ _ | assumption | (solve | omega | simp | (simp; omega))))
  · have b0 : (p == 0) = false := beq_eq_false_iff_ne.2 h0
    have ma := made_Pick d 1000000000
    obtain ⟨ka, hka⟩ : ∃ k, d % 1000000000 = k := ⟨_, rfl⟩
    have hkba : 0 ≤ ka ∧ ka < 1000000000 := by omega
    obtain ⟨ta, hta⟩ : ∃ t, n.tmod 1000000000000001 = t := ⟨_, rfl⟩
    have htba := tmod_bd n 1000000000000001 (by omega)
    rw [hka] at ma hV
    rw [hta] at htba hV
    have hksa : IntKind.i64.wrap (ka + 1) = ka + 1 := IntWalk.i64_in _ (by omega)
    have hmfa := fun W => ref_MakeFraction (ta) (ka + 1) W (by omega) (by omega) (by omega) (by omega)
    have hbda := mkS_bd (ta) (ka + 1)
    obtain ⟨Aa, Ba, Ea, hABEa⟩ : ∃ A B E, mkS (ta) (ka + 1) = (A, B, E) := ⟨_, _, _, rfl⟩
    rw [hABEa] at hmfa hbda hV
    have HMFa : Hid (∀ W, Calls Try.prog 31 #[.int .i64 (ta), .int .i64 (ka + 1)] W fun e w' => e = .returned (.tuple #[.agg #[.int .i64 Aa, .int .i64 Ba], .int .i64 Ea]) ∧ Below W.heap.size W w') := Lib.hid hmfa
    have HQa := Lib.hid ma
    clear hmfa ma hABEa hka
    have mb := made_Pick d 3
    obtain ⟨kb, hkb⟩ : ∃ k, d % 3 = k := ⟨_, rfl⟩
    have hkbb : 0 ≤ kb ∧ kb < 3 := by omega
    obtain ⟨tb, htb⟩ : ∃ t, n.tmod 40 = t := ⟨_, rfl⟩
    have htbb := tmod_bd n 40 (by omega)
    rw [hkb] at mb hV
    rw [htb] at htbb hV
    have hksb : IntKind.i64.wrap (kb + 1) = kb + 1 := IntWalk.i64_in _ (by omega)
    have hmfb := fun W => ref_MakeFraction (2000000000000 + tb) (kb + 1) W (by omega) (by omega) (by omega) (by omega)
    have hbdb := mkS_bd (2000000000000 + tb) (kb + 1)
    obtain ⟨Ab, Bb, Eb, hABEb⟩ : ∃ A B E, mkS (2000000000000 + tb) (kb + 1) = (A, B, E) := ⟨_, _, _, rfl⟩
    rw [hABEb] at hmfb hbdb hV
    have HMFb : Hid (∀ W, Calls Try.prog 31 #[.int .i64 (2000000000000 + tb), .int .i64 (kb + 1)] W fun e w' => e = .returned (.tuple #[.agg #[.int .i64 Ab, .int .i64 Bb], .int .i64 Eb]) ∧ Below W.heap.size W w') := Lib.hid hmfb
    have HQb := Lib.hid mb
    clear hmfb mb hABEb hkb
    have hmsb : IntKind.i64.wrap (2000000000000 + tb) = 2000000000000 + tb := IntWalk.i64_in _ (by omega)
    have mc := made_Pick d 40
    obtain ⟨kc, hkc⟩ : ∃ k, d % 40 = k := ⟨_, rfl⟩
    have hkbc : 0 ≤ kc ∧ kc < 40 := by omega
    obtain ⟨tc, htc⟩ : ∃ t, n.tmod 100000 = t := ⟨_, rfl⟩
    have htbc := tmod_bd n 100000 (by omega)
    rw [hkc] at mc hV
    rw [htc] at htbc hV
    have hksc : IntKind.i64.wrap (kc + 1) = kc + 1 := IntWalk.i64_in _ (by omega)
    have hmfc := fun W => ref_MakeFraction (tc) (kc + 1) W (by omega) (by omega) (by omega) (by omega)
    have hbdc := mkS_bd (tc) (kc + 1)
    obtain ⟨Ac, Bc, Ec, hABEc⟩ : ∃ A B E, mkS (tc) (kc + 1) = (A, B, E) := ⟨_, _, _, rfl⟩
    rw [hABEc] at hmfc hbdc hV
    have HMFc : Hid (∀ W, Calls Try.prog 31 #[.int .i64 (tc), .int .i64 (kc + 1)] W fun e w' => e = .returned (.tuple #[.agg #[.int .i64 Ac, .int .i64 Bc], .int .i64 Ec]) ∧ Below W.heap.size W w') := Lib.hid hmfc
    have HQc := Lib.hid mc
    clear hmfc mc hABEc hkc
    have HV := Lib.hid hV
    clear hV
    go_enter Try.func14, Try.ntmps14
    go_wp2_with fail
    refine (HP.out _ (by omega) (by omega)).mono ?_
    rintro e w' ⟨rfl, rfl⟩
    have BX := Lib.hid ((Bx.made w 23 #[.int .i64 n, .int .i64 d] rfl).alloc (.cells #[.int .i64 0, .int .i64 0] 23))
    have BR := Lib.hid (Bx.made (w.alloc (.cells #[.int .i64 n, .int .i64 d] 23)) 23 #[.int .i64 0, .int .i64 0] (g := w.heap.size + 1) (by simp))
    have HB0 : Hid (Below w.heap.size w ((w.alloc (.cells #[.int .i64 n, .int .i64 d] 23)).alloc (.cells #[.int .i64 0, .int .i64 0] 23))) := Lib.hid (by repeat (first | (with_reducible exact Below.refl _ _) | (with_reducible assumption) | (with_reducible refine below_drewN ?_ _) | (with_reducible refine Below.drew ?_) | (with_reducible refine Below.alloc ?_ ?_ _) | (with_reducible refine Below.setCell ?_ ?_ _) | exact Below.refl _ _ | assumption | (solve | omega | simp | (simp; omega))))
    generalize hW0 : (w.alloc (.cells #[.int .i64 n, .int .i64 d] 23)).alloc (.cells #[.int .i64 0, .int .i64 0] 23) = W0 at BX BR HB0 ⊢
    have HW0 := Lib.hid hW0
    clear hW0
    go_upto_block 0 with (fail)
    go_cut [6] (fun a wx => Below W0.heap.size W0 wx ∧ ofV n d mood = (Ac, Bc))
    case first =>
      by_cases h1 : p = 1
      · subst h1
        go_upto_region 5 with (fail)
        go_cut [5, 6] (fun a b wx => ∃ g, a = .pointer (some ⟨g, 0, none⟩) ∧ b = .int .i64 Ea ∧ wx.cell? ⟨g, 0, none⟩ = some (.int .i64 Aa) ∧ wx.cell? ⟨g, 1, none⟩ = some (.int .i64 Ba) ∧ Below W0.heap.size W0 wx)
        case first =>
          have SL := BX.out.lt
          have SN : ¬ w.heap.size = W0.heap.size := by omega
          have SN2 : ¬ W0.heap.size = w.heap.size := by omega
          have S0 : Below W0.heap.size W0 W0.drew := (Below.refl _ _).drew
          have S1 : W0.cell? ⟨w.heap.size, 0, none⟩ = some (.int .i64 n) := BX.out.cell 0
          have S2 : W0.cell? ⟨w.heap.size, 1, none⟩ = some (.int .i64 d) := BX.out.cell 1
          go_region_held3 (fun w' => Below W0.heap.size W0 w' ∧ w'.cell? ⟨w.heap.size, 0, none⟩ = some (.int .i64 n) ∧ w'.cell? ⟨w.heap.size, 1, none⟩ = some (.int .i64 d)) (first | exact ⟨by assumption, by assumption, by assumption⟩ | (refine ⟨(by repeat (first | (with_reducible exact Below.refl _ _) | (with_reducible assumption) | (with_reducible refine below_drewN ?_ _) | (with_reducible refine Below.drew ?_) | (with_reducible refine Below.alloc ?_ ?_ _) | (with_reducible refine Below.setCell ?_ ?_ _) | exact Below.refl _ _ | assumption | (solve | omega | simp | (simp; omega)))), ?_⟩; go_keep) | go_keep)
            (first
              | (go_at_call 25; refine (HQa.out _ ?_ ?_).mono ?_; omega; omega; rintro e w' ⟨rfl, rfl⟩)
              | (go_at_call 31; refine (HMFa.out _).mono ?_; rintro e w1 ⟨rfl, hb1⟩; have T0 := below_then (w := W0) (by first | assumption | exact (by repeat (first | (with_reducible exact Below.refl _ _) | (with_reducible assumption) | (with_reducible refine below_drewN ?_ _) | (with_reducible refine Below.drew ?_) | (with_reducible refine Below.alloc ?_ ?_ _) | (with_reducible refine Below.setCell ?_ ?_ _) | exact Below.refl _ _ | assumption | (solve | omega | simp | (simp; omega))))) hb1; have T9 := T0.size; obtain ⟨hc, hf⟩ := bcell hb1; have T8 := hb1.size; (try simp at T8); have T1 : w1.cell? ⟨w.heap.size, 0, none⟩ = some (.int .i64 n) := (BX.out.below T0).cell 0; have T2 : w1.cell? ⟨w.heap.size, 1, none⟩ = some (.int .i64 d) := (BX.out.below T0).cell 1))
          all_goals
            go_wp2_with fail
            go_meet
            exact ⟨_, rfl, rfl, by first | (simp [*]; done) | (go_simp; done) | (simp [go_sem, *]; done) | trace_state, by first | (simp [*]; done) | (go_simp; done) | (simp [go_sem, *]; done) | trace_state, (by repeat (first | (with_reducible exact Below.refl _ _) | (with_reducible assumption) | (with_reducible refine below_drewN ?_ _) | (with_reducible refine Below.drew ?_) | (with_reducible refine Below.alloc ?_ ?_ _) | (with_reducible refine Below.setCell ?_ ?_ _) | exact Below.refl _ _ | assumption | (solve | omega | simp | (simp; omega))))⟩
        case rest =>
          obtain ⟨g, rfl, rfl, gA, gB, hbx⟩ := hcut
          by_cases hE : Ea = 0
          · subst hE
            have HF1 := Lib.hid (HV.out.trans (ofS_1 n d Aa Ba _ _))
            have HBX := Lib.hid hbx
            obtain ⟨k4, f4⟩ := (BR.out.below hbx).of
            clear hbx
            go_wp2
            refine bodyPost_ret (v := .agg #[.int .i64 Aa, .int .i64 Ba]) (by simp [results, Try.results14, go_sem, k4]) rfl ⟨by rw [HF1.out], ?_⟩
            have hB := below_then HB0.out HBX.out
            exact (by repeat (first | (with_reducible exact Below.refl _ _) | (with_reducible assumption) | (with_reducible refine below_drewN ?_ _) | (with_reducible refine Below.drew ?_) | (with_reducible refine Below.alloc ?_ ?_ _) | (with_reducible refine Below.setCell ?_ ?_ _) | exact Below.refl _ _ | assumption | (solve | omega | simp | (simp; omega))))
          · have bE : (Ea == 0) = false := beq_eq_false_iff_ne.2 hE
            have HF1 := Lib.hid (HV.out.trans (ofS_3 (Or.inr (Or.inl ⟨rfl, hE⟩))))
            go_wp2
            go_meet
            exact ⟨hbx, HF1.out⟩
      · have b1 : (p == 1) = false := beq_eq_false_iff_ne.2 h1
        by_cases h2 : p = 2
        · subst h2
          go_upto_region 9 with (fail)
          go_cut [7, 8] (fun a b wx => ∃ g, a = .pointer (some ⟨g, 0, none⟩) ∧ b = .int .i64 Eb ∧ wx.cell? ⟨g, 0, none⟩ = some (.int .i64 Ab) ∧ wx.cell? ⟨g, 1, none⟩ = some (.int .i64 Bb) ∧ Below W0.heap.size W0 wx)
          case first =>
            have SL := BX.out.lt
            have SN : ¬ w.heap.size = W0.heap.size := by omega
            have SN2 : ¬ W0.heap.size = w.heap.size := by omega
            have S0 : Below W0.heap.size W0 W0.drew := (Below.refl _ _).drew
            have S1 : W0.cell? ⟨w.heap.size, 0, none⟩ = some (.int .i64 n) := BX.out.cell 0
            have S2 : W0.cell? ⟨w.heap.size, 1, none⟩ = some (.int .i64 d) := BX.out.cell 1
            go_region_held3 (fun w' => Below W0.heap.size W0 w' ∧ w'.cell? ⟨w.heap.size, 0, none⟩ = some (.int .i64 n) ∧ w'.cell? ⟨w.heap.size, 1, none⟩ = some (.int .i64 d)) (first | exact ⟨by assumption, by assumption, by assumption⟩ | (refine ⟨(by repeat (first | (with_reducible exact Below.refl _ _) | (with_reducible assumption) | (with_reducible refine below_drewN ?_ _) | (with_reducible refine Below.drew ?_) | (with_reducible refine Below.alloc ?_ ?_ _) | (with_reducible refine Below.setCell ?_ ?_ _) | exact Below.refl _ _ | assumption | (solve | omega | simp | (simp; omega)))), ?_⟩; go_keep) | go_keep)
              (first
                | (go_at_call 25; refine (HQb.out _ ?_ ?_).mono ?_; omega; omega; rintro e w' ⟨rfl, rfl⟩)
                | (go_at_call 31; refine (HMFb.out _).mono ?_; rintro e w1 ⟨rfl, hb1⟩; have T0 := below_then (w := W0) (by first | assumption | exact (by repeat (first | (with_reducible exact Below.refl _ _) | (with_reducible assumption) | (with_reducible refine below_drewN ?_ _) | (with_reducible refine Below.drew ?_) | (with_reducible refine Below.alloc ?_ ?_ _) | (with_reducible refine Below.setCell ?_ ?_ _) | exact Below.refl _ _ | assumption | (solve | omega | simp | (simp; omega))))) hb1; have T9 := T0.size; obtain ⟨hc, hf⟩ := bcell hb1; have T8 := hb1.size; (try simp at T8); have T1 : w1.cell? ⟨w.heap.size, 0, none⟩ = some (.int .i64 n) := (BX.out.below T0).cell 0; have T2 : w1.cell? ⟨w.heap.size, 1, none⟩ = some (.int .i64 d) := (BX.out.below T0).cell 1))
            all_goals
              go_wp2_with fail
              go_meet
              exact ⟨_, rfl, rfl, by first | (simp [*]; done) | (go_simp; done) | (simp [go_sem, *]; done) | trace_state, by first | (simp [*]; done) | (go_simp; done) | (simp [go_sem, *]; done) | trace_state, (by repeat (first | (with_reducible exact Below.refl _ _) | (with_reducible assumption) | (with_reducible refine below_drewN ?_ _) | (with_reducible refine Below.drew ?_) | (with_reducible refine Below.alloc ?_ ?_ _) | (with_reducible refine Below.setCell ?_ ?_ _) | exact Below.refl _ _ | assumption | (solve | omega | simp | (simp; omega))))⟩
          case rest =>
            obtain ⟨g, rfl, rfl, gA, gB, hbx⟩ := hcut
            by_cases hE : Eb = 0
            · subst hE
              have HF1 := Lib.hid (HV.out.trans (ofS_2 n d _ Ab Bb _))
              have HBX := Lib.hid hbx
              obtain ⟨k4, f4⟩ := (BR.out.below hbx).of
              clear hbx
              go_wp2
              refine bodyPost_ret (v := .agg #[.int .i64 Ab, .int .i64 Bb]) (by simp [results, Try.results14, go_sem, k4]) rfl ⟨by rw [HF1.out], ?_⟩
              have hB := below_then HB0.out HBX.out
              exact (by repeat (first | (with_reducible exact Below.refl _ _) | (with_reducible assumption) | (with_reducible refine below_drewN ?_ _) | (with_reducible refine Below.drew ?_) | (with_reducible refine Below.alloc ?_ ?_ _) | (with_reducible refine Below.setCell ?_ ?_ _) | exact Below.refl _ _ | assumption | (solve | omega | simp | (simp; omega))))
            · have bE : (Eb == 0) = false := beq_eq_false_iff_ne.2 hE
              have HF1 := Lib.hid (HV.out.trans (ofS_3 (Or.inr (Or.inr (Or.inl ⟨rfl, hE⟩)))))
              go_wp2
              go_meet
              exact ⟨hbx, HF1.out⟩
        · have b2 : (p == 2) = false := beq_eq_false_iff_ne.2 h2
          have HF1 := Lib.hid (HV.out.trans (ofS_3 (Or.inr (Or.inr (Or.inr ⟨h0, h1, h2⟩)))))
          go_wp2
          go_meet
          exact ⟨Below.refl _ _, HF1.out⟩
    case rest =>
      obtain ⟨hcut, hfin⟩ := hcut
      have HFIN := Lib.hid hfin
      clear hfin
      have HB1 := Lib.hid (below_then HB0.out hcut)
      have BX1 := Lib.hid (BX.out.below hcut)
      have BR1 := Lib.hid (BR.out.below hcut)
      clear hcut
      go_upto_region 12 with (fail)
      go_cut [9, 10] (fun a b wx => ∃ g, a = .pointer (some ⟨g, 0, none⟩) ∧ b = .int .i64 Ec ∧ wx.cell? ⟨g, 0, none⟩ = some (.int .i64 Ac) ∧ wx.cell? ⟨g, 1, none⟩ = some (.int .i64 Bc) ∧ Below wc.heap.size wc wx)
      case first =>
        have SL := BX1.out.lt
        have SN : ¬ w.heap.size = wc.heap.size := by omega
        have SN2 : ¬ wc.heap.size = w.heap.size := by omega
        have S0 : Below wc.heap.size wc wc.drew := (Below.refl _ _).drew
        have S1 : wc.cell? ⟨w.heap.size, 0, none⟩ = some (.int .i64 n) := BX1.out.cell 0
        have S2 : wc.cell? ⟨w.heap.size, 1, none⟩ = some (.int .i64 d) := BX1.out.cell 1
        go_region_held3 (fun w' => Below wc.heap.size wc w' ∧ w'.cell? ⟨w.heap.size, 0, none⟩ = some (.int .i64 n) ∧ w'.cell? ⟨w.heap.size, 1, none⟩ = some (.int .i64 d)) (first | exact ⟨by assumption, by assumption, by assumption⟩ | (refine ⟨(by repeat (first | (with_reducible exact Below.refl _ _) | (with_reducible assumption) | (with_reducible refine below_drewN ?_ _) | (with_reducible refine Below.drew ?_) | (with_reducible refine Below.alloc ?_ ?_ _) | (with_reducible refine Below.setCell ?_ ?_ _) | exact Below.refl _ _ | assumption | (solve | omega | simp | (simp; omega)))), ?_⟩; go_keep) | go_keep)
          (first
            | (go_at_call 25; refine (HQc.out _ ?_ ?_).mono ?_; omega; omega; rintro e w' ⟨rfl, rfl⟩)
            | (go_at_call 31; refine (HMFc.out _).mono ?_; rintro e w1 ⟨rfl, hb1⟩; have T0 := below_then (w := wc) (by first | assumption | exact (by repeat (first | (with_reducible exact Below.refl _ _) | (with_reducible assumption) | (with_reducible refine below_drewN ?_ _) | (with_reducible refine Below.drew ?_) | (with_reducible refine Below.alloc ?_ ?_ _) | (with_reducible refine Below.setCell ?_ ?_ _) | exact Below.refl _ _ | assumption | (solve | omega | simp | (simp; omega))))) hb1; have T9 := T0.size; obtain ⟨hc, hf⟩ := bcell hb1; have T8 := hb1.size; (try simp at T8); have T1 : w1.cell? ⟨w.heap.size, 0, none⟩ = some (.int .i64 n) := (BX1.out.below T0).cell 0; have T2 : w1.cell? ⟨w.heap.size, 1, none⟩ = some (.int .i64 d) := (BX1.out.below T0).cell 1))
        all_goals
          go_wp2_with fail
          go_meet
          exact ⟨_, rfl, rfl, by first | (simp [*]; done) | (go_simp; done) | (simp [go_sem, *]; done) | trace_state, by first | (simp [*]; done) | (go_simp; done) | (simp [go_sem, *]; done) | trace_state, (by repeat (first | (with_reducible exact Below.refl _ _) | (with_reducible assumption) | (with_reducible refine below_drewN ?_ _) | (with_reducible refine Below.drew ?_) | (with_reducible refine Below.alloc ?_ ?_ _) | (with_reducible refine Below.setCell ?_ ?_ _) | exact Below.refl _ _ | assumption | (solve | omega | simp | (simp; omega))))⟩
      case rest =>
        obtain ⟨g, rfl, rfl, gA, gB, hbx⟩ := hcut
        have HBX := Lib.hid hbx
        obtain ⟨k4, f4⟩ := (BR1.out.below hbx).of
        clear hbx
        go_wp2
        refine bodyPost_ret (v := .agg #[.int .i64 Ac, .int .i64 Bc]) (by simp [results, Try.results14, go_sem, k4]) rfl ⟨by rw [HFIN.out], ?_⟩
        have hB := below_then HB1.out HBX.out
        exact (by repeat (first | (with_reducible exact Below.refl _ _) | (with_reducible assumption) | (with_reducible refine below_drewN ?_ _) | (with_reducible refine Below.drew ?_) | (with_reducible refine Below.alloc ?_ ?_ _) | (with_reducible refine Below.setCell ?_ ?_ _) | exact Below.refl _ _ | assumption | (solve | omega | simp | (simp; omega))))
end Go.Proofs.Ytnhbidagnomkpaa
