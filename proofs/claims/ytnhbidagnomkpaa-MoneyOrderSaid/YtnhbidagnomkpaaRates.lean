/-
  The contract of rates in the statements of chapter 4: it returns some table.
-/
import Derived.Test.YtnhbidagnomkpaaConvert
import Derived.Test.YtnhbidagnomkpaaMoneySums
import Derived.Deep.RegionHeld3
namespace Go.Proofs.Ytnhbidagnomkpaa
open Go.RowKit Mny

theorem info_rate : (Try.prog.info? 75).map (fun i => (i.zero, i.size, i.bytes)) = some (some (.agg #[.int .i64 0, .int .i64 0, .int .i64 0, .int .i64 0]), 4, 32) := by kernel_rfl
/-- the cells of rows -/
def rowCells (l : List Rt) : List Value := l.flatMap fun r => [.int .i64 r.c, .int .i64 r.m, .int .i64 r.n, .int .i64 r.d]
theorem rowCells_len (l : List Rt) : (rowCells l).length = l.length * 4 := by
  induction l with
  | nil => rfl
  | cons r l ih => simp only [rowCells, List.flatMap_cons, List.length_append, List.length_cons, List.length_nil] at *; omega
theorem rowCells_snoc (l : List Rt) (r : Rt) : rowCells (l ++ [r]) = rowCells l ++ [.int .i64 r.c, .int .i64 r.m, .int .i64 r.n, .int .i64 r.d] := by simp [rowCells]
theorem rowCells_at {l : List Rt} : ∀ {k : Nat} {r : Rt}, l[k]? = some r → (rowCells l)[k * 4]? = some (.int .i64 r.c) ∧ (rowCells l)[k * 4 + 1]? = some (.int .i64 r.m) ∧ (rowCells l)[k * 4 + 2]? = some (.int .i64 r.n) ∧ (rowCells l)[k * 4 + 3]? = some (.int .i64 r.d) := by
  induction l with
  | nil => intro k r h; cases h
  | cons s l ih =>
    intro k r h
    cases k with
    | zero => injection h with h; subst h; exact ⟨rfl, rfl, rfl, rfl⟩
    | succ k =>
      obtain ⟨a, b, c, d⟩ := ih (k := k) (r := r) (by simpa using h)
      have e : ∀ j, (rowCells (s :: l))[(k + 1) * 4 + j]? = (rowCells l)[k * 4 + j]? := fun j => by
        show ([.int .i64 s.c, .int .i64 s.m, .int .i64 s.n, .int .i64 s.d] ++ rowCells l)[(k + 1) * 4 + j]? = _
        rw [List.getElem?_append_right (by simp; omega)]
        congr 1
        simp
        omega
      exact ⟨by rw [← Nat.add_zero ((k + 1) * 4), e]; exact a, by rw [e]; exact b, by rw [e]; exact c, by rw [e]; exact d⟩
theorem own_below {w w' : World} {base n size : Nat} {e : TypeId} {v : Value} {xs : List Value} (h : w.ownsRow base e size v n xs) (hb : Below w.heap.size w w') : w'.ownsRow base e size v n xs := by
  refine ⟨h.1, ?_⟩
  rcases h.2 with h0 | ⟨g, cap, cur, h1, h2, h3, h4⟩
  · exact .inl h0
  · exact .inr ⟨g, cap, cur, h1, h2, (hb.block g (Bx.lt h3)).trans h3, h4⟩
theorem own_slice {w : World} {base n size : Nat} {e : TypeId} {v : Value} {xs : List Value} (h : w.ownsRow base e size v n xs) : ∃ A c, v = .slice A n c := by
  rcases h.2 with ⟨rfl, rfl⟩ | ⟨g, cap, cur, rfl, _⟩
  · exact ⟨_, _, rfl⟩
  · exact ⟨_, _, rfl⟩
theorem Tab.own {w : World} {base n : Nat} {v : Value} {l : List Rt} (h : w.ownsRow base 75 4 v n (rowCells l)) (hl : l.length = n) (hn : n ≤ 1000000) : Tab w v l := by
  rcases h.2 with ⟨rfl, h0⟩ | ⟨g, cap, cur, rfl, _, hh, _, _, _, ht⟩
  · exact .inl ⟨_, _, rfl, List.length_eq_zero_iff.1 (by omega)⟩
  · refine .inr ⟨g, 0, n, cap, rfl, hl, fun k r hk => ?_, Bx.lt hh, hn⟩
    have hk2 : k < l.length := (List.getElem?_eq_some_iff.1 hk).1
    obtain ⟨a, b, c, d⟩ := rowCells_at hk
    have e : ∀ j u, (rowCells l)[j]? = some u → w.cell? ⟨g, 0 + j, none⟩ = some u := fun j u hj => by
      have hj2 := (List.getElem?_eq_some_iff.1 hj).1
      rw [rowCells_len] at hj2
      rw [Nat.zero_add, Bx.cell hh, ← hj, ← ht, List.getElem?_take, if_pos (by omega), Array.getElem?_toList]
    exact ⟨e _ _ a, e (k * 4 + 1) _ b, e (k * 4 + 2) _ c, e (k * 4 + 3) _ d⟩

/-- some table came out -/
def RatesOut (w : World) (e : Ending) (w' : World) : Prop := ∃ v l', e = .returned v ∧ Tab w' v l' ∧ Below w.heap.size w w'

theorem law_rates0 (A : Option Addr) (c : Nat) (mood : Int) (w : World) : Calls Try.prog 34 #[.slice A 0 c, .int .i64 mood] w (RatesOut w) := by
  have hp := fun W => made_Pick mood 6 W (by omega) (by omega)
  obtain ⟨q, hq⟩ : ∃ q, mood % 6 = q := ⟨_, rfl⟩
  rw [hq] at hp
  have HP := Lib.hid hp
  clear hp hq
  by_cases h0 : q = 0
  · have hb0 : (q == 0) = true := beq_iff_eq.2 h0
    clear h0
    go_enter Try.func34, Try.ntmps34
    go_wp2_with fail
    refine (HP.out _).mono ?_
    rintro e _ ⟨rfl, rfl⟩
    go_wp2
    go_ret
    exact ⟨_, [], rfl, .inl ⟨_, _, rfl, rfl⟩, (by repeat (first | (with_reducible exact Below.refl _ _) | (with_reducible assumption) | (with_reducible refine below_drewN ?_ _) | (with_reducible refine Below.drew ?_) | (with_reducible refine Below.alloc ?_ ?_ _) | (with_reducible refine Below.setCell ?_ ?_ _) | exact Below.refl _ _ | assumption | (solve | omega | simp | (simp; omega))))⟩
  · have hb0 : (q == 0) = false := beq_eq_false_iff_ne.2 h0
    clear h0
    go_enter Try.func34, Try.ntmps34
    go_wp2_with fail
    refine (HP.out _).mono ?_
    rintro e _ ⟨rfl, rfl⟩
    go_wp2
    refine wp_loop_rounds 1 ?_
    rw [rounds_succ]
    go_wp2
    go_ret
    exact ⟨_, [], rfl, .inl ⟨_, _, rfl, rfl⟩, (by repeat (first | (with_reducible exact Below.refl _ _) | (with_reducible assumption) | (with_reducible refine below_drewN ?_ _) | (with_reducible refine Below.drew ?_) | (with_reducible refine Below.alloc ?_ ?_ _) | (with_reducible refine Below.setCell ?_ ?_ _) | exact Below.refl _ _ | assumption | (solve | omega | simp | (simp; omega))))⟩

set_option maxRecDepth 100000 in
set_option maxHeartbeats 8000000 in
theorem law_rates1 (l : List Rt) (n b off cc : Nat) (mood : Int) (w : World) (hn : l.length = n) (hr : RatesAt w b off l) (hb : b < w.heap.size) (h60 : n ≤ 60) :
    Calls Try.prog 34 #[.slice (some ⟨b, off, none⟩) n cc, .int .i64 mood] w (RatesOut w) := by
  have HT : Hid (Tab w (.slice (some ⟨b, off, none⟩) n cc) l) := Lib.hid (.inr ⟨b, off, n, cc, rfl, hn, hr, hb, by omega⟩)
  have HN := Lib.hid hn
  have HR := Lib.hid hr
  clear hn hr
  have hp := fun W => made_Pick mood 6 W (by omega) (by omega)
  obtain ⟨q, hq⟩ : ∃ q, mood % 6 = q := ⟨_, rfl⟩
  rw [hq] at hp
  have HP := Lib.hid hp
  clear hp hq
  by_cases h45 : 45 < n
  · have g1 : decide (45 < n) = true := decide_eq_true h45
    go_enter Try.func34, Try.ntmps34
    go_wp2
    go_ret
    exact ⟨_, l, rfl, HT.out, (by repeat (first | (with_reducible exact Below.refl _ _) | (with_reducible assumption) | (with_reducible refine below_drewN ?_ _) | (with_reducible refine Below.drew ?_) | (with_reducible refine Below.alloc ?_ ?_ _) | (with_reducible refine Below.setCell ?_ ?_ _) | exact Below.refl _ _ | assumption | (solve | omega | simp | (simp; omega))))⟩
  · have g1 : decide (45 < n) = false := decide_eq_false h45
    have g2 : decide ((45 : Int) < (n : Int)) = false := decide_eq_false (by omega)
    by_cases h0 : q = 0
    · have hb0 : (q == 0) = true := beq_iff_eq.2 h0
      clear h0
      go_enter Try.func34, Try.ntmps34
      go_wp2_with fail
      refine (HP.out _).mono ?_
      rintro e _ ⟨rfl, rfl⟩
      go_wp2
      go_ret
      exact ⟨_, l, rfl, HT.out, (by repeat (first | (with_reducible exact Below.refl _ _) | (with_reducible assumption) | (with_reducible refine below_drewN ?_ _) | (with_reducible refine Below.drew ?_) | (with_reducible refine Below.alloc ?_ ?_ _) | (with_reducible refine Below.setCell ?_ ?_ _) | exact Below.refl _ _ | assumption | (solve | omega | simp | (simp; omega))))⟩
    · have hb0 : (q == 0) = false := beq_eq_false_iff_ne.2 h0
      clear h0
      obtain ⟨i0, hi, hz0, hz1, hz2⟩ := info_parts info_rate
      go_enter Try.func34, Try.ntmps34
      go_wp2_with fail
      refine (HP.out _).mono ?_
      rintro e _ ⟨rfl, rfl⟩
      go_wp2
      go_loopw [5, 6, 7, 8] (fun s cu mo i wr => ∃ (k : Nat) (xs : List Rt) (A : Option Addr) (c9 : Nat) (c0 m0 : Int), k ≤ n ∧ i = .int .i64 k ∧ s = .slice A k c9 ∧ cu = .int .i64 c0 ∧ mo = .int .i64 m0 ∧ xs.length = k ∧ wr.ownsRow w.heap.size 75 4 (.slice A k c9) k (rowCells xs) ∧ Below w.heap.size w wr) (fun _ _ _ i _ => n - (intOf i).toNat)
      case atStart => exact ⟨0, [], none, 0, 1, 0, Nat.zero_le _, rfl, rfl, rfl, rfl, rfl, ⟨rfl, .inl ⟨rfl, rfl⟩⟩, Below.refl _ _⟩
      case round =>
        obtain ⟨k, xs, A, c9, c0, m0, hk, rfl, rfl, rfl, rfl, hxl, hown, hbl⟩ := hrel
        have HX := Lib.hid hxl
        have HO := Lib.hid hown
        have HB := Lib.hid hbl
        have HRW := Lib.hid (HR.out.below hb hbl)
        have hsz : b < wr.heap.size := Nat.lt_of_lt_of_le hb hbl.size
        have hsz0 : w.heap.size ≤ wr.heap.size := hbl.size
        clear hxl hown hbl
        by_cases hlt : k < n
        · obtain ⟨r, hr⟩ : ∃ r, l[k]? = some r := ⟨l[k]'(by rw [HN.out]; exact hlt), List.getElem?_eq_getElem _⟩
          obtain ⟨k0, k1, k2, k3⟩ := HRW.out k r hr
          obtain ⟨rc, rm, rn, rd⟩ := r
          simp only at k0 k1 k2 k3
          clear hr
          have hpn := fun W => made_Pick rn 1000000 W (by omega) (by omega)
          obtain ⟨pn, hpne⟩ : ∃ p, rn % 1000000 = p := ⟨_, rfl⟩
          have hpnb : 0 ≤ pn ∧ pn < 1000000 := by omega
          rw [hpne] at hpn
          have HPN := Lib.hid hpn
          have hpd := fun W => made_Pick rd 1000000 W (by omega) (by omega)
          obtain ⟨pd, hpde⟩ : ∃ p, rd % 1000000 = p := ⟨_, rfl⟩
          have hpdb : 0 ≤ pd ∧ pd < 1000000 := by omega
          rw [hpde] at hpd
          have HPD := Lib.hid hpd
          obtain ⟨pn0, pn1⟩ := hpnb
          obtain ⟨pd0, pd1⟩ := hpdb
          have hmf := fun W => ref_MakeFraction (pn + 1) (pd + 1) W (by omega) (by omega) (by omega) (by omega)
          obtain ⟨fn, fd, fe, hfe⟩ : ∃ a b c, mkS (pn + 1) (pd + 1) = (a, b, c) := ⟨_, _, _, rfl⟩
          rw [hfe] at hmf
          have HMF : Hid (∀ W, Calls Try.prog 31 #[.int .i64 (pn + 1), .int .i64 (pd + 1)] W fun e w' => e = .returned (.tuple #[.agg #[.int .i64 fn, .int .i64 fd], .int .i64 fe]) ∧ Below W.heap.size W w') := Lib.hid hmf
          clear hpn hpd hpne hpde hmf hfe
          obtain ⟨q3, hq3⟩ : ∃ q, rc.tmod 3 = q := ⟨_, rfl⟩
          have HQ3 := Lib.hid hq3
          clear hq3
          by_cases hz : q3 = 0
          · have hb3 : (rc.tmod 3 == 0) = true := by rw [HQ3.out]; exact beq_iff_eq.2 hz
            clear hz
            have hpm := fun W => made_Pick rm 300 W (by omega) (by omega)
            obtain ⟨pm, hpme⟩ : ∃ p, rm % 300 = p := ⟨_, rfl⟩
            rw [hpme] at hpm
            have HPM := Lib.hid hpm
            clear hpm hpme
            go_wp2_with fail
            refine (HPM.out _).mono ?_
            rintro e _ ⟨rfl, rfl⟩
            go_upto_region 11 with (fail)
            go_cut [6, 7, 9, 10] (fun a b c e wx => ∃ (cu mo : Int) (g : Nat), a = .int .i64 cu ∧ b = .int .i64 mo ∧ c = .pointer (some ⟨g, 0, none⟩) ∧ Bx wx g 23 #[.int .i64 fn, .int .i64 fd] ∧ Below wr.heap.size wr wx)
            case first =>
              have S0 : Below wr.heap.size wr wr.drew := (Below.refl _ _).drew
              have V1 : IntKind.i64.wrap (pn + 1) = pn + 1 := IntWalk.i64_in _ (by omega)
              have V2 : IntKind.i64.wrap (pd + 1) = pd + 1 := IntWalk.i64_in _ (by omega)
              have N1 : ¬ b = wr.heap.size := by omega
              have N2 : ¬ wr.heap.size = b := by omega
              have i0 : (k : Int) < (n : Int) := by omega
              go_region_held3 (fun w' => Below wr.heap.size wr w' ∧ w'.cell? ⟨b, off + k * 4 + 2, none⟩ = some (.int .i64 rn) ∧ w'.cell? ⟨b, off + k * 4 + 3, none⟩ = some (.int .i64 rd)) (first | exact ⟨by assumption, by assumption, by assumption⟩ | (refine ⟨(by repeat (first | (with_reducible exact Below.refl _ _) | (with_reducible assumption) | (with_reducible refine below_drewN ?_ _) | (with_reducible refine Below.drew ?_) | (with_reducible refine Below.alloc ?_ ?_ _) | (with_reducible refine Below.setCell ?_ ?_ _) | exact Below.refl _ _ | assumption | (solve | omega | simp | (simp; omega)))), ?_⟩; go_keep) | go_keep)
                (first
                  | (go_at_call_of 25 (Value.int IntKind.i64 rn); refine (HPN.out _).mono ?_; rintro e w' ⟨rfl, rfl⟩)
                  | (go_at_call_of 25 (Value.int IntKind.i64 rd); refine (HPD.out _).mono ?_; rintro e w' ⟨rfl, rfl⟩)
                  | (go_at_call 31; refine (HMF.out _).mono ?_; rintro e w1 ⟨rfl, hb1⟩; have T0 := below_then (w := wr) (by first | assumption | exact (by repeat (first | (with_reducible exact Below.refl _ _) | (with_reducible assumption) | (with_reducible refine below_drewN ?_ _) | (with_reducible refine Below.drew ?_) | (with_reducible refine Below.alloc ?_ ?_ _) | (with_reducible refine Below.setCell ?_ ?_ _) | exact Below.refl _ _ | assumption | (solve | omega | simp | (simp; omega))))) hb1; have T9 := T0.size; have T1 : w1.cell? ⟨b, off + k * 4 + 2, none⟩ = some (.int .i64 rn) := (T0.cell (p := ⟨b, off + k * 4 + 2, none⟩) hsz).trans k2; have T2 : w1.cell? ⟨b, off + k * 4 + 3, none⟩ = some (.int .i64 rd) := (T0.cell (p := ⟨b, off + k * 4 + 3, none⟩) hsz).trans k3; obtain ⟨hc1, hf1⟩ := bcell hb1; have T8 := hb1.size; (try simp at T8); have M1 : ¬ b = w1.heap.size := by omega; (try have M2 : ¬ wr.heap.size = w1.heap.size := by omega); (try have M3 : wr.heap.size < w1.heap.size := by omega)))
              all_goals
                go_wp2_with fail
                go_meet
                exact ⟨_, _, _, rfl, rfl, rfl, (by (with_reducible refine BxP.out ?_); repeat (first | (with_reducible refine BxP.put ?_) | ((with_reducible refine BxP.far ?_ ?_); (focus first | omega | (simp; done) | (simp; omega))) | ((with_reducible refine BxP.made ?_ ?_); (focus first | (with_reducible rfl) | (simp; done)); rfl) | (with_reducible refine BxP.alloc ?_) | (with_reducible refine BxP.drew ?_) | (with_reducible refine BxP.drewN ?_) | (with_reducible refine BxP.below hb1 ?_) | exact BxP.of S0 rfl)), (by repeat (first | (with_reducible exact Below.refl _ _) | (with_reducible assumption) | (with_reducible refine below_drewN ?_ _) | (with_reducible refine Below.drew ?_) | (with_reducible refine Below.alloc ?_ ?_ _) | (with_reducible refine Below.setCell ?_ ?_ _) | exact Below.refl _ _ | assumption | (solve | omega | simp | (simp; omega))))⟩
            case rest =>
              obtain ⟨cu, mo, g, rfl, rfl, rfl, hbx, hbw⟩ := hcut
              have HBC := Lib.hid (below_then HB.out hbw)
              have hownc := own_below HO.out hbw
              obtain ⟨y0, z0⟩ := hbx.of
              clear hbx hbw
              have hszc : w.heap.size ≤ wc.heap.size := HBC.out.size
              go_wp2_with (at_builtin; go_loud (refine wpList_append_own _ rfl _ _ 51 rfl w.heap.size 75 i0 (.agg #[.int .i64 0, .int .i64 0, .int .i64 0, .int .i64 0]) 4 32 Try.underlying51 hi hz0 hz1 hz2 rfl (by decide) _ _ _ rfl (hownc.alloc _) ⟨wc.heap.size, 0, none⟩ 1 1 [.int .i64 cu, .int .i64 mo, .int .i64 fn, .int .i64 fd] rfl rfl ?c1 ?c2 ?c3 ?c4 ?c5 ?_))
              case c1 =>
                intro j u hj
                match j, hj with
                | 0, hj => simp at hj; subst hj; simp [Addr.add]
                | 1, hj => simp at hj; subst hj; simp [Addr.add]
                | 2, hj => simp at hj; subst hj; simp [Addr.add]
                | 3, hj => simp at hj; subst hj; simp [Addr.add]
                | j + 4, hj => simp at hj
              case c2 =>
                intro u hu
                simp at hu
                rcases hu with rfl | rfl | rfl | rfl <;> rfl
              case c3 => unfold maxLen; omega
              case c4 => omega
              case c5 => simp; omega
              intro v' w1 hown' hgrow _
              obtain ⟨A', cc', rfl⟩ := own_slice hown'
              have HO1 : Hid (w1.ownsRow w.heap.size 75 4 (.slice A' (k + 1) cc') (k + 1) (rowCells (xs ++ [⟨cu, mo, fn, fd⟩]))) := Lib.hid (by rw [rowCells_snoc]; simpa using hown')
              have HB1 : Hid (Below w.heap.size w w1) := Lib.hid ((HBC.out.alloc HBC.out.size _).grown hgrow (by simp; omega) (fun g hg => by
                rcases hownc.2 with ⟨h1, _⟩ | ⟨g', cap, cur, h1, hg', _⟩
                · rw [h1] at hg; simp [Value.ownBlock] at hg
                · rw [h1] at hg; simp [Value.ownBlock] at hg; omega))
              clear hownc hown' hgrow y0 z0
              go_wp2
              go_roundw
              case rel => exact ⟨k + 1, xs ++ [⟨cu, mo, fn, fd⟩], A', cc', _, _, by omega, by go_num, rfl, rfl, rfl, by simp [HX.out], HO1.out, HB1.out⟩
              case measure => simp [intOf]; omega
          · have hb3 : (rc.tmod 3 == 0) = false := by rw [HQ3.out]; exact beq_eq_false_iff_ne.2 hz
            clear hz
            have hpm := fun W => made_Pick rm 200 W (by omega) (by omega)
            obtain ⟨pm, hpme⟩ : ∃ p, rm % 200 = p := ⟨_, rfl⟩
            have hpmb : 0 ≤ pm ∧ pm < 200 := by omega
            obtain ⟨pm0, pm1⟩ := hpmb
            rw [hpme] at hpm
            have HPM := Lib.hid hpm
            clear hpm hpme
            go_wp2_with fail
            refine (HPM.out _).mono ?_
            rintro e _ ⟨rfl, rfl⟩
            go_upto_region 11 with (fail)
            go_cut [6, 7, 9, 10] (fun a b c e wx => ∃ (cu mo : Int) (g : Nat), a = .int .i64 cu ∧ b = .int .i64 mo ∧ c = .pointer (some ⟨g, 0, none⟩) ∧ Bx wx g 23 #[.int .i64 fn, .int .i64 fd] ∧ Below wr.heap.size wr wx)
            case first =>
              have S0 : Below wr.heap.size wr wr.drew := (Below.refl _ _).drew
              have V1 : IntKind.i64.wrap (pn + 1) = pn + 1 := IntWalk.i64_in _ (by omega)
              have V2 : IntKind.i64.wrap (pd + 1) = pd + 1 := IntWalk.i64_in _ (by omega)
              have N1 : ¬ b = wr.heap.size := by omega
              have N2 : ¬ wr.heap.size = b := by omega
              have i0 : (k : Int) < (n : Int) := by omega
              go_region_held3 (fun w' => Below wr.heap.size wr w' ∧ w'.cell? ⟨b, off + k * 4 + 2, none⟩ = some (.int .i64 rn) ∧ w'.cell? ⟨b, off + k * 4 + 3, none⟩ = some (.int .i64 rd)) (first | exact ⟨by assumption, by assumption, by assumption⟩ | (refine ⟨(by repeat (first | (with_reducible exact Below.refl _ _) | (with_reducible assumption) | (with_reducible refine below_drewN ?_ _) | (with_reducible refine Below.drew ?_) | (with_reducible refine Below.alloc ?_ ?_ _) | (with_reducible refine Below.setCell ?_ ?_ _) | exact Below.refl _ _ | assumption | (solve | omega | simp | (simp; omega)))), ?_⟩; go_keep) | go_keep)
                (first
                  | (go_at_call_of 25 (Value.int IntKind.i64 rn); refine (HPN.out _).mono ?_; rintro e w' ⟨rfl, rfl⟩)
                  | (go_at_call_of 25 (Value.int IntKind.i64 rd); refine (HPD.out _).mono ?_; rintro e w' ⟨rfl, rfl⟩)
                  | (go_at_call 31; refine (HMF.out _).mono ?_; rintro e w1 ⟨rfl, hb1⟩; have T0 := below_then (w := wr) (by first | assumption | exact (by repeat (first | (with_reducible exact Below.refl _ _) | (with_reducible assumption) | (with_reducible refine below_drewN ?_ _) | (with_reducible refine Below.drew ?_) | (with_reducible refine Below.alloc ?_ ?_ _) | (with_reducible refine Below.setCell ?_ ?_ _) | exact Below.refl _ _ | assumption | (solve | omega | simp | (simp; omega))))) hb1; have T9 := T0.size; have T1 : w1.cell? ⟨b, off + k * 4 + 2, none⟩ = some (.int .i64 rn) := (T0.cell (p := ⟨b, off + k * 4 + 2, none⟩) hsz).trans k2; have T2 : w1.cell? ⟨b, off + k * 4 + 3, none⟩ = some (.int .i64 rd) := (T0.cell (p := ⟨b, off + k * 4 + 3, none⟩) hsz).trans k3; obtain ⟨hc1, hf1⟩ := bcell hb1; have T8 := hb1.size; (try simp at T8); have M1 : ¬ b = w1.heap.size := by omega; (try have M2 : ¬ wr.heap.size = w1.heap.size := by omega); (try have M3 : wr.heap.size < w1.heap.size := by omega)))
              all_goals
                go_wp2_with fail
                go_meet
                exact ⟨_, _, _, rfl, rfl, rfl, (by (with_reducible refine BxP.out ?_); repeat (first | (with_reducible refine BxP.put ?_) | ((with_reducible refine BxP.far ?_ ?_); (focus first | omega | (simp; done) | (simp; omega))) | ((with_reducible refine BxP.made ?_ ?_); (focus first | (with_reducible rfl) | (simp; done)); rfl) | (with_reducible refine BxP.alloc ?_) | (with_reducible refine BxP.drew ?_) | (with_reducible refine BxP.drewN ?_) | (with_reducible refine BxP.below hb1 ?_) | exact BxP.of S0 rfl)), (by repeat (first | (with_reducible exact Below.refl _ _) | (with_reducible assumption) | (with_reducible refine below_drewN ?_ _) | (with_reducible refine Below.drew ?_) | (with_reducible refine Below.alloc ?_ ?_ _) | (with_reducible refine Below.setCell ?_ ?_ _) | exact Below.refl _ _ | assumption | (solve | omega | simp | (simp; omega))))⟩
            case rest =>
              obtain ⟨cu, mo, g, rfl, rfl, rfl, hbx, hbw⟩ := hcut
              have HBC := Lib.hid (below_then HB.out hbw)
              have hownc := own_below HO.out hbw
              obtain ⟨y0, z0⟩ := hbx.of
              clear hbx hbw
              have hszc : w.heap.size ≤ wc.heap.size := HBC.out.size
              go_wp2_with (at_builtin; go_loud (refine wpList_append_own _ rfl _ _ 51 rfl w.heap.size 75 i0 (.agg #[.int .i64 0, .int .i64 0, .int .i64 0, .int .i64 0]) 4 32 Try.underlying51 hi hz0 hz1 hz2 rfl (by decide) _ _ _ rfl (hownc.alloc _) ⟨wc.heap.size, 0, none⟩ 1 1 [.int .i64 cu, .int .i64 mo, .int .i64 fn, .int .i64 fd] rfl rfl ?c1 ?c2 ?c3 ?c4 ?c5 ?_))
              case c1 =>
                intro j u hj
                match j, hj with
                | 0, hj => simp at hj; subst hj; simp [Addr.add]
                | 1, hj => simp at hj; subst hj; simp [Addr.add]
                | 2, hj => simp at hj; subst hj; simp [Addr.add]
                | 3, hj => simp at hj; subst hj; simp [Addr.add]
                | j + 4, hj => simp at hj
              case c2 =>
                intro u hu
                simp at hu
                rcases hu with rfl | rfl | rfl | rfl <;> rfl
              case c3 => unfold maxLen; omega
              case c4 => omega
              case c5 => simp; omega
              intro v' w1 hown' hgrow _
              obtain ⟨A', cc', rfl⟩ := own_slice hown'
              have HO1 : Hid (w1.ownsRow w.heap.size 75 4 (.slice A' (k + 1) cc') (k + 1) (rowCells (xs ++ [⟨cu, mo, fn, fd⟩]))) := Lib.hid (by rw [rowCells_snoc]; simpa using hown')
              have HB1 : Hid (Below w.heap.size w w1) := Lib.hid ((HBC.out.alloc HBC.out.size _).grown hgrow (by simp; omega) (fun g hg => by
                rcases hownc.2 with ⟨h1, _⟩ | ⟨g', cap, cur, h1, hg', _⟩
                · rw [h1] at hg; simp [Value.ownBlock] at hg
                · rw [h1] at hg; simp [Value.ownBlock] at hg; omega))
              clear hownc hown' hgrow y0 z0
              go_wp2
              go_roundw
              case rel => exact ⟨k + 1, xs ++ [⟨cu, mo, fn, fd⟩], A', cc', _, _, by omega, by go_num, rfl, rfl, rfl, by simp [HX.out], HO1.out, HB1.out⟩
              case measure => simp [intOf]; omega
        · obtain rfl : k = n := by omega
          go_wp2
          go_ret
          exact ⟨_, xs, rfl, Tab.own HO.out HX.out (by omega), HB.out⟩

theorem law_rates {v : Value} {l : List Rt} (mood : Int) {w : World} (h : Tab w v l) (h60 : l.length ≤ 60) : Calls Try.prog 34 #[v, .int .i64 mood] w (RatesOut w) := by
  rcases h with ⟨A, c, rfl, rfl⟩ | ⟨b, off, n, c, rfl, h2, h3, h4, h5⟩
  · exact law_rates0 A c mood w
  · exact law_rates1 l n b off c mood w h2 h3 h4 (by omega)
end Go.Proofs.Ytnhbidagnomkpaa
