/-
  Some valid table of rates, in a block of the call's own: the contract of plain.Rates.
-/
import Derived.Test.YtaifacnpnhcdcaaConvert
import Derived.Test.YtaifacnpnhcdcaaMakeV
import Derived.Test.YtaifacnpnhcdcaaPostG
import Derived.Maps.AppendAt
import Derived.Deep.RegionHeld
namespace Go.Proofs.Ytaifacnpnhcdcaa
open Go.RowKit Mny

theorem info_rate : (Try.prog.info? 54).map (fun i => (i.zero, i.size, i.bytes)) = some (some (.agg #[.int .i64 0, .int .i64 0, .int .i64 0, .int .i64 0]), 4, 32) := by kernel_rfl
/-- the cells of rows -/
def rowCells (l : List Rt) : List Value := l.flatMap fun r => [.int .i64 r.c, .int .i64 r.m, .int .i64 r.n, .int .i64 r.d]
theorem rowCells_len (l : List Rt) : (rowCells l).length = l.length * 4 := by
  induction l with
  | nil => rfl
  | cons r l ih => simp only [rowCells, List.flatMap_cons, List.length_append, List.length_cons, List.length_nil] at *; omega
theorem rowCells_snoc (l : List Rt) (r : Rt) : rowCells (l ++ [r]) = rowCells l ++ [.int .i64 r.c, .int .i64 r.m, .int .i64 r.n, .int .i64 r.d] := by simp [rowCells]
theorem rowCells_at {l : List Rt} : ∀ {k : Nat} {r : Rt}, l[k]? = some r → (rowCells l)[k * 4]? = some (.int .i64 r.c) ∧ (rowCells l)[k * 4 + 1]? = some (.int .i64 r.m) ∧ (rowCells l)[k * 4 + 2]? = some (.int .i64 r.n) ∧ (rowCells l)[k * 4 + 3]? = some (.int .i64 r.d) := by
  induction l with
  | nil => intro k r h; cases h
  | cons s l ih =>
    intro k r h
    cases k with
    | zero => injection h with h; subst h; exact ⟨rfl, rfl, rfl, rfl⟩
    | succ k =>
      obtain ⟨a, b, c, d⟩ := ih (k := k) (r := r) (by simpa using h)
      have e : ∀ j, (rowCells (s :: l))[(k + 1) * 4 + j]? = (rowCells l)[k * 4 + j]? := fun j => by
        show ([.int .i64 s.c, .int .i64 s.m, .int .i64 s.n, .int .i64 s.d] ++ rowCells l)[(k + 1) * 4 + j]? = _
        rw [List.getElem?_append_right (by simp; omega)]
        congr 1
        simp
        omega
      exact ⟨by rw [← Nat.add_zero ((k + 1) * 4), e]; exact a, by rw [e]; exact b, by rw [e]; exact c, by rw [e]; exact d⟩
theorem Tab.own {w : World} {base n : Nat} {v : Value} {l : List Rt} (h : w.ownsRow base 54 4 v n (rowCells l)) (hl : l.length = n) (hn : n ≤ 1000000000000000) : Tab w v l := by
  rcases h.2 with ⟨rfl, h0⟩ | ⟨g, cap, cur, rfl, _, hh, _, _, _, ht⟩
  · exact .inl ⟨_, _, rfl, List.length_eq_zero_iff.1 (by omega)⟩
  · refine .inr ⟨g, 0, n, cap, rfl, hl, fun k r hk => ?_, Bx.lt hh, hn⟩
    have hk2 : k < l.length := (List.getElem?_eq_some_iff.1 hk).1
    obtain ⟨a, b, c, d⟩ := rowCells_at hk
    have e : ∀ j u, (rowCells l)[j]? = some u → w.cell? ⟨g, 0 + j, none⟩ = some u := fun j u hj => by
      have hj2 := (List.getElem?_eq_some_iff.1 hj).1
      rw [rowCells_len] at hj2
      rw [Nat.zero_add, Bx.cell hh, ← hj, ← ht, List.getElem?_take, if_pos (by omega), Array.getElem?_toList]
    exact ⟨e _ _ a, e (k * 4 + 1) _ b, e (k * 4 + 2) _ c, e (k * 4 + 3) _ d⟩

theorem ChkP.snoc {l : List Rt} {r : Rt} (h : ChkP l l.length) (ho : okR r = true) (hf : ∀ s, l[l.length - 1]? = some s → folR s r = true) : ChkP (l ++ [r]) (l ++ [r]).length := fun j hj => by
  rw [List.length_append, List.length_singleton] at hj
  by_cases e : j = l.length
  · subst e
    have hr : (l ++ [r])[l.length]? = some r := by rw [List.getElem?_append_right (Nat.le_refl _), Nat.sub_self]; rfl
    rcases Nat.eq_zero_or_pos l.length with h0 | h0
    · exact rowOk_first hr ho h0
    · obtain ⟨s, hs⟩ : ∃ s, l[l.length - 1]? = some s := ⟨_, List.getElem?_eq_getElem (by omega)⟩
      exact rowOk_next (s := s) hr ho (by rw [List.getElem?_append_left (by omega)]; exact hs) (hf s hs)
  · have := h j (by omega)
    unfold rowOk at this ⊢
    rw [List.getElem?_append_left (show j < l.length by omega), List.getElem?_append_left (show j - 1 < l.length by omega)]
    exact this
/-- this value is a slice of numbers -/
def IntsIn (w : World) (v : Value) : Prop :=
  (∃ A c, v = .slice A 0 c) ∨ ∃ b off n c zs, v = .slice (some ⟨b, off, none⟩) n c ∧ zs.length = n ∧ RowAt w b off zs ∧ b < w.heap.size ∧ n ≤ maxLen
theorem IntsIn.cut {w : World} {v : Value} (h : IntsIn w v) : ∃ A n c, v = .slice A n c ∧ n ≤ maxLen := by
  rcases h with ⟨A, c, rfl⟩ | ⟨b, off, n, c, l, rfl, _, _, _, h⟩
  · exact ⟨_, _, _, rfl, Nat.zero_le _⟩
  · exact ⟨_, _, _, rfl, h⟩
theorem IntsIn.rowAt {w : World} {A : Option Addr} {n c k : Nat} (h : IntsIn w (.slice A n c)) (hk : k < n) : ∃ b off z, A = some ⟨b, off, none⟩ ∧ b < w.heap.size ∧ w.cell? ⟨b, off + k, none⟩ = some (.int .i64 z) := by
  rcases h with ⟨A', c', he⟩ | ⟨b, off, n', c', l, he, h0, h1, h2, _⟩
  · injection he with e1 e2 e3
    omega
  · injection he with e1 e2 e3
    subst e2
    exact ⟨b, off, _, e1, h2, h1 k _ (List.getElem?_eq_getElem (by omega))⟩
theorem IntsIn.below {w w' : World} {v : Value} (h : IntsIn w v) (hw : Below w.heap.size w w') : IntsIn w' v := by
  rcases h with h | ⟨b, off, n, c, l, h1, h2, h3, h4, h5⟩
  · exact .inl h
  · exact .inr ⟨b, off, n, c, l, h1, h2, fun k z hk => (hw.cell (p := ⟨b, _, none⟩) h4).trans (h3 k z hk), Nat.lt_of_lt_of_le h4 hw.size, h5⟩
/-- a table whose block lies behind base -/
def TabFrom (base : Nat) (w : World) (v : Value) (l : List Rt) : Prop :=
  (∃ A c, v = .slice A 0 c ∧ l = []) ∨ ∃ b off n c, v = .slice (some ⟨b, off, none⟩) n c ∧ l.length = n ∧ RatesAt w b off l ∧ b < w.heap.size ∧ n ≤ 1000000000000000 ∧ base ≤ b
theorem TabFrom.tab {base : Nat} {w : World} {v : Value} {l : List Rt} (h : TabFrom base w v l) : Tab w v l := by
  rcases h with h | ⟨b, off, n, c, h1, h2, h3, h4, h5, _⟩
  · exact .inl h
  · exact .inr ⟨b, off, n, c, h1, h2, h3, h4, h5⟩
theorem TabFrom.put {base g i : Nat} {w : World} {u v : Value} {l : List Rt} (h : TabFrom base w v l) (hg : g < base) : TabFrom base (w.setCell ⟨g, i, none⟩ u) v l := by
  rcases h with h | ⟨b, off, n, c, h1, h2, h3, h4, h5, h6⟩
  · exact .inl h
  · have f : ∀ j, (w.setCell ⟨g, i, none⟩ u).cell? ⟨b, j, none⟩ = w.cell? ⟨b, j, none⟩ := fun j => World.cell?_setCell_far w _ _ _ (by simp only; omega)
    refine .inr ⟨b, off, n, c, h1, h2, fun k r hk => ?_, by simpa [World.setCell] using h4, h5, h6⟩
    obtain ⟨a, e, d, e2⟩ := h3 k r hk
    exact ⟨(f _).trans a, (f _).trans e, (f _).trans d, (f _).trans e2⟩
theorem TabFrom.own {w : World} {base n : Nat} {v : Value} {l : List Rt} (h : w.ownsRow base 54 4 v n (rowCells l)) (hl : l.length = n) (hn : n ≤ 1000000000000000) : TabFrom base w v l := by
  rcases Tab.own h hl hn with h0 | ⟨b, off, m, c, h1, h2, h3, h4, h5⟩
  · exact .inl h0
  · rcases h.2 with ⟨rfl, _⟩ | ⟨g, cap, cur, rfl, hg, _⟩
    · cases h1
    · injection h1 with e1 e2 e3
      obtain ⟨rfl, rfl⟩ : g = b ∧ 0 = off := by
        injection e1 with e1
        injection e1 with e1 e4
        exact ⟨e1, e4⟩
      exact .inr ⟨_, _, m, c, by rw [← e2, ← e3], h2, h3, h4, h5, hg⟩
/-- the cells of a slice that is to be copied -/
def SrcOf (w : World) (v : Value) (n : Nat) (vals : List Value) : Prop := (v = .slice none 0 0 ∧ vals = [] ∧ n = 0) ∨ ∃ ad c, v = .slice (some ad) n c ∧ ∀ j u, vals[j]? = some u → w.cell? (ad.add j) = some u
theorem SrcOf.own {w : World} {base n size : Nat} {e : TypeId} {v : Value} {xs : List Value} (h : w.ownsRow base e size v n xs) : SrcOf w v n xs := by
  have h1 := h.1
  rcases h.2 with ⟨rfl, rfl⟩ | ⟨g, cap, cur, rfl, _, hh, _, _, _, ht⟩
  · exact .inl ⟨rfl, List.length_eq_zero_iff.1 (by omega), rfl⟩
  · refine .inr ⟨⟨g, 0, none⟩, cap, rfl, fun j u hj => ?_⟩
    have hj2 := (List.getElem?_eq_some_iff.1 hj).1
    rw [show (⟨g, 0, none⟩ : Addr).add j = ⟨g, 0 + j, none⟩ from Go.WideShapes.add_plain _ _ _, Nat.zero_add, Bx.cell hh, ← hj, ← ht, List.getElem?_take, if_pos (by omega), Array.getElem?_toList]
/-- a valid table came out -/
def RatesOut2 (w : World) (e : Ending) (w' : World) : Prop := ∃ v rt, e = .returned v ∧ chkS rt = 0 ∧ rt.length ≤ 6 ∧ w'.ownsRow w.heap.size 54 4 v rt.length (rowCells rt) ∧ Below w.heap.size w w'

set_option maxRecDepth 100000 in
set_option maxHeartbeats 16000000 in
theorem plain_Rates2 (v : Value) (w : World) (hr : IntsIn w v) : Calls Try.prog 18 #[v] w (RatesOut2 w) := by
  obtain ⟨A0, n, c0, rfl, hn⟩ := hr.cut
  have hn2 : n ≤ 9223372036854775807 := hn
  have HR := Lib.hid hr
  clear hr hn
  obtain ⟨i0, hi, hz0, hz1, hz2⟩ := info_parts info_rate
  go_enter Try.func18, Try.ntmps18
  go_wp2
  go_loopw [3, 4] (fun s i wr => ∃ (k : Nat) (xs : List Rt) (A : Option Addr) (c9 : Nat), k ≤ 3 ∧ i = .int .i64 ((k + 1 : Nat) : Int) ∧ s = .slice A xs.length c9 ∧ xs.length ≤ 2 * k ∧ ChkP xs xs.length ∧ (∀ r ∈ xs, r.c ≤ (k : Int)) ∧ wr.ownsRow w.heap.size 54 4 (.slice A xs.length c9) xs.length (rowCells xs) ∧ Below w.heap.size w wr) (fun _ i _ => 4 - (intOf i).toNat)
  case atStart => exact ⟨0, [], none, 0, by omega, rfl, rfl, Nat.zero_le _, ChkP.zero _, (fun r h => by cases h), ⟨rfl, .inl ⟨rfl, rfl⟩⟩, Below.refl _ _⟩
  case round =>
    obtain ⟨k, xs, A, c9, hk, rfl, rfl, hx6, hgt, hlst, hown, hbl⟩ := hrel
    have HGT := Lib.hid hgt
    have HLS := Lib.hid hlst
    have HO := Lib.hid hown
    have HB := Lib.hid hbl
    clear hgt hlst hown hbl
    have hsz := HB.out.size
    have ek : ((k + 1 : Nat) : Int) = (k : Int) + 1 := by omega
    rw [ek]
    clear ek
    by_cases h3 : k < 3
    · have c1 : decide (3 < (k : Int) + 1) = false := decide_eq_false (by omega)
      have c2 : decide ((k : Int) + 1 ≤ 3) = true := decide_eq_true (by omega)
      by_cases hlt : k < n
      · have c3 : decide ((n : Int) ≤ (k : Int)) = false := decide_eq_false (by omega)
        have c4 : decide (n ≤ k) = false := decide_eq_false (by omega)
        obtain ⟨b, off, z, rfl, hbw, hc⟩ := HR.out.rowAt hlt
        have kz : wr.cell? ⟨b, off + k, none⟩ = some (.int .i64 z) := (HB.out.cell (p := ⟨b, _, none⟩) hbw).trans hc
        clear hc
        have m7 := fun W => plain_Mod z 7 W (by decide) (by decide)
        obtain ⟨q7, hq7⟩ : ∃ q, z % 7 = q := ⟨_, rfl⟩
        rw [hq7] at m7
        have M7 := Lib.hid m7
        clear m7 hq7
        have i1 : (k : Int) < (n : Int) := by omega
        by_cases e6 : q7 = 6
        · have d0 : (q7 == 6) = true := beq_iff_eq.2 e6
          go_wp2_with fail
          refine (M7.out _).mono ?_
          rintro e w' ⟨rfl, rfl⟩
          have hb := HB.out
          go_wp2
          go_roundw
          case rel => exact ⟨k + 1, xs, A, c9, by omega, by go_num, rfl, by omega, HGT.out, (fun r hr => by have := HLS.out r hr; omega), HO.out, (by repeat (first | (with_reducible exact Below.refl _ _) | (with_reducible assumption) | (with_reducible refine below_drewN ?_ _) | (with_reducible refine Below.drew ?_) | (with_reducible refine Below.alloc ?_ ?_ _) | (with_reducible refine Below.setCell ?_ ?_ _) | exact Below.refl _ _ | assumption | (solve | omega | simp | (simp; omega))))⟩
          case measure => simp [intOf]; omega
        · have d0 : (q7 == 6) = false := beq_eq_false_iff_ne.2 e6
          go_wp2_with fail
          refine (M7.out _).mono ?_
          rintro e w' ⟨rfl, rfl⟩
          go_wp2_with fail
          refine (plain_ModN _ 40 _ (by decide) (by decide)).mono ?_
          rintro e w' ⟨r1, rfl, r1b, rfl⟩
          go_wp2_with fail
          refine (plain_ModN _ 9 _ (by decide) (by decide)).mono ?_
          rintro e w' ⟨r2, rfl, r2b, rfl⟩
          have mf := fun W => plain_fraction (1 + r1) (1 + r2) W (by omega) (by omega) (by omega) (by omega)
          rw [show ((1 + r1 : Nat) : Int) = 1 + (r1 : Int) from by omega, show ((1 + r2 : Nat) : Int) = 1 + (r2 : Int) from by omega] at mf
          have MF := Lib.hid mf
          clear mf
          go_wp2_with fail
          refine (MF.out _).mono ?_
          rintro e w2 ⟨p2, q2, rfl, f21, f22, f23, f24, f25, _, hb2⟩
          have HB2 := Lib.hid (below_then HB.out hb2)
          have HO2 := Lib.hid (own_below HO.out hb2)
          have hs2 := HB2.out.size
          clear hb2
          have hkk : (0 : Int) ≤ (k : Int) := by omega
          go_wp2_with (at_builtin; go_loud (refine wpList_append_own _ rfl _ _ 36 rfl w.heap.size 54 i0 (.agg #[.int .i64 0, .int .i64 0, .int .i64 0, .int .i64 0]) 4 32 Try.underlying36 hi hz0 hz1 hz2 rfl (by decide) _ _ _ rfl (HO2.out.alloc _) ⟨w2.heap.size, 0, none⟩ 1 1 [.int .i64 ((k : Int) + 1), .int .i64 0, .int .i64 (p2 : Int), .int .i64 (q2 : Int)] rfl rfl ?c1 ?c2 ?c3 ?c4 ?c5 ?_))
          case c1 =>
            intro j u hj
            match j, hj with
            | 0, hj => simp at hj; subst hj; simp [Addr.add]
            | 1, hj => simp at hj; subst hj; simp [Addr.add]
            | 2, hj => simp at hj; subst hj; simp [Addr.add]
            | 3, hj => simp at hj; subst hj; simp [Addr.add]
            | j + 4, hj => simp at hj
          case c2 => first | exact ⟨rfl, rfl, rfl, rfl⟩ | (intro u hu; simp at hu; rcases hu with rfl | rfl | rfl | rfl <;> rfl)
          case c3 => unfold maxLen; omega
          case c4 => omega
          case c5 => first | omega | (simp; done) | (simp; omega)
          intro v3 w3 hown' hgrow _
          obtain ⟨A3, c3', rfl⟩ := own_slice hown'
          have HO3 : Hid (w3.ownsRow w.heap.size 54 4 (.slice A3 (xs.length + 1) c3') (xs.length + 1) (rowCells (xs ++ [⟨((k : Int) + 1), 0, (p2 : Int), (q2 : Int)⟩]))) := Lib.hid (by rw [rowCells_snoc]; simpa using hown')
          have HB3 : Hid (Below w.heap.size w w3) := Lib.hid ((HB2.out.alloc HB2.out.size _).grown hgrow (by simp; omega) (fun g hg => by
            rcases HO2.out.2 with ⟨h1, _⟩ | ⟨g', cap, cur, h1, hg', _⟩
            · rw [h1] at hg; simp [Value.ownBlock] at hg
            · rw [h1] at hg; simp [Value.ownBlock] at hg; omega))
          clear hown' hgrow
          have hs3 := HB3.out.size
          have G3 := Lib.hid (HGT.out.snoc (r := ⟨(k : Int) + 1, 0, (p2 : Int), (q2 : Int)⟩) (okR_all (inB_iff.2 ⟨by omega, by omega⟩) (by decide) f21 (inB_iff.2 ⟨by omega, by omega⟩) (inB_iff.2 ⟨by omega, by omega⟩)) (fun s hs => by
            have h1 := HLS.out s (List.mem_of_getElem? hs)
            unfold folR
            simp only
            rw [decide_eq_false (by omega), Bool.false_or, (beq_eq_false_iff_ne.2 (by omega) : (s.c == (k : Int) + 1) = false)]
            rfl))
          have L3 : Hid (∀ r ∈ xs ++ [⟨(k : Int) + 1, 0, (p2 : Int), (q2 : Int)⟩], r.c ≤ (k : Int) + 1) := Lib.hid (fun r hr => by
            rcases List.mem_append.1 hr with hr | hr
            · have := HLS.out r hr; omega
            · simp at hr; subst hr; exact Int.le_refl _)
          by_cases e3 : 3 < q7
          · have d1 : decide (3 < q7) = true := decide_eq_true e3
            go_wp2_with fail
            refine (M7.out _).mono ?_
            rintro e w' ⟨rfl, rfl⟩
            go_wp2_with fail
            refine (plain_ModN _ 2000 _ (by decide) (by decide)).mono ?_
            rintro e w' ⟨r3, rfl, r3b, rfl⟩
            go_wp2_with fail
            refine (plain_ModN _ 90 _ (by decide) (by decide)).mono ?_
            rintro e w' ⟨r4, rfl, r4b, rfl⟩
            go_wp2_with fail
            refine (plain_ModN _ 30 _ (by decide) (by decide)).mono ?_
            rintro e w' ⟨r5, rfl, r5b, rfl⟩
            have mf := fun W => plain_fraction (1 + r4) (1 + r5) W (by omega) (by omega) (by omega) (by omega)
            rw [show ((1 + r4 : Nat) : Int) = 1 + (r4 : Int) from by omega, show ((1 + r5 : Nat) : Int) = 1 + (r5 : Int) from by omega] at mf
            have MF := Lib.hid mf
            clear mf
            go_wp2_with fail
            refine (MF.out _).mono ?_
            rintro e w4 ⟨p4, q4, rfl, f41, f42, f43, f44, f45, _, hb4⟩
            have HB4 := Lib.hid (below_then HB3.out hb4)
            have HO4 := Lib.hid (own_below HO3.out hb4)
            have hs4 := HB4.out.size
            clear hb4
            go_wp2_with (at_builtin; go_loud (refine wpList_append_own _ rfl _ _ 36 rfl w.heap.size 54 i0 (.agg #[.int .i64 0, .int .i64 0, .int .i64 0, .int .i64 0]) 4 32 Try.underlying36 hi hz0 hz1 hz2 rfl (by decide) _ _ _ rfl (HO4.out.alloc _) ⟨w4.heap.size, 0, none⟩ 1 1 [.int .i64 ((k : Int) + 1), .int .i64 (1 + (r3 : Int)), .int .i64 (p4 : Int), .int .i64 (q4 : Int)] rfl rfl ?c1 ?c2 ?c3 ?c4 ?c5 ?_))
            case c1 =>
              intro j u hj
              match j, hj with
              | 0, hj => simp at hj; subst hj; simp [Addr.add]
              | 1, hj => simp at hj; subst hj; simp [Addr.add]
              | 2, hj => simp at hj; subst hj; simp [Addr.add]
              | 3, hj => simp at hj; subst hj; simp [Addr.add]
              | j + 4, hj => simp at hj
            case c2 => first | exact ⟨rfl, rfl, rfl, rfl⟩ | (intro u hu; simp at hu; rcases hu with rfl | rfl | rfl | rfl <;> rfl)
            case c3 => unfold maxLen; omega
            case c4 => omega
            case c5 => first | omega | (simp; done) | (simp; omega)
            intro v5 w5 hown' hgrow _
            obtain ⟨A5, c5', rfl⟩ := own_slice hown'
            have HO5 : Hid (w5.ownsRow w.heap.size 54 4 (.slice A5 (xs.length + 1 + 1) c5') (xs.length + 1 + 1) (rowCells (xs ++ [⟨(k : Int) + 1, 0, (p2 : Int), (q2 : Int)⟩] ++ [⟨((k : Int) + 1), (1 + (r3 : Int)), (p4 : Int), (q4 : Int)⟩]))) := Lib.hid (by rw [rowCells_snoc]; simpa using hown')
            have HB5 : Hid (Below w.heap.size w w5) := Lib.hid ((HB4.out.alloc HB4.out.size _).grown hgrow (by simp; omega) (fun g hg => by
              rcases HO4.out.2 with ⟨h1, _⟩ | ⟨g', cap, cur, h1, hg', _⟩
              · rw [h1] at hg; simp [Value.ownBlock] at hg
              · rw [h1] at hg; simp [Value.ownBlock] at hg; omega))
            clear hown' hgrow
            have hs5 := HB5.out.size
            have G5 := Lib.hid (G3.out.snoc (r := ⟨(k : Int) + 1, 1 + (r3 : Int), (p4 : Int), (q4 : Int)⟩) (okR_all (inB_iff.2 ⟨by omega, by omega⟩) (inB_iff.2 ⟨by omega, by omega⟩) f41 (inB_iff.2 ⟨by omega, by omega⟩) (inB_iff.2 ⟨by omega, by omega⟩)) (fun s hs => by
              simp at hs
              subst hs
              exact folR_3 (by omega) (by omega)))
            have L5 : Hid (∀ r ∈ xs ++ [⟨(k : Int) + 1, 0, (p2 : Int), (q2 : Int)⟩] ++ [⟨(k : Int) + 1, 1 + (r3 : Int), (p4 : Int), (q4 : Int)⟩], r.c ≤ (k : Int) + 1) := Lib.hid (fun r hr => by
              rcases List.mem_append.1 hr with hr | hr
              · exact L3.out r hr
              · simp at hr; subst hr; exact Int.le_refl _)
            have hb5 := HB5.out
            go_wp2
            go_roundw
            case rel => exact ⟨k + 1, xs ++ [⟨(k : Int) + 1, 0, (p2 : Int), (q2 : Int)⟩] ++ [⟨(k : Int) + 1, 1 + (r3 : Int), (p4 : Int), (q4 : Int)⟩], A5, c5', by omega, by go_num, by simp, by simp; omega, G5.out, (by simpa using L5.out), (by rw [List.length_append, List.length_append]; exact HO5.out), (by repeat (first | (with_reducible exact Below.refl _ _) | (with_reducible assumption) | (with_reducible refine below_drewN ?_ _) | (with_reducible refine Below.drew ?_) | (with_reducible refine Below.alloc ?_ ?_ _) | (with_reducible refine Below.setCell ?_ ?_ _) | exact Below.refl _ _ | assumption | (solve | omega | simp | (simp; omega))))⟩
            case measure => simp [intOf]; omega
          · have d1 : decide (3 < q7) = false := decide_eq_false e3
            go_wp2_with fail
            refine (M7.out _).mono ?_
            rintro e w' ⟨rfl, rfl⟩
            have hb3 := HB3.out
            go_wp2
            go_roundw
            case rel => exact ⟨k + 1, xs ++ [⟨(k : Int) + 1, 0, (p2 : Int), (q2 : Int)⟩], A3, c3', by omega, by go_num, by simp, by simp; omega, G3.out, (by simpa using L3.out), (by rw [List.length_append]; exact HO3.out), (by repeat (first | (with_reducible exact Below.refl _ _) | (with_reducible assumption) | (with_reducible refine below_drewN ?_ _) | (with_reducible refine Below.drew ?_) | (with_reducible refine Below.alloc ?_ ?_ _) | (with_reducible refine Below.setCell ?_ ?_ _) | exact Below.refl _ _ | assumption | (solve | omega | simp | (simp; omega))))⟩
            case measure => simp [intOf]; omega
      · have c3 : decide ((n : Int) ≤ (k : Int)) = true := decide_eq_true (by omega)
        have c4 : decide (n ≤ k) = true := decide_eq_true (by omega)
        have hb := HB.out
        go_wp2
        go_ret
        exact ⟨_, xs, rfl, chk_good (by omega) HGT.out, by omega, HO.out, (by repeat (first | (with_reducible exact Below.refl _ _) | (with_reducible assumption) | (with_reducible refine below_drewN ?_ _) | (with_reducible refine Below.drew ?_) | (with_reducible refine Below.alloc ?_ ?_ _) | (with_reducible refine Below.setCell ?_ ?_ _) | exact Below.refl _ _ | assumption | (solve | omega | simp | (simp; omega))))⟩
    · have c1 : decide (3 < (k : Int) + 1) = true := decide_eq_true (by omega)
      have c2 : decide ((k : Int) + 1 ≤ 3) = false := decide_eq_false (by omega)
      have hb := HB.out
      go_wp2
      go_ret
      exact ⟨_, xs, rfl, chk_good (by omega) HGT.out, by omega, HO.out, (by repeat (first | (with_reducible exact Below.refl _ _) | (with_reducible assumption) | (with_reducible refine below_drewN ?_ _) | (with_reducible refine Below.drew ?_) | (with_reducible refine Below.alloc ?_ ?_ _) | (with_reducible refine Below.setCell ?_ ?_ _) | exact Below.refl _ _ | assumption | (solve | omega | simp | (simp; omega))))⟩
end Go.Proofs.Ytaifacnpnhcdcaa
