/-
  Lists of gross benefits in memory; the validity of a list: the plain function, and the contracts of Valid of the program and ValidGross of the reference.
-/
import Derived.Test.YthpknbflmcoanaaDoorGValid
namespace Go.Proofs.YthpknbflmcoanaaDoor
open Go.RowKit Mny

/-- these cells are these elements -/
def GrossAt (w : World) (b off : Nat) (l : List Gr) : Prop := ∀ k r, l[k]? = some r →
  w.cell? ⟨b, off + k * 7, none⟩ = some (.int .i64 r.s) ∧ w.cell? ⟨b, off + k * 7 + 1, none⟩ = some (.int .i64 r.b) ∧ w.cell? ⟨b, off + k * 7 + 2, none⟩ = some (.int .i64 r.c) ∧ w.cell? ⟨b, off + k * 7 + 3, none⟩ = some (.int .i64 r.i) ∧ w.cell? ⟨b, off + k * 7 + 4, none⟩ = some (.int .i64 r.p) ∧ w.cell? ⟨b, off + k * 7 + 5, none⟩ = some (.int .i64 r.n) ∧ w.cell? ⟨b, off + k * 7 + 6, none⟩ = some (.int .i64 r.d)
theorem GrossAt.below {w w' : World} {b off : Nat} {l : List Gr} (h : GrossAt w b off l) (hb : b < w.heap.size) (hw : Below w.heap.size w w') : GrossAt w' b off l := fun k r hk => by
  obtain ⟨h0, h1, h2, h3, h4, h5, h6⟩ := h k r hk
  exact ⟨(hw.cell (p := ⟨b, _, none⟩) hb).trans h0, (hw.cell (p := ⟨b, _, none⟩) hb).trans h1, (hw.cell (p := ⟨b, _, none⟩) hb).trans h2, (hw.cell (p := ⟨b, _, none⟩) hb).trans h3, (hw.cell (p := ⟨b, _, none⟩) hb).trans h4, (hw.cell (p := ⟨b, _, none⟩) hb).trans h5, (hw.cell (p := ⟨b, _, none⟩) hb).trans h6⟩
/-- the same state and benefit -/
def twinB (h g : Gr) : Bool := (h.s == g.s) && (h.b == g.b)
/-- no element before k has g's state and benefit -/
def NoTwin (l : List Gr) (g : Gr) (j : Nat) : Prop := ∀ i h, i < j → l[i]? = some h → twinB h g = false
theorem NoTwin.zero (l : List Gr) (g : Gr) : NoTwin l g 0 := fun i h hi => absurd hi (by omega)
theorem NoTwin.next {l : List Gr} {g h : Gr} {j : Nat} (hn : NoTwin l g j) (hj : l[j]? = some h) (ht : twinB h g = false) : NoTwin l g (j + 1) := fun i x hi hx => by
  by_cases e : i = j
  · subst e
    rw [hj] at hx
    injection hx with hx
    subst hx
    exact ht
  · exact hn i x (by omega) hx
/-- the first k elements are valid where they stand -/
def GoodTo (l : List Gr) (k : Nat) : Prop := ∀ i g, i < k → l[i]? = some g → okG g = true ∧ NoTwin l g i
theorem GoodTo.zero (l : List Gr) : GoodTo l 0 := fun i h hi => absurd hi (by omega)
theorem GoodTo.next {l : List Gr} {g : Gr} {k : Nat} (h : GoodTo l k) (hk : l[k]? = some g) (ho : okG g = true) (hn : NoTwin l g k) : GoodTo l (k + 1) := fun i x hi hx => by
  by_cases e : i = k
  · subst e
    rw [hk] at hx
    injection hx with hx
    subst hx
    exact ⟨ho, hn⟩
  · exact h i x (by omega) hx
/-- is a list valid -/
def ValG (l : List Gr) : Prop := l.length ≤ 18 ∧ GoodTo l l.length
/-- is element k valid where it stands -/
def goodB (l : List Gr) (k : Nat) : Bool := match l[k]? with
  | some g => okG g && (List.range k).all (fun i => match l[i]? with
    | some h => !twinB h g
    | none => true)
  | none => true
def valG (l : List Gr) : Bool := decide (l.length ≤ 18) && (List.range l.length).all (goodB l)
theorem valG_iff {l : List Gr} : valG l = true ↔ ValG l := by
  unfold valG ValG
  rw [Bool.and_eq_true, decide_eq_true_iff, List.all_eq_true]
  refine and_congr_right fun _ => ⟨fun h i g hi hg => ?_, fun h k hk => ?_⟩
  · have := h i (List.mem_range.2 hi)
    unfold goodB at this
    rw [hg] at this
    simp only [Bool.and_eq_true, List.all_eq_true] at this
    refine ⟨this.1, fun j x hj hx => ?_⟩
    have h2 := this.2 j (List.mem_range.2 hj)
    rw [hx] at h2
    simpa using h2
  · have hk2 := List.mem_range.1 hk
    obtain ⟨h1, h2⟩ := h k _ hk2 (List.getElem?_eq_getElem hk2)
    unfold goodB
    rw [List.getElem?_eq_getElem hk2]
    simp only [Bool.and_eq_true, List.all_eq_true]
    refine ⟨h1, fun j hj => ?_⟩
    split
    · rename_i x hx
      rw [h2 j x (List.mem_range.1 hj) hx]
      rfl
    · rfl
theorem valG_yes {l : List Gr} (h : ValG l) : valG l = true := valG_iff.2 h
theorem valG_no {l : List Gr} (h : ¬ ValG l) : valG l = false := by rw [Bool.eq_false_iff]; exact fun h2 => h (valG_iff.1 h2)
theorem bad_elem {l : List Gr} {k : Nat} {g : Gr} (hk : l[k]? = some g) (h : okG g = false) : ¬ ValG l := fun hv => by
  have := (hv.2 k g (List.getElem?_eq_some_iff.1 hk).1 hk).1
  rw [h] at this
  cases this
theorem bad_twin {l : List Gr} {k j : Nat} {g x : Gr} (hk : l[k]? = some g) (hj : j < k) (hx : l[j]? = some x) (h : twinB x g = true) : ¬ ValG l := fun hv => by
  have := (hv.2 k g (List.getElem?_eq_some_iff.1 hk).1 hk).2 j x hj hx
  rw [h] at this
  cases this

theorem red_Valid0 (A : Option Addr) (c : Nat) (w : World) : Calls Tryd.prog 21 #[.slice A 0 c] w fun e w' => e = .returned (.bool true) ∧ Below w.heap.size w w' := by
  go_enter Tryd.func21, Tryd.ntmps21
  go_wp2
  refine wp_loop_rounds 1 ?_
  rw [rounds_succ]
  go_wp2
  go_ret
  exact ⟨rfl, (by repeat (first | (with_reducible exact Below.refl _ _) | (with_reducible assumption) | (with_reducible refine below_drewN ?_ _) | (with_reducible refine Below.drew ?_) | (with_reducible refine Below.alloc ?_ ?_ _) | (with_reducible refine Below.setCell ?_ ?_ _) | exact Below.refl _ _ | assumption | (solve | omega | simp | (simp; omega))))⟩
theorem ref_ValidGross0 (A : Option Addr) (c : Nat) (w : World) : Calls Tryd.prog 22 #[.slice A 0 c] w fun e w' => e = .returned (.bool true) ∧ Below w.heap.size w w' := by
  go_enter Tryd.func22, Tryd.ntmps22
  go_wp2
  refine wp_loop_rounds 1 ?_
  rw [rounds_succ]
  go_wp2
  go_ret
  exact ⟨rfl, (by repeat (first | (with_reducible exact Below.refl _ _) | (with_reducible assumption) | (with_reducible refine below_drewN ?_ _) | (with_reducible refine Below.drew ?_) | (with_reducible refine Below.alloc ?_ ?_ _) | (with_reducible refine Below.setCell ?_ ?_ _) | exact Below.refl _ _ | assumption | (solve | omega | simp | (simp; omega))))⟩

set_option maxRecDepth 100000 in
set_option maxHeartbeats 4000000 in
theorem red_Valid1 (l : List Gr) (n b off cc : Nat) (w : World) (hn : l.length = n) (hr : GrossAt w b off l) (hb : b < w.heap.size) (hl : n ≤ cc) :
    Calls Tryd.prog 21 #[.slice (some ⟨b, off, none⟩) n cc] w fun e w' => e = .returned (.bool (valG l)) ∧ Below w.heap.size w w' := by
  by_cases h18 : 18 < n
  · have HF := Lib.hid (valG_no (l := l) (fun h => by have := h.1; omega))
    clear hn hr
    go_enter Tryd.func21, Tryd.ntmps21
    go_wp2
    go_ret
    exact ⟨ret_bool HF.out.symm, (by repeat (first | (with_reducible exact Below.refl _ _) | (with_reducible assumption) | (with_reducible refine below_drewN ?_ _) | (with_reducible refine Below.drew ?_) | (with_reducible refine Below.alloc ?_ ?_ _) | (with_reducible refine Below.setCell ?_ ?_ _) | exact Below.refl _ _ | assumption | (solve | omega | simp | (simp; omega))))⟩
  · have HN := Lib.hid hn
    have HR := Lib.hid hr
    clear hn hr
    go_enter Tryd.func21, Tryd.ntmps21
    go_wp2
    go_loopw [12] (fun i wr => ∃ k : Nat, k ≤ n ∧ i = .int .i64 k ∧ GoodTo l k ∧ Below w.heap.size w wr) (fun i _ => n - (intOf i).toNat)
    case atStart => exact ⟨0, Nat.zero_le _, rfl, GoodTo.zero l, (by repeat (first | (with_reducible exact Below.refl _ _) | (with_reducible assumption) | (with_reducible refine below_drewN ?_ _) | (with_reducible refine Below.drew ?_) | (with_reducible refine Below.alloc ?_ ?_ _) | (with_reducible refine Below.setCell ?_ ?_ _) | exact Below.refl _ _ | assumption | (solve | omega | simp | (simp; omega))))⟩
    case round =>
      obtain ⟨wo, rfl⟩ : ∃ wo : World, wo = wr := ⟨_, rfl⟩
      obtain ⟨k, hk, rfl, hch, hbl⟩ := hrel
      have HC := Lib.hid hch
      have HB := Lib.hid hbl
      have HRW := Lib.hid (HR.out.below hb hbl)
      have hsz : b < wo.heap.size := Nat.lt_of_lt_of_le hb hbl.size
      have hsz0 : w.heap.size ≤ wo.heap.size := hbl.size
      clear hch hbl
      by_cases hlt : k < n
      · obtain ⟨r, hr⟩ : ∃ r, l[k]? = some r := ⟨l[k]'(by rw [HN.out]; exact hlt), List.getElem?_eq_getElem _⟩
        obtain ⟨k0, k1, k2, k3, k4, k5, k6⟩ := HRW.out k r hr
        have HK := Lib.hid hr
        obtain ⟨gs, gb, gc, gi, gp, gn, gd⟩ := r
        simp only at k0 k1 k2 k3 k4 k5 k6
        clear hr
        have hB := HB.out
        have hva := fun W => red_valid gs gb gc gi gp gn gd W
        rcases Bool.eq_false_or_eq_true (okG ⟨gs, gb, gc, gi, gp, gn, gd⟩) with ho | ho
        · rw [ho] at hva
          have HVA := Lib.hid hva
          clear hva
          go_wp2_with fail
          refine (HVA.out _).mono ?_
          rintro e w1 ⟨rfl, hb1⟩
          have HB1 := Lib.hid (below_then (w := w) (by repeat (first | (with_reducible exact Below.refl _ _) | (with_reducible assumption) | (with_reducible refine below_drewN ?_ _) | (with_reducible refine Below.drew ?_) | (with_reducible refine Below.alloc ?_ ?_ _) | (with_reducible refine Below.setCell ?_ ?_ _) | exact Below.refl _ _ | assumption | (solve | omega | simp | (simp; omega)))) hb1)
          have B1 := Lib.hid ((Bx.made wo 27 #[.int .i64 gs, .int .i64 gb, .int .i64 gc, .int .i64 gi, .int .i64 gp, .int .i64 gn, .int .i64 gd] rfl).below hb1)
          have HO := Lib.hid ho
          have hsz1 : b < w1.heap.size := Nat.lt_of_lt_of_le hb HB1.out.size
          clear hb1 ho k0 k1 k2 k3 k4 k5 k6 hB
          have hkc : k ≤ cc := by omega
          have hkc2 : (k : Int) ≤ (cc : Int) := by omega
          go_wp2
          go_loopw [24] (fun i wi => ∃ j : Nat, j ≤ k ∧ i = .int .i64 j ∧ NoTwin l ⟨gs, gb, gc, gi, gp, gn, gd⟩ j ∧ Below w1.heap.size w1 wi) (fun i _ => k - (intOf i).toNat)
          case atStart => exact ⟨0, Nat.zero_le _, rfl, NoTwin.zero l _, (by repeat (first | (with_reducible exact Below.refl _ _) | (with_reducible assumption) | (with_reducible refine below_drewN ?_ _) | (with_reducible refine Below.drew ?_) | (with_reducible refine Below.alloc ?_ ?_ _) | (with_reducible refine Below.setCell ?_ ?_ _) | exact Below.refl _ _ | assumption | (solve | omega | simp | (simp; omega))))⟩
          case round =>
            obtain ⟨j, hj, rfl, hnt, hbi⟩ := hrel
            have HNT := Lib.hid hnt
            have HBI := Lib.hid hbi
            have HB2 := Lib.hid (below_then HB1.out hbi)
            have HR2 := Lib.hid (HR.out.below hb HB2.out)
            have B2 := Lib.hid (B1.out.below hbi)
            have hsz2 : b < wr.heap.size := Nat.lt_of_lt_of_le hb HB2.out.size
            have hsz3 : w1.heap.size ≤ wr.heap.size := hbi.size
            have hsz4 : w.heap.size ≤ wr.heap.size := HB2.out.size
            clear hnt hbi
            by_cases hjk : j < k
            · obtain ⟨t, ht⟩ : ∃ t, l[j]? = some t := ⟨l[j]'(by rw [HN.out]; omega), List.getElem?_eq_getElem _⟩
              obtain ⟨j0, j1, j2, j3, j4, j5, j6⟩ := HR2.out j t ht
              have HJ := Lib.hid ht
              obtain ⟨hs, hbn, hc, hi, hp, hn, hd⟩ := t
              simp only at j0 j1 j2 j3 j4 j5 j6
              clear ht
              obtain ⟨x0, y0⟩ := B2.out.of
              have hlb := B2.out.lt
              have hne : ¬ wo.heap.size = wr.heap.size := by omega
              have hBI := HBI.out
              have hB2 := HB2.out
              by_cases e1 : hs = gs
              · have c1 : (hs == gs) = true := beq_iff_eq.2 e1
                by_cases e2 : hbn = gb
                · have c2 : (hbn == gb) = true := beq_iff_eq.2 e2
                  have HF := Lib.hid (valG_no (bad_twin HK.out hjk HJ.out (by unfold twinB; simp [e1, e2])))
                  clear e1 e2
                  go_wp2
                  go_ret
                  exact ⟨ret_bool HF.out.symm, (by repeat (first | (with_reducible exact Below.refl _ _) | (with_reducible assumption) | (with_reducible refine below_drewN ?_ _) | (with_reducible refine Below.drew ?_) | (with_reducible refine Below.alloc ?_ ?_ _) | (with_reducible refine Below.setCell ?_ ?_ _) | exact Below.refl _ _ | assumption | (solve | omega | simp | (simp; omega))))⟩
                · have c2 : (hbn == gb) = false := beq_eq_false_iff_ne.2 e2
                  have HNX := Lib.hid (HNT.out.next HJ.out (by unfold twinB; simp [e2]))
                  clear e1 e2
                  go_wp2
                  go_roundw
                  case rel => exact ⟨j + 1, by omega, by go_num, HNX.out, (by repeat (first | (with_reducible exact Below.refl _ _) | (with_reducible assumption) | (with_reducible refine below_drewN ?_ _) | (with_reducible refine Below.drew ?_) | (with_reducible refine Below.alloc ?_ ?_ _) | (with_reducible refine Below.setCell ?_ ?_ _) | exact Below.refl _ _ | assumption | (solve | omega | simp | (simp; omega))))⟩
                  case measure => simp [intOf]; omega
              · have c1 : (hs == gs) = false := beq_eq_false_iff_ne.2 e1
                have HNX := Lib.hid (HNT.out.next HJ.out (by unfold twinB; simp [e1]))
                clear e1
                go_wp2
                go_roundw
                case rel => exact ⟨j + 1, by omega, by go_num, HNX.out, (by repeat (first | (with_reducible exact Below.refl _ _) | (with_reducible assumption) | (with_reducible refine below_drewN ?_ _) | (with_reducible refine Below.drew ?_) | (with_reducible refine Below.alloc ?_ ?_ _) | (with_reducible refine Below.setCell ?_ ?_ _) | exact Below.refl _ _ | assumption | (solve | omega | simp | (simp; omega))))⟩
                case measure => simp [intOf]; omega
            · obtain rfl : j = k := by omega
              have HNX := Lib.hid (HC.out.next HK.out HO.out HNT.out)
              have hB2 := HB2.out
              go_wp2
              go_roundw
              case rel => exact ⟨j + 1, by omega, by go_num, HNX.out, (by repeat (first | (with_reducible exact Below.refl _ _) | (with_reducible assumption) | (with_reducible refine below_drewN ?_ _) | (with_reducible refine Below.drew ?_) | (with_reducible refine Below.alloc ?_ ?_ _) | (with_reducible refine Below.setCell ?_ ?_ _) | exact Below.refl _ _ | assumption | (solve | omega | simp | (simp; omega))))⟩
              case measure => simp [intOf]; omega
        · rw [ho] at hva
          have HVA := Lib.hid hva
          clear hva
          go_wp2_with fail
          refine (HVA.out _).mono ?_
          rintro e w1 ⟨rfl, hb1⟩
          have HB1 := Lib.hid (below_then (w := w) (by repeat (first | (with_reducible exact Below.refl _ _) | (with_reducible assumption) | (with_reducible refine below_drewN ?_ _) | (with_reducible refine Below.drew ?_) | (with_reducible refine Below.alloc ?_ ?_ _) | (with_reducible refine Below.setCell ?_ ?_ _) | exact Below.refl _ _ | assumption | (solve | omega | simp | (simp; omega)))) hb1)
          clear hb1
          have HF := Lib.hid (valG_no (bad_elem HK.out ho))
          clear ho
          have hB1 := HB1.out
          go_wp2
          go_ret
          exact ⟨ret_bool HF.out.symm, (by repeat (first | (with_reducible exact Below.refl _ _) | (with_reducible assumption) | (with_reducible refine below_drewN ?_ _) | (with_reducible refine Below.drew ?_) | (with_reducible refine Below.alloc ?_ ?_ _) | (with_reducible refine Below.setCell ?_ ?_ _) | exact Below.refl _ _ | assumption | (solve | omega | simp | (simp; omega))))⟩
      · obtain rfl : k = n := by omega
        have HF := Lib.hid (valG_yes (l := l) ⟨by rw [HN.out]; omega, by rw [HN.out]; exact HC.out⟩)
        have hB := HB.out
        go_wp2
        go_ret
        exact ⟨ret_bool HF.out.symm, (by repeat (first | (with_reducible exact Below.refl _ _) | (with_reducible assumption) | (with_reducible refine below_drewN ?_ _) | (with_reducible refine Below.drew ?_) | (with_reducible refine Below.alloc ?_ ?_ _) | (with_reducible refine Below.setCell ?_ ?_ _) | exact Below.refl _ _ | assumption | (solve | omega | simp | (simp; omega))))⟩
end Go.Proofs.YthpknbflmcoanaaDoor
