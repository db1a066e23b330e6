/-
  The indices of the elements that reduce because of another one: the plain function, and the contracts of Reducers of the program and of the reference.
-/
import Derived.Test.YthpknbflmcoanaaDoorGTab
import Derived.Test.YthpknbflmcoanaaDoorOwnNums
namespace Go.Proofs.YthpknbflmcoanaaDoor
open Go.RowKit Mny

/-- does element i reduce because of one of state s -/
def redI (l : List Gr) (s : Int) (i : Nat) : Bool := match l[i]? with
  | some g => (g.s != s) && redB g
  | none => false
/-- the indices among the first k -/
def redK (l : List Gr) (s : Int) : Nat → List Int
  | 0 => []
  | k + 1 => redK l s k ++ (if redI l s k then [(k : Int)] else [])
theorem redK_len (l : List Gr) (s : Int) (k : Nat) : (redK l s k).length ≤ k := by
  induction k with
  | zero => simp [redK]
  | succ k ih => rw [redK, List.length_append]; split <;> simp <;> omega
theorem redK_yes {l : List Gr} {s : Int} {k : Nat} (h : redI l s k = true) : redK l s (k + 1) = redK l s k ++ [(k : Int)] := by rw [redK, h]; rfl
theorem redK_no {l : List Gr} {s : Int} {k : Nat} (h : redI l s k = false) : redK l s (k + 1) = redK l s k := by rw [redK, h]; simp
theorem redI_at {l : List Gr} {s : Int} {k : Nat} {g : Gr} (h : l[k]? = some g) : redI l s k = ((g.s != s) && redB g) := by unfold redI; rw [h]
/-- what Reducers returns -/
def redS (l : List Gr) (j : Int) : List Int := if 0 ≤ j then (match l[j.toNat]? with
  | some g => redK l g.s l.length
  | none => []) else []
theorem redS_out {l : List Gr} {j : Int} (h : j < 0 ∨ (l.length : Int) ≤ j) : redS l j = [] := by
  unfold redS
  split
  · rw [List.getElem?_eq_none (by omega)]
  · rfl
theorem redS_in {l : List Gr} {j : Nat} {g : Gr} (h : l[j]? = some g) : redS l (j : Int) = redK l g.s l.length := by
  unfold redS; rw [if_pos (by omega), Int.toNat_natCast, h]

set_option maxRecDepth 100000 in
set_option maxHeartbeats 8000000 in
theorem red_Reducers1 (l : List Gr) (n b off cc : Nat) (j : Int) (w : World) (hn : l.length = n) (hr : GrossAt w b off l) (hb : b < w.heap.size) (hl : n ≤ 2600000000000) :
    Calls Tryd.prog 26 #[.slice (some ⟨b, off, none⟩) n cc, .int .i64 j] w (NumsOut w (redS l j)) := by
  by_cases hj0 : j < 0
  · have g0 : decide (j < 0) = true := decide_eq_true hj0
    have g00 : decide (0 ≤ j) = false := decide_eq_false (by omega)
    have HF := Lib.hid (redS_out (l := l) (j := j) (.inl hj0))
    clear hn hr
    go_enter Tryd.func26, Tryd.ntmps26
    go_wp2
    go_ret
    exact ⟨_, rfl, .inl ⟨_, _, rfl, HF.out⟩, (by repeat (first | (with_reducible exact Below.refl _ _) | (with_reducible assumption) | (with_reducible refine below_drewN ?_ _) | (with_reducible refine Below.drew ?_) | (with_reducible refine Below.alloc ?_ ?_ _) | (with_reducible refine Below.setCell ?_ ?_ _) | exact Below.refl _ _ | assumption | (solve | omega | simp | (simp; omega))))⟩
  · have g0 : decide (j < 0) = false := decide_eq_false hj0
    have g00 : decide (0 ≤ j) = true := decide_eq_true (by omega)
    obtain ⟨jn, rfl⟩ : ∃ q : Nat, j = q := ⟨j.toNat, by omega⟩
    by_cases hj1 : n ≤ jn
    · have g1 : decide ((n : Int) ≤ (jn : Int)) = true := decide_eq_true (by omega)
      have g2 : decide (n ≤ jn) = true := decide_eq_true hj1
      have g3 : decide (jn < n) = false := decide_eq_false (by omega)
      have g4 : decide ((jn : Int) < (n : Int)) = false := decide_eq_false (by omega)
      have HF := Lib.hid (redS_out (l := l) (j := (jn : Int)) (.inr (by omega)))
      clear hn hr
      go_enter Tryd.func26, Tryd.ntmps26
      go_wp2
      go_ret
      exact ⟨_, rfl, .inl ⟨_, _, rfl, HF.out⟩, (by repeat (first | (with_reducible exact Below.refl _ _) | (with_reducible assumption) | (with_reducible refine below_drewN ?_ _) | (with_reducible refine Below.drew ?_) | (with_reducible refine Below.alloc ?_ ?_ _) | (with_reducible refine Below.setCell ?_ ?_ _) | exact Below.refl _ _ | assumption | (solve | omega | simp | (simp; omega))))⟩
    · have g1 : decide ((n : Int) ≤ (jn : Int)) = false := decide_eq_false (by omega)
      have g2 : decide (n ≤ jn) = false := decide_eq_false hj1
      have g3 : decide (jn < n) = true := decide_eq_true (by omega)
      have g4 : decide ((jn : Int) < (n : Int)) = true := decide_eq_true (by omega)
      obtain ⟨q, hq⟩ : ∃ q, l[jn]? = some q := ⟨l[jn]'(by omega), List.getElem?_eq_getElem _⟩
      have HF := Lib.hid (redS_in hq)
      have HQ := Lib.hid hq
      obtain ⟨js, jb, jc, ji, jp, jjn, jd⟩ := q
      simp only at HF
      clear hq
      have HN := Lib.hid hn
      have HR := Lib.hid hr
      clear hn hr
      obtain ⟨i0, hi, hz0, hz1, hz2⟩ := info_parts info_int9
      go_enter Tryd.func26, Tryd.ntmps26
      go_wp2
      go_loopw [5, 18] (fun s i wr => ∃ (k : Nat) (xs : List Int) (A : Option Addr) (c9 : Nat), k ≤ n ∧ i = .int .i64 k ∧ s = .slice A xs.length c9 ∧ redK l js k = xs ∧ xs.length ≤ k ∧ wr.ownsRow w.heap.size 3 1 (.slice A xs.length c9) xs.length (xs.map (Value.int .i64)) ∧ Below w.heap.size w wr) (fun _ i _ => n - (intOf i).toNat)
      case atStart => exact ⟨0, [], none, 0, Nat.zero_le _, rfl, rfl, rfl, Nat.zero_le _, ⟨rfl, .inl ⟨rfl, rfl⟩⟩, (by repeat (first | (with_reducible exact Below.refl _ _) | (with_reducible assumption) | (with_reducible refine below_drewN ?_ _) | (with_reducible refine Below.drew ?_) | (with_reducible refine Below.alloc ?_ ?_ _) | (with_reducible refine Below.setCell ?_ ?_ _) | exact Below.refl _ _ | assumption | (solve | omega | simp | (simp; omega))))⟩
      case round =>
        obtain ⟨k, xs, A, c9, hk, rfl, rfl, hxs, hxl, hown, hbl⟩ := hrel
        have HXS := Lib.hid hxs
        have HO := Lib.hid hown
        have HB := Lib.hid hbl
        have HRW := Lib.hid (HR.out.below hb hbl)
        have hsz : b < wr.heap.size := Nat.lt_of_lt_of_le hb hbl.size
        have hsz0 : w.heap.size ≤ wr.heap.size := hbl.size
        clear hxs hown hbl
        by_cases hlt : k < n
        · obtain ⟨r, hr⟩ : ∃ r, l[k]? = some r := ⟨l[k]'(by rw [HN.out]; exact hlt), List.getElem?_eq_getElem _⟩
          have HK := Lib.hid hr
          obtain ⟨gs, gb, gc, gi, gp, gn, gd⟩ := r
          clear hr
          obtain ⟨k0, k1, k2, k3, k4, k5, k6⟩ := HRW.out k _ HK.out
          simp only at k0 k1 k2 k3 k4 k5 k6
          go_wp2
          have X1 := Lib.hid (Bx.made wr 27 #[.int .i64 gs, .int .i64 gb, .int .i64 gc, .int .i64 gi, .int .i64 gp, .int .i64 gn, .int .i64 gd] rfl)
          have HRX := Lib.hid (HRW.out.below hsz ((Below.refl _ _).alloc (Nat.le_refl _) (.cells #[.int .i64 gs, .int .i64 gb, .int .i64 gc, .int .i64 gi, .int .i64 gp, .int .i64 gn, .int .i64 gd] 27)))
          have hszx : b < (wr.alloc (.cells #[.int .i64 gs, .int .i64 gb, .int .i64 gc, .int .i64 gi, .int .i64 gp, .int .i64 gn, .int .i64 gd] 27)).heap.size := by simp; omega
          have q0 : ∀ x : BW (wr.alloc (.cells #[.int .i64 gs, .int .i64 gb, .int .i64 gc, .int .i64 gi, .int .i64 gp, .int .i64 gn, .int .i64 gd] 27)), x.val.cell? ⟨wr.heap.size, 0, none⟩ = some (.int .i64 gs) := BW.cells X1.out 0
          have q1 : ∀ x : BW (wr.alloc (.cells #[.int .i64 gs, .int .i64 gb, .int .i64 gc, .int .i64 gi, .int .i64 gp, .int .i64 gn, .int .i64 gd] 27)), x.val.cell? ⟨wr.heap.size, 1, none⟩ = some (.int .i64 gb) := BW.cells X1.out 1
          have q2 : ∀ x : BW (wr.alloc (.cells #[.int .i64 gs, .int .i64 gb, .int .i64 gc, .int .i64 gi, .int .i64 gp, .int .i64 gn, .int .i64 gd] 27)), x.val.cell? ⟨wr.heap.size, 2, none⟩ = some (.int .i64 gc) := BW.cells X1.out 2
          have q3 : ∀ x : BW (wr.alloc (.cells #[.int .i64 gs, .int .i64 gb, .int .i64 gc, .int .i64 gi, .int .i64 gp, .int .i64 gn, .int .i64 gd] 27)), x.val.cell? ⟨wr.heap.size, 3, none⟩ = some (.int .i64 gi) := BW.cells X1.out 3
          have q4 : ∀ x : BW (wr.alloc (.cells #[.int .i64 gs, .int .i64 gb, .int .i64 gc, .int .i64 gi, .int .i64 gp, .int .i64 gn, .int .i64 gd] 27)), x.val.cell? ⟨wr.heap.size, 4, none⟩ = some (.int .i64 gp) := BW.cells X1.out 4
          have q5 : ∀ x : BW (wr.alloc (.cells #[.int .i64 gs, .int .i64 gb, .int .i64 gc, .int .i64 gi, .int .i64 gp, .int .i64 gn, .int .i64 gd] 27)), x.val.cell? ⟨wr.heap.size, 5, none⟩ = some (.int .i64 gn) := BW.cells X1.out 5
          have q6 : ∀ x : BW (wr.alloc (.cells #[.int .i64 gs, .int .i64 gb, .int .i64 gc, .int .i64 gi, .int .i64 gp, .int .i64 gn, .int .i64 gd] 27)), x.val.cell? ⟨wr.heap.size, 6, none⟩ = some (.int .i64 gd) := BW.cells X1.out 6
          have qj : ∀ x : BW (wr.alloc (.cells #[.int .i64 gs, .int .i64 gb, .int .i64 gc, .int .i64 gi, .int .i64 gp, .int .i64 gn, .int .i64 gd] 27)), x.val.cell? ⟨b, off + jn * 7, none⟩ = some (.int .i64 js) := fun x => ((HRX.out.below hszx x.ok) jn _ HQ.out).1
          have i1 : (jn : Int) < (n : Int) := by omega
          have i2 : (k : Int) < (n : Int) := by omega
          have i3 : jn < n := by omega
          have HRI := Lib.hid (redI_at (s := js) HK.out)
          clear k0 k1 k2 k3 k4 k5 k6
          by_cases e1 : gs = js
          · have c1 : (gs != js) = false := bne_eq_false_iff_eq.2 e1
            have HNX := Lib.hid ((redK_no (by rw [HRI.out]; simp [e1])).trans HXS.out)
            clear e1
            have hB := HB.out
            have HBX : Hid (Below w.heap.size w (wr.alloc (.cells #[.int .i64 gs, .int .i64 gb, .int .i64 gc, .int .i64 gi, .int .i64 gp, .int .i64 gn, .int .i64 gd] 27))) := Lib.hid (by repeat (first | (with_reducible exact Below.refl _ _) | (with_reducible assumption) | (with_reducible refine below_drewN ?_ _) | (with_reducible refine Below.drew ?_) | (with_reducible refine Below.alloc ?_ ?_ _) | (with_reducible refine Below.setCell ?_ ?_ _) | exact Below.refl _ _ | assumption | (solve | omega | simp | (simp; omega))))
            clear hB
            refine wp_region_below (by kernel_rfl) (by kernel_rfl) ?_
            repeat (go_big_quiet_step ((fail)))
            refine wpQuiet_nil ?_
            intro w2 hw'
            obtain ⟨⟨_, hb2⟩, rfl⟩ := hw'
            have HB2 := Lib.hid (below_then HBX.out hb2)
            have HO2 := own_below (own_below HO.out (show Below wr.heap.size wr (wr.alloc (.cells #[.int .i64 gs, .int .i64 gb, .int .i64 gc, .int .i64 gi, .int .i64 gp, .int .i64 gn, .int .i64 gd] 27)) from (Below.refl _ _).alloc (Nat.le_refl _) _)) hb2
            clear hb2 q0 q1 q2 q3 q4 q5 q6 qj
            go_wp2
            go_roundw
            case rel => exact ⟨k + 1, xs, A, c9, by omega, by go_num, rfl, HNX.out, by omega, HO2, HB2.out⟩
            case measure => simp [intOf]; omega
          · have c1 : (gs != js) = true := bne_iff_ne.2 e1
            have hrd := fun W => red_reduces gs gb gc gi gp gn gd W
            rcases Bool.eq_false_or_eq_true (redB ⟨gs, gb, gc, gi, gp, gn, gd⟩) with hrb | hrb
            · rw [hrb] at hrd
              have HRD := Lib.hid hrd
              clear hrd
              have HNX := Lib.hid (redK_yes (l := l) (s := js) (k := k) (by rw [HRI.out, c1, hrb]; rfl))
              clear hrb e1
              have hB := HB.out
              have HBX : Hid (Below w.heap.size w (wr.alloc (.cells #[.int .i64 gs, .int .i64 gb, .int .i64 gc, .int .i64 gi, .int .i64 gp, .int .i64 gn, .int .i64 gd] 27))) := Lib.hid (by repeat (first | (with_reducible exact Below.refl _ _) | (with_reducible assumption) | (with_reducible refine below_drewN ?_ _) | (with_reducible refine Below.drew ?_) | (with_reducible refine Below.alloc ?_ ?_ _) | (with_reducible refine Below.setCell ?_ ?_ _) | exact Below.refl _ _ | assumption | (solve | omega | simp | (simp; omega))))
              clear hB
              refine wp_region_below (by kernel_rfl) (by kernel_rfl) ?_
              repeat (go_big_quiet_step (((go_at_call 42; exact bq_below (HRD.out _)))))
              refine wpQuiet_nil ?_
              intro w2 hw'
              obtain ⟨⟨_, hb2⟩, rfl⟩ := hw'
              have HB2 := Lib.hid (below_then HBX.out hb2)
              have HO2 := own_below (own_below HO.out (show Below wr.heap.size wr (wr.alloc (.cells #[.int .i64 gs, .int .i64 gb, .int .i64 gc, .int .i64 gi, .int .i64 gp, .int .i64 gn, .int .i64 gd] 27)) from (Below.refl _ _).alloc (Nat.le_refl _) _)) hb2
              clear hb2 q0 q1 q2 q3 q4 q5 q6 qj
              have hs2 := HB2.out.size
              go_wp2_with (at_builtin; go_loud (refine wpList_append_own _ rfl _ _ 35 rfl w.heap.size 3 i0 (.int .i64 0) 1 8 Tryd.underlying35 hi hz0 hz1 hz2 rfl (by decide) _ _ _ rfl (HO2.alloc _) ⟨w2.heap.size, 0, none⟩ 1 1 [.int .i64 (k : Int)] rfl rfl ?c1 ?c2 ?c3 ?c4 ?c5 ?_))
              case c2 => first | rfl | (intro u hu; simp at hu; subst hu; rfl)
              case c3 => first | omega | (unfold maxLen; omega)
              case c4 => omega
              case c5 => first | omega | (simp; omega)
              intro v' w3 hown' hgrow _
              obtain ⟨A', cc', rfl⟩ := own_slice hown'
              have HO3 : Hid (w3.ownsRow w.heap.size 3 1 (.slice A' (xs.length + 1) cc') (xs.length + 1) ((xs ++ [(k : Int)]).map (Value.int .i64))) := Lib.hid (by simpa using hown')
              have HB3 : Hid (Below w.heap.size w w3) := Lib.hid ((HB2.out.alloc HB2.out.size _).grown hgrow (by simp; omega) (fun g hg => by
                rcases HO2.2 with ⟨h1, _⟩ | ⟨g', cap, cur, h1, hg', _⟩
                · rw [h1] at hg; simp [Value.ownBlock] at hg
                · rw [h1] at hg; simp [Value.ownBlock] at hg; omega))
              clear HO2 hown' hgrow
              go_wp2
              go_roundw
              case rel => exact ⟨k + 1, xs ++ [(k : Int)], A', cc', by omega, by go_num, by simp, by rw [HNX.out, HXS.out], by simp; omega, by simpa using HO3.out, HB3.out⟩
              case measure => simp [intOf]; omega
            · rw [hrb] at hrd
              have HRD := Lib.hid hrd
              clear hrd
              have HNX := Lib.hid ((redK_no (by rw [HRI.out]; rw [c1, hrb]; rfl)).trans HXS.out)
              clear hrb e1
              have hB := HB.out
              have HBX : Hid (Below w.heap.size w (wr.alloc (.cells #[.int .i64 gs, .int .i64 gb, .int .i64 gc, .int .i64 gi, .int .i64 gp, .int .i64 gn, .int .i64 gd] 27))) := Lib.hid (by repeat (first | (with_reducible exact Below.refl _ _) | (with_reducible assumption) | (with_reducible refine below_drewN ?_ _) | (with_reducible refine Below.drew ?_) | (with_reducible refine Below.alloc ?_ ?_ _) | (with_reducible refine Below.setCell ?_ ?_ _) | exact Below.refl _ _ | assumption | (solve | omega | simp | (simp; omega))))
              clear hB
              refine wp_region_below (by kernel_rfl) (by kernel_rfl) ?_
              repeat (go_big_quiet_step (((go_at_call 42; exact bq_below (HRD.out _)))))
              refine wpQuiet_nil ?_
              intro w2 hw'
              obtain ⟨⟨_, hb2⟩, rfl⟩ := hw'
              have HB2 := Lib.hid (below_then HBX.out hb2)
              have HO2 := own_below (own_below HO.out (show Below wr.heap.size wr (wr.alloc (.cells #[.int .i64 gs, .int .i64 gb, .int .i64 gc, .int .i64 gi, .int .i64 gp, .int .i64 gn, .int .i64 gd] 27)) from (Below.refl _ _).alloc (Nat.le_refl _) _)) hb2
              clear hb2 q0 q1 q2 q3 q4 q5 q6 qj
              go_wp2
              go_roundw
              case rel => exact ⟨k + 1, xs, A, c9, by omega, by go_num, rfl, HNX.out, by omega, HO2, HB2.out⟩
              case measure => simp [intOf]; omega
        · obtain rfl : k = n := by omega
          have hB := HB.out
          go_wp2
          go_ret
          exact ⟨_, rfl, NumTab.own HO.out (by rw [HF.out, HN.out, HXS.out]) (by omega), (by repeat (first | (with_reducible exact Below.refl _ _) | (with_reducible assumption) | (with_reducible refine below_drewN ?_ _) | (with_reducible refine Below.drew ?_) | (with_reducible refine Below.alloc ?_ ?_ _) | (with_reducible refine Below.setCell ?_ ?_ _) | exact Below.refl _ _ | assumption | (solve | omega | simp | (simp; omega))))⟩

set_option maxRecDepth 100000 in
set_option maxHeartbeats 8000000 in
theorem ref_Reducers1 (l : List Gr) (n b off cc : Nat) (j : Int) (w : World) (hn : l.length = n) (hr : GrossAt w b off l) (hb : b < w.heap.size) (hl : n ≤ 2600000000000) :
    Calls Tryd.prog 27 #[.slice (some ⟨b, off, none⟩) n cc, .int .i64 j] w (NumsOut w (redS l j)) := by
  by_cases hj0 : j < 0
  · have g0 : decide (j < 0) = true := decide_eq_true hj0
    have g00 : decide (0 ≤ j) = false := decide_eq_false (by omega)
    have HF := Lib.hid (redS_out (l := l) (j := j) (.inl hj0))
    clear hn hr
    go_enter Tryd.func27, Tryd.ntmps27
    go_wp2
    refine wp_loop_rounds 1 ?_
    rw [rounds_succ]
    go_wp2
    go_ret
    exact ⟨_, rfl, .inl ⟨_, _, rfl, HF.out⟩, (by repeat (first | (with_reducible exact Below.refl _ _) | (with_reducible assumption) | (with_reducible refine below_drewN ?_ _) | (with_reducible refine Below.drew ?_) | (with_reducible refine Below.alloc ?_ ?_ _) | (with_reducible refine Below.setCell ?_ ?_ _) | exact Below.refl _ _ | assumption | (solve | omega | simp | (simp; omega))))⟩
  · have g0 : decide (j < 0) = false := decide_eq_false hj0
    have g00 : decide (0 ≤ j) = true := decide_eq_true (by omega)
    obtain ⟨jn, rfl⟩ : ∃ q : Nat, j = q := ⟨j.toNat, by omega⟩
    by_cases hj1 : n ≤ jn
    · have g1 : decide ((n : Int) ≤ (jn : Int)) = true := decide_eq_true (by omega)
      have g2 : decide (n ≤ jn) = true := decide_eq_true hj1
      have g3 : decide (jn < n) = false := decide_eq_false (by omega)
      have g4 : decide ((jn : Int) < (n : Int)) = false := decide_eq_false (by omega)
      have HF := Lib.hid (redS_out (l := l) (j := (jn : Int)) (.inr (by omega)))
      clear hn hr
      go_enter Tryd.func27, Tryd.ntmps27
      go_wp2
      refine wp_loop_rounds 1 ?_
      rw [rounds_succ]
      go_wp2
      go_ret
      exact ⟨_, rfl, .inl ⟨_, _, rfl, HF.out⟩, (by repeat (first | (with_reducible exact Below.refl _ _) | (with_reducible assumption) | (with_reducible refine below_drewN ?_ _) | (with_reducible refine Below.drew ?_) | (with_reducible refine Below.alloc ?_ ?_ _) | (with_reducible refine Below.setCell ?_ ?_ _) | exact Below.refl _ _ | assumption | (solve | omega | simp | (simp; omega))))⟩
    · have g1 : decide ((n : Int) ≤ (jn : Int)) = false := decide_eq_false (by omega)
      have g2 : decide (n ≤ jn) = false := decide_eq_false hj1
      have g3 : decide (jn < n) = true := decide_eq_true (by omega)
      have g4 : decide ((jn : Int) < (n : Int)) = true := decide_eq_true (by omega)
      obtain ⟨q, hq⟩ : ∃ q, l[jn]? = some q := ⟨l[jn]'(by omega), List.getElem?_eq_getElem _⟩
      have HF := Lib.hid (redS_in hq)
      have HQ := Lib.hid hq
      obtain ⟨js, jb, jc, ji, jp, jjn, jd⟩ := q
      simp only at HF
      clear hq
      have HN := Lib.hid hn
      have HR := Lib.hid hr
      clear hn hr
      obtain ⟨i0, hi, hz0, hz1, hz2⟩ := info_parts info_int9
      go_enter Tryd.func27, Tryd.ntmps27
      go_wp2
      go_loopw [5, 6] (fun s i wr => ∃ (k : Nat) (xs : List Int) (A : Option Addr) (c9 : Nat), k ≤ n ∧ i = .int .i64 k ∧ s = .slice A xs.length c9 ∧ redK l js k = xs ∧ xs.length ≤ k ∧ wr.ownsRow w.heap.size 3 1 (.slice A xs.length c9) xs.length (xs.map (Value.int .i64)) ∧ Below w.heap.size w wr) (fun _ i _ => n - (intOf i).toNat)
      case atStart => exact ⟨0, [], none, 0, Nat.zero_le _, rfl, rfl, rfl, Nat.zero_le _, ⟨rfl, .inl ⟨rfl, rfl⟩⟩, (by repeat (first | (with_reducible exact Below.refl _ _) | (with_reducible assumption) | (with_reducible refine below_drewN ?_ _) | (with_reducible refine Below.drew ?_) | (with_reducible refine Below.alloc ?_ ?_ _) | (with_reducible refine Below.setCell ?_ ?_ _) | exact Below.refl _ _ | assumption | (solve | omega | simp | (simp; omega))))⟩
      case round =>
        obtain ⟨k, xs, A, c9, hk, rfl, rfl, hxs, hxl, hown, hbl⟩ := hrel
        have HXS := Lib.hid hxs
        have HO := Lib.hid hown
        have HB := Lib.hid hbl
        have HRW := Lib.hid (HR.out.below hb hbl)
        have hsz : b < wr.heap.size := Nat.lt_of_lt_of_le hb hbl.size
        have hsz0 : w.heap.size ≤ wr.heap.size := hbl.size
        clear hxs hown hbl
        by_cases hlt : k < n
        · obtain ⟨r, hr⟩ : ∃ r, l[k]? = some r := ⟨l[k]'(by rw [HN.out]; exact hlt), List.getElem?_eq_getElem _⟩
          have HK := Lib.hid hr
          obtain ⟨gs, gb, gc, gi, gp, gn, gd⟩ := r
          clear hr
          obtain ⟨k0, k1, k2, k3, k4, k5, k6⟩ := HRW.out k _ HK.out
          simp only at k0 k1 k2 k3 k4 k5 k6
          go_wp2
          have q0 : ∀ x : BW wr, x.val.cell? ⟨b, off + k * 7, none⟩ = some (.int .i64 gs) := fun x => ((HRW.out.below hsz x.ok) k _ HK.out).1
          have q1 : ∀ x : BW wr, x.val.cell? ⟨b, off + k * 7 + 1, none⟩ = some (.int .i64 gb) := fun x => ((HRW.out.below hsz x.ok) k _ HK.out).2.1
          have q2 : ∀ x : BW wr, x.val.cell? ⟨b, off + k * 7 + 2, none⟩ = some (.int .i64 gc) := fun x => ((HRW.out.below hsz x.ok) k _ HK.out).2.2.1
          have q3 : ∀ x : BW wr, x.val.cell? ⟨b, off + k * 7 + 3, none⟩ = some (.int .i64 gi) := fun x => ((HRW.out.below hsz x.ok) k _ HK.out).2.2.2.1
          have q4 : ∀ x : BW wr, x.val.cell? ⟨b, off + k * 7 + 4, none⟩ = some (.int .i64 gp) := fun x => ((HRW.out.below hsz x.ok) k _ HK.out).2.2.2.2.1
          have q5 : ∀ x : BW wr, x.val.cell? ⟨b, off + k * 7 + 5, none⟩ = some (.int .i64 gn) := fun x => ((HRW.out.below hsz x.ok) k _ HK.out).2.2.2.2.2.1
          have q6 : ∀ x : BW wr, x.val.cell? ⟨b, off + k * 7 + 6, none⟩ = some (.int .i64 gd) := fun x => ((HRW.out.below hsz x.ok) k _ HK.out).2.2.2.2.2.2
          have qj : ∀ x : BW wr, x.val.cell? ⟨b, off + jn * 7, none⟩ = some (.int .i64 js) := fun x => ((HRW.out.below hsz x.ok) jn _ HQ.out).1
          have i1 : (jn : Int) < (n : Int) := by omega
          have i2 : (k : Int) < (n : Int) := by omega
          have i3 : jn < n := by omega
          have HRI := Lib.hid (redI_at (s := js) HK.out)
          clear k0 k1 k2 k3 k4 k5 k6
          by_cases e1 : gs = js
          · have c1 : (gs != js) = false := bne_eq_false_iff_eq.2 e1
            have HNX := Lib.hid ((redK_no (by rw [HRI.out]; simp [e1])).trans HXS.out)
            clear e1
            have hB := HB.out
            have HBX : Hid (Below w.heap.size w wr) := Lib.hid (by repeat (first | (with_reducible exact Below.refl _ _) | (with_reducible assumption) | (with_reducible refine below_drewN ?_ _) | (with_reducible refine Below.drew ?_) | (with_reducible refine Below.alloc ?_ ?_ _) | (with_reducible refine Below.setCell ?_ ?_ _) | exact Below.refl _ _ | assumption | (solve | omega | simp | (simp; omega))))
            clear hB
            refine wp_region_below (by kernel_rfl) (by kernel_rfl) ?_
            repeat (go_big_quiet_step ((fail)))
            refine wpQuiet_nil ?_
            intro w2 hw'
            obtain ⟨⟨_, hb2⟩, rfl⟩ := hw'
            have HB2 := Lib.hid (below_then HBX.out hb2)
            have HO2 := own_below (own_below HO.out (show Below wr.heap.size wr wr from Below.refl _ _)) hb2
            clear hb2 q0 q1 q2 q3 q4 q5 q6 qj
            go_wp2
            go_roundw
            case rel => exact ⟨k + 1, xs, A, c9, by omega, by go_num, rfl, HNX.out, by omega, HO2, HB2.out⟩
            case measure => simp [intOf]; omega
          · have c1 : (gs != js) = true := bne_iff_ne.2 e1
            have hrd := fun W => ref_reduces gs gb gc gi gp gn gd W
            rcases Bool.eq_false_or_eq_true (redB ⟨gs, gb, gc, gi, gp, gn, gd⟩) with hrb | hrb
            · rw [hrb] at hrd
              have HRD := Lib.hid hrd
              clear hrd
              have HNX := Lib.hid (redK_yes (l := l) (s := js) (k := k) (by rw [HRI.out, c1, hrb]; rfl))
              clear hrb e1
              have hB := HB.out
              have HBX : Hid (Below w.heap.size w wr) := Lib.hid (by repeat (first | (with_reducible exact Below.refl _ _) | (with_reducible assumption) | (with_reducible refine below_drewN ?_ _) | (with_reducible refine Below.drew ?_) | (with_reducible refine Below.alloc ?_ ?_ _) | (with_reducible refine Below.setCell ?_ ?_ _) | exact Below.refl _ _ | assumption | (solve | omega | simp | (simp; omega))))
              clear hB
              refine wp_region_below (by kernel_rfl) (by kernel_rfl) ?_
              repeat (go_big_quiet_step (((go_at_call 43; exact bq_below (HRD.out _)))))
              refine wpQuiet_nil ?_
              intro w2 hw'
              obtain ⟨⟨_, hb2⟩, rfl⟩ := hw'
              have HB2 := Lib.hid (below_then HBX.out hb2)
              have HO2 := own_below (own_below HO.out (show Below wr.heap.size wr wr from Below.refl _ _)) hb2
              clear hb2 q0 q1 q2 q3 q4 q5 q6 qj
              have hs2 := HB2.out.size
              go_wp2_with (at_builtin; go_loud (refine wpList_append_own _ rfl _ _ 35 rfl w.heap.size 3 i0 (.int .i64 0) 1 8 Tryd.underlying35 hi hz0 hz1 hz2 rfl (by decide) _ _ _ rfl (HO2.alloc _) ⟨w2.heap.size, 0, none⟩ 1 1 [.int .i64 (k : Int)] rfl rfl ?c1 ?c2 ?c3 ?c4 ?c5 ?_))
              case c2 => first | rfl | (intro u hu; simp at hu; subst hu; rfl)
              case c3 => first | omega | (unfold maxLen; omega)
              case c4 => omega
              case c5 => first | omega | (simp; omega)
              intro v' w3 hown' hgrow _
              obtain ⟨A', cc', rfl⟩ := own_slice hown'
              have HO3 : Hid (w3.ownsRow w.heap.size 3 1 (.slice A' (xs.length + 1) cc') (xs.length + 1) ((xs ++ [(k : Int)]).map (Value.int .i64))) := Lib.hid (by simpa using hown')
              have HB3 : Hid (Below w.heap.size w w3) := Lib.hid ((HB2.out.alloc HB2.out.size _).grown hgrow (by simp; omega) (fun g hg => by
                rcases HO2.2 with ⟨h1, _⟩ | ⟨g', cap, cur, h1, hg', _⟩
                · rw [h1] at hg; simp [Value.ownBlock] at hg
                · rw [h1] at hg; simp [Value.ownBlock] at hg; omega))
              clear HO2 hown' hgrow
              go_wp2
              go_roundw
              case rel => exact ⟨k + 1, xs ++ [(k : Int)], A', cc', by omega, by go_num, by simp, by rw [HNX.out, HXS.out], by simp; omega, by simpa using HO3.out, HB3.out⟩
              case measure => simp [intOf]; omega
            · rw [hrb] at hrd
              have HRD := Lib.hid hrd
              clear hrd
              have HNX := Lib.hid ((redK_no (by rw [HRI.out]; rw [c1, hrb]; rfl)).trans HXS.out)
              clear hrb e1
              have hB := HB.out
              have HBX : Hid (Below w.heap.size w wr) := Lib.hid (by repeat (first | (with_reducible exact Below.refl _ _) | (with_reducible assumption) | (with_reducible refine below_drewN ?_ _) | (with_reducible refine Below.drew ?_) | (with_reducible refine Below.alloc ?_ ?_ _) | (with_reducible refine Below.setCell ?_ ?_ _) | exact Below.refl _ _ | assumption | (solve | omega | simp | (simp; omega))))
              clear hB
              refine wp_region_below (by kernel_rfl) (by kernel_rfl) ?_
              repeat (go_big_quiet_step (((go_at_call 43; exact bq_below (HRD.out _)))))
              refine wpQuiet_nil ?_
              intro w2 hw'
              obtain ⟨⟨_, hb2⟩, rfl⟩ := hw'
              have HB2 := Lib.hid (below_then HBX.out hb2)
              have HO2 := own_below (own_below HO.out (show Below wr.heap.size wr wr from Below.refl _ _)) hb2
              clear hb2 q0 q1 q2 q3 q4 q5 q6 qj
              go_wp2
              go_roundw
              case rel => exact ⟨k + 1, xs, A, c9, by omega, by go_num, rfl, HNX.out, by omega, HO2, HB2.out⟩
              case measure => simp [intOf]; omega
        · obtain rfl : k = n := by omega
          have hB := HB.out
          go_wp2
          go_ret
          exact ⟨_, rfl, NumTab.own HO.out (by rw [HF.out, HN.out, HXS.out]) (by omega), (by repeat (first | (with_reducible exact Below.refl _ _) | (with_reducible assumption) | (with_reducible refine below_drewN ?_ _) | (with_reducible refine Below.drew ?_) | (with_reducible refine Below.alloc ?_ ?_ _) | (with_reducible refine Below.setCell ?_ ?_ _) | exact Below.refl _ _ | assumption | (solve | omega | simp | (simp; omega))))⟩
end Go.Proofs.YthpknbflmcoanaaDoor
