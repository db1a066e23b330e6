/-
  The contract of One: a valid list of at most nine elements of one currency comes out.
-/
import Derived.Test.YthpknbflmcoanaaDoorOwnW
namespace Go.Proofs.YthpknbflmcoanaaDoor
open Go.RowKit Mny

/-- a valid list of at most nine elements in one currency came out, in a block of the call's own -/
def OneOut (w : World) (e : Ending) (w' : World) : Prop := ∃ v ys, e = .returned v ∧ ys.length ≤ 9 ∧ GoodTo ys ys.length ∧ (∀ g ∈ ys, g.c = 1) ∧ OwnG w' w.heap.size v ys ∧ Below w.heap.size w w'

set_option maxRecDepth 100000 in
set_option maxHeartbeats 8000000 in
theorem law_One (v0 : Value) (W : World) (h0 : RawTb W v0) : Calls Tryd.prog 37 #[v0] W (OneOut W) := by
  go_enter Tryd.func37, Tryd.ntmps37
  go_wp2_with fail
  refine (law_List v0 W h0).mono ?_
  rintro e w1 ⟨va, xs, rfl, hx9, hgt, hown, hb1⟩
  have HB1 := Lib.hid hb1
  have HGT := Lib.hid hgt
  have hs1 := hb1.size
  have ho := OwnG.of hown rfl
  clear hb1 hown hgt
  rcases ho with ⟨rfl, rfl⟩ | ⟨g, cap, ar, rfl, hg, hx, hri, hc⟩
  · have hb1 := HB1.out
    go_wp2
    refine wp_loop_rounds 1 ?_
    rw [rounds_succ]
    go_wp2
    go_ret
    exact ⟨_, [], rfl, by simp, GoodTo.zero _, (fun g h => by cases h), .inl ⟨rfl, rfl⟩, (by repeat (first | (with_reducible exact Below.refl _ _) | (with_reducible assumption) | (with_reducible refine below_drewN ?_ _) | (with_reducible refine Below.drew ?_) | (with_reducible refine Below.alloc ?_ ?_ _) | (with_reducible refine Below.setCell ?_ ?_ _) | exact Below.refl _ _ | assumption | (solve | omega | simp | (simp; omega))))⟩
  · obtain ⟨n, hn⟩ : ∃ n, xs.length = n := ⟨_, rfl⟩
    have HN := Lib.hid hn
    rw [hn] at hx9 HGT hc ⊢
    clear hn
    have HX := Lib.hid hx
    have HRI := Lib.hid hri
    clear hx hri
    go_wp2
    go_loopw [4] (fun i wr => ∃ (k : Nat) (ys : List Gr) (ar : Array Value), k ≤ n ∧ i = .int .i64 k ∧ ys.length = n ∧ GoodTo ys n ∧ (∀ j r, j < k → ys[j]? = some r → r.c = 1) ∧ Bx wr g 27 ar ∧ RowsIn ar ys ∧ Below W.heap.size W wr) (fun i _ => n - (intOf i).toNat)
    case atStart => exact ⟨0, xs, ar, Nat.zero_le _, rfl, HN.out, HGT.out, (fun j r h => absurd h (Nat.not_lt_zero _)), HX.out, HRI.out, HB1.out⟩
    case round =>
      obtain ⟨k, ys, ar', hk, rfl, hyl, hgt, hc1, hx, hri, hbl⟩ := hrel
      have HYL := Lib.hid hyl
      have HG := Lib.hid hgt
      have HC := Lib.hid hc1
      have HXk := Lib.hid hx
      have HRk := Lib.hid hri
      have HB := Lib.hid hbl
      clear hyl hgt hc1 hx hri hbl
      have hsz := HB.out.size
      have hgl := HXk.out.lt
      by_cases hlt : k < n
      · obtain ⟨r, hr⟩ : ∃ r, ys[k]? = some r := ⟨ys[k]'(by rw [HYL.out]; exact hlt), List.getElem?_eq_getElem _⟩
        have HK := Lib.hid hr
        have hok := (HG.out k r hlt hr).1
        obtain ⟨gs, gb, gc, gi, gp, gn, gd⟩ := r
        have HOK : Hid (okG ⟨gs, gb, 1, gi, gp, gn, gd⟩ = true) := Lib.hid (by
          obtain ⟨a1, a2, _, a4⟩ := okG_iff.1 hok
          exact okG_iff.2 ⟨a1, a2, ⟨by omega, by omega⟩, a4⟩)
        have k2 : wr.cell? ⟨g, k * 7 + 2, none⟩ = some (.int .i64 gc) := (HXk.out.cell _).trans (HRk.out k _ 2 hr (by omega))
        have f2 : wr.frozen? ⟨g, k * 7 + 2, none⟩ = false := HXk.out.free _
        clear hr hok
        have i1 : (k : Int) < (n : Int) := by omega
        have hb := HB.out
        go_wp2
        go_roundw
        case rel =>
          refine ⟨k + 1, ys.set k ⟨gs, gb, 1, gi, gp, gn, gd⟩, _, by omega, by go_num, ?_, HG.out.set HK.out rfl rfl HOK.out, ?_, HXk.out.put _ _, HRk.out.put HK.out (by omega) ?_, ?_⟩
          · rw [List.length_set]; exact HYL.out
          · intro j r hj hr
            by_cases e : k = j
            · subst e
              rw [List.getElem?_set_self (by rw [HYL.out]; exact hlt)] at hr
              injection hr with hr
              subst hr
              rfl
            · rw [List.getElem?_set_ne e] at hr
              exact HC.out j r (by omega) hr
          · intro t ht
            match t, ht with
            | 0, _ => rfl
            | 1, _ => rfl
            | 2, _ => rfl
            | 3, _ => rfl
            | 4, _ => rfl
            | 5, _ => rfl
            | 6, _ => rfl
          · exact (by repeat (first | (with_reducible assumption) | (with_reducible exact Below.refl _ _) | (with_reducible refine Below.setCell ?_ ?_ _) | (with_reducible refine Below.alloc ?_ ?_ _) | (with_reducible refine Below.drew ?_) | (with_reducible refine below_drewN ?_ _) | (with_reducible exact Nat.le_refl _) | omega | (simp; done) | (simp; omega)))
        case measure => simp [intOf]; omega
      · obtain rfl : n = k := by omega
        have hb := HB.out
        go_wp2
        go_ret
        refine ⟨.slice (some ⟨g, 0, none⟩) n cap, ys, rfl, by rw [HYL.out]; omega, by rw [HYL.out]; exact HG.out, ?_, .inr ⟨g, cap, ar', by rw [HYL.out], by omega, HXk.out, HRk.out, by rw [HYL.out]; exact hc⟩, (by repeat (first | (with_reducible exact Below.refl _ _) | (with_reducible assumption) | (with_reducible refine below_drewN ?_ _) | (with_reducible refine Below.drew ?_) | (with_reducible refine Below.alloc ?_ ?_ _) | (with_reducible refine Below.setCell ?_ ?_ _) | exact Below.refl _ _ | assumption | (solve | omega | simp | (simp; omega))))⟩
        intro r hr
        obtain ⟨j, hj⟩ := List.getElem?_of_mem hr
        exact HC.out j r (by rw [← HYL.out]; exact (List.getElem?_eq_some_iff.1 hj).1) hj
end Go.Proofs.YthpknbflmcoanaaDoor
