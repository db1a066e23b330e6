/-
  What the laws of chapter 21 have in hand behind their makers: a valid list, valid rates, a month.
-/
import Derived.Test.YthpknbflmcoanaaDoorList
import Derived.Test.YthpknbflmcoanaaDoorRates21
import Derived.Test.YthpknbflmcoanaaDoorAwk
import Derived.Test.YthpknbflmcoanaaDoorRedQ
namespace Go.Proofs.YthpknbflmcoanaaDoor
open Go.RowKit Mny

theorem GoodTo.val {xs : List Gr} (h : GoodTo xs xs.length) (h9 : xs.length ≤ 9) : ValG xs := ⟨by omega, h⟩
theorem ded_all {xs : List Gr} {rt : List Rt} {m : Int} (h : ValG xs) (hc : chkS rt = 0) (h0 : 0 ≤ m) (h1 : m ≤ 2399) : dedB xs rt m = true := by
  unfold dedB
  rw [valG_iff.2 h, inB_iff.2 ⟨h0, h1⟩, decide_eq_true hc]
  rfl
theorem ValG.ok {xs : List Gr} (h : ValG xs) {g : Gr} (hg : g ∈ xs) : okG g = true := by
  obtain ⟨k, hk⟩ := List.getElem?_of_mem hg
  exact (h.2 k g (List.getElem?_eq_some_iff.1 hk).1 hk).1
theorem okG.bd {g : Gr} (h : okG g = true) : (0 ≤ g.i ∧ g.i ≤ 1000000000000) ∧ 0 ≤ g.p ∧ g.p ≤ 1000000000000 := by
  obtain ⟨gs, gb, gc, gi, gp, gn, gd⟩ := g
  obtain ⟨_, _, _, h4, h5, _⟩ := okG_iff.1 h
  exact ⟨h4, h5⟩
theorem okG.gross {g : Gr} (h : okG g = true) : 0 ≤ grossV g ∧ grossV g ≤ 1000000000000 := by
  obtain ⟨⟨h1, h2⟩, h3, h4⟩ := okG.bd h
  unfold grossV
  split <;> omega
end Go.Proofs.YthpknbflmcoanaaDoor
