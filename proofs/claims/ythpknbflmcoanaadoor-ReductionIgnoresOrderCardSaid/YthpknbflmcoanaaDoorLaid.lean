/-
  The listed variable pension/reduction.down: what the condition says of it, and a world that meets it.
-/
import Derived.Test.YthpknbflmcoanaaDoorDed
import Derived.Test.YthpknbflmcoanaaDoorPostG
import Derived.LaidLaws
import Derived.ChangeVars
import Derived.ChangeArms
set_option maxRecDepth 100000
namespace Go.Proofs.YthpknbflmcoanaaDoor
open Go.RowKit Mny Go.WideShapes Go.ChangeShapes

abbrev laidL : List (String × DataW Unit) := [("pension/reduction.down", Rows.laid_pension_reduction_down)]
theorem down_at : Tryd.prog.globalNamed "pension/reduction.down" = some 0 := by kernel_rfl
theorem down_type : (Tryd.prog.globals[0]?).map (·.type) = some 74 := by kernel_rfl
theorem one_lit {H : Type} {enc : TypeId × Value → H} {w : World} {base : Nat} {spare : Nat → Bool} {held : Bool} {n : Nat} {c : Value} {x : DataW H × List MemPlace} (h : DataW.trod enc Tryd.prog w base spare held n 3 [c] = some x) : ∃ a : Int, c = .int .i64 a ∧ x.1 = .lit (.int .i64 a) := by
  cases n with
  | zero => simp [DataW.trod] at h
  | succ n =>
    cases c <;> simp [DataW.trod, Tryd.underlying3] at h
    rename_i k a
    obtain ⟨⟨rfl, _⟩, rfl⟩ := h
    exact ⟨a, rfl, rfl⟩
theorem down_of_laid {W : World} (h : laidMet Tryd.prog laidL W) : DownAt W := by
  obtain ⟨ps, ⟨g, t, cs, fuel, p, q, hg, ht, hvar, hd, _, _⟩, _⟩ := h
  obtain rfl := Option.some.inj (down_at.symm.trans hg)
  obtain rfl := Option.some.inj (down_type.symm.trans ht)
  obtain ⟨l⟩ := cs
  obtain ⟨xs, m, rfl, hx, hlen, hxl, hf⟩ := DataW.trod_struct Tryd.underlying74 hd
  rw [show Tryd.prog.cellsOf 74 = 2 by kernel_rfl] at hlen
  match l, hlen with
  | [c0, c1], _ =>
    match xs, hxl with
    | [y0, y1], _ =>
      have h0 : DataW.trod (fun _ => ()) Tryd.prog W 0 (fun _ => true) false m 3 ((([c0, c1] : List Value).drop 0).take (Tryd.prog.cellsOf 3)) = [y0, y1][0]? := hf 0 _ rfl
      have h1 : DataW.trod (fun _ => ()) Tryd.prog W 0 (fun _ => true) false m 3 ((([c0, c1] : List Value).drop 1).take (Tryd.prog.cellsOf 3)) = [y0, y1][1]? := hf 1 _ rfl
      rw [show Tryd.prog.cellsOf 3 = 1 by kernel_rfl] at h0 h1
      obtain ⟨a, rfl, ha⟩ := one_lit (c := c0) (x := y0) (by simpa using h0)
      obtain ⟨b, rfl, hb⟩ := one_lit (c := c1) (x := y1) (by simpa using h1)
      have hy := congrArg Prod.fst hx
      simp [Rows.laid_pension_reduction_down, ha, hb] at hy
      obtain ⟨rfl, rfl⟩ := hy
      exact ⟨World.var?_cell hg hvar 0, World.var?_cell hg hvar 1⟩

/-- a world that meets the condition: the settled one, the variable's cells laid -/
noncomputable def laidWorld (os : Os) : World :=
  { World.holding Tryd.prog os ⟨#[], #[], []⟩ with heap := (World.holding Tryd.prog os ⟨#[], #[], []⟩).heap.modify 0 fun
      | .cells _ t frozen => .cells #[.int .i64 1, .int .i64 1] t frozen
      | o => o }
theorem laidWorld_met (os : Os) (args : Array Value) : laidMet Tryd.prog laidL ((laidWorld os).forCall (fun _ _ => 0) ⟨#[], args, []⟩).memory :=
  laidMet_of_run' 8 (by kernel_rfl) (by kernel_rfl)
end Go.Proofs.YthpknbflmcoanaaDoor
