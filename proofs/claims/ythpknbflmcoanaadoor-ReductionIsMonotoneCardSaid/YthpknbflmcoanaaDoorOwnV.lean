/-
  Own rows, opened and shut again.
-/
import Derived.Test.YthpknbflmcoanaaDoorOwnW
import Derived.Test.YthpknbflmcoanaaDoorOne
import Derived.Test.YthpknbflmcoanaaDoorRates22
namespace Go.Proofs.YthpknbflmcoanaaDoor
open Go.RowKit Mny

theorem OwnG.cut {w : World} {base : Nat} {v : Value} {ys : List Gr} (h : OwnG w base v ys) : ∃ A c, v = .slice A ys.length c := by
  rcases h with ⟨rfl, rfl⟩ | ⟨g, cap, ar, rfl, _⟩
  · exact ⟨_, _, rfl⟩
  · exact ⟨_, _, rfl⟩
theorem OwnG.rowAt {w : World} {base n c k : Nat} {A : Option Addr} {ys : List Gr} {r : Gr} (h : OwnG w base (.slice A n c) ys) (hk : ys[k]? = some r) : ∃ g ar, A = some ⟨g, 0, none⟩ ∧ base ≤ g ∧ Bx w g 27 ar ∧ RowsIn ar ys ∧ n ≤ c ∧ ys.length = n := by
  rcases h with ⟨_, rfl⟩ | ⟨g, cap, ar, he, h1, h2, h3, h4⟩
  · cases hk
  · injection he with e1 e2 e3
    subst e2 e3
    exact ⟨g, ar, e1, h1, h2, h3, h4, rfl⟩
theorem OwnG.mk {w : World} {base n c g : Nat} {ar : Array Value} {ys : List Gr} (h1 : base ≤ g) (h2 : Bx w g 27 ar) (h3 : RowsIn ar ys) (h4 : n ≤ c) (h5 : ys.length = n) : OwnG w base (.slice (some ⟨g, 0, none⟩) n c) ys :=
  .inr ⟨g, c, ar, by rw [h5], h1, h2, h3, by omega⟩

end Go.Proofs.YthpknbflmcoanaaDoor
