/-
  Standings in memory.
-/
import Derived.Test.YtaifacnpnhcdcaaProg
import Derived.WalkKit
import Derived.KernelRfl
namespace Go.Proofs.Ytaifacnpnhcdcaa
open Go.RowKit

/-- what a state has to pay or to recover -/
structure St where
  s : Int
  c : Int
  a : Int
  o : Int
instance : Inhabited St := ⟨⟨0, 0, 0, 0⟩⟩
/-- its cells -/
def stC (x : St) : List Value := [.int .i64 x.s, .int .i64 x.c, .int .i64 x.a, .int .i64 x.o]
/-- these cells are these standings -/
def StAt (w : World) (b off : Nat) (l : List St) : Prop := ∀ k r, l[k]? = some r →
  w.cell? ⟨b, off + k * 4, none⟩ = some (.int .i64 r.s) ∧ w.cell? ⟨b, off + k * 4 + 1, none⟩ = some (.int .i64 r.c) ∧ w.cell? ⟨b, off + k * 4 + 2, none⟩ = some (.int .i64 r.a) ∧ w.cell? ⟨b, off + k * 4 + 3, none⟩ = some (.int .i64 r.o)
theorem StAt.below {n₀ : Nat} {w w' : World} {b off : Nat} {l : List St} (h : StAt w b off l) (hb : b < n₀) (hw : Below n₀ w w') : StAt w' b off l := fun k r hk => by
  obtain ⟨h0, h1, h2, h3⟩ := h k r hk
  exact ⟨(hw.cell (p := ⟨b, _, none⟩) hb).trans h0, (hw.cell (p := ⟨b, _, none⟩) hb).trans h1, (hw.cell (p := ⟨b, _, none⟩) hb).trans h2, (hw.cell (p := ⟨b, _, none⟩) hb).trans h3⟩
/-- this value is a slice that reads as these standings, in a block below n₀ -/
def StTab (n₀ : Nat) (w : World) (v : Value) (l : List St) : Prop :=
  (∃ A c, v = .slice A 0 c ∧ l = []) ∨ ∃ b off c, v = .slice (some ⟨b, off, none⟩) l.length c ∧ b < n₀ ∧ StAt w b off l
theorem StTab.below {n₀ : Nat} {w w' : World} {v : Value} {l : List St} (h : StTab n₀ w v l) (hw : Below n₀ w w') : StTab n₀ w' v l := by
  rcases h with h | ⟨b, off, c, h1, h2, h3⟩
  · exact .inl h
  · exact .inr ⟨b, off, c, h1, h2, h3.below h2 hw⟩
end Go.Proofs.Ytaifacnpnhcdcaa
