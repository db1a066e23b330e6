/-
  Slices of numbers that a call made: how they read.
-/
import Derived.Test.YthpknbflmcoanaaDoorPostG
import Derived.Test.YthpknbflmcoanaaDoorChain
import Derived.Laws.OwnMore
namespace Go.Proofs.YthpknbflmcoanaaDoor
open Go.RowKit

theorem info_int9 : (Tryd.prog.info? 3).map (fun i => (i.zero, i.size, i.bytes)) = some (some (.int .i64 0), 1, 8) := by kernel_rfl
theorem own_below {w w' : World} {base n size : Nat} {e : TypeId} {v : Value} {xs : List Value} (h : w.ownsRow base e size v n xs) (hb : Below w.heap.size w w') : w'.ownsRow base e size v n xs := by
  refine ⟨h.1, ?_⟩
  rcases h.2 with h0 | ⟨g, cap, cur, h1, h2, h3, h4⟩
  · exact .inl h0
  · exact .inr ⟨g, cap, cur, h1, h2, (hb.block g (Bx.lt h3)).trans h3, h4⟩
theorem own_slice {w : World} {base n size : Nat} {e : TypeId} {v : Value} {xs : List Value} (h : w.ownsRow base e size v n xs) : ∃ A c, v = .slice A n c := by
  rcases h.2 with ⟨rfl, rfl⟩ | ⟨g, cap, cur, rfl, _⟩
  · exact ⟨_, _, rfl⟩
  · exact ⟨_, _, rfl⟩
/-- this value is a slice that reads as these numbers -/
def NumTab (w : World) (v : Value) (zs : List Int) : Prop :=
  (∃ A c, v = .slice A 0 c ∧ zs = []) ∨ ∃ b off n c, v = .slice (some ⟨b, off, none⟩) n c ∧ 0 < n ∧ zs.length = n ∧ RowAt w b off zs ∧ b < w.heap.size ∧ n ≤ c
theorem NumTab.own {w : World} {base n c : Nat} {A : Option Addr} {xs zs : List Int} (h : w.ownsRow base 3 1 (.slice A n c) n (xs.map (Value.int .i64))) (hl : zs = xs) (hn : xs.length = n ∨ n ≤ xs.length) : NumTab w (.slice A n c) zs := by
  subst hl
  rcases Nat.eq_zero_or_pos n with h0 | h0
  · subst h0
    have h1 := h.1
    rw [List.length_map] at h1
    exact .inl ⟨_, _, rfl, List.length_eq_zero_iff.1 (by omega)⟩
  · have h1 := h.1
    rw [List.length_map] at h1
    rcases h.2 with ⟨_, h2⟩ | ⟨g, cap, cur, h2, _, hh, hc, _, _, ht⟩
    · omega
    · injection h2 with e1 e2 e3
      subst e1 e3
      refine .inr ⟨g, 0, n, c, rfl, h0, by omega, fun k z hk => ?_, Bx.lt hh, hc⟩
      have hk2 := (List.getElem?_eq_some_iff.1 hk).1
      rw [Nat.zero_add, Bx.cell hh, ← Array.getElem?_toList, show cur.toList[k]? = (cur.toList.take (n * 1))[k]? by rw [List.getElem?_take, if_pos (by omega)], ht, List.getElem?_map, hk]
      rfl
/-- some slice of these numbers came out -/
def NumsOut (w : World) (zs : List Int) (e : Ending) (w' : World) : Prop := ∃ v, e = .returned v ∧ NumTab w' v zs ∧ Below w.heap.size w w'
end Go.Proofs.YthpknbflmcoanaaDoor
