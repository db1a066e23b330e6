/-
  Rows of standings of the call's own that are written into.
-/
import Derived.Test.YtaifacnpnhcdcaaRecL
namespace Go.Proofs.Ytaifacnpnhcdcaa
open Go.RowKit Mny

theorem put_far {ar : Array Value} {i j : Nat} {v : Value} (h : i ≠ j) : (ar.setIfInBounds i v)[j]? = ar[j]? := by rw [Array.getElem?_setIfInBounds, if_neg h]
theorem put_at {ar : Array Value} {i : Nat} {v : Value} (h : i < ar.size) : (ar.setIfInBounds i v)[i]? = some v := by rw [Array.getElem?_setIfInBounds, if_pos rfl, if_pos h]
/-- field t of a standing -/
def fldS (r : St) : Nat → Int
  | 0 => r.s
  | 1 => r.c
  | 2 => r.a
  | _ => r.o
/-- this array begins with these standings' fields -/
def RowsS (ar : Array Value) (ys : List St) : Prop := ∀ k r t, ys[k]? = some r → t < 4 → ar[k * 4 + t]? = some (.int .i64 (fldS r t))
theorem RowsS.put {ar : Array Value} {ys : List St} {k t : Nat} {r r' : St} {v : Int} (h : RowsS ar ys) (hk : ys[k]? = some r) (ht : t < 4) (hr : ∀ t', t' < 4 → fldS r' t' = if t' = t then v else fldS r t') :
    RowsS (ar.setIfInBounds (k * 4 + t) (.int .i64 v)) (ys.set k r') := fun k2 r2 t2 hk2 ht2 => by
  have hkl := (List.getElem?_eq_some_iff.1 hk).1
  by_cases e : k2 = k
  · subst e
    rw [List.getElem?_set_self hkl] at hk2
    injection hk2 with hk2
    subst hk2
    rw [hr t2 ht2]
    by_cases e2 : t2 = t
    · subst e2
      rw [if_pos rfl, put_at (Array.getElem?_eq_some_iff.1 (h k2 r t2 hk ht2)).1]
    · rw [if_neg e2, put_far (by omega)]
      exact h k2 r t2 hk ht2
  · rw [List.getElem?_set_ne (fun h => e h.symm)] at hk2
    rw [put_far (by omega)]
    exact h k2 r2 t2 hk2 ht2
/-- these standings lie in a block of the call's own -/
def OwnS (w : World) (base : Nat) (v : Value) (ys : List St) : Prop :=
  (v = .slice none 0 0 ∧ ys = []) ∨ ∃ g cap ar, v = .slice (some ⟨g, 0, none⟩) ys.length cap ∧ base ≤ g ∧ Bx w g 33 ar ∧ RowsS ar ys ∧ ys.length ≤ cap
theorem OwnS.of {w : World} {base n : Nat} {v : Value} {ys : List St} (h : w.ownsRow base 33 4 v n (stCells ys)) (hl : ys.length = n) : OwnS w base v ys := by
  subst hl
  rcases h.2 with ⟨rfl, h0⟩ | ⟨g, cap, cur, rfl, hg, hh, hc, _, _, ht⟩
  · exact .inl ⟨rfl, List.length_eq_zero_iff.1 h0⟩
  · refine .inr ⟨g, cap, cur, rfl, hg, hh, fun k r t hk ht2 => ?_, hc⟩
    have hk2 : k < ys.length := (List.getElem?_eq_some_iff.1 hk).1
    obtain ⟨a0, a1, a2, a3⟩ := stCs_at hk
    have e : ∀ j u, (stCells ys)[j]? = some u → cur[j]? = some u := fun j u hj => by
      have hj2 := (List.getElem?_eq_some_iff.1 hj).1
      rw [stCells_len] at hj2
      rw [← hj, ← ht, List.getElem?_take, if_pos (by omega), Array.getElem?_toList]
    match t, ht2 with
    | 0, _ => exact e _ _ a0
    | 1, _ => exact e _ _ a1
    | 2, _ => exact e _ _ a2
    | 3, _ => exact e _ _ a3
theorem RowsS.at {w : World} {g : Nat} {t : TypeId} {ar : Array Value} {ys : List St} (h : RowsS ar ys) (hx : Bx w g t ar) : StAt w g 0 ys := fun k r hk => by
  refine ⟨?_, ?_, ?_, ?_⟩
  · rw [Nat.zero_add, hx.cell]; exact h k r 0 hk (by omega)
  · rw [Nat.zero_add, hx.cell]; exact h k r 1 hk (by omega)
  · rw [Nat.zero_add, hx.cell]; exact h k r 2 hk (by omega)
  · rw [Nat.zero_add, hx.cell]; exact h k r 3 hk (by omega)
theorem OwnS.tab {w : World} {base : Nat} {v : Value} {ys : List St} (h : OwnS w base v ys) : StTab w.heap.size w v ys := by
  rcases h with ⟨rfl, rfl⟩ | ⟨g, cap, ar, rfl, _, hx, hr, hc⟩
  · exact .inl ⟨_, _, rfl, rfl⟩
  · exact .inr ⟨g, 0, cap, rfl, hx.lt, hr.at hx⟩
theorem OwnS.rowAt {w : World} {base n c k : Nat} {A : Option Addr} {ys : List St} {r : St} (h : OwnS w base (.slice A n c) ys) (hk : ys[k]? = some r) : ∃ g ar, A = some ⟨g, 0, none⟩ ∧ base ≤ g ∧ Bx w g 33 ar ∧ RowsS ar ys ∧ n ≤ c ∧ ys.length = n := by
  rcases h with ⟨_, rfl⟩ | ⟨g, cap, ar, he, h1, h2, h3, h4⟩
  · cases hk
  · injection he with e1 e2 e3
    subst e2 e3
    exact ⟨g, ar, e1, h1, h2, h3, h4, rfl⟩
end Go.Proofs.Ytaifacnpnhcdcaa
