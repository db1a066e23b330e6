/-
  Rows of elements of the call's own that are written into.
-/
import Derived.Test.YthpknbflmcoanaaDoorHand
namespace Go.Proofs.YthpknbflmcoanaaDoor
open Go.RowKit Mny

/-- field t of an element -/
def fld (r : Gr) : Nat → Int
  | 0 => r.s
  | 1 => r.b
  | 2 => r.c
  | 3 => r.i
  | 4 => r.p
  | 5 => r.n
  | _ => r.d
/-- this array begins with these elements' fields -/
def RowsIn (ar : Array Value) (ys : List Gr) : Prop := ∀ k r t, ys[k]? = some r → t < 7 → ar[k * 7 + t]? = some (.int .i64 (fld r t))
theorem RowsIn.put {ar : Array Value} {ys : List Gr} {k t : Nat} {r r' : Gr} {v : Int} (h : RowsIn ar ys) (hk : ys[k]? = some r) (ht : t < 7) (hr : ∀ t', t' < 7 → fld r' t' = if t' = t then v else fld r t') :
    RowsIn (ar.setIfInBounds (k * 7 + t) (.int .i64 v)) (ys.set k r') := fun k2 r2 t2 hk2 ht2 => by
  have hkl := (List.getElem?_eq_some_iff.1 hk).1
  by_cases e : k2 = k
  · subst e
    rw [List.getElem?_set_self hkl] at hk2
    injection hk2 with hk2
    subst hk2
    rw [hr t2 ht2]
    by_cases e2 : t2 = t
    · subst e2
      rw [if_pos rfl, put_at (Array.getElem?_eq_some_iff.1 (h k2 r t2 hk ht2)).1]
    · rw [if_neg e2, put_far (by omega)]
      exact h k2 r t2 hk ht2
  · rw [List.getElem?_set_ne (fun h => e h.symm)] at hk2
    rw [put_far (by omega)]
    exact h k2 r2 t2 hk2 ht2
/-- these elements lie in a block of the call's own -/
def OwnG (w : World) (base : Nat) (v : Value) (ys : List Gr) : Prop :=
  (v = .slice none 0 0 ∧ ys = []) ∨ ∃ g cap ar, v = .slice (some ⟨g, 0, none⟩) ys.length cap ∧ base ≤ g ∧ Bx w g 27 ar ∧ RowsIn ar ys ∧ ys.length ≤ cap
theorem OwnG.of {w : World} {base n : Nat} {v : Value} {ys : List Gr} (h : w.ownsRow base 27 7 v n (grCells ys)) (hl : ys.length = n) : OwnG w base v ys := by
  subst hl
  rcases h.2 with ⟨rfl, h0⟩ | ⟨g, cap, cur, rfl, hg, hh, hc, _, _, ht⟩
  · exact .inl ⟨rfl, List.length_eq_zero_iff.1 h0⟩
  · refine .inr ⟨g, cap, cur, rfl, hg, hh, fun k r t hk ht2 => ?_, hc⟩
    have hk2 : k < ys.length := (List.getElem?_eq_some_iff.1 hk).1
    obtain ⟨a0, a1, a2, a3, a4, a5, a6⟩ := grCells_at hk
    have e : ∀ j u, (grCells ys)[j]? = some u → cur[j]? = some u := fun j u hj => by
      have hj2 := (List.getElem?_eq_some_iff.1 hj).1
      rw [grCells_len] at hj2
      rw [← hj, ← ht, List.getElem?_take, if_pos (by omega), Array.getElem?_toList]
    match t, ht2 with
    | 0, _ => exact e _ _ a0
    | 1, _ => exact e _ _ a1
    | 2, _ => exact e _ _ a2
    | 3, _ => exact e _ _ a3
    | 4, _ => exact e _ _ a4
    | 5, _ => exact e _ _ a5
    | 6, _ => exact e _ _ a6
theorem RowsIn.gross {w : World} {g : Nat} {t : TypeId} {ar : Array Value} {ys : List Gr} (h : RowsIn ar ys) (hx : Bx w g t ar) : GrossAt w g 0 ys := fun k r hk => by
  refine ⟨?_, ?_, ?_, ?_, ?_, ?_, ?_⟩
  · rw [Nat.zero_add, hx.cell]; exact h k r 0 hk (by omega)
  · rw [Nat.zero_add, hx.cell]; exact h k r 1 hk (by omega)
  · rw [Nat.zero_add, hx.cell]; exact h k r 2 hk (by omega)
  · rw [Nat.zero_add, hx.cell]; exact h k r 3 hk (by omega)
  · rw [Nat.zero_add, hx.cell]; exact h k r 4 hk (by omega)
  · rw [Nat.zero_add, hx.cell]; exact h k r 5 hk (by omega)
  · rw [Nat.zero_add, hx.cell]; exact h k r 6 hk (by omega)
theorem OwnG.tab {w : World} {base : Nat} {v : Value} {ys : List Gr} (h : OwnG w base v ys) (hn : ys.length ≤ 18) : GTb w v ys := by
  rcases h with ⟨rfl, rfl⟩ | ⟨g, cap, ar, rfl, _, hx, hr, hc⟩
  · exact .inl ⟨_, _, rfl, rfl⟩
  · exact .inr ⟨g, 0, _, cap, rfl, rfl, hr.gross hx, hx.lt, hc, by omega⟩
theorem OwnG.below {w w' : World} {base : Nat} {v : Value} {ys : List Gr} (h : OwnG w base v ys) (hb : Below w.heap.size w w') : OwnG w' base v ys := by
  rcases h with h | ⟨g, cap, ar, h1, h2, hx, h3⟩
  · exact .inl h
  · exact .inr ⟨g, cap, ar, h1, h2, hx.below hb, h3⟩
theorem GoodTo.set {ys : List Gr} {n k : Nat} {r r' : Gr} (h : GoodTo ys n) (hk : ys[k]? = some r) (hs : r'.s = r.s) (hb : r'.b = r.b) (ho : okG r' = true) : GoodTo (ys.set k r') n := fun i x hi hx => by
  have hkl := (List.getElem?_eq_some_iff.1 hk).1
  have tw : ∀ y z : Gr, y.s = z.s → y.b = z.b → ∀ q, twinB y q = twinB z q ∧ twinB q y = twinB q z := fun y z h1 h2 q => by unfold twinB; rw [h1, h2]; exact ⟨rfl, rfl⟩
  -- an element of the new list has the old one's state and benefit
  have old : ∀ (j : Nat) (z : Gr), (ys.set k r')[j]? = some z → ∃ z0 : Gr, ys[j]? = some z0 ∧ z.s = z0.s ∧ z.b = z0.b := fun j z hz => by
    by_cases e : k = j
    · subst e
      rw [List.getElem?_set_self hkl] at hz
      injection hz with hz
      subst hz
      exact ⟨r, hk, hs, hb⟩
    · rw [List.getElem?_set_ne e] at hz
      exact ⟨z, hz, rfl, rfl⟩
  obtain ⟨x0, hx0, e1, e2⟩ := old i x hx
  obtain ⟨ok0, nt0⟩ := h i x0 hi hx0
  refine ⟨?_, fun j z hj hz => ?_⟩
  · by_cases e : k = i
    · subst e
      rw [List.getElem?_set_self hkl] at hx
      injection hx with hx
      subst hx
      exact ho
    · rw [List.getElem?_set_ne e, hx0] at hx
      injection hx with hx
      subst hx
      exact ok0
  · obtain ⟨z0, hz0, f1, f2⟩ := old j z hz
    rw [(tw z z0 f1 f2 x).1, (tw x x0 e1 e2 z0).2]
    exact nt0 j z0 hj hz0
end Go.Proofs.YthpknbflmcoanaaDoor
