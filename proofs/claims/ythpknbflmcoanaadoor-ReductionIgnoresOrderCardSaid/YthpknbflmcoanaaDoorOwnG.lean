/-
  Rows of elements that a call made: how they read.
-/
import Derived.Test.YthpknbflmcoanaaDoorGtb
import Derived.Test.YthpknbflmcoanaaDoorOpen21
namespace Go.Proofs.YthpknbflmcoanaaDoor
open Go.RowKit Mny

/-- the cells of elements -/
def grCells (l : List Gr) : List Value := l.flatMap fun r => [.int .i64 r.s, .int .i64 r.b, .int .i64 r.c, .int .i64 r.i, .int .i64 r.p, .int .i64 r.n, .int .i64 r.d]
theorem grCells_len (l : List Gr) : (grCells l).length = l.length * 7 := by
  induction l with
  | nil => rfl
  | cons r l ih => simp only [grCells, List.flatMap_cons, List.length_append, List.length_cons, List.length_nil] at *; omega
theorem grCells_snoc (l : List Gr) (r : Gr) : grCells (l ++ [r]) = grCells l ++ [.int .i64 r.s, .int .i64 r.b, .int .i64 r.c, .int .i64 r.i, .int .i64 r.p, .int .i64 r.n, .int .i64 r.d] := by simp [grCells]
theorem grCells_at {l : List Gr} : ∀ {k : Nat} {r : Gr}, l[k]? = some r → (grCells l)[k * 7]? = some (.int .i64 r.s) ∧ (grCells l)[k * 7 + 1]? = some (.int .i64 r.b) ∧ (grCells l)[k * 7 + 2]? = some (.int .i64 r.c) ∧ (grCells l)[k * 7 + 3]? = some (.int .i64 r.i) ∧ (grCells l)[k * 7 + 4]? = some (.int .i64 r.p) ∧ (grCells l)[k * 7 + 5]? = some (.int .i64 r.n) ∧ (grCells l)[k * 7 + 6]? = some (.int .i64 r.d) := by
  induction l with
  | nil => intro k r h; cases h
  | cons s l ih =>
    intro k r h
    cases k with
    | zero => injection h with h; subst h; exact ⟨rfl, rfl, rfl, rfl, rfl, rfl, rfl⟩
    | succ k =>
      obtain ⟨a0, a1, a2, a3, a4, a5, a6⟩ := ih (k := k) (r := r) (by simpa using h)
      have e : ∀ j, (grCells (s :: l))[(k + 1) * 7 + j]? = (grCells l)[k * 7 + j]? := fun j => by
        show ([.int .i64 s.s, .int .i64 s.b, .int .i64 s.c, .int .i64 s.i, .int .i64 s.p, .int .i64 s.n, .int .i64 s.d] ++ grCells l)[(k + 1) * 7 + j]? = _
        rw [List.getElem?_append_right (by simp; omega)]
        congr 1
        simp
        omega
      exact ⟨by rw [← Nat.add_zero ((k + 1) * 7), e]; exact a0, by rw [e]; exact a1, by rw [e]; exact a2, by rw [e]; exact a3, by rw [e]; exact a4, by rw [e]; exact a5, by rw [e]; exact a6⟩
theorem info_gross : (Tryd.prog.info? 27).map (fun i => (i.zero, i.size, i.bytes)) = some (some (.agg #[.int .i64 0, .int .i64 0, .int .i64 0, .int .i64 0, .int .i64 0, .int .i64 0, .int .i64 0]), 7, 56) := by kernel_rfl
/-- a row of the call's own is a slice of these elements -/
theorem GTb.own {w : World} {base n : Nat} {v : Value} {l : List Gr} (h : w.ownsRow base 27 7 v n (grCells l)) (hl : l.length = n) (hn : n ≤ 2600000000000) : GTb w v l := by
  rcases h.2 with ⟨rfl, h0⟩ | ⟨g, cap, cur, rfl, _, hh, hc, _, _, ht⟩
  · exact .inl ⟨_, _, rfl, List.length_eq_zero_iff.1 (by omega)⟩
  · refine .inr ⟨g, 0, n, cap, rfl, hl, fun k r hk => ?_, Bx.lt hh, hc, hn⟩
    have hk2 : k < l.length := (List.getElem?_eq_some_iff.1 hk).1
    obtain ⟨a0, a1, a2, a3, a4, a5, a6⟩ := grCells_at hk
    have e : ∀ j u, (grCells l)[j]? = some u → w.cell? ⟨g, 0 + j, none⟩ = some u := fun j u hj => by
      have hj2 := (List.getElem?_eq_some_iff.1 hj).1
      rw [grCells_len] at hj2
      rw [Nat.zero_add, Bx.cell hh, ← hj, ← ht, List.getElem?_take, if_pos (by omega), Array.getElem?_toList]
    exact ⟨e _ _ a0, e (k * 7 + 1) _ a1, e (k * 7 + 2) _ a2, e (k * 7 + 3) _ a3, e (k * 7 + 4) _ a4, e (k * 7 + 5) _ a5, e (k * 7 + 6) _ a6⟩
theorem GoodTo.snoc {l : List Gr} {g : Gr} (h : GoodTo l l.length) (ho : okG g = true) (hn : NoTwin l g l.length) : GoodTo (l ++ [g]) (l ++ [g]).length := fun i x hi hx => by
  rw [List.getElem?_append] at hx
  split at hx
  · rename_i hlt
    obtain ⟨a, b⟩ := h i x hlt hx
    refine ⟨a, fun j y hj hy => b j y hj ?_⟩
    rw [List.getElem?_append_left (by omega)] at hy
    exact hy
  · rename_i hge
    have hi2 : i = l.length := by
      have := (List.getElem?_eq_some_iff.1 hx).1
      simp at this
      omega
    subst hi2
    rw [Nat.sub_self] at hx
    injection hx with hx
    subst hx
    refine ⟨ho, fun j y hj hy => hn j y hj ?_⟩
    rw [List.getElem?_append_left hj] at hy
    exact hy
theorem RawTb.cut {w : World} {v : Value} (h : RawTb w v) : ∃ A n c, v = .slice A n c ∧ n ≤ maxLen := by
  rcases h with ⟨A, c, rfl⟩ | ⟨b, off, n, c, l, rfl, _, _, _, h⟩
  · exact ⟨_, _, _, rfl, Nat.zero_le _⟩
  · exact ⟨_, _, _, rfl, h⟩
theorem RawTb.rowAt {w : World} {A : Option Addr} {n c k : Nat} (h : RawTb w (.slice A n c)) (hk : k < n) : ∃ b off l r, A = some ⟨b, off, none⟩ ∧ RawAt w b off l ∧ l[k]? = some r ∧ b < w.heap.size := by
  rcases h with ⟨A', c', he⟩ | ⟨b, off, n', c', l, he, h0, h1, h2, _⟩
  · injection he with e1 e2 e3
    omega
  · injection he with e1 e2 e3
    subst e2
    exact ⟨b, off, l, _, e1, h1, List.getElem?_eq_getElem (by omega), h2⟩
theorem RawAt.below {w w' : World} {b off : Nat} {l : List Rw} (h : RawAt w b off l) (hb : b < w.heap.size) (hw : Below w.heap.size w w') : RawAt w' b off l := fun k r hk => by
  obtain ⟨h0, h1, h2, h3, h4, h5, h6⟩ := h k r hk
  exact ⟨(hw.cell (p := ⟨b, _, none⟩) hb).trans h0, (hw.cell (p := ⟨b, _, none⟩) hb).trans h1, (hw.cell (p := ⟨b, _, none⟩) hb).trans h2, (hw.cell (p := ⟨b, _, none⟩) hb).trans h3, (hw.cell (p := ⟨b, _, none⟩) hb).trans h4, (hw.cell (p := ⟨b, _, none⟩) hb).trans h5, (hw.cell (p := ⟨b, _, none⟩) hb).trans h6⟩
theorem RawTb.below {w w' : World} {v : Value} (h : RawTb w v) (hw : Below w.heap.size w w') : RawTb w' v := by
  rcases h with h | ⟨b, off, n, c, l, h1, h2, h3, h4, h5⟩
  · exact .inl h
  · exact .inr ⟨b, off, n, c, l, h1, h2, h3.below h4 hw, Nat.lt_of_lt_of_le h4 hw.size, h5⟩
end Go.Proofs.YthpknbflmcoanaaDoor
