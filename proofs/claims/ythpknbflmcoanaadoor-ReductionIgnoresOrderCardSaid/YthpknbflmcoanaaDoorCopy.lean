/-
  Copies of lists by append: the cells.
-/
import Derived.Test.YthpknbflmcoanaaDoorHand
namespace Go.Proofs.YthpknbflmcoanaaDoor
open Go.RowKit Mny

theorem gross_cells_at {w : World} {b : Nat} : ∀ {xs : List Gr} {off : Nat}, GrossAt w b off xs → ∀ j u, (grCells xs)[j]? = some u → w.cell? ((⟨b, off, none⟩ : Addr).add j) = some u
  | [], _, _, j, u, h => by cases h
  | r :: xs, off, hg, j, u, h => by
    have e : (⟨b, off, none⟩ : Addr).add j = ⟨b, off + j, none⟩ := by simp [Addr.add]
    rw [e]
    obtain ⟨a0, a1, a2, a3, a4, a5, a6⟩ := hg 0 r rfl
    have hh : ([.int .i64 r.s, .int .i64 r.b, .int .i64 r.c, .int .i64 r.i, .int .i64 r.p, .int .i64 r.n, .int .i64 r.d] ++ grCells xs)[j]? = some u := h
    by_cases hj : j < 7
    · rw [List.getElem?_append_left (by simpa using hj)] at hh
      simp only [Nat.zero_mul, Nat.add_zero] at a0 a1 a2 a3 a4 a5 a6
      match j, hj, hh with
      | 0, _, hh => injection hh with hh; subst hh; exact a0
      | 1, _, hh => injection hh with hh; subst hh; exact a1
      | 2, _, hh => injection hh with hh; subst hh; exact a2
      | 3, _, hh => injection hh with hh; subst hh; exact a3
      | 4, _, hh => injection hh with hh; subst hh; exact a4
      | 5, _, hh => injection hh with hh; subst hh; exact a5
      | 6, _, hh => injection hh with hh; subst hh; exact a6
    · obtain ⟨i, rfl⟩ : ∃ i, j = 7 + i := ⟨j - 7, by omega⟩
      rw [List.getElem?_append_right (by simp)] at hh
      have h2 := gross_cells_at (xs := xs) (off := off + 7) (fun k q hk => by
        have := hg (k + 1) q (by simpa using hk)
        rw [show off + (k + 1) * 7 = off + 7 + k * 7 by omega] at this
        exact this) i u (by simpa using hh)
      rw [show (⟨b, off + 7, none⟩ : Addr).add i = ⟨b, off + 7 + i, none⟩ by simp [Addr.add]] at h2
      rw [show off + (7 + i) = off + 7 + i by omega]
      exact h2
theorem rate_cells_at {w : World} {b : Nat} : ∀ {xs : List Rt} {off : Nat}, RatesAt w b off xs → ∀ j u, (rowCells xs)[j]? = some u → w.cell? ((⟨b, off, none⟩ : Addr).add j) = some u
  | [], _, _, j, u, h => by cases h
  | r :: xs, off, hg, j, u, h => by
    have e : (⟨b, off, none⟩ : Addr).add j = ⟨b, off + j, none⟩ := by simp [Addr.add]
    rw [e]
    obtain ⟨a0, a1, a2, a3⟩ := hg 0 r rfl
    have hh : ([.int .i64 r.c, .int .i64 r.m, .int .i64 r.n, .int .i64 r.d] ++ rowCells xs)[j]? = some u := h
    by_cases hj : j < 4
    · rw [List.getElem?_append_left (by simpa using hj)] at hh
      simp only [Nat.zero_mul, Nat.add_zero] at a0 a1 a2 a3
      match j, hj, hh with
      | 0, _, hh => injection hh with hh; subst hh; exact a0
      | 1, _, hh => injection hh with hh; subst hh; exact a1
      | 2, _, hh => injection hh with hh; subst hh; exact a2
      | 3, _, hh => injection hh with hh; subst hh; exact a3
    · obtain ⟨i, rfl⟩ : ∃ i, j = 4 + i := ⟨j - 4, by omega⟩
      rw [List.getElem?_append_right (by simp)] at hh
      have h2 := rate_cells_at (xs := xs) (off := off + 4) (fun k q hk => by
        have := hg (k + 1) q (by simpa using hk)
        rw [show off + (k + 1) * 4 = off + 4 + k * 4 by omega] at this
        exact this) i u (by simpa using hh)
      rw [show (⟨b, off + 4, none⟩ : Addr).add i = ⟨b, off + 4 + i, none⟩ by simp [Addr.add]] at h2
      rw [show off + (4 + i) = off + 4 + i by omega]
      exact h2
theorem rowCells_len' (l : List Rt) : (rowCells l).length = l.length * 4 := rowCells_len l
theorem one_gr : ∀ (l : List Gr), ∀ u ∈ grCells l, u.oneCell' = true
  | [], u, h => by cases h
  | r :: l, u, h => by
    have hh : u ∈ ([.int .i64 r.s, .int .i64 r.b, .int .i64 r.c, .int .i64 r.i, .int .i64 r.p, .int .i64 r.n, .int .i64 r.d] ++ grCells l) := h
    rcases List.mem_append.1 hh with hh | hh
    · simp at hh
      rcases hh with rfl | rfl | rfl | rfl | rfl | rfl | rfl <;> rfl
    · exact one_gr l u hh
theorem one_rt : ∀ (l : List Rt), ∀ u ∈ rowCells l, u.oneCell' = true
  | [], u, h => by cases h
  | r :: l, u, h => by
    have hh : u ∈ ([.int .i64 r.c, .int .i64 r.m, .int .i64 r.n, .int .i64 r.d] ++ rowCells l) := h
    rcases List.mem_append.1 hh with hh | hh
    · simp at hh
      rcases hh with rfl | rfl | rfl | rfl <;> rfl
    · exact one_rt l u hh

end Go.Proofs.YthpknbflmcoanaaDoor
