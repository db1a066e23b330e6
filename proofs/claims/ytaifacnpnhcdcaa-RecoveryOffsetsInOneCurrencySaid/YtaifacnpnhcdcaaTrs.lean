/-
  Transfers in memory; slices of standings that a call made.
-/
import Derived.Test.YtaifacnpnhcdcaaRecV
import Derived.Test.YtaifacnpnhcdcaaSort
namespace Go.Proofs.Ytaifacnpnhcdcaa
open Go.RowKit Mny

/-- these cells are these transfers -/
def TrAt (w : World) (b off : Nat) (l : List Tr) : Prop := ∀ k r, l[k]? = some r → w.cell? ⟨b, off + k * 5, none⟩ = some (.int .i64 r.f) ∧ w.cell? ⟨b, off + k * 5 + 1, none⟩ = some (.int .i64 r.t) ∧ w.cell? ⟨b, off + k * 5 + 2, none⟩ = some (.int .i64 r.c) ∧ w.cell? ⟨b, off + k * 5 + 3, none⟩ = some (.int .i64 r.s) ∧ w.cell? ⟨b, off + k * 5 + 4, none⟩ = some (.int .i64 r.k)
theorem TrAt.below {n₀ : Nat} {w w' : World} {b off : Nat} {l : List Tr} (h : TrAt w b off l) (hb : b < n₀) (hw : Below n₀ w w') : TrAt w' b off l := fun k r hk => by
  obtain ⟨h0, h1, h2, h3, h4⟩ := h k r hk
  exact ⟨(hw.cell (p := ⟨b, _, none⟩) hb).trans h0, (hw.cell (p := ⟨b, _, none⟩) hb).trans h1, (hw.cell (p := ⟨b, _, none⟩) hb).trans h2, (hw.cell (p := ⟨b, _, none⟩) hb).trans h3, (hw.cell (p := ⟨b, _, none⟩) hb).trans h4⟩
/-- the cells of transfers -/
def trCells (l : List Tr) : List Value := l.flatMap fun r => [.int .i64 r.f, .int .i64 r.t, .int .i64 r.c, .int .i64 r.s, .int .i64 r.k]
theorem trCells_snoc (l : List Tr) (r : Tr) : trCells (l ++ [r]) = trCells l ++ [.int .i64 r.f, .int .i64 r.t, .int .i64 r.c, .int .i64 r.s, .int .i64 r.k] := by simp [trCells]
theorem info_tr : (Try.prog.info? 44).map (fun i => (i.zero, i.size, i.bytes)) = some (some (.agg #[.int .i64 0, .int .i64 0, .int .i64 0, .int .i64 0, .int .i64 0]), 5, 40) := by kernel_rfl
theorem trCells_len (l : List Tr) : (trCells l).length = l.length * 5 := by
  induction l with
  | nil => rfl
  | cons r l ih => simp only [trCells, List.flatMap_cons, List.length_append, List.length_cons, List.length_nil] at *; omega
theorem trCells_at {l : List Tr} : ∀ {k : Nat} {r : Tr}, l[k]? = some r → (trCells l)[k * 5]? = some (.int .i64 r.f) ∧ (trCells l)[k * 5 + 1]? = some (.int .i64 r.t) ∧ (trCells l)[k * 5 + 2]? = some (.int .i64 r.c) ∧ (trCells l)[k * 5 + 3]? = some (.int .i64 r.s) ∧ (trCells l)[k * 5 + 4]? = some (.int .i64 r.k) := by
  induction l with
  | nil => intro k r h; cases h
  | cons s l ih =>
    intro k r h
    cases k with
    | zero => injection h with h; subst h; exact ⟨rfl, rfl, rfl, rfl, rfl⟩
    | succ k =>
      obtain ⟨a0, a1, a2, a3, a4⟩ := ih (k := k) (r := r) (by simpa using h)
      have e : ∀ j, (trCells (s :: l))[(k + 1) * 5 + j]? = (trCells l)[k * 5 + j]? := fun j => by
        show ([.int .i64 s.f, .int .i64 s.t, .int .i64 s.c, .int .i64 s.s, .int .i64 s.k] ++ trCells l)[(k + 1) * 5 + j]? = _
        rw [List.getElem?_append_right (by simp; omega)]
        congr 1
        simp
        omega
      exact ⟨by rw [← Nat.add_zero ((k + 1) * 5), e]; exact a0, by rw [e]; exact a1, by rw [e]; exact a2, by rw [e]; exact a3, by rw [e]; exact a4⟩
/-- a row of the call's own reads as these transfers -/
theorem TrAt.own {w : World} {base n g c : Nat} {l : List Tr} (h : w.ownsRow base 44 5 (.slice (some ⟨g, 0, none⟩) n c) n (trCells l)) (hl : l.length = n) : TrAt w g 0 l ∧ g < w.heap.size ∧ base ≤ g := by
  rcases h.2 with ⟨h0, _⟩ | ⟨g', cap, cur, he, hg, hh, _, _, _, ht⟩
  · cases h0
  · injection he with e1 e2 e3
    injection e1 with e1
    injection e1 with e1 _
    subst e1
    refine ⟨fun k r hk => ?_, Bx.lt hh, hg⟩
    have hk2 : k < l.length := (List.getElem?_eq_some_iff.1 hk).1
    obtain ⟨a0, a1, a2, a3, a4⟩ := trCells_at hk
    have e : ∀ j u, (trCells l)[j]? = some u → w.cell? ⟨g, 0 + j, none⟩ = some u := fun j u hj => by
      have hj2 := (List.getElem?_eq_some_iff.1 hj).1
      rw [trCells_len] at hj2
      rw [Nat.zero_add, Bx.cell hh, ← hj, ← ht, List.getElem?_take, if_pos (by omega), Array.getElem?_toList]
    exact ⟨e _ _ a0, e (k * 5 + 1) _ a1, e (k * 5 + 2) _ a2, e (k * 5 + 3) _ a3, e (k * 5 + 4) _ a4⟩
/-- this value is a slice that reads as these transfers -/
def TrTab (w : World) (v : Value) (l : List Tr) : Prop :=
  (∃ A c, v = .slice A 0 c ∧ l = []) ∨ ∃ b off n c, v = .slice (some ⟨b, off, none⟩) n c ∧ l.length = n ∧ TrAt w b off l ∧ b < w.heap.size
theorem TrTab.below {w w' : World} {v : Value} {l : List Tr} (h : TrTab w v l) (hw : Below w.heap.size w w') : TrTab w' v l := by
  rcases h with h | ⟨b, off, n, c, h1, h2, h3, h4⟩
  · exact .inl h
  · exact .inr ⟨b, off, n, c, h1, h2, h3.below h4 hw, Nat.lt_of_lt_of_le h4 hw.size⟩
theorem TrTab.cut {w : World} {v : Value} {ds : List Tr} (h : TrTab w v ds) : ∃ A c, v = .slice A ds.length c := by
  rcases h with ⟨A, c, rfl, rfl⟩ | ⟨b, off, n, c, rfl, rfl, _⟩
  · exact ⟨_, _, rfl⟩
  · exact ⟨_, _, rfl⟩
theorem TrTab.rowAt {w : World} {A : Option Addr} {n c k : Nat} {ds : List Tr} {r : Tr} (h : TrTab w (.slice A n c) ds) (hk : ds[k]? = some r) : ∃ b off, A = some ⟨b, off, none⟩ ∧ TrAt w b off ds ∧ b < w.heap.size := by
  rcases h with ⟨A', c', _, rfl⟩ | ⟨b, off, n', c', he, _, h1, h2⟩
  · cases hk
  · injection he with e1 e2 e3
    exact ⟨b, off, e1, h1, h2⟩
theorem TrTab.own {w : World} {base n : Nat} {v : Value} {l : List Tr} (h : w.ownsRow base 44 5 v n (trCells l)) (hl : l.length = n) : TrTab w v l := by
  have h0 := h
  rcases h.2 with ⟨rfl, hz⟩ | ⟨g, cap, cur, rfl, _⟩
  · exact .inl ⟨_, _, rfl, List.length_eq_zero_iff.1 (by omega)⟩
  · obtain ⟨a, b, _⟩ := TrAt.own h0 hl
    exact .inr ⟨g, 0, n, cap, rfl, hl, a, b⟩
theorem stCs_at {l : List St} : ∀ {k : Nat} {r : St}, l[k]? = some r → (stCells l)[k * 4]? = some (.int .i64 r.s) ∧ (stCells l)[k * 4 + 1]? = some (.int .i64 r.c) ∧ (stCells l)[k * 4 + 2]? = some (.int .i64 r.a) ∧ (stCells l)[k * 4 + 3]? = some (.int .i64 r.o) := by
  induction l with
  | nil => intro k r h; cases h
  | cons s l ih =>
    intro k r h
    cases k with
    | zero => injection h with h; subst h; exact ⟨rfl, rfl, rfl, rfl⟩
    | succ k =>
      obtain ⟨a0, a1, a2, a3⟩ := ih (k := k) (r := r) (by simpa using h)
      have e : ∀ j, (stCells (s :: l))[(k + 1) * 4 + j]? = (stCells l)[k * 4 + j]? := fun j => by
        show ([.int .i64 s.s, .int .i64 s.c, .int .i64 s.a, .int .i64 s.o] ++ stCells l)[(k + 1) * 4 + j]? = _
        rw [List.getElem?_append_right (by simp; omega)]
        congr 1
        simp
        omega
      exact ⟨by rw [← Nat.add_zero ((k + 1) * 4), e]; exact a0, by rw [e]; exact a1, by rw [e]; exact a2, by rw [e]; exact a3⟩
/-- a row of the call's own reads as these standings -/
theorem StAt.own {w : World} {base n g c : Nat} {l : List St} (h : w.ownsRow base 33 4 (.slice (some ⟨g, 0, none⟩) n c) n (stCells l)) (hl : l.length = n) : StAt w g 0 l ∧ g < w.heap.size ∧ base ≤ g := by
  rcases h.2 with ⟨h0, _⟩ | ⟨g', cap, cur, he, hg, hh, _, _, _, ht⟩
  · cases h0
  · injection he with e1 e2 e3
    injection e1 with e1
    injection e1 with e1 _
    subst e1
    refine ⟨fun k r hk => ?_, Bx.lt hh, hg⟩
    have hk2 : k < l.length := (List.getElem?_eq_some_iff.1 hk).1
    obtain ⟨a0, a1, a2, a3⟩ := stCs_at hk
    have e : ∀ j u, (stCells l)[j]? = some u → w.cell? ⟨g, 0 + j, none⟩ = some u := fun j u hj => by
      have hj2 := (List.getElem?_eq_some_iff.1 hj).1
      rw [stCells_len] at hj2
      rw [Nat.zero_add, Bx.cell hh, ← hj, ← ht, List.getElem?_take, if_pos (by omega), Array.getElem?_toList]
    exact ⟨e _ _ a0, e (k * 4 + 1) _ a1, e (k * 4 + 2) _ a2, e (k * 4 + 3) _ a3⟩
theorem StTab.own {w : World} {base n : Nat} {v : Value} {l : List St} (h : w.ownsRow base 33 4 v n (stCells l)) (hl : l.length = n) : StTab w.heap.size w v l := by
  have h0 := h
  rcases h.2 with ⟨rfl, hz⟩ | ⟨g, cap, cur, rfl, _⟩
  · exact .inl ⟨_, _, rfl, List.length_eq_zero_iff.1 (by omega)⟩
  · obtain ⟨a, b, _⟩ := StAt.own h0 hl
    exact .inr ⟨g, 0, cap, by rw [hl], b, a⟩
theorem StTab.mono {n₀ n₁ : Nat} {w : World} {v : Value} {l : List St} (h : StTab n₀ w v l) (hn : n₀ ≤ n₁) : StTab n₁ w v l := by
  rcases h with h | ⟨b, off, c, h1, h2, h3⟩
  · exact .inl h
  · exact .inr ⟨b, off, c, h1, by omega, h3⟩
theorem StTab.later {w w' : World} {v : Value} {l : List St} (h : StTab w.heap.size w v l) (hw : Below w.heap.size w w') : StTab w'.heap.size w' v l := (h.below hw).mono hw.size
theorem StTab.rowAt {n₀ : Nat} {w : World} {A : Option Addr} {n c k : Nat} {l : List St} {r : St} (h : StTab n₀ w (.slice A n c) l) (hk : l[k]? = some r) : ∃ b off, A = some ⟨b, off, none⟩ ∧ b < n₀ ∧ StAt w b off l := by
  rcases h with ⟨A', c', _, rfl⟩ | ⟨b, off, c', he, h1, h2⟩
  · cases hk
  · injection he with e1 e2 e3
    exact ⟨b, off, e1, h1, h2⟩
theorem StTab.cut {n₀ : Nat} {w : World} {v : Value} {l : List St} (h : StTab n₀ w v l) : ∃ A c, v = .slice A l.length c := by
  rcases h with ⟨A, c, rfl, rfl⟩ | ⟨b, off, c, rfl, _⟩
  · exact ⟨_, _, rfl⟩
  · exact ⟨_, _, rfl⟩
/-- what Offsets returned: the transfers and the error -/
def OffOut (w : World) (r : List Tr × Int) (e : Ending) (w' : World) : Prop := ∃ v, e = .returned (.tuple #[v, .int .i64 r.2]) ∧ TrTab w' v r.1 ∧ Below w.heap.size w w'
end Go.Proofs.Ytaifacnpnhcdcaa
