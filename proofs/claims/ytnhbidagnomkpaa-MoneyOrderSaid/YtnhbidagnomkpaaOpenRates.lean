/-
  A table of rates that came in, opened: some rows; and a contract for tables of any length.
-/
import Derived.Test.YtnhbidagnomkpaaRates
import Derived.Test.YtnhbidagnomkpaaPostG
import Derived.Deep.Slices
namespace Go.Proofs.Ytnhbidagnomkpaa
open Go.RowKit Mny Go.WideShapes Go.ChangeShapes Go.Joins Go.Deep

theorem list_of {α : Type} {p : Nat → α → Prop} : ∀ {n : Nat}, (∀ i, i < n → ∃ r, p i r) → ∃ l : List α, l.length = n ∧ ∀ k r, l[k]? = some r → p k r
  | 0, _ => ⟨[], rfl, fun k r h => by cases h⟩
  | n + 1, h => by
    obtain ⟨l, hl, hp⟩ := list_of (n := n) (p := p) (fun i hi => h i (by omega))
    obtain ⟨r, hr⟩ := h n (by omega)
    refine ⟨l ++ [r], by simp [hl], fun k s hk => ?_⟩
    rw [List.getElem?_append] at hk
    split at hk
    · exact hp k s hk
    · have : k = n := by
        have h2 := (List.getElem?_eq_some_iff.1 hk).1
        simp at h2
        omega
      subst this
      rw [hl, Nat.sub_self] at hk
      injection hk with hk
      subst hk
      exact hr

/-- a table that came in: how it reads -/
def TabIn (w : World) (v : Value) : Prop :=
  (∃ A c, v = .slice A 0 c) ∨ ∃ b off n c l, v = .slice (some ⟨b, off, none⟩) n c ∧ 0 < n ∧ l.length = n ∧ RatesAt w b off l ∧ b < w.heap.size ∧ n ≤ maxLen

section
variable {H : Type} {enc : TypeId × Value → H} {w : World} {base : Nat} {spare : Nat → Bool} {held : Bool}
theorem one_int {n : Nat} {c : Value} {x : DataW H × List MemPlace} (h : DataW.trod enc Try.prog w base spare held n 3 [c] = some x) : ∃ a : Int, c = .int .i64 a := by
  obtain ⟨a, e0, _, _⟩ := DataW.trod_int Try.underlying3 h
  simp at e0
  exact ⟨a, e0⟩
theorem four_cells {n : Nat} {cs : List Value} {x : DataW H × List MemPlace} (h : DataW.trod enc Try.prog w base spare held n 75 cs = some x) : ∃ a b c d : Int, cs = [.int .i64 a, .int .i64 b, .int .i64 c, .int .i64 d] := by
  obtain ⟨xs, m, rfl, -, hlen, hxl, hf⟩ := DataW.trod_struct Try.underlying75 h
  rw [show Try.prog.cellsOf 75 = 4 by kernel_rfl] at hlen
  match cs, hlen with
  | [c0, c1, c2, c3], _ =>
    match xs, hxl with
    | [y0, y1, y2], _ =>
      have h0 : DataW.trod enc Try.prog w base spare held m 3 ((([c0, c1, c2, c3] : List Value).drop 0).take (Try.prog.cellsOf 3)) = [y0, y1, y2][0]? := hf 0 _ rfl
      have h1 : DataW.trod enc Try.prog w base spare held m 3 ((([c0, c1, c2, c3] : List Value).drop 1).take (Try.prog.cellsOf 3)) = [y0, y1, y2][1]? := hf 1 _ rfl
      have h2 : DataW.trod enc Try.prog w base spare held m 23 ((([c0, c1, c2, c3] : List Value).drop 2).take (Try.prog.cellsOf 23)) = [y0, y1, y2][2]? := hf 2 _ rfl
      rw [show Try.prog.cellsOf 3 = 1 by kernel_rfl] at h0 h1
      rw [show Try.prog.cellsOf 23 = 2 by kernel_rfl] at h2
      obtain ⟨a, rfl⟩ := one_int (n := m) (c := c0) (x := y0) (by simpa using h0)
      obtain ⟨b, rfl⟩ := one_int (n := m) (c := c1) (x := y1) (by simpa using h1)
      have h2' : DataW.trod enc Try.prog w base spare held m 23 [c2, c3] = some y2 := by simpa using h2
      obtain ⟨zs, k, rfl, -, _, hzl, hg⟩ := DataW.trod_struct Try.underlying23 h2'
      match zs, hzl with
      | [z0, z1], _ =>
        have g0 : DataW.trod enc Try.prog w base spare held k 3 ((([c2, c3] : List Value).drop 0).take (Try.prog.cellsOf 3)) = [z0, z1][0]? := hg 0 _ rfl
        have g1 : DataW.trod enc Try.prog w base spare held k 3 ((([c2, c3] : List Value).drop 1).take (Try.prog.cellsOf 3)) = [z0, z1][1]? := hg 1 _ rfl
        rw [show Try.prog.cellsOf 3 = 1 by kernel_rfl] at g0 g1
        obtain ⟨c, rfl⟩ := one_int (n := k) (c := c2) (x := z0) (by simpa using g0)
        obtain ⟨d, rfl⟩ := one_int (n := k) (c := c3) (x := z1) (by simpa using g1)
        exact ⟨a, b, c, d, rfl⟩

theorem open_rates {r : Reach} {b0 : Nat} {v : Value} {d : DataW H} {p : List MemPlace} (hv : Value.okWide Try.prog w r b0 51 v) (h : DataW.Trod enc Try.prog w base spare held 51 v d p) : TabIn w v := by
  obtain ⟨a0, n, c, rfl⟩ := okWide_slice Try.underlying51 hv
  obtain ⟨fuel, hf⟩ := h
  rcases open_slice Try.underlying51 hf with ⟨hcs, _⟩ | ⟨a, len, cap, m, k, D, Pl, hcs, _, hl, hm, hmm, _, hx⟩
  · simp [Value.cells] at hcs
    obtain ⟨rfl, rfl, rfl⟩ := hcs
    exact .inl ⟨_, _, rfl⟩
  · simp [Value.cells] at hcs
    obtain ⟨rfl, rfl, rfl⟩ := hcs
    rcases Nat.eq_zero_or_pos n with h0 | h0
    · subst h0
      exact .inl ⟨_, _, rfl⟩
    · have hnm : n ≤ m := by rw [hmm]; split <;> omega
      rw [show Try.prog.cellsOf 75 = 4 by kernel_rfl] at hx
      obtain ⟨b, off, spot⟩ := a
      have hsp : spot = none := by
        obtain ⟨cs, h1, h2⟩ := hx 0 (by omega)
        obtain ⟨x, y, z, t, rfl⟩ := four_cells h2
        obtain ⟨_, _, h3⟩ := World.cells?_some h1
        have := h3 0 (by omega)
        simpa [Addr.add] using World.cell?_spot this
      subst hsp
      have hrow : ∀ i, i < n → ∃ q : Rt, w.cell? ⟨b, off + i * 4, none⟩ = some (.int .i64 q.c) ∧ w.cell? ⟨b, off + i * 4 + 1, none⟩ = some (.int .i64 q.m) ∧ w.cell? ⟨b, off + i * 4 + 2, none⟩ = some (.int .i64 q.n) ∧ w.cell? ⟨b, off + i * 4 + 3, none⟩ = some (.int .i64 q.d) := fun i hi => by
        obtain ⟨cs, h1, h2⟩ := hx i (by omega)
        obtain ⟨x, y, z, t, rfl⟩ := four_cells h2
        obtain ⟨_, _, h3⟩ := World.cells?_some h1
        have e : ∀ j, ((⟨b, off, none⟩ : Addr).add (i * 4)).add j = ⟨b, off + i * 4 + j, none⟩ := fun j => by rw [add_plain, add_plain]
        have e0 := h3 0 (by omega)
        have e1 := h3 1 (by omega)
        have e2 := h3 2 (by omega)
        have e3 := h3 3 (by omega)
        rw [e] at e0 e1 e2 e3
        exact ⟨⟨x, y, z, t⟩, e0, e1, e2, e3⟩
      obtain ⟨l, hll, hlp⟩ := list_of hrow
      have hb : b < w.heap.size := by
        obtain ⟨q, h1, _⟩ := hrow 0 h0
        exact World.block_lt_of_cell? w _ h1
      exact .inr ⟨b, off, n, c, l, rfl, h0, hll, fun k q hk => hlp k q hk, hb, by omega⟩
end
end Go.Proofs.Ytnhbidagnomkpaa
