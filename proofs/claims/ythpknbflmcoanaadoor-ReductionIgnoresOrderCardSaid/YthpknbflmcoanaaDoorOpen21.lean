/-
  Lists that came in, opened: elements, raw numbers, rates.
-/
import Derived.Test.YthpknbflmcoanaaDoorDedT
import Derived.Test.YthpknbflmcoanaaDoorPostG
import Derived.Deep.Slices
import Derived.SizedLaws
set_option maxRecDepth 100000
namespace Go.Proofs.YthpknbflmcoanaaDoor
open Go.RowKit Mny Go.WideShapes Go.ChangeShapes Go.Joins Go.Deep

theorem list_of {α : Type} {p : Nat → α → Prop} : ∀ {n : Nat}, (∀ i, i < n → ∃ r, p i r) → ∃ l : List α, l.length = n ∧ ∀ k r, l[k]? = some r → p k r
  | 0, _ => ⟨[], rfl, fun k r h => by cases h⟩
  | n + 1, h => by
    obtain ⟨l, hl, hp⟩ := list_of (n := n) (p := p) (fun i hi => h i (by omega))
    obtain ⟨r, hr⟩ := h n (by omega)
    refine ⟨l ++ [r], by simp [hl], fun k s hk => ?_⟩
    rw [List.getElem?_append] at hk
    split at hk
    · exact hp k s hk
    · have : k = n := by
        have h2 := (List.getElem?_eq_some_iff.1 hk).1
        simp at h2
        omega
      subst this
      rw [hl, Nat.sub_self] at hk
      injection hk with hk
      subst hk
      exact hr

/-- raw numbers by seven -/
structure Rw where
  a0 : Int
  a1 : Int
  a2 : Int
  a3 : Int
  a4 : Int
  a5 : Int
  a6 : Int
def RawAt (w : World) (b off : Nat) (l : List Rw) : Prop := ∀ k r, l[k]? = some r →
  w.cell? ⟨b, off + k * 7, none⟩ = some (.int .i64 r.a0) ∧ w.cell? ⟨b, off + k * 7 + 1, none⟩ = some (.int .i64 r.a1) ∧ w.cell? ⟨b, off + k * 7 + 2, none⟩ = some (.int .i64 r.a2) ∧ w.cell? ⟨b, off + k * 7 + 3, none⟩ = some (.int .i64 r.a3) ∧ w.cell? ⟨b, off + k * 7 + 4, none⟩ = some (.int .i64 r.a4) ∧ w.cell? ⟨b, off + k * 7 + 5, none⟩ = some (.int .i64 r.a5) ∧ w.cell? ⟨b, off + k * 7 + 6, none⟩ = some (.int .i64 r.a6)
/-- this value is a slice of raw numbers -/
def RawTb (w : World) (v : Value) : Prop :=
  (∃ A c, v = .slice A 0 c) ∨ ∃ b off n c l, v = .slice (some ⟨b, off, none⟩) n c ∧ l.length = n ∧ RawAt w b off l ∧ b < w.heap.size ∧ n ≤ maxLen

section
variable {H : Type} {enc : TypeId × Value → H} {w : World} {base : Nat} {spare : Nat → Bool} {held : Bool}
theorem one_int {n : Nat} {c : Value} {x : DataW H × List MemPlace} (h : DataW.trod enc Tryd.prog w base spare held n 3 [c] = some x) : ∃ a : Int, c = .int .i64 a := by
  obtain ⟨a, e0, _, _⟩ := DataW.trod_int Tryd.underlying3 h
  simp at e0
  exact ⟨a, e0⟩
theorem frac_cells {n : Nat} {cs : List Value} {x : DataW H × List MemPlace} (h : DataW.trod enc Tryd.prog w base spare held n 25 cs = some x) : ∃ x0 x1 : Int, cs = [.int .i64 x0, .int .i64 x1] := by
  obtain ⟨xs, m, rfl, -, hlen, hxl, hf⟩ := DataW.trod_struct Tryd.underlying25 h
  rw [show Tryd.prog.cellsOf 25 = 2 by kernel_rfl] at hlen
  match cs, hlen with
  | [c0, c1], _ =>
    match xs, hxl with
    | [y0, y1], _ =>
      have h0 : DataW.trod enc Tryd.prog w base spare held m 3 ((([c0, c1] : List Value).drop 0).take (Tryd.prog.cellsOf 3)) = [y0, y1][0]? := hf 0 _ rfl
      rw [show Tryd.prog.cellsOf 3 = 1 by kernel_rfl] at h0
      have h1 : DataW.trod enc Tryd.prog w base spare held m 3 ((([c0, c1] : List Value).drop 1).take (Tryd.prog.cellsOf 3)) = [y0, y1][1]? := hf 1 _ rfl
      rw [show Tryd.prog.cellsOf 3 = 1 by kernel_rfl] at h1
      obtain ⟨x0, rfl⟩ := one_int (n := m) (c := c0) (x := y0) (by simpa using h0)
      obtain ⟨x1, rfl⟩ := one_int (n := m) (c := c1) (x := y1) (by simpa using h1)
      exact ⟨x0, x1, rfl⟩
theorem rate_cells {n : Nat} {cs : List Value} {x : DataW H × List MemPlace} (h : DataW.trod enc Tryd.prog w base spare held n 56 cs = some x) : ∃ x0 x1 x2 x3 : Int, cs = [.int .i64 x0, .int .i64 x1, .int .i64 x2, .int .i64 x3] := by
  obtain ⟨xs, m, rfl, -, hlen, hxl, hf⟩ := DataW.trod_struct Tryd.underlying56 h
  rw [show Tryd.prog.cellsOf 56 = 4 by kernel_rfl] at hlen
  match cs, hlen with
  | [c0, c1, c2, c3], _ =>
    match xs, hxl with
    | [y0, y1, y2], _ =>
      have h0 : DataW.trod enc Tryd.prog w base spare held m 3 ((([c0, c1, c2, c3] : List Value).drop 0).take (Tryd.prog.cellsOf 3)) = [y0, y1, y2][0]? := hf 0 _ rfl
      rw [show Tryd.prog.cellsOf 3 = 1 by kernel_rfl] at h0
      have h1 : DataW.trod enc Tryd.prog w base spare held m 3 ((([c0, c1, c2, c3] : List Value).drop 1).take (Tryd.prog.cellsOf 3)) = [y0, y1, y2][1]? := hf 1 _ rfl
      rw [show Tryd.prog.cellsOf 3 = 1 by kernel_rfl] at h1
      have h2 : DataW.trod enc Tryd.prog w base spare held m 25 ((([c0, c1, c2, c3] : List Value).drop 2).take (Tryd.prog.cellsOf 25)) = [y0, y1, y2][2]? := hf 2 _ rfl
      rw [show Tryd.prog.cellsOf 25 = 2 by kernel_rfl] at h2
      obtain ⟨x0, rfl⟩ := one_int (n := m) (c := c0) (x := y0) (by simpa using h0)
      obtain ⟨x1, rfl⟩ := one_int (n := m) (c := c1) (x := y1) (by simpa using h1)
      have g2 : DataW.trod enc Tryd.prog w base spare held m 25 [c2, c3] = some y2 := by simpa using h2
      obtain ⟨x2, x3, hfe⟩ := frac_cells g2
      simp only [List.cons.injEq, and_true] at hfe
      obtain ⟨rfl, rfl⟩ := hfe
      exact ⟨x0, x1, x2, x3, rfl⟩
theorem gross_cells {n : Nat} {cs : List Value} {x : DataW H × List MemPlace} (h : DataW.trod enc Tryd.prog w base spare held n 27 cs = some x) : ∃ x0 x1 x2 x3 x4 x5 x6 : Int, cs = [.int .i64 x0, .int .i64 x1, .int .i64 x2, .int .i64 x3, .int .i64 x4, .int .i64 x5, .int .i64 x6] := by
  obtain ⟨xs, m, rfl, -, hlen, hxl, hf⟩ := DataW.trod_struct Tryd.underlying27 h
  rw [show Tryd.prog.cellsOf 27 = 7 by kernel_rfl] at hlen
  match cs, hlen with
  | [c0, c1, c2, c3, c4, c5, c6], _ =>
    match xs, hxl with
    | [y0, y1, y2, y3, y4, y5], _ =>
      have h0 : DataW.trod enc Tryd.prog w base spare held m 3 ((([c0, c1, c2, c3, c4, c5, c6] : List Value).drop 0).take (Tryd.prog.cellsOf 3)) = [y0, y1, y2, y3, y4, y5][0]? := hf 0 _ rfl
      rw [show Tryd.prog.cellsOf 3 = 1 by kernel_rfl] at h0
      have h1 : DataW.trod enc Tryd.prog w base spare held m 3 ((([c0, c1, c2, c3, c4, c5, c6] : List Value).drop 1).take (Tryd.prog.cellsOf 3)) = [y0, y1, y2, y3, y4, y5][1]? := hf 1 _ rfl
      rw [show Tryd.prog.cellsOf 3 = 1 by kernel_rfl] at h1
      have h2 : DataW.trod enc Tryd.prog w base spare held m 3 ((([c0, c1, c2, c3, c4, c5, c6] : List Value).drop 2).take (Tryd.prog.cellsOf 3)) = [y0, y1, y2, y3, y4, y5][2]? := hf 2 _ rfl
      rw [show Tryd.prog.cellsOf 3 = 1 by kernel_rfl] at h2
      have h3 : DataW.trod enc Tryd.prog w base spare held m 3 ((([c0, c1, c2, c3, c4, c5, c6] : List Value).drop 3).take (Tryd.prog.cellsOf 3)) = [y0, y1, y2, y3, y4, y5][3]? := hf 3 _ rfl
      rw [show Tryd.prog.cellsOf 3 = 1 by kernel_rfl] at h3
      have h4 : DataW.trod enc Tryd.prog w base spare held m 3 ((([c0, c1, c2, c3, c4, c5, c6] : List Value).drop 4).take (Tryd.prog.cellsOf 3)) = [y0, y1, y2, y3, y4, y5][4]? := hf 4 _ rfl
      rw [show Tryd.prog.cellsOf 3 = 1 by kernel_rfl] at h4
      have h5 : DataW.trod enc Tryd.prog w base spare held m 25 ((([c0, c1, c2, c3, c4, c5, c6] : List Value).drop 5).take (Tryd.prog.cellsOf 25)) = [y0, y1, y2, y3, y4, y5][5]? := hf 5 _ rfl
      rw [show Tryd.prog.cellsOf 25 = 2 by kernel_rfl] at h5
      obtain ⟨x0, rfl⟩ := one_int (n := m) (c := c0) (x := y0) (by simpa using h0)
      obtain ⟨x1, rfl⟩ := one_int (n := m) (c := c1) (x := y1) (by simpa using h1)
      obtain ⟨x2, rfl⟩ := one_int (n := m) (c := c2) (x := y2) (by simpa using h2)
      obtain ⟨x3, rfl⟩ := one_int (n := m) (c := c3) (x := y3) (by simpa using h3)
      obtain ⟨x4, rfl⟩ := one_int (n := m) (c := c4) (x := y4) (by simpa using h4)
      have g5 : DataW.trod enc Tryd.prog w base spare held m 25 [c5, c6] = some y5 := by simpa using h5
      obtain ⟨x5, x6, hfe⟩ := frac_cells g5
      simp only [List.cons.injEq, and_true] at hfe
      obtain ⟨rfl, rfl⟩ := hfe
      exact ⟨x0, x1, x2, x3, x4, x5, x6, rfl⟩
theorem raw_cells {n : Nat} {cs : List Value} {x : DataW H × List MemPlace} (h : DataW.trod enc Tryd.prog w base spare held n 68 cs = some x) : ∃ x0 x1 x2 x3 x4 x5 x6 : Int, cs = [.int .i64 x0, .int .i64 x1, .int .i64 x2, .int .i64 x3, .int .i64 x4, .int .i64 x5, .int .i64 x6] := by
  obtain ⟨xs, m, rfl, -, hlen, hxl, hf⟩ := DataW.trod_struct Tryd.underlying68 h
  rw [show Tryd.prog.cellsOf 68 = 7 by kernel_rfl] at hlen
  match cs, hlen with
  | [c0, c1, c2, c3, c4, c5, c6], _ =>
    match xs, hxl with
    | [y0, y1, y2, y3, y4, y5, y6], _ =>
      have h0 : DataW.trod enc Tryd.prog w base spare held m 3 ((([c0, c1, c2, c3, c4, c5, c6] : List Value).drop 0).take (Tryd.prog.cellsOf 3)) = [y0, y1, y2, y3, y4, y5, y6][0]? := hf 0 _ rfl
      rw [show Tryd.prog.cellsOf 3 = 1 by kernel_rfl] at h0
      have h1 : DataW.trod enc Tryd.prog w base spare held m 3 ((([c0, c1, c2, c3, c4, c5, c6] : List Value).drop 1).take (Tryd.prog.cellsOf 3)) = [y0, y1, y2, y3, y4, y5, y6][1]? := hf 1 _ rfl
      rw [show Tryd.prog.cellsOf 3 = 1 by kernel_rfl] at h1
      have h2 : DataW.trod enc Tryd.prog w base spare held m 3 ((([c0, c1, c2, c3, c4, c5, c6] : List Value).drop 2).take (Tryd.prog.cellsOf 3)) = [y0, y1, y2, y3, y4, y5, y6][2]? := hf 2 _ rfl
      rw [show Tryd.prog.cellsOf 3 = 1 by kernel_rfl] at h2
      have h3 : DataW.trod enc Tryd.prog w base spare held m 3 ((([c0, c1, c2, c3, c4, c5, c6] : List Value).drop 3).take (Tryd.prog.cellsOf 3)) = [y0, y1, y2, y3, y4, y5, y6][3]? := hf 3 _ rfl
      rw [show Tryd.prog.cellsOf 3 = 1 by kernel_rfl] at h3
      have h4 : DataW.trod enc Tryd.prog w base spare held m 3 ((([c0, c1, c2, c3, c4, c5, c6] : List Value).drop 4).take (Tryd.prog.cellsOf 3)) = [y0, y1, y2, y3, y4, y5, y6][4]? := hf 4 _ rfl
      rw [show Tryd.prog.cellsOf 3 = 1 by kernel_rfl] at h4
      have h5 : DataW.trod enc Tryd.prog w base spare held m 3 ((([c0, c1, c2, c3, c4, c5, c6] : List Value).drop 5).take (Tryd.prog.cellsOf 3)) = [y0, y1, y2, y3, y4, y5, y6][5]? := hf 5 _ rfl
      rw [show Tryd.prog.cellsOf 3 = 1 by kernel_rfl] at h5
      have h6 : DataW.trod enc Tryd.prog w base spare held m 3 ((([c0, c1, c2, c3, c4, c5, c6] : List Value).drop 6).take (Tryd.prog.cellsOf 3)) = [y0, y1, y2, y3, y4, y5, y6][6]? := hf 6 _ rfl
      rw [show Tryd.prog.cellsOf 3 = 1 by kernel_rfl] at h6
      obtain ⟨x0, rfl⟩ := one_int (n := m) (c := c0) (x := y0) (by simpa using h0)
      obtain ⟨x1, rfl⟩ := one_int (n := m) (c := c1) (x := y1) (by simpa using h1)
      obtain ⟨x2, rfl⟩ := one_int (n := m) (c := c2) (x := y2) (by simpa using h2)
      obtain ⟨x3, rfl⟩ := one_int (n := m) (c := c3) (x := y3) (by simpa using h3)
      obtain ⟨x4, rfl⟩ := one_int (n := m) (c := c4) (x := y4) (by simpa using h4)
      obtain ⟨x5, rfl⟩ := one_int (n := m) (c := c5) (x := y5) (by simpa using h5)
      obtain ⟨x6, rfl⟩ := one_int (n := m) (c := c6) (x := y6) (by simpa using h6)
      exact ⟨x0, x1, x2, x3, x4, x5, x6, rfl⟩

theorem open_gross {r : Reach} {b0 : Nat} {v : Value} {d : DataW H} {p : List MemPlace} (hv : Value.okWide Tryd.prog w r b0 22 v) (h : DataW.Trod enc Tryd.prog w base spare held 22 v d p) (hs : ∀ elems sp, d = .slice elems sp → (elems.length + sp.length) * Tryd.prog.bytesOf 27 ≤ reachBytes) : ∃ l, GTb w v l := by
  obtain ⟨a0, n, c, rfl⟩ := okWide_slice Tryd.underlying22 hv
  obtain ⟨fuel, hf⟩ := h
  rcases open_slice Tryd.underlying22 hf with ⟨hcs, _⟩ | ⟨a, len, cap, m, k, D, Pl, hcs, _, hl, hm, hmm, hd, hx⟩
  · simp [Value.cells] at hcs
    obtain ⟨rfl, rfl, rfl⟩ := hcs
    exact ⟨[], .inl ⟨_, _, rfl, rfl⟩⟩
  · simp [Value.cells] at hcs
    obtain ⟨rfl, rfl, rfl⟩ := hcs
    rcases Nat.eq_zero_or_pos n with h0 | h0
    · subst h0
      exact ⟨[], .inl ⟨_, _, rfl, rfl⟩⟩
    · have hnm : n ≤ m := by rw [hmm]; split <;> omega
      rw [show Tryd.prog.cellsOf 27 = 7 by kernel_rfl] at hx
      obtain ⟨b, off, spot⟩ := a
      have hsp : spot = none := by
        obtain ⟨cs, h1, h2⟩ := hx 0 (by omega)
        obtain ⟨x0, x1, x2, x3, x4, x5, x6, rfl⟩ := gross_cells h2
        obtain ⟨_, _, h3⟩ := World.cells?_some h1
        have := h3 0 (by omega)
        simpa [Addr.add] using World.cell?_spot this
      subst hsp
      have hrow : ∀ i, i < n → ∃ q : Gr, w.cell? ⟨b, off + i * 7, none⟩ = some (.int .i64 q.s) ∧ w.cell? ⟨b, off + i * 7 + 1, none⟩ = some (.int .i64 q.b) ∧ w.cell? ⟨b, off + i * 7 + 2, none⟩ = some (.int .i64 q.c) ∧ w.cell? ⟨b, off + i * 7 + 3, none⟩ = some (.int .i64 q.i) ∧ w.cell? ⟨b, off + i * 7 + 4, none⟩ = some (.int .i64 q.p) ∧ w.cell? ⟨b, off + i * 7 + 5, none⟩ = some (.int .i64 q.n) ∧ w.cell? ⟨b, off + i * 7 + 6, none⟩ = some (.int .i64 q.d) := fun i hi => by
        obtain ⟨cs, h1, h2⟩ := hx i (by omega)
        obtain ⟨x0, x1, x2, x3, x4, x5, x6, rfl⟩ := gross_cells h2
        obtain ⟨_, _, h3⟩ := World.cells?_some h1
        have e : ∀ j, ((⟨b, off, none⟩ : Addr).add (i * 7)).add j = ⟨b, off + i * 7 + j, none⟩ := fun j => by rw [add_plain, add_plain]
        have e0 := h3 0 (by omega)
        have e1 := h3 1 (by omega)
        have e2 := h3 2 (by omega)
        have e3 := h3 3 (by omega)
        have e4 := h3 4 (by omega)
        have e5 := h3 5 (by omega)
        have e6 := h3 6 (by omega)
        rw [e] at e0 e1 e2 e3 e4 e5 e6
        exact ⟨⟨x0, x1, x2, x3, x4, x5, x6⟩, e0, e1, e2, e3, e4, e5, e6⟩
      obtain ⟨l, hll, hlp⟩ := list_of hrow
      have hb : b < w.heap.size := by
        obtain ⟨q, h1, _⟩ := hrow 0 h0
        exact World.block_lt_of_cell? w _ h1
      have HS := hs _ _ (congrArg Prod.fst hd)
      rw [show Tryd.prog.bytesOf 27 = 56 by kernel_rfl] at HS
      simp only [List.length_map, List.length_range] at HS
      have hrb : reachBytes = 140737488351232 := rfl
      exact ⟨l, .inr ⟨b, off, n, c, rfl, hll, fun k q hk => hlp k q hk, hb, by omega, by omega⟩⟩

theorem open_tab {r : Reach} {b0 : Nat} {v : Value} {d : DataW H} {p : List MemPlace} (hv : Value.okWide Tryd.prog w r b0 39 v) (h : DataW.Trod enc Tryd.prog w base spare held 39 v d p) (hs : ∀ elems sp, d = .slice elems sp → (elems.length + sp.length) * Tryd.prog.bytesOf 56 ≤ reachBytes) : ∃ l, Tab w v l := by
  obtain ⟨a0, n, c, rfl⟩ := okWide_slice Tryd.underlying39 hv
  obtain ⟨fuel, hf⟩ := h
  rcases open_slice Tryd.underlying39 hf with ⟨hcs, _⟩ | ⟨a, len, cap, m, k, D, Pl, hcs, _, hl, hm, hmm, hd, hx⟩
  · simp [Value.cells] at hcs
    obtain ⟨rfl, rfl, rfl⟩ := hcs
    exact ⟨[], .inl ⟨_, _, rfl, rfl⟩⟩
  · simp [Value.cells] at hcs
    obtain ⟨rfl, rfl, rfl⟩ := hcs
    rcases Nat.eq_zero_or_pos n with h0 | h0
    · subst h0
      exact ⟨[], .inl ⟨_, _, rfl, rfl⟩⟩
    · have hnm : n ≤ m := by rw [hmm]; split <;> omega
      rw [show Tryd.prog.cellsOf 56 = 4 by kernel_rfl] at hx
      obtain ⟨b, off, spot⟩ := a
      have hsp : spot = none := by
        obtain ⟨cs, h1, h2⟩ := hx 0 (by omega)
        obtain ⟨x0, x1, x2, x3, rfl⟩ := rate_cells h2
        obtain ⟨_, _, h3⟩ := World.cells?_some h1
        have := h3 0 (by omega)
        simpa [Addr.add] using World.cell?_spot this
      subst hsp
      have hrow : ∀ i, i < n → ∃ q : Rt, w.cell? ⟨b, off + i * 4, none⟩ = some (.int .i64 q.c) ∧ w.cell? ⟨b, off + i * 4 + 1, none⟩ = some (.int .i64 q.m) ∧ w.cell? ⟨b, off + i * 4 + 2, none⟩ = some (.int .i64 q.n) ∧ w.cell? ⟨b, off + i * 4 + 3, none⟩ = some (.int .i64 q.d) := fun i hi => by
        obtain ⟨cs, h1, h2⟩ := hx i (by omega)
        obtain ⟨x0, x1, x2, x3, rfl⟩ := rate_cells h2
        obtain ⟨_, _, h3⟩ := World.cells?_some h1
        have e : ∀ j, ((⟨b, off, none⟩ : Addr).add (i * 4)).add j = ⟨b, off + i * 4 + j, none⟩ := fun j => by rw [add_plain, add_plain]
        have e0 := h3 0 (by omega)
        have e1 := h3 1 (by omega)
        have e2 := h3 2 (by omega)
        have e3 := h3 3 (by omega)
        rw [e] at e0 e1 e2 e3
        exact ⟨⟨x0, x1, x2, x3⟩, e0, e1, e2, e3⟩
      obtain ⟨l, hll, hlp⟩ := list_of hrow
      have hb : b < w.heap.size := by
        obtain ⟨q, h1, _⟩ := hrow 0 h0
        exact World.block_lt_of_cell? w _ h1
      have HS := hs _ _ (congrArg Prod.fst hd)
      rw [show Tryd.prog.bytesOf 56 = 32 by kernel_rfl] at HS
      simp only [List.length_map, List.length_range] at HS
      have hrb : reachBytes = 140737488351232 := rfl
      exact ⟨l, .inr ⟨b, off, n, c, rfl, hll, fun k q hk => hlp k q hk, hb, by omega⟩⟩

theorem open_raw {r : Reach} {b0 : Nat} {v : Value} {d : DataW H} {p : List MemPlace} (hv : Value.okWide Tryd.prog w r b0 30 v) (h : DataW.Trod enc Tryd.prog w base spare held 30 v d p) : RawTb w v := by
  obtain ⟨a0, n, c, rfl⟩ := okWide_slice Tryd.underlying30 hv
  obtain ⟨fuel, hf⟩ := h
  rcases open_slice Tryd.underlying30 hf with ⟨hcs, _⟩ | ⟨a, len, cap, m, k, D, Pl, hcs, _, hl, hm, hmm, hd, hx⟩
  · simp [Value.cells] at hcs
    obtain ⟨rfl, rfl, rfl⟩ := hcs
    exact .inl ⟨_, _, rfl⟩
  · simp [Value.cells] at hcs
    obtain ⟨rfl, rfl, rfl⟩ := hcs
    rcases Nat.eq_zero_or_pos n with h0 | h0
    · subst h0
      exact .inl ⟨_, _, rfl⟩
    · have hnm : n ≤ m := by rw [hmm]; split <;> omega
      rw [show Tryd.prog.cellsOf 68 = 7 by kernel_rfl] at hx
      obtain ⟨b, off, spot⟩ := a
      have hsp : spot = none := by
        obtain ⟨cs, h1, h2⟩ := hx 0 (by omega)
        obtain ⟨x0, x1, x2, x3, x4, x5, x6, rfl⟩ := raw_cells h2
        obtain ⟨_, _, h3⟩ := World.cells?_some h1
        have := h3 0 (by omega)
        simpa [Addr.add] using World.cell?_spot this
      subst hsp
      have hrow : ∀ i, i < n → ∃ q : Rw, w.cell? ⟨b, off + i * 7, none⟩ = some (.int .i64 q.a0) ∧ w.cell? ⟨b, off + i * 7 + 1, none⟩ = some (.int .i64 q.a1) ∧ w.cell? ⟨b, off + i * 7 + 2, none⟩ = some (.int .i64 q.a2) ∧ w.cell? ⟨b, off + i * 7 + 3, none⟩ = some (.int .i64 q.a3) ∧ w.cell? ⟨b, off + i * 7 + 4, none⟩ = some (.int .i64 q.a4) ∧ w.cell? ⟨b, off + i * 7 + 5, none⟩ = some (.int .i64 q.a5) ∧ w.cell? ⟨b, off + i * 7 + 6, none⟩ = some (.int .i64 q.a6) := fun i hi => by
        obtain ⟨cs, h1, h2⟩ := hx i (by omega)
        obtain ⟨x0, x1, x2, x3, x4, x5, x6, rfl⟩ := raw_cells h2
        obtain ⟨_, _, h3⟩ := World.cells?_some h1
        have e : ∀ j, ((⟨b, off, none⟩ : Addr).add (i * 7)).add j = ⟨b, off + i * 7 + j, none⟩ := fun j => by rw [add_plain, add_plain]
        have e0 := h3 0 (by omega)
        have e1 := h3 1 (by omega)
        have e2 := h3 2 (by omega)
        have e3 := h3 3 (by omega)
        have e4 := h3 4 (by omega)
        have e5 := h3 5 (by omega)
        have e6 := h3 6 (by omega)
        rw [e] at e0 e1 e2 e3 e4 e5 e6
        exact ⟨⟨x0, x1, x2, x3, x4, x5, x6⟩, e0, e1, e2, e3, e4, e5, e6⟩
      obtain ⟨l, hll, hlp⟩ := list_of hrow
      have hb : b < w.heap.size := by
        obtain ⟨q, h1, _⟩ := hrow 0 h0
        exact World.block_lt_of_cell? w _ h1
      exact .inr ⟨b, off, n, c, l, rfl, hll, fun k q hk => hlp k q hk, hb, by omega⟩
end
end Go.Proofs.YthpknbflmcoanaaDoor
