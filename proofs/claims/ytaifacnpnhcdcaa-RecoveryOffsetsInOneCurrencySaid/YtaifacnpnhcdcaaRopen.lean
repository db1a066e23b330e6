/-
  What came in, opened: standings, raw numbers, rates.
-/
import Derived.Test.YtaifacnpnhcdcaaRecL
import Derived.Test.YtaifacnpnhcdcaaPostG
import Derived.Test.YtaifacnpnhcdcaaRatesV
import Derived.Deep.Slices
import Derived.SizedLaws
set_option maxRecDepth 100000
namespace Go.Proofs.Ytaifacnpnhcdcaa
open Go.RowKit Mny Go.WideShapes Go.ChangeShapes Go.Joins Go.Deep

theorem list_of {α : Type} {p : Nat → α → Prop} : ∀ {n : Nat}, (∀ i, i < n → ∃ r, p i r) → ∃ l : List α, l.length = n ∧ ∀ k r, l[k]? = some r → p k r
  | 0, _ => ⟨[], rfl, fun k r h => by cases h⟩
  | n + 1, h => by
    obtain ⟨l, hl, hp⟩ := list_of (n := n) (p := p) (fun i hi => h i (by omega))
    obtain ⟨r, hr⟩ := h n (by omega)
    refine ⟨l ++ [r], by simp [hl], fun k s hk => ?_⟩
    rw [List.getElem?_append] at hk
    split at hk
    · exact hp k s hk
    · have : k = n := by
        have h2 := (List.getElem?_eq_some_iff.1 hk).1
        simp at h2
        omega
      subst this
      rw [hl, Nat.sub_self] at hk
      injection hk with hk
      subst hk
      exact hr


section
variable {H : Type} {enc : TypeId × Value → H} {w : World} {base : Nat} {spare : Nat → Bool} {held : Bool}
theorem one_int {n : Nat} {c : Value} {x : DataW H × List MemPlace} (h : DataW.trod enc Try.prog w base spare held n 3 [c] = some x) : ∃ a : Int, c = .int .i64 a := by
  obtain ⟨a, e0, _, _⟩ := DataW.trod_int Try.underlying3 h
  simp at e0
  exact ⟨a, e0⟩
theorem frac_cells {n : Nat} {cs : List Value} {x : DataW H × List MemPlace} (h : DataW.trod enc Try.prog w base spare held n 51 cs = some x) : ∃ x0 x1 : Int, cs = [.int .i64 x0, .int .i64 x1] := by
  obtain ⟨xs, m, rfl, -, hlen, hxl, hf⟩ := DataW.trod_struct Try.underlying51 h
  rw [show Try.prog.cellsOf 51 = 2 by kernel_rfl] at hlen
  match cs, hlen with
  | [c0, c1], _ =>
    match xs, hxl with
    | [y0, y1], _ =>
      have h0 : DataW.trod enc Try.prog w base spare held m 3 ((([c0, c1] : List Value).drop 0).take (Try.prog.cellsOf 3)) = [y0, y1][0]? := hf 0 _ rfl
      rw [show Try.prog.cellsOf 3 = 1 by kernel_rfl] at h0
      have h1 : DataW.trod enc Try.prog w base spare held m 3 ((([c0, c1] : List Value).drop 1).take (Try.prog.cellsOf 3)) = [y0, y1][1]? := hf 1 _ rfl
      rw [show Try.prog.cellsOf 3 = 1 by kernel_rfl] at h1
      obtain ⟨x0, rfl⟩ := one_int (n := m) (c := c0) (x := y0) (by simpa using h0)
      obtain ⟨x1, rfl⟩ := one_int (n := m) (c := c1) (x := y1) (by simpa using h1)
      exact ⟨x0, x1, rfl⟩
theorem rate_cells {n : Nat} {cs : List Value} {x : DataW H × List MemPlace} (h : DataW.trod enc Try.prog w base spare held n 54 cs = some x) : ∃ x0 x1 x2 x3 : Int, cs = [.int .i64 x0, .int .i64 x1, .int .i64 x2, .int .i64 x3] := by
  obtain ⟨xs, m, rfl, -, hlen, hxl, hf⟩ := DataW.trod_struct Try.underlying54 h
  rw [show Try.prog.cellsOf 54 = 4 by kernel_rfl] at hlen
  match cs, hlen with
  | [c0, c1, c2, c3], _ =>
    match xs, hxl with
    | [y0, y1, y2], _ =>
      have h0 : DataW.trod enc Try.prog w base spare held m 3 ((([c0, c1, c2, c3] : List Value).drop 0).take (Try.prog.cellsOf 3)) = [y0, y1, y2][0]? := hf 0 _ rfl
      rw [show Try.prog.cellsOf 3 = 1 by kernel_rfl] at h0
      have h1 : DataW.trod enc Try.prog w base spare held m 3 ((([c0, c1, c2, c3] : List Value).drop 1).take (Try.prog.cellsOf 3)) = [y0, y1, y2][1]? := hf 1 _ rfl
      rw [show Try.prog.cellsOf 3 = 1 by kernel_rfl] at h1
      have h2 : DataW.trod enc Try.prog w base spare held m 51 ((([c0, c1, c2, c3] : List Value).drop 2).take (Try.prog.cellsOf 51)) = [y0, y1, y2][2]? := hf 2 _ rfl
      rw [show Try.prog.cellsOf 51 = 2 by kernel_rfl] at h2
      obtain ⟨x0, rfl⟩ := one_int (n := m) (c := c0) (x := y0) (by simpa using h0)
      obtain ⟨x1, rfl⟩ := one_int (n := m) (c := c1) (x := y1) (by simpa using h1)
      have g2 : DataW.trod enc Try.prog w base spare held m 51 [c2, c3] = some y2 := by simpa using h2
      obtain ⟨x2, x3, hfe⟩ := frac_cells g2
      simp only [List.cons.injEq, and_true] at hfe
      obtain ⟨rfl, rfl⟩ := hfe
      exact ⟨x0, x1, x2, x3, rfl⟩
theorem std_cells {n : Nat} {cs : List Value} {x : DataW H × List MemPlace} (h : DataW.trod enc Try.prog w base spare held n 33 cs = some x) : ∃ x0 x1 x2 x3 : Int, cs = [.int .i64 x0, .int .i64 x1, .int .i64 x2, .int .i64 x3] := by
  obtain ⟨xs, m, rfl, -, hlen, hxl, hf⟩ := DataW.trod_struct Try.underlying33 h
  rw [show Try.prog.cellsOf 33 = 4 by kernel_rfl] at hlen
  match cs, hlen with
  | [c0, c1, c2, c3], _ =>
    match xs, hxl with
    | [y0, y1, y2, y3], _ =>
      have h0 : DataW.trod enc Try.prog w base spare held m 3 ((([c0, c1, c2, c3] : List Value).drop 0).take (Try.prog.cellsOf 3)) = [y0, y1, y2, y3][0]? := hf 0 _ rfl
      rw [show Try.prog.cellsOf 3 = 1 by kernel_rfl] at h0
      have h1 : DataW.trod enc Try.prog w base spare held m 3 ((([c0, c1, c2, c3] : List Value).drop 1).take (Try.prog.cellsOf 3)) = [y0, y1, y2, y3][1]? := hf 1 _ rfl
      rw [show Try.prog.cellsOf 3 = 1 by kernel_rfl] at h1
      have h2 : DataW.trod enc Try.prog w base spare held m 3 ((([c0, c1, c2, c3] : List Value).drop 2).take (Try.prog.cellsOf 3)) = [y0, y1, y2, y3][2]? := hf 2 _ rfl
      rw [show Try.prog.cellsOf 3 = 1 by kernel_rfl] at h2
      have h3 : DataW.trod enc Try.prog w base spare held m 3 ((([c0, c1, c2, c3] : List Value).drop 3).take (Try.prog.cellsOf 3)) = [y0, y1, y2, y3][3]? := hf 3 _ rfl
      rw [show Try.prog.cellsOf 3 = 1 by kernel_rfl] at h3
      obtain ⟨x0, rfl⟩ := one_int (n := m) (c := c0) (x := y0) (by simpa using h0)
      obtain ⟨x1, rfl⟩ := one_int (n := m) (c := c1) (x := y1) (by simpa using h1)
      obtain ⟨x2, rfl⟩ := one_int (n := m) (c := c2) (x := y2) (by simpa using h2)
      obtain ⟨x3, rfl⟩ := one_int (n := m) (c := c3) (x := y3) (by simpa using h3)
      exact ⟨x0, x1, x2, x3, rfl⟩
theorem raw_cells {n : Nat} {cs : List Value} {x : DataW H × List MemPlace} (h : DataW.trod enc Try.prog w base spare held n 29 cs = some x) : ∃ x0 x1 x2 : Int, cs = [.int .i64 x0, .int .i64 x1, .int .i64 x2] := by
  obtain ⟨xs, m, rfl, -, hlen, hxl, hf⟩ := DataW.trod_struct Try.underlying29 h
  rw [show Try.prog.cellsOf 29 = 3 by kernel_rfl] at hlen
  match cs, hlen with
  | [c0, c1, c2], _ =>
    match xs, hxl with
    | [y0, y1, y2], _ =>
      have h0 : DataW.trod enc Try.prog w base spare held m 3 ((([c0, c1, c2] : List Value).drop 0).take (Try.prog.cellsOf 3)) = [y0, y1, y2][0]? := hf 0 _ rfl
      rw [show Try.prog.cellsOf 3 = 1 by kernel_rfl] at h0
      have h1 : DataW.trod enc Try.prog w base spare held m 3 ((([c0, c1, c2] : List Value).drop 1).take (Try.prog.cellsOf 3)) = [y0, y1, y2][1]? := hf 1 _ rfl
      rw [show Try.prog.cellsOf 3 = 1 by kernel_rfl] at h1
      have h2 : DataW.trod enc Try.prog w base spare held m 3 ((([c0, c1, c2] : List Value).drop 2).take (Try.prog.cellsOf 3)) = [y0, y1, y2][2]? := hf 2 _ rfl
      rw [show Try.prog.cellsOf 3 = 1 by kernel_rfl] at h2
      obtain ⟨x0, rfl⟩ := one_int (n := m) (c := c0) (x := y0) (by simpa using h0)
      obtain ⟨x1, rfl⟩ := one_int (n := m) (c := c1) (x := y1) (by simpa using h1)
      obtain ⟨x2, rfl⟩ := one_int (n := m) (c := c2) (x := y2) (by simpa using h2)
      exact ⟨x0, x1, x2, rfl⟩

theorem open_std {r : Reach} {b0 : Nat} {v : Value} {d : DataW H} {p : List MemPlace} (hv : Value.okWide Try.prog w r b0 34 v) (h : DataW.Trod enc Try.prog w base spare held 34 v d p) : ∃ l, StTab w.heap.size w v l := by
  obtain ⟨a0, n, c, rfl⟩ := okWide_slice Try.underlying34 hv
  obtain ⟨fuel, hf⟩ := h
  rcases open_slice Try.underlying34 hf with ⟨hcs, _⟩ | ⟨a, len, cap, m, k, D, Pl, hcs, _, hl, hm, hmm, hd, hx⟩
  · simp [Value.cells] at hcs
    obtain ⟨rfl, rfl, rfl⟩ := hcs
    exact ⟨[], .inl ⟨_, _, rfl, rfl⟩⟩
  · simp [Value.cells] at hcs
    obtain ⟨rfl, rfl, rfl⟩ := hcs
    rcases Nat.eq_zero_or_pos n with h0 | h0
    · subst h0
      exact ⟨[], .inl ⟨_, _, rfl, rfl⟩⟩
    · have hnm : n ≤ m := by rw [hmm]; split <;> omega
      rw [show Try.prog.cellsOf 33 = 4 by kernel_rfl] at hx
      obtain ⟨b, off, spot⟩ := a
      have hsp : spot = none := by
        obtain ⟨cs, h1, h2⟩ := hx 0 (by omega)
        obtain ⟨x0, x1, x2, x3, rfl⟩ := std_cells h2
        obtain ⟨_, _, h3⟩ := World.cells?_some h1
        have := h3 0 (by omega)
        simpa [Addr.add] using World.cell?_spot this
      subst hsp
      have hrow : ∀ i, i < n → ∃ q : St, w.cell? ⟨b, off + i * 4, none⟩ = some (.int .i64 q.s) ∧ w.cell? ⟨b, off + i * 4 + 1, none⟩ = some (.int .i64 q.c) ∧ w.cell? ⟨b, off + i * 4 + 2, none⟩ = some (.int .i64 q.a) ∧ w.cell? ⟨b, off + i * 4 + 3, none⟩ = some (.int .i64 q.o) := fun i hi => by
        obtain ⟨cs, h1, h2⟩ := hx i (by omega)
        obtain ⟨x0, x1, x2, x3, rfl⟩ := std_cells h2
        obtain ⟨_, _, h3⟩ := World.cells?_some h1
        have e : ∀ j, ((⟨b, off, none⟩ : Addr).add (i * 4)).add j = ⟨b, off + i * 4 + j, none⟩ := fun j => by rw [add_plain, add_plain]
        have e0 := h3 0 (by omega)
        have e1 := h3 1 (by omega)
        have e2 := h3 2 (by omega)
        have e3 := h3 3 (by omega)
        rw [e] at e0 e1 e2 e3
        exact ⟨⟨x0, x1, x2, x3⟩, e0, e1, e2, e3⟩
      obtain ⟨l, hll, hlp⟩ := list_of hrow
      have hb : b < w.heap.size := by
        obtain ⟨q, h1, _⟩ := hrow 0 h0
        exact World.block_lt_of_cell? w _ h1
      exact ⟨l, .inr ⟨b, off, c, by rw [hll], hb, fun k q hk => hlp k q hk⟩⟩

theorem open_tab {r : Reach} {b0 : Nat} {v : Value} {d : DataW H} {p : List MemPlace} (hv : Value.okWide Try.prog w r b0 36 v) (h : DataW.Trod enc Try.prog w base spare held 36 v d p) (hs : ∀ elems sp, d = .slice elems sp → (elems.length + sp.length) * Try.prog.bytesOf 54 ≤ reachBytes) : ∃ l, Tab w v l := by
  obtain ⟨a0, n, c, rfl⟩ := okWide_slice Try.underlying36 hv
  obtain ⟨fuel, hf⟩ := h
  rcases open_slice Try.underlying36 hf with ⟨hcs, _⟩ | ⟨a, len, cap, m, k, D, Pl, hcs, _, hl, hm, hmm, hd, hx⟩
  · simp [Value.cells] at hcs
    obtain ⟨rfl, rfl, rfl⟩ := hcs
    exact ⟨[], .inl ⟨_, _, rfl, rfl⟩⟩
  · simp [Value.cells] at hcs
    obtain ⟨rfl, rfl, rfl⟩ := hcs
    rcases Nat.eq_zero_or_pos n with h0 | h0
    · subst h0
      exact ⟨[], .inl ⟨_, _, rfl, rfl⟩⟩
    · have hnm : n ≤ m := by rw [hmm]; split <;> omega
      rw [show Try.prog.cellsOf 54 = 4 by kernel_rfl] at hx
      obtain ⟨b, off, spot⟩ := a
      have hsp : spot = none := by
        obtain ⟨cs, h1, h2⟩ := hx 0 (by omega)
        obtain ⟨x0, x1, x2, x3, rfl⟩ := rate_cells h2
        obtain ⟨_, _, h3⟩ := World.cells?_some h1
        have := h3 0 (by omega)
        simpa [Addr.add] using World.cell?_spot this
      subst hsp
      have hrow : ∀ i, i < n → ∃ q : Rt, w.cell? ⟨b, off + i * 4, none⟩ = some (.int .i64 q.c) ∧ w.cell? ⟨b, off + i * 4 + 1, none⟩ = some (.int .i64 q.m) ∧ w.cell? ⟨b, off + i * 4 + 2, none⟩ = some (.int .i64 q.n) ∧ w.cell? ⟨b, off + i * 4 + 3, none⟩ = some (.int .i64 q.d) := fun i hi => by
        obtain ⟨cs, h1, h2⟩ := hx i (by omega)
        obtain ⟨x0, x1, x2, x3, rfl⟩ := rate_cells h2
        obtain ⟨_, _, h3⟩ := World.cells?_some h1
        have e : ∀ j, ((⟨b, off, none⟩ : Addr).add (i * 4)).add j = ⟨b, off + i * 4 + j, none⟩ := fun j => by rw [add_plain, add_plain]
        have e0 := h3 0 (by omega)
        have e1 := h3 1 (by omega)
        have e2 := h3 2 (by omega)
        have e3 := h3 3 (by omega)
        rw [e] at e0 e1 e2 e3
        exact ⟨⟨x0, x1, x2, x3⟩, e0, e1, e2, e3⟩
      obtain ⟨l, hll, hlp⟩ := list_of hrow
      have hb : b < w.heap.size := by
        obtain ⟨q, h1, _⟩ := hrow 0 h0
        exact World.block_lt_of_cell? w _ h1
      have HS := hs _ _ (congrArg Prod.fst hd)
      rw [show Try.prog.bytesOf 54 = 32 by kernel_rfl] at HS
      simp only [List.length_map, List.length_range] at HS
      have hrb : reachBytes = 140737488351232 := rfl
      exact ⟨l, .inr ⟨b, off, n, c, rfl, hll, fun k q hk => hlp k q hk, hb, by omega⟩⟩

theorem open_raw {r : Reach} {b0 : Nat} {v : Value} {d : DataW H} {p : List MemPlace} (hv : Value.okWide Try.prog w r b0 30 v) (h : DataW.Trod enc Try.prog w base spare held 30 v d p) : R3Tb w v := by
  obtain ⟨a0, n, c, rfl⟩ := okWide_slice Try.underlying30 hv
  obtain ⟨fuel, hf⟩ := h
  rcases open_slice Try.underlying30 hf with ⟨hcs, _⟩ | ⟨a, len, cap, m, k, D, Pl, hcs, _, hl, hm, hmm, hd, hx⟩
  · simp [Value.cells] at hcs
    obtain ⟨rfl, rfl, rfl⟩ := hcs
    exact .inl ⟨_, _, rfl⟩
  · simp [Value.cells] at hcs
    obtain ⟨rfl, rfl, rfl⟩ := hcs
    rcases Nat.eq_zero_or_pos n with h0 | h0
    · subst h0
      exact .inl ⟨_, _, rfl⟩
    · have hnm : n ≤ m := by rw [hmm]; split <;> omega
      rw [show Try.prog.cellsOf 29 = 3 by kernel_rfl] at hx
      obtain ⟨b, off, spot⟩ := a
      have hsp : spot = none := by
        obtain ⟨cs, h1, h2⟩ := hx 0 (by omega)
        obtain ⟨x0, x1, x2, rfl⟩ := raw_cells h2
        obtain ⟨_, _, h3⟩ := World.cells?_some h1
        have := h3 0 (by omega)
        simpa [Addr.add] using World.cell?_spot this
      subst hsp
      have hrow : ∀ i, i < n → ∃ q : R3, w.cell? ⟨b, off + i * 3, none⟩ = some (.int .i64 q.a0) ∧ w.cell? ⟨b, off + i * 3 + 1, none⟩ = some (.int .i64 q.a1) ∧ w.cell? ⟨b, off + i * 3 + 2, none⟩ = some (.int .i64 q.a2) := fun i hi => by
        obtain ⟨cs, h1, h2⟩ := hx i (by omega)
        obtain ⟨x0, x1, x2, rfl⟩ := raw_cells h2
        obtain ⟨_, _, h3⟩ := World.cells?_some h1
        have e : ∀ j, ((⟨b, off, none⟩ : Addr).add (i * 3)).add j = ⟨b, off + i * 3 + j, none⟩ := fun j => by rw [add_plain, add_plain]
        have e0 := h3 0 (by omega)
        have e1 := h3 1 (by omega)
        have e2 := h3 2 (by omega)
        rw [e] at e0 e1 e2
        exact ⟨⟨x0, x1, x2⟩, e0, e1, e2⟩
      obtain ⟨l, hll, hlp⟩ := list_of hrow
      have hb : b < w.heap.size := by
        obtain ⟨q, h1, _⟩ := hrow 0 h0
        exact World.block_lt_of_cell? w _ h1
      exact .inr ⟨b, off, n, c, l, rfl, hll, fun k q hk => hlp k q hk, hb, by omega⟩

theorem open_rawv {r : Reach} {b0 : Nat} {v : Value} {d : DataW H} {p : List MemPlace} (hv : Value.okWide Try.prog w r b0 29 v) (h : DataW.Trod enc Try.prog w base spare held 29 v d p) : ∃ x0 x1 x2 : Int, v = .agg #[.int .i64 x0, .int .i64 x1, .int .i64 x2] := by
  obtain ⟨cs, rfl, _⟩ := okWide_struct Try.underlying29 hv
  obtain ⟨fuel, hf⟩ := h
  obtain ⟨x0, x1, x2, e⟩ := raw_cells hf
  refine ⟨x0, x1, x2, ?_⟩
  simp [Value.cells] at e
  first
    | rw [e]
    | (cases cs; simp_all)

theorem open_stv {r : Reach} {b0 : Nat} {v : Value} {d : DataW H} {p : List MemPlace} (hv : Value.okWide Try.prog w r b0 33 v) (h : DataW.Trod enc Try.prog w base spare held 33 v d p) : ∃ x0 x1 x2 x3 : Int, v = .agg #[.int .i64 x0, .int .i64 x1, .int .i64 x2, .int .i64 x3] := by
  obtain ⟨cs, rfl, _⟩ := okWide_struct Try.underlying33 hv
  obtain ⟨fuel, hf⟩ := h
  obtain ⟨x0, x1, x2, x3, e⟩ := std_cells hf
  refine ⟨x0, x1, x2, x3, ?_⟩
  simp [Value.cells] at e
  first
    | rw [e]
    | (cases cs; simp_all)

theorem open_ints {r : Reach} {b0 : Nat} {v : Value} {d : DataW H} {p : List MemPlace} (hv : Value.okWide Try.prog w r b0 31 v) (h : DataW.Trod enc Try.prog w base spare held 31 v d p) : IntsIn w v := by
  rcases open_nums hv h with h | ⟨b, off, n, c, zs, e1, _, e2, e3, e4, e5, _⟩
  · exact .inl h
  · exact .inr ⟨b, off, n, c, zs, e1, e2, e3, e4, e5⟩
end
end Go.Proofs.Ytaifacnpnhcdcaa
