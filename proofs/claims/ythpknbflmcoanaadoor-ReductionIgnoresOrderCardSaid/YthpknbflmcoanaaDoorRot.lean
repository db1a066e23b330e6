/-
  Rotations: plain laws; append as a step of a region that draws.
-/
import Derived.Test.YthpknbflmcoanaaDoorHand
import Derived.Test.YthpknbflmcoanaaDoorRefApply
import Derived.Test.YthpknbflmcoanaaDoorCopy
import Derived.Deep.RegionLaw
import Derived.Maps.AppendAt
namespace Go.Proofs.YthpknbflmcoanaaDoor
open Go.RowKit Mny

/-- append onto a row of the call's own, whatever is appended, as a step of a region that draws its order -/
theorem step_append_at {P : Program} (w : World) {ops : Array Oper} {o : Oper} {a : Act} {K : Act → World → Prop} {Q : Exit → Act → World → Prop} {E : Prop} (hgd : o.guard = none) (s x : Operand) (t : TypeId)
    (ho : o.op = .call { callee := .builtin .append, args := #[s, x], argTypes := #[t, t] })
    (base : Nat) (e : TypeId) (i : TypeInfo) (z : Value) (size bytes : Nat) (ht : P.underlying t = some (.slice e)) (hi : P.info? e = some i) (hz : i.zero = some z)
    (hsize : i.size = size) (hby : i.bytes = bytes) (hzs : z.cells.size = size) (hsz : 0 < size)
    (v : Value) (n : Nat) (xs : List Value) (hs : a.eval s = v) (hown : w.ownsRow base e size v n xs)
    (ad : Addr) (m c : Nat) (news : List Value) (hx : a.eval x = .slice (some ad) m c) (hl : news.length = m * size) (hnews : ∀ j u, news[j]? = some u → w.cell? (ad.add j) = some u) (h1 : ∀ u ∈ news, u.oneCell' = true)
    (h63 : n + m ≤ maxLen) (hbytes : (n + m) * bytes ≤ 140737488355328) (hbase : base ≤ w.heap.size)
    (h : ∀ v' w', w'.ownsRow base e size v' (n + m) (xs ++ news) → w.grownBy w' v.ownBlock → K (a.put o.dst v') w') :
    if Region.wanted o (yielded ops a.tmps) = true then Oper.wp P o a w K Q else E := by
  have hw : Region.wanted o (yielded ops a.tmps) = true := by simp [Region.wanted, hgd]
  rw [if_pos hw]
  obtain ⟨v', w', hr, h2, h3, _, _⟩ := run_append_own_at (P := P) w base t o.type e i z size bytes ht hi hz hsize hby hzs hsz v n xs hown ad m c news hl hnews h1 h63 hbytes hbase
  unfold Oper.wp execOp
  simp only [ho, resolve, invoke, builtin, Sem.run_bind, Sem.run_pure, Result.andThen_ok, List.map_toArray, List.map_cons, List.map_nil, hs, hx, hr]
  exact h v' w' h2 h3
theorem GrossAt.drop {w : World} {b off k : Nat} {xs : List Gr} (h : GrossAt w b off xs) : GrossAt w b (off + k * 7) (xs.drop k) := fun j r hj => by
  rw [List.getElem?_drop] at hj
  have := h (k + j) r hj
  rw [show off + (k + j) * 7 = off + k * 7 + j * 7 by omega] at this
  exact this
theorem GrossAt.take {w : World} {b off k : Nat} {xs : List Gr} (h : GrossAt w b off xs) : GrossAt w b off (xs.take k) := fun j r hj => by
  rw [List.getElem?_take] at hj
  split at hj
  · exact h j r hj
  · cases hj
theorem NetAt.drop {w : World} {b off k : Nat} {xs : List Nt} (h : NetAt w b off xs) : NetAt w b (off + k * 7) (xs.drop k) := fun j r hj => by
  rw [List.getElem?_drop] at hj
  have := h (k + j) r hj
  rw [show off + (k + j) * 7 = off + k * 7 + j * 7 by omega] at this
  exact this
theorem NetAt.take {w : World} {b off k : Nat} {xs : List Nt} (h : NetAt w b off xs) : NetAt w b off (xs.take k) := fun j r hj => by
  rw [List.getElem?_take] at hj
  split at hj
  · exact h j r hj
  · cases hj
theorem net_cells_at {w : World} {b : Nat} : ∀ {xs : List Nt} {off : Nat}, NetAt w b off xs → ∀ j u, (neCells xs)[j]? = some u → w.cell? ((⟨b, off, none⟩ : Addr).add j) = some u
  | [], _, _, j, u, h => by cases h
  | r :: xs, off, hg, j, u, h => by
    have e : (⟨b, off, none⟩ : Addr).add j = ⟨b, off + j, none⟩ := by simp [Addr.add]
    rw [e]
    obtain ⟨a0, a1, a2, a3, a4, a5, a6⟩ := hg 0 r rfl
    have hh : ([.int .i64 r.s, .int .i64 r.b, .int .i64 r.c, .int .i64 r.i, .int .i64 r.p, .int .i64 r.d, .int .i64 r.a] ++ neCells xs)[j]? = some u := h
    by_cases hj : j < 7
    · rw [List.getElem?_append_left (by simpa using hj)] at hh
      simp only [Nat.zero_mul, Nat.add_zero] at a0 a1 a2 a3 a4 a5 a6
      match j, hj, hh with
      | 0, _, hh => injection hh with hh; subst hh; exact a0
      | 1, _, hh => injection hh with hh; subst hh; exact a1
      | 2, _, hh => injection hh with hh; subst hh; exact a2
      | 3, _, hh => injection hh with hh; subst hh; exact a3
      | 4, _, hh => injection hh with hh; subst hh; exact a4
      | 5, _, hh => injection hh with hh; subst hh; exact a5
      | 6, _, hh => injection hh with hh; subst hh; exact a6
    · obtain ⟨i, rfl⟩ : ∃ i, j = 7 + i := ⟨j - 7, by omega⟩
      rw [List.getElem?_append_right (by simp)] at hh
      have h2 := net_cells_at (xs := xs) (off := off + 7) (fun k q hk => by
        have := hg (k + 1) q (by simpa using hk)
        rw [show off + (k + 1) * 7 = off + 7 + k * 7 by omega] at this
        exact this) i u (by simpa using hh)
      rw [show (⟨b, off + 7, none⟩ : Addr).add i = ⟨b, off + 7 + i, none⟩ by simp [Addr.add]] at h2
      rw [show off + (7 + i) = off + 7 + i by omega]
      exact h2
theorem one_ne : ∀ (l : List Nt), ∀ u ∈ neCells l, u.oneCell' = true
  | [], u, h => by cases h
  | r :: l, u, h => by
    have hh : u ∈ ([.int .i64 r.s, .int .i64 r.b, .int .i64 r.c, .int .i64 r.i, .int .i64 r.p, .int .i64 r.d, .int .i64 r.a] ++ neCells l) := h
    rcases List.mem_append.1 hh with hh | hh
    · simp at hh
      rcases hh with rfl | rfl | rfl | rfl | rfl | rfl | rfl <;> rfl
    · exact one_ne l u hh
theorem grCells_app (a b : List Gr) : grCells (a ++ b) = grCells a ++ grCells b := by simp [grCells]
theorem neCells_app (a b : List Nt) : neCells (a ++ b) = neCells a ++ neCells b := by simp [neCells]
theorem twin_symm {x y : Gr} (h : twinB x y = false) : twinB y x = false := by
  unfold twinB at h ⊢
  rw [Bool.eq_false_iff] at h ⊢
  intro h2
  apply h
  simp only [Bool.and_eq_true, beq_iff_eq] at h2 ⊢
  exact ⟨h2.1.symm, h2.2.symm⟩
theorem good_pw {xs : List Gr} : GoodTo xs xs.length ↔ (∀ g ∈ xs, okG g = true) ∧ xs.Pairwise (fun a b => twinB a b = false) := by
  constructor
  · intro h
    refine ⟨fun g hg => ?_, ?_⟩
    · obtain ⟨k, hk⟩ := List.getElem?_of_mem hg
      exact (h k g (List.getElem?_eq_some_iff.1 hk).1 hk).1
    · rw [List.pairwise_iff_getElem]
      intro i j hi hj hij
      exact (h j _ hj (List.getElem?_eq_getElem hj)).2 i _ hij (List.getElem?_eq_getElem hi)
  · rintro ⟨h1, h2⟩ i g hi hg
    refine ⟨h1 g (List.mem_of_getElem? hg), fun j x hj hx => ?_⟩
    obtain ⟨hi2, rfl⟩ := List.getElem?_eq_some_iff.1 hg
    obtain ⟨hj2, rfl⟩ := List.getElem?_eq_some_iff.1 hx
    exact List.pairwise_iff_getElem.1 h2 j i hj2 hi2 hj
theorem ValG.rot {a b : List Gr} (h : ValG (a ++ b)) : ValG (b ++ a) := by
  obtain ⟨h1, h2⟩ := h
  obtain ⟨h3, h4⟩ := good_pw.1 h2
  refine ⟨by rw [List.length_append] at h1 ⊢; omega, good_pw.2 ⟨fun g hg => h3 g ?_, (List.pairwise_append_comm (fun h => twin_symm h)).1 h4⟩⟩
  rw [List.mem_append] at hg ⊢
  exact hg.symm

end Go.Proofs.YthpknbflmcoanaaDoor
