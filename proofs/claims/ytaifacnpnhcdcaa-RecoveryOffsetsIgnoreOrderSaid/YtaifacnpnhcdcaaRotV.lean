/-
  Rotated standings; append as a step of a region that draws.
-/
import Derived.Test.YtaifacnpnhcdcaaRecL
import Derived.Deep.RegionLaw
import Derived.Maps.AppendAt
namespace Go.Proofs.Ytaifacnpnhcdcaa
open Go.RowKit Mny

/-- append onto a row of the call's own, whatever is appended, as a step of a region that draws its order -/
theorem step_append_at {P : Program} (w : World) {ops : Array Oper} {o : Oper} {a : Act} {K : Act → World → Prop} {Q : Exit → Act → World → Prop} {E : Prop} (hgd : o.guard = none) (s x : Operand) (t : TypeId)
    (ho : o.op = .call { callee := .builtin .append, args := #[s, x], argTypes := #[t, t] })
    (base : Nat) (e : TypeId) (i : TypeInfo) (z : Value) (size bytes : Nat) (ht : P.underlying t = some (.slice e)) (hi : P.info? e = some i) (hz : i.zero = some z)
    (hsize : i.size = size) (hby : i.bytes = bytes) (hzs : z.cells.size = size) (hsz : 0 < size)
    (v : Value) (n : Nat) (xs : List Value) (hs : a.eval s = v) (hown : w.ownsRow base e size v n xs)
    (ad : Addr) (m c : Nat) (news : List Value) (hx : a.eval x = .slice (some ad) m c) (hl : news.length = m * size) (hnews : ∀ j u, news[j]? = some u → w.cell? (ad.add j) = some u) (h1 : ∀ u ∈ news, u.oneCell' = true)
    (h63 : n + m ≤ maxLen) (hbytes : (n + m) * bytes ≤ 140737488355328) (hbase : base ≤ w.heap.size)
    (h : ∀ v' w', w'.ownsRow base e size v' (n + m) (xs ++ news) → w.grownBy w' v.ownBlock → K (a.put o.dst v') w') :
    if Region.wanted o (yielded ops a.tmps) = true then Oper.wp P o a w K Q else E := by
  have hw : Region.wanted o (yielded ops a.tmps) = true := by simp [Region.wanted, hgd]
  rw [if_pos hw]
  obtain ⟨v', w', hr, h2, h3, _, _⟩ := run_append_own_at (P := P) w base t o.type e i z size bytes ht hi hz hsize hby hzs hsz v n xs hown ad m c news hl hnews h1 h63 hbytes hbase
  unfold Oper.wp execOp
  simp only [ho, resolve, invoke, builtin, Sem.run_bind, Sem.run_pure, Result.andThen_ok, List.map_toArray, List.map_cons, List.map_nil, hs, hx, hr]
  exact h v' w' h2 h3
theorem StAt.drop {w : World} {b off k : Nat} {xs : List St} (h : StAt w b off xs) : StAt w b (off + k * 4) (xs.drop k) := fun j r hj => by
  rw [List.getElem?_drop] at hj
  have := h (k + j) r hj
  rw [show off + (k + j) * 4 = off + k * 4 + j * 4 by omega] at this
  exact this
theorem StAt.take {w : World} {b off k : Nat} {xs : List St} (h : StAt w b off xs) : StAt w b off (xs.take k) := fun j r hj => by
  rw [List.getElem?_take] at hj
  split at hj
  · exact h j r hj
  · cases hj
theorem st_cells_at {w : World} {b : Nat} : ∀ {xs : List St} {off : Nat}, StAt w b off xs → ∀ j u, (stCells xs)[j]? = some u → w.cell? ((⟨b, off, none⟩ : Addr).add j) = some u
  | [], _, _, j, u, h => by cases h
  | r :: xs, off, hg, j, u, h => by
    have e : (⟨b, off, none⟩ : Addr).add j = ⟨b, off + j, none⟩ := by simp [Addr.add]
    rw [e]
    obtain ⟨a0, a1, a2, a3⟩ := hg 0 r rfl
    have hh : ([.int .i64 r.s, .int .i64 r.c, .int .i64 r.a, .int .i64 r.o] ++ stCells xs)[j]? = some u := h
    by_cases hj : j < 4
    · rw [List.getElem?_append_left (by simpa using hj)] at hh
      simp only [Nat.zero_mul, Nat.add_zero] at a0 a1 a2 a3
      match j, hj, hh with
      | 0, _, hh => injection hh with hh; subst hh; exact a0
      | 1, _, hh => injection hh with hh; subst hh; exact a1
      | 2, _, hh => injection hh with hh; subst hh; exact a2
      | 3, _, hh => injection hh with hh; subst hh; exact a3
    · obtain ⟨i, rfl⟩ : ∃ i, j = 4 + i := ⟨j - 4, by omega⟩
      rw [List.getElem?_append_right (by simp)] at hh
      have h2 := st_cells_at (xs := xs) (off := off + 4) (fun k q hk => by
        have := hg (k + 1) q (by simpa using hk)
        rw [show off + (k + 1) * 4 = off + 4 + k * 4 by omega] at this
        exact this) i u (by simpa using hh)
      rw [show (⟨b, off + 4, none⟩ : Addr).add i = ⟨b, off + 4 + i, none⟩ by simp [Addr.add]] at h2
      rw [show off + (4 + i) = off + 4 + i by omega]
      exact h2
theorem one_st : ∀ (l : List St), ∀ u ∈ stCells l, u.oneCell' = true
  | [], u, h => by cases h
  | r :: l, u, h => by
    have hh : u ∈ ([.int .i64 r.s, .int .i64 r.c, .int .i64 r.a, .int .i64 r.o] ++ stCells l) := h
    rcases List.mem_append.1 hh with hh | hh
    · simp at hh
      rcases hh with rfl | rfl | rfl | rfl <;> rfl
    · exact one_st l u hh
theorem stCells_app (a b : List St) : stCells (a ++ b) = stCells a ++ stCells b := by simp [stCells]
theorem own_row4 {w : World} {base n c : Nat} {A : Option Addr} {l : List St} (h : w.ownsRow base 33 4 (.slice A n c) n (stCells l)) (hl : l.length = n) (hn : 0 < n) : ∃ g, A = some ⟨g, 0, none⟩ ∧ StAt w g 0 l ∧ g < w.heap.size ∧ n ≤ c := by
  have h' := h
  rcases h.2 with ⟨_, hz⟩ | ⟨g, cap, cur, he, hg, hh, hc, _⟩
  · omega
  · injection he with e1 e2 e3
    subst e1 e3
    obtain ⟨a, b, _⟩ := StAt.own h' hl
    exact ⟨g, rfl, a, b, hc⟩
theorem own_base {w : World} {base n size g : Nat} {e : TypeId} {v : Value} {xs : List Value} (h : w.ownsRow base e size v n xs) (hg : v.ownBlock = some g) : base ≤ g := by
  rcases h.2 with ⟨rfl, _⟩ | ⟨g', cap, cur, rfl, h1, _⟩
  · simp [Value.ownBlock] at hg
  · simp [Value.ownBlock] at hg
    omega

end Go.Proofs.Ytaifacnpnhcdcaa
