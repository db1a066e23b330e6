/-
  Valid standings of different states are six at most; raw numbers by three in memory.
-/
import Derived.Test.YtaifacnpnhcdcaaTrs
namespace Go.Proofs.Ytaifacnpnhcdcaa
open Go.RowKit Mny

theorem upTo_len {xs : List St} (h : GoodS xs) : ∀ (n : Nat), (upTo xs n).length ≤ n := by
  intro n
  induction n with
  | zero => simp [upTo]
  | succ n ih =>
    have e : upTo xs (n + 1) = upTo xs n ++ xs.filter (fun x => x.s == (n : Int)) := by simp [upTo, List.range_succ]
    have hf := h.2.filter (fun x => x.s == (n : Int))
    have hl : (xs.filter (fun x => x.s == (n : Int))).length ≤ 1 := by
      match hq : xs.filter (fun x => x.s == (n : Int)) with
      | [] => rw [hq]; simp
      | [_] => rw [hq]; simp
      | a :: b :: r =>
        rw [hq] at hf
        rw [List.pairwise_cons] at hf
        have ha : a ∈ xs.filter (fun x => x.s == (n : Int)) := by rw [hq]; exact List.mem_cons_self ..
        have hb : b ∈ xs.filter (fun x => x.s == (n : Int)) := by rw [hq]; exact List.mem_cons_of_mem _ (List.mem_cons_self ..)
        have h4 := (List.mem_filter.1 ha).2
        have h5 := (List.mem_filter.1 hb).2
        rw [beq_iff_eq] at h4 h5
        exact absurd (h4.trans h5.symm) (hf.1 b (List.mem_cons_self ..))
    rw [e, List.length_append]
    omega
theorem srt_perm0 {xs : List St} (h : GoodS xs) : (srt xs).Perm xs := by
  refine (List.perm_ext_iff_of_nodup ?_ ?_).2 fun x => mem_srt h
  · exact (srt_asc h).imp fun h e => by rw [e] at h; omega
  · exact h.2.imp fun h e => h (by rw [e])
theorem good_len {xs : List St} (h : GoodS xs) : xs.length ≤ 6 := by
  rw [← (srt_perm0 h).length_eq]
  exact upTo_len h 6
theorem GoodS.nil : GoodS [] := ⟨fun x h => by simp at h, List.Pairwise.nil⟩
theorem GoodS.snoc {xs : List St} {x : St} (h : GoodS xs) (ho : okS x = true) (hn : ∀ y ∈ xs, y.s ≠ x.s) : GoodS (xs ++ [x]) := by
  refine ⟨fun y hy => ?_, ?_⟩
  · rcases List.mem_append.1 hy with hy | hy
    · exact h.1 y hy
    · rw [List.mem_singleton] at hy
      subst hy
      exact ho
  · rw [List.pairwise_append]
    refine ⟨h.2, List.pairwise_singleton _ _, fun a ha b hb => ?_⟩
    rw [List.mem_singleton] at hb
    subst hb
    exact hn a ha
theorem okS_mk {s c a o : Int} (h : (0 ≤ s ∧ s ≤ 5) ∧ (1 ≤ c ∧ c ≤ 999) ∧ (0 ≤ a ∧ a ≤ 1000000000000) ∧ (0 ≤ o ∧ o ≤ 1000000000000)) : okS ⟨s, c, a, o⟩ = true := okS_iff.2 h
/-- no arrears, a currency of the first three -/
def Plain3 (x : St) : Prop := x.a = 0 ∧ 1 ≤ x.c ∧ x.c ≤ 3
/-- raw numbers by three -/
structure R3 where
  a0 : Int
  a1 : Int
  a2 : Int
def R3At (w : World) (b off : Nat) (l : List R3) : Prop := ∀ k r, l[k]? = some r →
  w.cell? ⟨b, off + k * 3, none⟩ = some (.int .i64 r.a0) ∧ w.cell? ⟨b, off + k * 3 + 1, none⟩ = some (.int .i64 r.a1) ∧ w.cell? ⟨b, off + k * 3 + 2, none⟩ = some (.int .i64 r.a2)
/-- this value is a slice of raw numbers -/
def R3Tb (w : World) (v : Value) : Prop :=
  (∃ A c, v = .slice A 0 c) ∨ ∃ b off n c l, v = .slice (some ⟨b, off, none⟩) n c ∧ l.length = n ∧ R3At w b off l ∧ b < w.heap.size ∧ n ≤ maxLen
theorem R3Tb.cut {w : World} {v : Value} (h : R3Tb w v) : ∃ A n c, v = .slice A n c ∧ n ≤ maxLen := by
  rcases h with ⟨A, c, rfl⟩ | ⟨b, off, n, c, l, rfl, _, _, _, h⟩
  · exact ⟨_, _, _, rfl, Nat.zero_le _⟩
  · exact ⟨_, _, _, rfl, h⟩
theorem R3Tb.rowAt {w : World} {A : Option Addr} {n c k : Nat} (h : R3Tb w (.slice A n c)) (hk : k < n) : ∃ b off l r, A = some ⟨b, off, none⟩ ∧ R3At w b off l ∧ l[k]? = some r ∧ b < w.heap.size := by
  rcases h with ⟨A', c', he⟩ | ⟨b, off, n', c', l, he, h0, h1, h2, _⟩
  · injection he with e1 e2 e3
    omega
  · injection he with e1 e2 e3
    subst e2
    exact ⟨b, off, l, _, e1, h1, List.getElem?_eq_getElem (by omega), h2⟩
theorem R3At.below {w w' : World} {b off : Nat} {l : List R3} (h : R3At w b off l) (hb : b < w.heap.size) (hw : Below w.heap.size w w') : R3At w' b off l := fun k r hk => by
  obtain ⟨h0, h1, h2⟩ := h k r hk
  exact ⟨(hw.cell (p := ⟨b, _, none⟩) hb).trans h0, (hw.cell (p := ⟨b, _, none⟩) hb).trans h1, (hw.cell (p := ⟨b, _, none⟩) hb).trans h2⟩
theorem R3Tb.below {w w' : World} {v : Value} (h : R3Tb w v) (hw : Below w.heap.size w w') : R3Tb w' v := by
  rcases h with h | ⟨b, off, n, c, l, h1, h2, h3, h4, h5⟩
  · exact .inl h
  · exact .inr ⟨b, off, n, c, l, h1, h2, h3.below h4 hw, Nat.lt_of_lt_of_le h4 hw.size, h5⟩
end Go.Proofs.Ytaifacnpnhcdcaa
