/-
  One currency: what is sent is credited, and the arrears or all that is owed is used up.
-/
import Derived.Test.YtaifacnpnhcdcaaRecM
namespace Go.Proofs.Ytaifacnpnhcdcaa
open Go.RowKit Mny

/-- the same standing in currency 4 -/
def to4 (x : St) : St := ⟨x.s, 4, x.a, x.o⟩
/-- what the states other than 5 have to recover together -/
def owedS : List St → Int
  | [] => 0
  | x :: r => (if x.s = 5 then 0 else x.o) + owedS r
theorem owedS_app (a b : List St) : owedS (a ++ b) = owedS a + owedS b := by
  induction a with
  | nil => simp [owedS]
  | cons x a ih => simp only [List.cons_append, owedS, ih]; omega
theorem owedS_take {xs : List St} {k : Nat} {x : St} (h : xs[k]? = some x) : owedS (xs.take (k + 1)) = owedS (xs.take k) + (if x.s = 5 then 0 else x.o) := by
  rw [take_one h, owedS_app]
  simp [owedS]
theorem owedS_map (xs : List St) : owedS (xs.map to4) = owedS xs := by
  induction xs with
  | nil => rfl
  | cons x xs ih => simp only [List.map_cons, owedS, ih]; rfl
theorem owedS_perm {xs ys : List St} (h : xs.Perm ys) : owedS xs = owedS ys := by
  induction h with
  | nil => rfl
  | cons x _ ih => simp only [owedS, ih]
  | swap x y l => simp only [owedS]; omega
  | trans _ _ h1 h2 => exact h1.trans h2
theorem GoodS.all4 {xs : List St} (h : GoodS xs) : GoodS (xs.map to4) := by
  refine ⟨fun y hy => ?_, List.pairwise_map.2 h.2⟩
  obtain ⟨x, hx, rfl⟩ := List.mem_map.1 hy
  have := okS_all (h.1 x hx)
  exact okS_mk ⟨this.1, ⟨by decide, by decide⟩, this.2.2.1, this.2.2.2⟩
theorem rnd_one {md x : Int} (hm : md = 1 ∨ md = 2) (h0 : 0 ≤ x) (h1 : x ≤ 1000000000000) : rnd md 1 x 1 = (x, 0) := by
  have e : units md x (1 * 1) = x := by
    unfold units upB
    rcases hm with rfl | rfl <;> simp
  unfold rnd
  simp only [e]
  rw [if_pos, Int.mul_one]
  unfold okU
  simp only [Bool.and_eq_true, decide_eq_true_eq]
  omega
theorem conv4 {md x : Int} (hm : md = 1 ∨ md = 2) (h0 : 0 ≤ x) (h1 : x ≤ 1000000000000) : convS x 4 4 0 [] md 1 = (x, 0) := by
  have hb : convB x 4 4 0 [] md 1 = true := by
    unfold convB
    rw [inB_iff.2 ⟨by omega, by omega⟩]
    rcases hm with rfl | rfl <;> decide
  rw [convS_same hb rfl, rnd_one hm h0 h1]
theorem give4 {a left : Int} {x : St} (ho : okS x = true) (hc : x.c = 4) (h0 : 0 ≤ left) (h1 : left ≤ 1000000000000) :
    giveT ⟨5, 4, a, 0⟩ [] 0 left x = if x.s = 5 ∨ min x.o left = 0 then none else some ⟨5, x.s, 4, min x.o left, min x.o left⟩ := by
  obtain ⟨_, _, _, o0, o1⟩ := okS_all ho
  by_cases h2 : x.s = 5
  · rw [giveT_skip (.inl h2), if_pos (.inl h2)]
  · by_cases h3 : x.o = 0
    · rw [giveT_skip (.inr h3), if_pos (.inr (by omega))]
    · have c1 : convS x.o x.c (⟨5, 4, a, 0⟩ : St).c 0 [] 2 1 = (x.o, 0) := by rw [hc]; exact conv4 (.inr rfl) o0 o1
      have c2 : convS (min x.o left) (⟨5, 4, a, 0⟩ : St).c x.c 0 [] 1 1 = (min x.o left, 0) := by rw [hc]; exact conv4 (.inl rfl) (by omega) (by omega)
      have e : min (min x.o left) x.o = min x.o left := by omega
      by_cases h4 : min x.o left = 0
      · rw [giveT_bad2 c1 c2 (.inr (by omega)), if_pos (.inr h4)]
      · rw [giveT_yes (fun h => h.elim h2 h3) c1 c2 (by omega), if_neg (fun h => h.elim h2 h4), e, hc]
theorem off4 {a : Int} (ha0 : 0 ≤ a) (ha1 : a ≤ 1000000000000) : ∀ (rest : List St) (acc : Int × List Tr) (W : Int), (∀ x ∈ rest, okS x = true ∧ x.c = 4) → 0 ≤ W → acc.1 = a - min a W → (∀ r ∈ acc.2, r.s = r.k) →
    (rest.foldl (offF ⟨5, 4, a, 0⟩ [] 0) acc).1 = a - min a (W + owedS rest) ∧ ∀ r ∈ (rest.foldl (offF ⟨5, 4, a, 0⟩ [] 0) acc).2, r.s = r.k
  | [], acc, W, _, _, h1, h2 => by
    simp only [List.foldl_nil, owedS, Int.add_zero]
    exact ⟨h1, h2⟩
  | x :: rest, (left, out), W, ho, hW, h1, h2 => by
    obtain ⟨o1, o2⟩ := ho x (List.mem_cons_self ..)
    obtain ⟨_, _, _, o3, o4⟩ := okS_all o1
    simp only at h1 h2
    have hg := give4 (a := a) (left := left) o1 o2 (by omega) (by omega)
    rw [List.foldl_cons]
    by_cases h3 : x.s = 5 ∨ min x.o left = 0
    · rw [if_pos h3] at hg
      rw [offF_none hg]
      have := off4 ha0 ha1 rest (left, out) (W + (if x.s = 5 then 0 else x.o)) (fun y hy => ho y (List.mem_cons_of_mem _ hy)) (by split <;> omega) (by
        simp only
        split
        · omega
        · rename_i h5
          have := h3.resolve_left h5
          omega) h2
      simp only [owedS]
      rw [← Int.add_assoc]
      exact this
    · rw [if_neg h3] at hg
      rw [offF_some hg]
      have h5 : ¬ x.s = 5 := fun e => h3 (.inl e)
      have := off4 ha0 ha1 rest (left - min x.o left, out ++ [⟨5, x.s, 4, min x.o left, min x.o left⟩]) (W + x.o) (fun y hy => ho y (List.mem_cons_of_mem _ hy)) (by omega) (by simp only; omega) (fun r hr => by
        simp only at hr
        rcases List.mem_append.1 hr with hr | hr
        · exact h2 r hr
        · rw [List.mem_singleton] at hr
          subst hr
          rfl)
      simp only [owedS, if_neg h5]
      rw [← Int.add_assoc]
      exact this
theorem one_cur {a : Int} {xs : List St} (ha0 : 0 ≤ a) (ha1 : a ≤ 1000000000000) (h : GoodS xs) : ∃ ts, offR ⟨5, 4, a, 0⟩ (xs.map to4) [] 0 = (ts, 0) ∧ sumT ts = min a (owedS xs) ∧ ∀ i r, ts[i]? = some r → r.s = r.k ∧ 1 ≤ r.s ∧ r.s ≤ a - sumT (ts.take i) := by
  have hg := h.all4
  have hp : okS ⟨5, 4, a, 0⟩ = true := okS_mk ⟨⟨by decide, by decide⟩, ⟨by decide, by decide⟩, ⟨ha0, ha1⟩, ⟨by decide, by decide⟩⟩
  have h4 : ∀ x ∈ srt (xs.map to4), okS x = true ∧ x.c = 4 := fun x hx => by
    have hx2 := (mem_srt hg).1 hx
    refine ⟨hg.1 x hx2, ?_⟩
    obtain ⟨y, _, rfl⟩ := List.mem_map.1 hx2
    rfl
  have hI := offA_inv (l := []) (m := 0) hp (fun x hx => (h4 x hx).1) (srt_asc hg)
  obtain ⟨e1, e2⟩ := off4 ha0 ha1 (srt (xs.map to4)) (a, []) 0 h4 (Int.le_refl _) (by simp only; omega) (fun r hr => by simp at hr)
  refine ⟨(offA ⟨5, 4, a, 0⟩ [] 0 (srt (xs.map to4))).2, offR_yes hp (by decide) (by decide) hg, ?_, fun i r hr => ?_⟩
  · have h5 := hI.left
    have h6 : (offA ⟨5, 4, a, 0⟩ [] 0 (srt (xs.map to4))).1 = a - min a (owedS xs) := by
      rw [← owedS_map xs, ← owedS_perm (srt_perm0 hg)]
      have := e1
      rw [Int.zero_add] at this
      exact this
    simp only at h5
    omega
  · obtain ⟨_, _, h7, _⟩ := hI.each i r hr
    exact ⟨e2 r (List.mem_of_getElem? hr), h7.1, h7.2⟩
/-- the first k in currency 4, the others as they were -/
def upd (xs : List St) (k : Nat) : List St := (xs.take k).map to4 ++ xs.drop k
theorem upd_zero (xs : List St) : upd xs 0 = xs := by simp [upd]
theorem upd_all {xs : List St} {n : Nat} (h : xs.length = n) : upd xs n = xs.map to4 := by subst h; simp [upd]
theorem upd_len (xs : List St) (k : Nat) (h : k ≤ xs.length) : (upd xs k).length = xs.length := by
  unfold upd
  rw [List.length_append, List.length_map, List.length_take, List.length_drop]
  omega
theorem upd_at {xs : List St} {k : Nat} {x : St} (h : xs[k]? = some x) : (upd xs k)[k]? = some x := by
  have hk := (List.getElem?_eq_some_iff.1 h).1
  unfold upd
  rw [List.getElem?_append_right (by rw [List.length_map, List.length_take]; omega), List.length_map, List.length_take, List.getElem?_drop, show k + (k - min k xs.length) = k by omega]
  exact h
theorem upd_set {xs : List St} {k : Nat} {x : St} (h : xs[k]? = some x) : (upd xs k).set k (to4 x) = upd xs (k + 1) := by
  have hk := (List.getElem?_eq_some_iff.1 h).1
  have e1 : xs.drop k = x :: xs.drop (k + 1) := by
    rw [List.drop_eq_getElem_cons hk]
    congr 1
    exact (List.getElem?_eq_some_iff.1 h).2
  unfold upd
  rw [take_one h, List.map_append, e1, List.set_append, if_neg (by rw [List.length_map, List.length_take]; omega), List.length_map, List.length_take, show k - min k xs.length = 0 by omega, List.set_cons_zero, List.append_assoc]
  rfl
end Go.Proofs.Ytaifacnpnhcdcaa
