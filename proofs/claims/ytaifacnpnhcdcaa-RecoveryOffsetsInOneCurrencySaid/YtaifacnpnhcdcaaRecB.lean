/-
  Recoveries among institutions: what the plain functions keep.
-/
import Derived.Test.YtaifacnpnhcdcaaRecP
namespace Go.Proofs.Ytaifacnpnhcdcaa
open Go.RowKit Mny

theorem rnd_rng {m n d A : Int} (hn : 0 ≤ n) (hd : 0 < d) (h : rnd m 1 n d = (A, 0)) : 0 ≤ A ∧ A ≤ 1000000000000 := by
  obtain ⟨h1, h2⟩ := rnd_ok h
  unfold okU at h1
  simp only [Bool.and_eq_true, decide_eq_true_eq, Int.ediv_one] at h1
  have h3 := units_bd m n (d * 1)
  have h4 : 0 ≤ n / (d * 1) := Int.ediv_nonneg hn (by omega)
  omega
theorem conv_rng {x f t a m A : Int} {l : List Rt} (hx : 0 ≤ x) (h : convS x f t a l m 1 = (A, 0)) : 0 ≤ A ∧ A ≤ 1000000000000 := by
  obtain ⟨hb, _⟩ := conv_ok h
  have hb' := hb
  unfold convB at hb'
  simp only [Bool.and_eq_true, inB_iff, decide_eq_true_eq] at hb'
  obtain ⟨_, _, _, _, hr, hc⟩ := hb'
  by_cases he : f = t
  · rw [convS_same hb he] at h
    exact rnd_rng hx (by omega) h
  · obtain ⟨v1, v2, vb, hv1⟩ : ∃ n d b, valS l f a = (n, d, b) := ⟨_, _, _, rfl⟩
    obtain ⟨w1, w2, wb, hw1⟩ : ∃ n d b, valS l t a = (n, d, b) := ⟨_, _, _, rfl⟩
    rcases Bool.eq_false_or_eq_true (vb && wb) with hbb | hbb
    · rw [Bool.and_eq_true] at hbb
      obtain ⟨rfl, rfl⟩ := hbb
      obtain ⟨⟨a1, a2⟩, a3, a4⟩ := val_small hc hv1
      obtain ⟨⟨b1, b2⟩, b3, b4⟩ := val_small hc hw1
      rw [convS_yes hb he hv1 hw1] at h
      exact rnd_rng (Int.mul_nonneg hx (Int.mul_nonneg (by omega) (by omega))) (Int.mul_pos (by omega) (by omega)) h
    · rw [convS_none hb he hv1 hw1 hbb] at h
      have h2 : (9 : Int) = 0 := congrArg Prod.snd h
      omega
theorem conv_zero {f t a B : Int} {l : List Rt} (h : convS 0 f t a l 1 1 = (B, 0)) : B = 0 := by
  obtain ⟨hb, _⟩ := conv_ok h
  by_cases he : f = t
  · rw [convS_same hb he] at h
    have := (rnd_11_ok h).1
    rw [this, Int.zero_ediv]
  · obtain ⟨v1, v2, vb, hv1⟩ : ∃ n d b, valS l f a = (n, d, b) := ⟨_, _, _, rfl⟩
    obtain ⟨w1, w2, wb, hw1⟩ : ∃ n d b, valS l t a = (n, d, b) := ⟨_, _, _, rfl⟩
    rcases Bool.eq_false_or_eq_true (vb && wb) with hbb | hbb
    · rw [Bool.and_eq_true] at hbb
      obtain ⟨rfl, rfl⟩ := hbb
      rw [convS_yes hb he hv1 hw1] at h
      have := (rnd_11_ok h).1
      rw [this, Int.zero_mul, Int.zero_ediv]
    · rw [convS_none hb he hv1 hw1 hbb] at h
      have h2 : (9 : Int) = 0 := congrArg Prod.snd h
      omega
theorem okS_all {x : St} (h : okS x = true) : (0 ≤ x.s ∧ x.s ≤ 5) ∧ (1 ≤ x.c ∧ x.c ≤ 999) ∧ (0 ≤ x.a ∧ x.a ≤ 1000000000000) ∧ (0 ≤ x.o ∧ x.o ≤ 1000000000000) := by
  unfold okS at h
  simp only [Bool.and_eq_true, inB_iff] at h
  exact ⟨h.1, h.2.1, h.2.2.1, h.2.2.2⟩
theorem giveT_bd {p : St} {l : List Rt} {m left : Int} {x : St} {r : Tr} (ho : okS x = true) (h0 : 0 ≤ left) (h : giveT p l m left x = some r) :
    r.f = p.s ∧ r.t = x.s ∧ r.c = x.c ∧ r.t ≠ p.s ∧ (1 ≤ r.s ∧ r.s ≤ left) ∧ (1 ≤ r.k ∧ r.k ≤ x.o) := by
  obtain ⟨h1, h2, A, B, hA, hB, h3, rfl⟩ := giveT_some h
  obtain ⟨_, _, _, o0, o1⟩ := okS_all ho
  have a := conv_rng o0 hA
  have hs : 0 ≤ min A left := by omega
  have b := conv_rng hs hB
  have hs1 : min A left ≠ 0 := fun e => by
    rw [e] at hB
    have := conv_zero hB
    subst this
    omega
  refine ⟨rfl, rfl, rfl, h1, ⟨?_, ?_⟩, ⟨?_, ?_⟩⟩
  · show 1 ≤ min A left; omega
  · show min A left ≤ left; omega
  · show 1 ≤ min B x.o; omega
  · show min B x.o ≤ x.o; omega
/-- what was sent together -/
def sumT : List Tr → Int
  | [] => 0
  | r :: rs => r.s + sumT rs
theorem sumT_app (a b : List Tr) : sumT (a ++ b) = sumT a + sumT b := by
  induction a with
  | nil => simp [sumT]
  | cons r a ih => simp only [List.cons_append, sumT, ih]; omega
theorem sumT_take {out : List Tr} {k : Nat} {r : Tr} (h : out[k]? = some r) : sumT (out.take (k + 1)) = sumT (out.take k) + r.s := by
  rw [List.take_add_one, h, sumT_app]
  simp [sumT]
/-- what holds of each transfer -/
def OkT (p : St) (xs : List St) (out : List Tr) (i : Nat) (r : Tr) : Prop :=
  r.f = p.s ∧ r.t ≠ p.s ∧ (1 ≤ r.s ∧ r.s ≤ p.a - sumT (out.take i)) ∧ 1 ≤ r.k ∧ (∃ x ∈ xs, x.s = r.t ∧ x.c = r.c ∧ r.k ≤ x.o) ∧ ∀ j q, j < i → out[j]? = some q → q.t < r.t
structure InvT (p : St) (xs rest : List St) (acc : Int × List Tr) : Prop where
  left : acc.1 = p.a - sumT acc.2
  low : 0 ≤ acc.1
  each : ∀ i r, acc.2[i]? = some r → OkT p xs acc.2 i r
  lt : ∀ r ∈ acc.2, ∀ x ∈ rest, r.t < x.s
  len : acc.2.length + rest.length ≤ xs.length
theorem InvT.step {p : St} {l : List Rt} {m : Int} {xs rest : List St} {x : St} {acc : Int × List Tr} (h : InvT p xs (x :: rest) acc) (ho : okS x = true) (hx : x ∈ xs) (hr : ∀ y ∈ rest, x.s < y.s) : InvT p xs rest (offF p l m acc x) := by
  obtain ⟨left, out⟩ := acc
  have hlen := h.len
  simp only [List.length_cons] at hlen
  rcases hg : giveT p l m left x with _ | r
  · rw [offF_none hg]
    exact ⟨h.left, h.low, h.each, fun r hr x hx => h.lt r hr x (List.mem_cons_of_mem _ hx), by simp only; omega⟩
  · rw [offF_some hg]
    obtain ⟨e1, e2, e3, e4, e5, e6⟩ := giveT_bd ho h.low hg
    have hl := h.left
    simp only at hl
    refine ⟨?_, ?_, ?_, ?_, ?_⟩
    · simp only [sumT_app, sumT]; omega
    · show 0 ≤ left - r.s; omega
    · intro i q hq
      simp only at hq
      rw [List.getElem?_append] at hq
      split at hq
      · rename_i hi
        obtain ⟨a, b, c, d, e, f⟩ := h.each i q hq
        refine ⟨a, b, ?_, d, e, ?_⟩
        · simp only
          rw [List.take_append_of_le_length (by omega)]
          exact c
        · intro j y hj hy
          simp only at hy
          rw [List.getElem?_append_left (by omega)] at hy
          exact f j y hj hy
      · rename_i hi
        have hi2 : i - out.length = 0 := by
          have := (List.getElem?_eq_some_iff.1 hq).1
          simp at this
          omega
        have hi3 : i = out.length := by omega
        subst hi3
        rw [Nat.sub_self] at hq
        injection hq with hq
        subst hq
        refine ⟨e1, e4, ?_, e6.1, ⟨x, hx, e2.symm, e3.symm, e6.2⟩, ?_⟩
        · simp only
          rw [List.take_append_of_le_length (Nat.le_refl _), List.take_length]
          omega
        · intro j y hj hy
          simp only at hy
          rw [List.getElem?_append_left hj] at hy
          have := h.lt y (List.mem_of_getElem? hy) x (List.mem_cons_self ..)
          omega
    · intro q hq y hy
      rcases List.mem_append.1 hq with hq | hq
      · exact h.lt q hq y (List.mem_cons_of_mem _ hy)
      · rw [List.mem_singleton] at hq
        subst hq
        rw [e2]
        exact hr y hy
    · simp only [List.length_append, List.length_singleton]; omega
theorem InvT.all {p : St} {l : List Rt} {m : Int} {xs : List St} : ∀ (rest : List St) (acc : Int × List Tr), InvT p xs rest acc → (∀ x ∈ rest, okS x = true ∧ x ∈ xs) → rest.Pairwise (fun a b => a.s < b.s) → InvT p xs [] (rest.foldl (offF p l m) acc)
  | [], _, h, _, _ => h
  | x :: rest, acc, h, ho, ha => by
    rw [List.pairwise_cons] at ha
    exact InvT.all rest _ (h.step (ho x (List.mem_cons_self ..)).1 (ho x (List.mem_cons_self ..)).2 ha.1) (fun y hy => ho y (List.mem_cons_of_mem _ hy)) ha.2
theorem offA_inv {p : St} {l : List Rt} {m : Int} {xs : List St} (hp : okS p = true) (ho : ∀ x ∈ xs, okS x = true) (ha : xs.Pairwise (fun a b => a.s < b.s)) : InvT p xs [] (offA p l m xs) :=
  InvT.all xs _ ⟨by simp [sumT], (okS_all hp).2.2.1.1, fun i r h => by simp at h, fun r h => by simp at h, by simp⟩ (fun x hx => ⟨ho x hx, hx⟩) ha
theorem sumT_nonneg : ∀ {out : List Tr}, (∀ r ∈ out, 1 ≤ r.s) → 0 ≤ sumT out
  | [], _ => Int.le_refl _
  | r :: out, h => by
    have := sumT_nonneg (out := out) fun x hx => h x (List.mem_cons_of_mem _ hx)
    have h2 := h r (List.mem_cons_self ..)
    simp only [sumT]; omega
/-- how much is left, on the way, and how many transfers there are -/
theorem offA_bd {p : St} {l : List Rt} {m : Int} {xs : List St} (hp : okS p = true) (ho : ∀ x ∈ xs, okS x = true) : (0 ≤ (offA p l m xs).1 ∧ (offA p l m xs).1 ≤ 1000000000000) ∧ (offA p l m xs).2.length ≤ xs.length := by
  have go : ∀ (rest : List St) (acc : Int × List Tr), (∀ x ∈ rest, okS x = true) → (0 ≤ acc.1 ∧ acc.1 ≤ 1000000000000) → (0 ≤ (rest.foldl (offF p l m) acc).1 ∧ (rest.foldl (offF p l m) acc).1 ≤ 1000000000000) ∧ (rest.foldl (offF p l m) acc).2.length ≤ acc.2.length + rest.length := by
    intro rest
    induction rest with
    | nil => intro acc _ h; exact ⟨h, by simp⟩
    | cons x rest ih =>
      intro acc ho h
      obtain ⟨left, out⟩ := acc
      rw [List.foldl_cons]
      have h2 : (0 ≤ (offF p l m (left, out) x).1 ∧ (offF p l m (left, out) x).1 ≤ 1000000000000) ∧ (offF p l m (left, out) x).2.length ≤ out.length + 1 := by
        rcases hg : giveT p l m left x with _ | r
        · rw [offF_none hg]; exact ⟨h, by simp⟩
        · rw [offF_some hg]
          obtain ⟨_, _, _, _, e5, _⟩ := giveT_bd (ho x (List.mem_cons_self ..)) h.1 hg
          simp only at h e5
          exact ⟨⟨by simp only; omega, by simp only; omega⟩, by simp⟩
      obtain ⟨h3, h4⟩ := ih _ (fun y hy => ho y (List.mem_cons_of_mem _ hy)) h2.1
      exact ⟨h3, by simp only [List.length_cons]; omega⟩
  have := go xs (p.a, []) ho (okS_all hp).2.2.1
  exact ⟨this.1, by simpa [offA] using this.2⟩
end Go.Proofs.Ytaifacnpnhcdcaa
