/-
  Recoveries among institutions: the plain functions.
-/
import Derived.Test.YtaifacnpnhcdcaaConvP
import Derived.Test.YtaifacnpnhcdcaaStd
namespace Go.Proofs.Ytaifacnpnhcdcaa
open Go.RowKit Mny

/-- an amount sent and credited -/
structure Tr where
  f : Int
  t : Int
  c : Int
  s : Int
  k : Int
/-- is a standing valid -/
def okS (x : St) : Bool := inB 0 5 x.s && (inB 1 999 x.c && (inB 0 1000000000000 x.a && inB 0 1000000000000 x.o))
/-- what one standing gives while so much is left -/
def giveT (p : St) (l : List Rt) (m left : Int) (x : St) : Option Tr :=
  if x.s = p.s ∨ x.o = 0 then none
  else if (convS x.o x.c p.c m l 2 1).2 = 0 then
    if (convS (min (convS x.o x.c p.c m l 2 1).1 left) p.c x.c m l 1 1).2 = 0 ∧ min (convS (min (convS x.o x.c p.c m l 2 1).1 left) p.c x.c m l 1 1).1 x.o ≠ 0 then
      some ⟨p.s, x.s, x.c, min (convS x.o x.c p.c m l 2 1).1 left, min (convS (min (convS x.o x.c p.c m l 2 1).1 left) p.c x.c m l 1 1).1 x.o⟩
    else none
  else none
theorem giveT_skip {p : St} {l : List Rt} {m left : Int} {x : St} (h : x.s = p.s ∨ x.o = 0) : giveT p l m left x = none := by unfold giveT; rw [if_pos h]
theorem giveT_bad {p : St} {l : List Rt} {m left A E : Int} {x : St} (h : convS x.o x.c p.c m l 2 1 = (A, E)) (hE : E ≠ 0) : giveT p l m left x = none := by
  unfold giveT
  split
  · rfl
  · rw [h, if_neg hE]
theorem giveT_bad2 {p : St} {l : List Rt} {m left A B E : Int} {x : St} (h : convS x.o x.c p.c m l 2 1 = (A, 0)) (h2 : convS (min A left) p.c x.c m l 1 1 = (B, E)) (hE : E ≠ 0 ∨ min B x.o = 0) : giveT p l m left x = none := by
  unfold giveT
  split
  · rfl
  · rw [h, if_pos rfl]
    simp only
    rw [h2, if_neg]
    rintro ⟨e1, e2⟩
    rcases hE with hE | hE
    · exact hE e1
    · exact e2 hE
theorem giveT_yes {p : St} {l : List Rt} {m left A B : Int} {x : St} (hs : ¬ (x.s = p.s ∨ x.o = 0)) (h : convS x.o x.c p.c m l 2 1 = (A, 0)) (h2 : convS (min A left) p.c x.c m l 1 1 = (B, 0)) (hE : min B x.o ≠ 0) : giveT p l m left x = some ⟨p.s, x.s, x.c, min A left, min B x.o⟩ := by
  unfold giveT
  rw [if_neg hs, h, if_pos rfl]
  simp only
  rw [h2, if_pos ⟨rfl, hE⟩]
theorem giveT_some {p : St} {l : List Rt} {m left : Int} {x : St} {r : Tr} (h : giveT p l m left x = some r) : x.s ≠ p.s ∧ x.o ≠ 0 ∧ ∃ A B, convS x.o x.c p.c m l 2 1 = (A, 0) ∧ convS (min A left) p.c x.c m l 1 1 = (B, 0) ∧ min B x.o ≠ 0 ∧ r = ⟨p.s, x.s, x.c, min A left, min B x.o⟩ := by
  unfold giveT at h
  split at h
  · cases h
  · rename_i h0
    split at h
    · rename_i h1
      split at h
      · rename_i h2
        injection h with h
        refine ⟨fun e => h0 (.inl e), fun e => h0 (.inr e), _, _, Prod.ext rfl h1, Prod.ext rfl h2.1, h2.2, h.symm⟩
      · cases h
    · cases h
/-- one standing more -/
def offF (p : St) (l : List Rt) (m : Int) (acc : Int × List Tr) (x : St) : Int × List Tr := match giveT p l m acc.1 x with
  | none => acc
  | some r => (acc.1 - r.s, acc.2 ++ [r])
theorem offF_none {p : St} {l : List Rt} {m left : Int} {out : List Tr} {x : St} (h : giveT p l m left x = none) : offF p l m (left, out) x = (left, out) := by unfold offF; simp only [h]
theorem offF_some {p : St} {l : List Rt} {m left : Int} {out : List Tr} {x : St} {r : Tr} (h : giveT p l m left x = some r) : offF p l m (left, out) x = (left - r.s, out ++ [r]) := by unfold offF; simp only [h]
/-- all standings, in this order -/
def offA (p : St) (l : List Rt) (m : Int) (xs : List St) : Int × List Tr := xs.foldl (offF p l m) (p.a, [])
theorem offA_snoc (p : St) (l : List Rt) (m : Int) (xs : List St) (x : St) : offA p l m (xs ++ [x]) = offF p l m (offA p l m xs) x := by simp [offA]
theorem offA_take {p : St} {l : List Rt} {m : Int} {xs : List St} {k : Nat} {x : St} (h : xs[k]? = some x) : offA p l m (xs.take (k + 1)) = offF p l m (offA p l m (xs.take k)) x := by
  have : xs.take (k + 1) = xs.take k ++ [x] := by rw [List.take_add_one, h]; rfl
  rw [this, offA_snoc]
/-- the standings of the states, in the states' order -/
def upTo (xs : List St) (n : Nat) : List St := (List.range n).flatMap fun (k : Nat) => xs.filter fun x => x.s == (k : Int)
def srt (xs : List St) : List St := upTo xs 6
/-- valid, and of different states -/
def GoodS (xs : List St) : Prop := (∀ x ∈ xs, okS x = true) ∧ xs.Pairwise fun a b => a.s ≠ b.s
instance (xs : List St) : Decidable (GoodS xs) := by unfold GoodS; exact inferInstance
/-- are the arguments of Offsets valid -/
def offB (p : St) (xs : List St) (l : List Rt) (m : Int) : Bool := okS p && (inB 0 2399 m && (decide (chkS l = 0) && decide (GoodS xs)))
/-- what Offsets returns -/
def offR (p : St) (xs : List St) (l : List Rt) (m : Int) : List Tr × Int := if offB p xs l m then ((offA p l m (srt xs)).2, 0) else ([], 1)
theorem offR_yes {p : St} {xs : List St} {l : List Rt} {m : Int} (h1 : okS p = true) (h2 : inB 0 2399 m = true) (h3 : chkS l = 0) (h4 : GoodS xs) : offR p xs l m = ((offA p l m (srt xs)).2, 0) := by
  unfold offR offB
  rw [if_pos]
  simp only [h1, h2, h3, h4, decide_true, Bool.and_self]
theorem offR_no {p : St} {xs : List St} {l : List Rt} {m : Int} (h : okS p = false ∨ inB 0 2399 m = false ∨ chkS l ≠ 0 ∨ ¬ GoodS xs) : offR p xs l m = ([], 1) := by
  unfold offR offB
  rw [if_neg]
  simp only [Bool.and_eq_true, decide_eq_true_eq]
  rintro ⟨a, b, c, d⟩
  rcases h with h | h | h | h
  · rw [h] at a; cases a
  · rw [h] at b; cases b
  · exact h c
  · exact h d

/-- strictly ascending lists with the same members are one -/
theorem asc_eq : ∀ {xs ys : List St}, xs.Pairwise (fun a b => a.s < b.s) → ys.Pairwise (fun a b => a.s < b.s) → (∀ x, x ∈ xs ↔ x ∈ ys) → xs = ys := by
  intro xs
  induction xs with
  | nil =>
    intro ys _ _ h
    cases ys with
    | nil => rfl
    | cons y ys => exact absurd ((h y).2 (List.mem_cons_self ..)) (by simp)
  | cons x xs ih =>
    intro ys h1 h2 h
    cases ys with
    | nil => exact absurd ((h x).1 (List.mem_cons_self ..)) (by simp)
    | cons y ys =>
      rw [List.pairwise_cons] at h1 h2
      have e : x = y := by
        rcases List.mem_cons.1 ((h x).1 (List.mem_cons_self ..)) with e | e
        · exact e
        · rcases List.mem_cons.1 ((h y).2 (List.mem_cons_self ..)) with e2 | e2
          · exact e2.symm
          · have a := h2.1 x e
            have b := h1.1 y e2
            omega
      subst e
      congr 1
      refine ih h1.2 h2.2 fun z => ?_
      constructor
      · intro hz
        rcases List.mem_cons.1 ((h z).1 (List.mem_cons_of_mem _ hz)) with e | e
        · subst e
          have := h1.1 z hz
          omega
        · exact e
      · intro hz
        rcases List.mem_cons.1 ((h z).2 (List.mem_cons_of_mem _ hz)) with e | e
        · subst e
          have := h2.1 z hz
          omega
        · exact e
theorem GoodS.perm {xs ys : List St} (h : GoodS xs) (hp : xs.Perm ys) : GoodS ys := ⟨fun x hx => h.1 x (hp.mem_iff.2 hx), (hp.pairwise_iff (fun e => e.symm)).1 h.2⟩
theorem upTo_asc {xs : List St} (h : xs.Pairwise fun a b => a.s ≠ b.s) : ∀ n, (upTo xs n).Pairwise (fun a b => a.s < b.s) ∧ ∀ x ∈ upTo xs n, x.s < (n : Int) := by
  intro n
  induction n with
  | zero => exact ⟨List.Pairwise.nil, fun x hx => by simp [upTo] at hx⟩
  | succ n ih =>
    have e : upTo xs (n + 1) = upTo xs n ++ xs.filter (fun x => x.s == (n : Int)) := by simp [upTo, List.range_succ]
    rw [e]
    constructor
    · rw [List.pairwise_append]
      refine ⟨ih.1, ?_, ?_⟩
      · have hf := h.filter (fun x => x.s == (n : Int))
        refine List.Pairwise.imp_of_mem (fun ha hb hab => ?_) hf
        have h1 := (List.mem_filter.1 ha).2
        have h2 := (List.mem_filter.1 hb).2
        rw [beq_iff_eq] at h1 h2
        exact absurd (h1.trans h2.symm) hab
      · intro a ha b hb
        have h2 := (List.mem_filter.1 hb).2
        rw [beq_iff_eq] at h2
        have := ih.2 a ha
        omega
    · intro x hx
      rcases List.mem_append.1 hx with hx | hx
      · have := ih.2 x hx
        omega
      · have h2 := (List.mem_filter.1 hx).2
        rw [beq_iff_eq] at h2
        omega
theorem mem_upTo {xs : List St} {n : Nat} {x : St} : x ∈ upTo xs n ↔ x ∈ xs ∧ 0 ≤ x.s ∧ x.s < (n : Int) := by
  unfold upTo
  simp only [List.mem_flatMap, List.mem_range, List.mem_filter, beq_iff_eq]
  constructor
  · rintro ⟨k, hk, hx, e⟩
    exact ⟨hx, by omega, by omega⟩
  · rintro ⟨hx, h0, h1⟩
    exact ⟨x.s.toNat, by omega, hx, by omega⟩
theorem okS_s {x : St} (h : okS x = true) : 0 ≤ x.s ∧ x.s ≤ 5 := by
  unfold okS at h
  simp only [Bool.and_eq_true, inB_iff] at h
  exact h.1
theorem srt_asc {xs : List St} (h : GoodS xs) : (srt xs).Pairwise (fun a b => a.s < b.s) := (upTo_asc h.2 6).1
theorem mem_srt {xs : List St} (h : GoodS xs) {x : St} : x ∈ srt xs ↔ x ∈ xs := by
  unfold srt
  rw [mem_upTo]
  exact ⟨fun a => a.1, fun a => ⟨a, (okS_s (h.1 x a)).1, by have := (okS_s (h.1 x a)).2; omega⟩⟩
/-- an ascending list of the same standings is the ordered one -/
theorem srt_eq {xs ys : List St} (h : GoodS xs) (hp : xs.Perm ys) (hs : ys.Pairwise fun a b => a.s ≤ b.s) : ys = srt xs := by
  refine asc_eq ?_ (srt_asc h) fun x => ?_
  · exact (hs.and (h.perm hp).2).imp fun ⟨h1, h2⟩ => by omega
  · rw [mem_srt h]
    exact hp.symm.mem_iff
/-- the order does not matter -/
theorem srt_perm {xs ys : List St} (h : GoodS xs) (hp : xs.Perm ys) : srt ys = srt xs := by
  refine srt_eq h (hp.trans ?_) ((srt_asc (h.perm hp)).imp fun h => Int.le_of_lt h)
  refine (List.perm_ext_iff_of_nodup ?_ ?_).2 fun x => (mem_srt (h.perm hp)).symm
  · exact (h.perm hp).2.imp fun h e => h (by rw [e])
  · exact (srt_asc (h.perm hp)).imp fun h e => by rw [e] at h; omega
theorem offR_perm {p : St} {xs ys : List St} {l : List Rt} {m : Int} (hp : xs.Perm ys) : offR p ys l m = offR p xs l m := by
  by_cases h : GoodS xs
  · unfold offR offB
    rw [srt_perm h hp]
    have : decide (GoodS ys) = decide (GoodS xs) := by
      rw [decide_eq_decide]
      exact ⟨fun h2 => h2.perm hp.symm, fun h2 => h2.perm hp⟩
    rw [this]
  · rw [offR_no (.inr (.inr (.inr h))), offR_no (.inr (.inr (.inr fun h2 => h (h2.perm hp.symm))))]
end Go.Proofs.Ytaifacnpnhcdcaa
