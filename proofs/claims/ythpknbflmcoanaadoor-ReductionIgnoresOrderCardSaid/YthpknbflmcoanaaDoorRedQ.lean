/-
  Plain laws of reduction: the order of the deductions, what is deducted because of one element, and monotony.
-/
import Derived.Test.YthpknbflmcoanaaDoorRedP
namespace Go.Proofs.YthpknbflmcoanaaDoor
open Go.RowKit Mny

def Before (a b : Ded) : Prop := a.i < b.i ∨ a.i = b.i ∧ a.j < b.j
/-- the sum of the deductions because of element j, among the first k -/
def fromK (ds : List Ded) (j : Nat) : Nat → Int
  | 0 => 0
  | k + 1 => match ds[k]? with
    | some r => if r.j = (j : Int) then fromK ds j k + r.v else fromK ds j k
    | none => fromK ds j k
def fromF (j : Nat) (ds : List Ded) (a : Int) : Int := ds.foldl (fun a r => if r.j = (j : Int) then a + r.v else a) a

section
variable {l l' : List Gr} {rt : List Rt} {m : Int} {g f : Gr} {i j k x y : Nat} {xs ds : List Ded} {s : Int}
theorem dedRow_mem {r : Ded} : r ∈ dedRow l rt m g i xs k → r ∈ xs ∨ (r.i = (i : Int) ∧ ∃ y : Nat, y < k ∧ r.j = (y : Int) ∧ 0 < r.v ∧ r.v = partS l rt m g y) := by
  induction k with
  | zero => intro h; exact .inl h
  | succ k ih =>
    intro h
    rw [dedRow, addD] at h
    split at h
    · rename_i hp
      rw [List.mem_append] at h
      rcases h with h | h
      · rcases ih h with h | ⟨h1, y, h2, h3⟩
        · exact .inl h
        · exact .inr ⟨h1, y, by omega, h3⟩
      · simp at h
        subst h
        exact .inr ⟨rfl, k, by omega, rfl, hp, rfl⟩
    · rcases ih h with h | ⟨h1, y, h2, h3⟩
      · exact .inl h
      · exact .inr ⟨h1, y, by omega, h3⟩
theorem dedK_mem {r : Ded} : k ≤ l.length → r ∈ dedK l rt m k → ∃ (x y : Nat) (g : Gr), x < k ∧ l[x]? = some g ∧ redB g = true ∧ y < l.length ∧ r.i = (x : Int) ∧ r.j = (y : Int) ∧ 0 < r.v ∧ r.v = partS l rt m g y := by
  induction k with
  | zero => intro _ h; simp [dedK] at h
  | succ k ih =>
    intro hk h
    obtain ⟨q, hq⟩ : ∃ q, l[k]? = some q := ⟨_, List.getElem?_eq_getElem (show k < l.length by omega)⟩
    cases hb : redB q
    · rw [dedK_no hq hb] at h
      obtain ⟨x, y, g, h1, h2⟩ := ih (by omega) h
      exact ⟨x, y, g, by omega, h2⟩
    · rw [dedK_yes hq hb] at h
      rcases dedRow_mem h with h | ⟨h1, y, h2, h3, h4, h5⟩
      · obtain ⟨x, y, g, h1, h2⟩ := ih (by omega) h
        exact ⟨x, y, g, by omega, h2⟩
      · exact ⟨k, y, q, by omega, hq, hb, h2, h1, h3, h4, h5⟩
theorem dedRow_sorted (hs : xs.Pairwise Before) (h : ∀ r ∈ xs, r.i < (i : Int)) : (dedRow l rt m g i xs k).Pairwise Before := by
  induction k with
  | zero => exact hs
  | succ k ih =>
    rw [dedRow, addD]
    split
    · rw [List.pairwise_append]
      refine ⟨ih, List.pairwise_singleton _ _, fun a ha b hb => ?_⟩
      simp at hb
      subst hb
      rcases dedRow_mem ha with ha | ⟨h1, y, h2, h3, _⟩
      · exact .inl (h a ha)
      · exact .inr ⟨h1, by simp only; omega⟩
    · exact ih
theorem dedK_sorted : k ≤ l.length → (dedK l rt m k).Pairwise Before := by
  induction k with
  | zero => intro _; exact List.Pairwise.nil
  | succ k ih =>
    intro hk
    obtain ⟨q, hq⟩ : ∃ q, l[k]? = some q := ⟨_, List.getElem?_eq_getElem (show k < l.length by omega)⟩
    cases hb : redB q
    · rw [dedK_no hq hb]; exact ih (by omega)
    · rw [dedK_yes hq hb]
      refine dedRow_sorted (ih (by omega)) (fun r hr => ?_)
      obtain ⟨x, _, _, h1, _, _, _, h2, _⟩ := dedK_mem (by omega) hr
      omega
theorem dedS_next {a b : Ded} (ha : (dedS l rt m)[k]? = some a) (hb : (dedS l rt m)[k + 1]? = some b) : Before a b := by
  obtain ⟨h1, rfl⟩ := List.getElem?_eq_some_iff.1 ha
  obtain ⟨h2, rfl⟩ := List.getElem?_eq_some_iff.1 hb
  exact List.pairwise_iff_getElem.1 (dedK_sorted (Nat.le_refl _)) k (k + 1) h1 h2 (by omega)
/-- where there is a deduction, the states differ -/
theorem dedS_states {r : Ded} (h : (dedS l rt m)[k]? = some r) : ∃ (x y : Nat) (g f : Gr), r.i = (x : Int) ∧ r.j = (y : Int) ∧ l[x]? = some g ∧ l[y]? = some f ∧ g.s ≠ f.s := by
  obtain ⟨x, y, g, h1, h2, _, h3, h4, h5, h6, h7⟩ := dedK_mem (Nat.le_refl _) (List.mem_of_getElem? h)
  obtain ⟨f, hf⟩ : ∃ f, l[y]? = some f := ⟨_, List.getElem?_eq_getElem h3⟩
  refine ⟨x, y, g, f, h4, h5, h2, hf, fun e => ?_⟩
  rw [partS_at hf, partB_1 e.symm] at h7
  simp at h7
  omega
theorem fromK_hit {r : Ded} (h : ds[k]? = some r) (he : r.j = (j : Int)) : fromK ds j (k + 1) = fromK ds j k + r.v := by rw [fromK, h]; simp [he]
theorem fromK_miss {r : Ded} (h : ds[k]? = some r) (he : ¬ r.j = (j : Int)) : fromK ds j (k + 1) = fromK ds j k := by rw [fromK, h]; simp [he]
theorem fromK_take : k ≤ ds.length → fromK ds j k = fromF j (ds.take k) 0 := by
  induction k with
  | zero => intro _; rfl
  | succ k ih =>
    intro hk
    obtain ⟨q, hg⟩ : ∃ q, ds[k]? = some q := ⟨_, List.getElem?_eq_getElem (show k < ds.length by omega)⟩
    have h1 := ih (by omega)
    unfold fromF at h1 ⊢
    rw [List.take_add_one, hg, List.foldl_append, ← h1]
    by_cases e : q.j = (j : Int)
    · rw [fromK_hit hg e]; simp [e]
    · rw [fromK_miss hg e]; simp [e]
theorem fromK_all : fromK ds j ds.length = fromF j ds 0 := by rw [fromK_take (Nat.le_refl _), List.take_length]
theorem fromF_snoc {r : Ded} {z : Int} : fromF j (ds ++ [r]) z = if r.j = (j : Int) then fromF j ds z + r.v else fromF j ds z := by unfold fromF; rw [List.foldl_append]; rfl
theorem fromF_row (hj : j < k) : fromF j (dedRow l rt m g i xs k) 0 = fromF j xs 0 + max 0 (partS l rt m g j) ∧ True := by
  have far : ∀ q : Nat, q ≤ j → fromF j (dedRow l rt m g i xs q) 0 = fromF j xs 0 := by
    intro q
    induction q with
    | zero => intro _; rfl
    | succ q ih =>
      intro hq
      rw [dedRow, addD]
      split
      · rw [fromF_snoc, if_neg (by simp only; omega)]; exact ih (by omega)
      · exact ih (by omega)
  refine ⟨?_, trivial⟩
  induction k with
  | zero => omega
  | succ k ih =>
    rw [dedRow, addD]
    by_cases e : k = j
    · subst e
      split
      · rw [fromF_snoc, if_pos rfl, far k (Nat.le_refl _)]; simp only; omega
      · rw [far k (Nat.le_refl _)]; omega
    · split
      · rw [fromF_snoc, if_neg (by simp only; omega)]; exact ih (by omega)
      · exact ih (by omega)
/-- all together deduct at most q shares -/
theorem fromF_ded {P : Int} (hf : l[j]? = some f) (hP : 0 ≤ P) (h : ∀ g ∈ l, redB g = true → g.s ≠ f.s → partS l rt m g j ≤ P) : k ≤ l.length → fromF j (dedK l rt m k) 0 ≤ ((redK l f.s k).length : Int) * P := by
  induction k with
  | zero => intro _; simp [dedK, fromF, redK]
  | succ k ih =>
    intro hk
    have h1 := ih (by omega)
    obtain ⟨q, hq⟩ : ∃ q, l[k]? = some q := ⟨_, List.getElem?_eq_getElem (show k < l.length by omega)⟩
    cases hb : redB q
    · rw [dedK_no hq hb, redK_no (by rw [redI_at hq, hb, Bool.and_false])]; exact h1
    · rw [dedK_yes hq hb, (fromF_row (List.getElem?_eq_some_iff.1 hf).1).1]
      by_cases e : q.s = f.s
      · rw [redK_no (by rw [redI_at hq, e]; simp), partS_at hf, partB_1 e.symm]
        simpa using h1
      · have h2 := h q (List.mem_of_getElem? hq) hb e
        rw [redK_yes (by rw [redI_at hq, hb]; simp [e]), List.length_append]
        simp only [List.length_cons, List.length_nil, Int.natCast_add, Int.natCast_one, Int.add_mul, Int.one_mul, Nat.zero_add]
        omega
theorem dedS_from (hc : ∀ g ∈ l, g.c = 1) (hm : 0 ≤ m ∧ m ≤ 2399) (hr : chkS rt = 0) (hf : l[j]? = some f) (ho : ∀ g ∈ l, okG g = true) (hfb : 0 ≤ grossV f ∧ grossV f ≤ 1000000000000) :
    fromK (dedS l rt m) j (dedS l rt m).length ≤ grossV f := by
  obtain ⟨q, hq⟩ : ∃ q, (redK l f.s l.length).length = q := ⟨_, rfl⟩
  have hP : 0 ≤ (grossV f).tdiv q := Int.tdiv_nonneg hfb.1 (Int.natCast_nonneg _)
  have h1 := fromF_ded (l := l) (rt := rt) (m := m) hf hP (fun g hg hb e => by
    rw [partS_at hf]
    split
    · rw [hq]
      obtain ⟨e1, e2, e3⟩ := partV_one (q := q) (by rw [hc f (List.mem_of_getElem? hf), hc g hg]) (ho g hg) hfb hm hr
      rw [e1]; exact e3
    · exact hP) (Nat.le_refl l.length)
  rw [fromK_all]
  unfold dedS
  rw [hq] at h1
  have h2 : (q : Int) * (grossV f).tdiv q ≤ grossV f := by
    rw [Int.tdiv_eq_ediv_of_nonneg hfb.1, Int.mul_comm]
    by_cases h0 : q = 0
    · subst h0; simp; exact hfb.1
    · exact Int.ediv_mul_le _ (by omega)
  omega
theorem fromK_bd (h : ∀ r ∈ ds, 0 < r.v ∧ r.v ≤ 1000000000000) : 0 ≤ fromK ds j k ∧ fromK ds j k ≤ (k : Int) * 1000000000000 := by
  induction k with
  | zero => simp [fromK]
  | succ k ih =>
    rw [fromK]
    split
    · rename_i r hr
      have := h r (List.mem_of_getElem? hr)
      split <;> omega
    · omega

theorem sumI_le : ∀ {a b : List Int}, a.length = b.length → (∀ (i : Nat) (u v : Int), a[i]? = some u → b[i]? = some v → u ≤ v) → sumI a ≤ sumI b
  | [], [], _, _ => Int.le_refl _
  | [], _ :: _, h, _ => by simp at h
  | _ :: _, [], h, _ => by simp at h
  | u :: a, v :: b, h, hp => by
    have h1 := hp 0 u v rfl rfl
    have h2 := sumI_le (a := a) (b := b) (by simpa using h) (fun i u' v' h3 h4 => hp (i + 1) u' v' (by simpa using h3) (by simpa using h4))
    simp only [sumI]; omega
theorem cntR_set {gk gk' : Gr} (hk : l[k]? = some gk) (hb : redB gk = false) (hb' : redB gk' = false) : cntR (l.set k gk') s = cntR l s := by
  induction l generalizing k with
  | nil => rfl
  | cons u l ih =>
    cases k with
    | zero =>
      simp at hk
      subst hk
      simp [cntR, hb, hb']
    | succ k =>
      have := ih (k := k) (by simpa using hk)
      unfold cntR at this ⊢
      rw [List.set_cons_succ, List.filter_cons, List.filter_cons]
      split
      · simp only [List.length_cons, this]
      · exact this
/-- a greater benefit of an element that does not reduce never raises another's net amount -/
theorem net_mono {gk gk' : Gr} (hk : l[k]? = some gk) (hb : gk.n = 0) (hb' : gk'.n = 0) (hs : gk'.s = gk.s) (hcc : gk'.c = 1) (hgr : grossV gk ≤ grossV gk')
    (hgb' : grossV gk' ≤ 1000000000000)
    (hc : ∀ g ∈ l, g.c = 1) (ho : ∀ g ∈ l, okG g = true) (hgb : ∀ g ∈ l, 0 ≤ grossV g ∧ grossV g ≤ 1000000000000) (hm : 0 ≤ m ∧ m ≤ 2399) (hr : chkS rt = 0) (hx : l[x]? = some g) :
    (netG (l.set k gk') rt m g).a ≤ (netG l rt m g).a := by
  have hrb : redB gk = false := by unfold redB; rw [hb]; rfl
  have hrb' : redB gk' = false := by unfold redB; rw [hb']; rfl
  have hg := List.mem_of_getElem? hx
  have h1 : dedT l rt m g ≤ dedT (l.set k gk') rt m g := by
    unfold dedT
    split
    · have hsum : sumI (l.map (dedV l rt m g)) ≤ sumI ((l.set k gk').map (dedV (l.set k gk') rt m g)) := by
        refine sumI_le (by simp) (fun i u v hu hv => ?_)
        rw [List.getElem?_map, Option.map_eq_some_iff] at hu hv
        obtain ⟨f, hf, rfl⟩ := hu
        obtain ⟨f', hf', rfl⟩ := hv
        have hff : f'.s = f.s ∧ f'.c = 1 ∧ grossV f ≤ grossV f' ∧ grossV f' ≤ 1000000000000 := by
          by_cases e : k = i
          · subst e
            rw [List.getElem?_set_self (List.getElem?_eq_some_iff.1 hk).1] at hf'
            rw [hk] at hf
            injection hf with hf
            injection hf' with hf'
            subst hf hf'
            exact ⟨hs, hcc, hgr, hgb'⟩
          · rw [List.getElem?_set_ne e, hf] at hf'
            injection hf' with hf'
            subst hf'
            exact ⟨rfl, hc f (List.mem_of_getElem? hf), Int.le_refl _, (hgb f (List.mem_of_getElem? hf)).2⟩
        obtain ⟨f1, f2, f3, f4⟩ := hff
        have hf0 := hgb f (List.mem_of_getElem? hf)
        unfold dedV
        rw [cntR_set hk hrb hrb', f1]
        obtain ⟨a1, a2, a3⟩ := partV_one (q := cntR l f.s) (f := f) (by rw [hc f (List.mem_of_getElem? hf), hc g hg]) (ho g hg) hf0 hm hr
        obtain ⟨b1, b2, b3⟩ := partV_one (q := cntR l f.s) (f := f') (by rw [f2, hc g hg]) (ho g hg) ⟨by omega, f4⟩ hm hr
        rw [a1, b1]
        have hle : (grossV f).tdiv (cntR l f.s) * g.n / g.d ≤ (grossV f').tdiv (cntR l f.s) * g.n / g.d := by
          obtain ⟨gs, gb, gc, gi, gp, gn, gd⟩ := g
          obtain ⟨_, _, _, _, _, h6, h7, h8⟩ := okG_iff.1 (ho _ hg)
          have hd : 0 < gd := by
            have := h6
            unfold validF at this
            simp at this
            omega
          refine Int.ediv_le_ediv hd (Int.mul_le_mul_of_nonneg_right ?_ h7)
          rw [Int.tdiv_eq_ediv_of_nonneg hf0.1, Int.tdiv_eq_ediv_of_nonneg (by omega)]
          by_cases h0 : cntR l f.s = 0
          · rw [h0]; simp
          · exact Int.ediv_le_ediv (Int.natCast_pos.2 (Nat.pos_of_ne_zero h0)) f3
        by_cases p : partB g f = true
        · have p' : partB g f' = true := by
            unfold partB at p ⊢
            simp only [Bool.and_eq_true, bne_iff_ne, ne_eq] at p ⊢
            rw [f1]
            exact ⟨p.1, by omega⟩
          rw [if_pos p, if_pos p']
          omega
        · rw [if_neg p]
          split <;> omega
      omega
    · exact Int.le_refl _
  unfold netG
  simp only
  omega
end
end Go.Proofs.YthpknbflmcoanaaDoor
