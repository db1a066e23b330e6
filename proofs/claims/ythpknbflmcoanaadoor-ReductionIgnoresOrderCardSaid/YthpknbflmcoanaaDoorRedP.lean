/-
  Plain laws of reduction: what an element deducts, as a sum over the list; no order matters, and so on.
-/
import Derived.Test.YthpknbflmcoanaaDoorNet
namespace Go.Proofs.YthpknbflmcoanaaDoor
open Go.RowKit Mny

def sumI : List Int → Int
  | [] => 0
  | x :: xs => x + sumI xs
theorem sumI_append (a b : List Int) : sumI (a ++ b) = sumI a + sumI b := by
  induction a with
  | nil => simp [sumI]
  | cons x a ih => simp only [List.cons_append, sumI, ih]; omega
theorem sumI_nonneg {a : List Int} (h : ∀ x ∈ a, 0 ≤ x) : 0 ≤ sumI a := by
  induction a with
  | nil => exact Int.le_refl _
  | cons x a ih =>
    have h1 := h x (by simp)
    have h2 := ih (fun y hy => h y (by simp [hy]))
    simp only [sumI]; omega
/-- the number of those that reduce because of a state -/
def cntR (l : List Gr) (s : Int) : Nat := (l.filter fun g => (g.s != s) && redB g).length
/-- what g deducts because of f -/
def dedV (l : List Gr) (rt : List Rt) (m : Int) (g f : Gr) : Int := max 0 (if partB g f then partV rt m g f (cntR l f.s) else 0)
/-- what g deducts -/
def dedT (l : List Gr) (rt : List Rt) (m : Int) (g : Gr) : Int := if redB g then min g.i (sumI (l.map (dedV l rt m g))) else 0
/-- g after reduction -/
def netG (l : List Gr) (rt : List Rt) (m : Int) (g : Gr) : Nt := ⟨g.s, g.b, g.c, g.i, g.p, dedT l rt m g, max (g.i - dedT l rt m g) g.p⟩
/-- the capped sum, as a fold -/
def sumF (x : Nat) (cap : Int) (ds : List Ded) (a : Int) : Int := ds.foldl (fun a r => if r.i = (x : Int) then min (a + r.v) cap else a) a

section
variable {l a b : List Gr} {rt : List Rt} {m : Int} {g f : Gr} {i k x y : Nat} {xs ds : List Ded} {cap s : Int}
theorem redK_cntK : k ≤ l.length → (redK l s k).length = ((l.take k).filter fun g => (g.s != s) && redB g).length := by
  induction k with
  | zero => intro _; simp [redK]
  | succ k ih =>
    intro hk
    obtain ⟨q, hg⟩ : ∃ q, l[k]? = some q := ⟨_, List.getElem?_eq_getElem (show k < l.length by omega)⟩
    rw [List.take_add_one, hg, redK, List.length_append, ih (by omega), List.filter_append, List.length_append, redI_at hg]
    cases hb : ((q.s != s) && redB q) <;> simp [hb]
theorem redK_cnt : (redK l s l.length).length = cntR l s := by rw [redK_cntK (Nat.le_refl _), List.take_length]; rfl
theorem cntR_comm : cntR (a ++ b) s = cntR (b ++ a) s := by unfold cntR; simp only [List.filter_append, List.length_append]; omega
theorem sumK_take : k ≤ ds.length → sumK ds x cap k = sumF x cap (ds.take k) 0 := by
  induction k with
  | zero => intro _; rfl
  | succ k ih =>
    intro hk
    obtain ⟨q, hg⟩ : ∃ q, ds[k]? = some q := ⟨_, List.getElem?_eq_getElem (show k < ds.length by omega)⟩
    have h1 := ih (by omega)
    unfold sumF at h1 ⊢
    rw [List.take_add_one, hg, List.foldl_append, ← h1]
    by_cases e : q.i = (x : Int)
    · rw [sumK_hit hg e]; simp [e]
    · rw [sumK_miss hg e]; simp [e]
theorem sumK_all : sumK ds x cap ds.length = sumF x cap ds 0 := by rw [sumK_take (Nat.le_refl _), List.take_length]
theorem sumF_snoc {r : Ded} {z : Int} : sumF x cap (ds ++ [r]) z = if r.i = (x : Int) then min (sumF x cap ds z + r.v) cap else sumF x cap ds z := by unfold sumF; rw [List.foldl_append]; rfl
theorem sumF_far (h : i ≠ x) : sumF x cap (dedRow l rt m g i xs k) 0 = sumF x cap xs 0 := by
  induction k with
  | zero => rfl
  | succ k ih =>
    rw [dedRow, addD]
    split
    · rw [sumF_snoc, if_neg (by simp only; omega)]; exact ih
    · exact ih
theorem sumF_at (h0 : sumF x cap xs 0 = 0) (hc : 0 ≤ cap) : k ≤ l.length → sumF x cap (dedRow l rt m g x xs k) 0 = min cap (sumI ((l.take k).map (dedV l rt m g))) := by
  induction k with
  | zero => intro _; rw [dedRow, h0]; simp [sumI]; omega
  | succ k ih =>
    intro hk
    obtain ⟨q, hg⟩ : ∃ q, l[k]? = some q := ⟨_, List.getElem?_eq_getElem (show k < l.length by omega)⟩
    have h1 := ih (by omega)
    have h2 : 0 ≤ sumI ((l.take k).map (dedV l rt m g)) := sumI_nonneg (fun z hz => by
      obtain ⟨f, _, rfl⟩ := List.mem_map.1 hz
      unfold dedV; omega)
    have h3 : dedV l rt m g q = max 0 (partS l rt m g k) := by rw [partS_at hg, redK_cnt]; rfl
    rw [List.take_add_one, hg, List.map_append, sumI_append, dedRow, addD]
    simp only [Option.toList, List.map_cons, List.map_nil, sumI, h3]
    split
    · rw [sumF_snoc, if_pos rfl, h1]; simp only; omega
    · rw [h1]; omega
theorem sumF_ded (hg : l[x]? = some g) (hc : 0 ≤ cap) : k ≤ l.length → sumF x cap (dedK l rt m k) 0 = if x < k then (if redB g then min cap (sumI (l.map (dedV l rt m g))) else 0) else 0 := by
  induction k with
  | zero => intro _; rw [if_neg (Nat.not_lt_zero _)]; rfl
  | succ k ih =>
    intro hk
    have h1 := ih (by omega)
    obtain ⟨q, hq⟩ : ∃ q, l[k]? = some q := ⟨_, List.getElem?_eq_getElem (show k < l.length by omega)⟩
    by_cases e : k = x
    · subst e
      rw [hg] at hq
      injection hq with hq
      subst hq
      rw [if_neg (Nat.lt_irrefl _)] at h1
      rw [if_pos (Nat.lt_succ_self _)]
      cases hb : redB g
      · rw [dedK_no hg hb, h1]; rfl
      · rw [dedK_yes hg hb, sumF_at h1 hc (Nat.le_refl _), List.take_length]; rfl
    · have e2 : (if x < k + 1 then (if redB g then min cap (sumI (l.map (dedV l rt m g))) else 0) else 0) = if x < k then (if redB g then min cap (sumI (l.map (dedV l rt m g))) else 0) else 0 := by
        by_cases h : x < k
        · rw [if_pos h, if_pos (by omega)]
        · rw [if_neg h, if_neg (by omega)]
      rw [e2, ← h1]
      cases hb : redB q
      · rw [dedK_no hq hb]
      · rw [dedK_yes hq hb, sumF_far e]
theorem sum_dedS (hg : l[x]? = some g) (hc : 0 ≤ g.i) : sumK (dedS l rt m) x g.i (dedS l rt m).length = dedT l rt m g := by
  rw [sumK_all, dedS, sumF_ded hg hc (Nat.le_refl _), if_pos (List.getElem?_eq_some_iff.1 hg).1]; rfl
theorem netS_get (hg : l[x]? = some g) (hc : 0 ≤ g.i) : (netS l (dedS l rt m))[x]? = some (netG l rt m g) := by
  rw [netS_at hg, netV, sum_dedS hg hc]; rfl
theorem netS_map (h : ∀ g ∈ l, 0 ≤ g.i) : netS l (dedS l rt m) = l.map (netG l rt m) := by
  apply List.ext_getElem?
  intro x
  rw [List.getElem?_map]
  cases hx : l[x]? with
  | none => rw [Option.map_none, List.getElem?_eq_none]; rw [netS_len]; exact List.getElem?_eq_none_iff.1 hx
  | some g => rw [Option.map_some]; exact netS_get hx (h g (List.mem_of_getElem? hx))
theorem sumI_swap (u v : List Int) : sumI (u ++ v) = sumI (v ++ u) := by rw [sumI_append, sumI_append]; omega
theorem dedV_comm : dedV (a ++ b) rt m = dedV (b ++ a) rt m := by funext g f; unfold dedV; rw [cntR_comm]
theorem dedT_comm : dedT (a ++ b) rt m = dedT (b ++ a) rt m := by
  funext g; unfold dedT; rw [dedV_comm, List.map_append, List.map_append, sumI_swap]
theorem netG_comm : netG (a ++ b) rt m = netG (b ++ a) rt m := by funext g; unfold netG; rw [dedT_comm]
/-- rotating the list rotates the net benefits -/
theorem netS_rot (h : ∀ g ∈ a ++ b, 0 ≤ g.i) : netS (a ++ b) (dedS (a ++ b) rt m) = a.map (netG (a ++ b) rt m) ++ b.map (netG (a ++ b) rt m) ∧ netS (b ++ a) (dedS (b ++ a) rt m) = b.map (netG (a ++ b) rt m) ++ a.map (netG (a ++ b) rt m) := by
  rw [netS_map h, netS_map (fun g hg => h g (by rw [List.mem_append] at hg ⊢; exact hg.symm)), netG_comm (a := b) (b := a), List.map_append, List.map_append]
  exact ⟨rfl, rfl⟩
theorem dedT_0 (h : redB g = false) : dedT l rt m g = 0 := by unfold dedT; rw [h]; rfl
theorem dedT_nonneg (hc : 0 ≤ g.i) : 0 ≤ dedT l rt m g ∧ dedT l rt m g ≤ g.i := by
  unfold dedT
  have h2 : 0 ≤ sumI (l.map (dedV l rt m g)) := sumI_nonneg (fun z hz => by
    obtain ⟨f, _, rfl⟩ := List.mem_map.1 hz
    unfold dedV; omega)
  split <;> omega

/-- in one currency a part is the share of the gross amount, scaled -/
theorem partV_one {q : Nat} (hc : f.c = g.c) (hg : okG g = true) (hf : 0 ≤ grossV f ∧ grossV f ≤ 1000000000000) (hm : 0 ≤ m ∧ m ≤ 2399) (hr : chkS rt = 0) :
    partV rt m g f q = (grossV f).tdiv q * g.n / g.d ∧ 0 ≤ (grossV f).tdiv q * g.n / g.d ∧ (grossV f).tdiv q * g.n / g.d ≤ (grossV f).tdiv q := by
  obtain ⟨gs, gb, gc, gi, gp, gn, gd⟩ := g
  obtain ⟨_, _, h3, _, _, h6, h7, h8⟩ := okG_iff.1 hg
  have hd : 0 < gd := by
    have := h6
    unfold validF at this
    simp at this
    omega
  have e1 : cvS rt m ⟨gs, gb, gc, gi, gp, gn, gd⟩ f = (grossV f, 0) := by
    unfold cvS
    rw [convS_same (convB_all (inB_iff.2 ⟨by omega, by omega⟩) (by rw [hc]; exact inB_iff.2 h3) (inB_iff.2 h3) (inB_iff.2 hm) (by decide) hr) hc, rnd_11 (by rw [Int.ediv_one]; exact hf.1) (by rw [Int.ediv_one]; exact hf.2), Int.ediv_one]
  obtain ⟨y, hy⟩ : ∃ y, (grossV f).tdiv q = y := ⟨_, rfl⟩
  have y0 : 0 ≤ y := by rw [← hy]; exact Int.tdiv_nonneg hf.1 (Int.natCast_nonneg _)
  have y1 := tdiv_bd (M := 1000000000000) q ⟨by omega, hf.2⟩
  rw [hy] at y1 ⊢
  have z0 : 0 ≤ y * gn / gd := Int.ediv_nonneg (Int.mul_nonneg y0 h7) (by omega)
  have z1 : y * gn / gd ≤ y := by
    have := Int.ediv_le_ediv hd (Int.mul_le_mul_of_nonneg_left h8 y0)
    rwa [Int.mul_ediv_cancel _ (by omega)] at this
  refine ⟨?_, z0, z1⟩
  refine partV_3 e1 ?_
  unfold shS
  simp only
  rw [hy, scaleS_yes (inB_iff.2 ⟨by omega, by omega⟩) h6 (by decide), rnd_11 z0 (by omega)]
end
end Go.Proofs.YthpknbflmcoanaaDoor
