/-
  Plain lemmas on shares of the parts of a whole, rounded down; no program is in sight here.
-/
import Derived.Test.YtnhbidagnomkpaaPlain
namespace Go.Proofs.Ytnhbidagnomkpaa
namespace Mny
/-- the parts: each number made one from 1 to 5000 -/
def partV (z : Int) : Int := z % 5000 + 1
def denS (l : List Int) : Int := (l.map partV).sum
def sumQ (N M : Int) (l : List Int) : Int := (l.map fun z => (N * partV z) / M).sum
theorem partV_bd (z : Int) : 1 ≤ partV z ∧ partV z ≤ 5000 := by unfold partV; omega
theorem denS_nil : denS [] = 0 := rfl
theorem denS_snoc (l : List Int) (z : Int) : denS (l ++ [z]) = denS l + partV z := by unfold denS; simp
theorem sumQ_snoc (N M : Int) (l : List Int) (z : Int) : sumQ N M (l ++ [z]) = sumQ N M l + (N * partV z) / M := by unfold sumQ; simp
theorem denS_bd (l : List Int) : (l.length : Int) ≤ denS l ∧ denS l ≤ 5000 * l.length := by
  induction l with
  | nil => simp [denS]
  | cons z l ih =>
    have := partV_bd z
    simp only [denS, List.map_cons, List.sum_cons, List.length_cons] at *
    omega
theorem denS_take (l : List Int) (k : Nat) : 0 ≤ denS (l.take k) ∧ denS (l.take k) ≤ 5000 * k := by
  have h := denS_bd (l.take k)
  have : (l.take k).length ≤ k := List.length_take_le _ _
  omega
theorem partV_le (l : List Int) {z : Int} (h : z ∈ l) : partV z ≤ denS l := by
  induction l with
  | nil => cases h
  | cons y l ih =>
    have := partV_bd y
    have hd := (denS_bd l).1
    simp only [denS, List.map_cons, List.sum_cons] at *
    rcases List.mem_cons.1 h with rfl | h
    · omega
    · have := ih h; omega
theorem sumQ_nonneg {N M : Int} (hN : 0 ≤ N) (hM : 0 < M) (l : List Int) : 0 ≤ sumQ N M l := by
  induction l with
  | nil => simp [sumQ]
  | cons z l ih =>
    have := partV_bd z
    have h : 0 ≤ (N * partV z) / M := Int.ediv_nonneg (Int.mul_nonneg hN (by omega)) (by omega)
    simp only [sumQ, List.map_cons, List.sum_cons] at *
    omega
theorem sumQ_take {N M : Int} (hN : 0 ≤ N) (hM : 0 < M) (l : List Int) (k : Nat) : 0 ≤ sumQ N M (l.take k) ∧ sumQ N M (l.take k) ≤ sumQ N M l := by
  refine ⟨sumQ_nonneg hN hM _, ?_⟩
  have h : sumQ N M l = sumQ N M (l.take k) + sumQ N M (l.drop k) := by
    conv => lhs; rw [← List.take_append_drop k l]
    unfold sumQ; rw [List.map_append, List.sum_append]
  have := sumQ_nonneg hN hM (l.drop k)
  omega
/-- the quotients' sum between the parts of the dividends' -/
theorem sumQ_bd {N M : Int} (hM : 0 < M) (l : List Int) : sumQ N M l * M ≤ N * denS l ∧ N * denS l ≤ (sumQ N M l + l.length) * M - l.length := by
  induction l with
  | nil => simp [sumQ, denS]
  | cons z l ih =>
    simp only [sumQ, denS, List.map_cons, List.sum_cons, List.length_cons] at *
    have e := Int.mul_ediv_add_emod (N * partV z) M
    have r0 := Int.emod_nonneg (N * partV z) (show M ≠ 0 by omega)
    have r1 := Int.emod_lt_of_pos (N * partV z) hM
    rw [Int.mul_add]
    generalize (N * partV z) / M = q at *
    generalize (N * partV z) % M = r at *
    generalize (l.map fun z => (N * partV z) / M).sum = S at *
    generalize (l.map partV).sum = D at *
    generalize N * D = X at *
    generalize hL : (l.length : Int) = L at *
    rw [Int.add_mul, Int.mul_comm q M]
    rw [Int.add_mul] at ih
    rw [show ((l.length + 1 : Nat) : Int) = L + 1 by omega, show q + S + (L + 1) = q + (S + L) + 1 by omega, Int.add_mul, Int.add_mul, Int.add_mul, Int.mul_comm q M]
    omega
theorem units_down (n d : Int) : units 1 n d = n / d := by unfold units upB; simp

/-- the law: the parts' units sum up to the whole's, or to less than one for each part less -/
theorem splits {N D u : Int} (l : List Int) (hN : 0 ≤ N) (hD : 0 < D) (hu : 0 < u) (hl : 0 < l.length) :
    sumQ N (D * denS l * u) l ≤ N / (D * u) ∧ N / (D * u) < sumQ N (D * denS l * u) l + l.length := by
  have hd := (denS_bd l).1
  have hden : 0 < denS l := by omega
  have hM : 0 < D * denS l * u := Int.mul_pos (Int.mul_pos hD hden) hu
  have hDu : 0 < D * u := Int.mul_pos hD hu
  obtain ⟨h1, h2⟩ := sumQ_bd (N := N) hM l
  generalize sumQ N (D * denS l * u) l = S at *
  have e := Int.mul_ediv_add_emod N (D * u)
  have r0 := Int.emod_nonneg N (show D * u ≠ 0 by omega)
  have r1 := Int.emod_lt_of_pos N hDu
  generalize N / (D * u) = K at *
  generalize N % (D * u) = r at *
  have hMe : D * denS l * u = D * u * denS l := by rw [Int.mul_assoc, Int.mul_comm (denS l) u, ← Int.mul_assoc]
  rw [hMe] at h1 h2 hM
  generalize D * u = P at *
  generalize denS l = E at *
  subst e
  have e2 : (P * K + r) * E = K * (P * E) + r * E := by rw [Int.add_mul, Int.mul_comm P K, Int.mul_assoc]
  rw [e2] at h1 h2
  have t1 : r * E < P * E := Int.mul_lt_mul_of_pos_right r1 hden
  have t2 : 0 ≤ r * E := Int.mul_nonneg r0 (by omega)
  generalize P * E = M at *
  constructor
  · apply Int.not_lt.1
    intro hlt
    have : (K + 1) * M ≤ S * M := Int.mul_le_mul_of_nonneg_right (by omega) (by omega)
    rw [Int.add_mul] at this
    omega
  · apply Int.not_le.1
    intro hle
    have : (S + l.length) * M ≤ K * M := Int.mul_le_mul_of_nonneg_right hle (by omega)
    omega
/-- each share is an amount if the whole is -/
theorem share_ok {N D u p den : Int} (hN : 0 ≤ N) (hD : 0 < D) (hu : 1 ≤ u) (hp : 1 ≤ p) (hpd : p ≤ den) (hok : okU (N / (D * u)) u = true) :
    rnd 1 u (N * p) (D * den) = ((N * p) / (D * den * u) * u, 0) := by
  unfold rnd
  rw [units_down]
  have hden : 0 < den := by omega
  have hDu : 0 < D * u := Int.mul_pos hD (by omega)
  have hM : 0 < D * den * u := Int.mul_pos (Int.mul_pos hD hden) (by omega)
  have q0 : 0 ≤ (N * p) / (D * den * u) := Int.ediv_nonneg (Int.mul_nonneg hN (by omega)) (by omega)
  have q1 : (N * p) / (D * den * u) ≤ N / (D * u) := by
    have h1 : (N * p) / (D * den * u) ≤ (N * den) / (D * den * u) := Int.ediv_le_ediv hM (Int.mul_le_mul_of_nonneg_left hpd hN)
    have h2 : (N * den) / (D * den * u) = N / (D * u) := by
      rw [show D * den * u = D * u * den by rw [Int.mul_assoc, Int.mul_comm den u, ← Int.mul_assoc]]
      exact Int.mul_ediv_mul_of_pos_left N (D * u) hden
    omega
  unfold okU at hok ⊢
  simp only [Bool.and_eq_true, decide_eq_true_eq] at hok
  rw [if_pos]
  simp only [Bool.and_eq_true, decide_eq_true_eq]
  have := unit_bd hu
  omega
theorem rnd_down_ok {u N D A : Int} (h : rnd 1 u N D = (A, 0)) : okU (N / (D * u)) u = true ∧ A = N / (D * u) * u := by
  unfold rnd at h
  rw [units_down] at h
  simp only at h
  split at h
  · rename_i hk
    exact ⟨hk, (congrArg Prod.fst h).symm⟩
  · have h2 : (2 : Int) = 0 := congrArg Prod.snd h
    omega
theorem okU_le {k u : Int} (hu : 1 ≤ u) (h : k ≤ 1000000000000 / u) : k * u ≤ 1000000000000 := by
  have h1 : k * u ≤ 1000000000000 / u * u := Int.mul_le_mul_of_nonneg_right h (by omega)
  have h2 := Int.ediv_mul_le 1000000000000 (show u ≠ 0 by omega)
  omega
end Mny
end Go.Proofs.Ytnhbidagnomkpaa
