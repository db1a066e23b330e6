/-
  Plain laws of conversions: there and back is never more; a greater amount never becomes less.
-/
import Derived.Test.YtaifacnpnhcdcaaConvert
import Derived.Deep.RegionHeld
namespace Go.Proofs.Ytaifacnpnhcdcaa
open Go.RowKit Mny

theorem conv_ok {x f t a m u A : Int} {l : List Rt} (h : convS x f t a l m u = (A, 0)) : convB x f t a l m u = true ∧ convV x f t a l m u = (A, 0) := by
  unfold convS at h
  split at h
  · rename_i hb; exact ⟨hb, h⟩
  · have h2 : (1 : Int) = 0 := congrArg Prod.snd h
    omega
theorem rnd_ok {m u n d A : Int} (h : rnd m u n d = (A, 0)) : okU (units m n (d * u)) u = true ∧ A = units m n (d * u) * u := by
  unfold rnd at h
  simp only at h
  split at h
  · rename_i hk
    exact ⟨hk, (congrArg Prod.fst h).symm⟩
  · have h2 : (2 : Int) = 0 := congrArg Prod.snd h
    omega
theorem rnd_11 {n d : Int} (h : 0 ≤ n / d) (h2 : n / d ≤ 1000000000000) : rnd 1 1 n d = (n / d, 0) := by
  unfold rnd
  have e : units 1 n (d * 1) = n / d := by rw [Int.mul_one]; unfold units upB; simp
  simp only [e]
  rw [if_pos, Int.mul_one]
  unfold okU
  simp only [Bool.and_eq_true, decide_eq_true_eq, Int.ediv_one]
  omega
theorem rnd_11_ok {n d A : Int} (h : rnd 1 1 n d = (A, 0)) : A = n / d ∧ n / d ≤ 1000000000000 := by
  obtain ⟨h1, h2⟩ := rnd_ok h
  have e : units 1 n (d * 1) = n / d := by rw [Int.mul_one]; unfold units upB; simp
  rw [e] at h1 h2
  unfold okU at h1
  simp only [Bool.and_eq_true, decide_eq_true_eq, Int.ediv_one] at h1
  exact ⟨by omega, h1.2⟩
theorem rnd_mono {m u n1 n2 d A B : Int} (hu : 1 ≤ u) (hd : 0 < d) (h1 : rnd m u n1 d = (A, 0)) (h2 : rnd m u n2 d = (B, 0)) (h : n1 ≤ n2) : A ≤ B := by
  obtain ⟨_, rfl⟩ := rnd_ok h1
  obtain ⟨_, rfl⟩ := rnd_ok h2
  have hp : 0 < d * u := Int.mul_pos hd (by omega)
  exact Int.mul_le_mul_of_nonneg_right (units_mono m hp hp (Int.mul_le_mul_of_nonneg_right h (by omega))) (by omega)

/-- there and back, both rounded down -/
theorem conv_back {x f t a A B C : Int} {l : List Rt} (hx : 0 ≤ x) (h : convS x f t a l 1 1 = (A, 0)) (h2 : convS A t f a l 1 1 = (B, C)) :
    (f = t → A = x) ∧ C = 0 ∧ B ≤ x ∧ 0 ≤ B := by
  obtain ⟨hb, hv⟩ := conv_ok h
  have hb' := hb
  unfold convB at hb'
  simp only [Bool.and_eq_true, inB_iff, decide_eq_true_eq] at hb'
  obtain ⟨⟨x0, x1⟩, hf, ht, ha, hr, hc⟩ := hb'
  by_cases he : f = t
  · subst he
    have hA : A = x := by
      have := convS_same hb rfl
      rw [h] at this
      have := (rnd_11_ok this.symm).1
      rw [Int.ediv_one] at this
      exact this
    subst hA
    rw [convS_same hb rfl, rnd_11 (by rw [Int.ediv_one]; exact hx) (by rw [Int.ediv_one]; omega), Int.ediv_one] at h2
    injection h2 with e1 e2
    exact ⟨fun _ => rfl, e2.symm, by omega, by omega⟩
  · obtain ⟨v1, v2, vb, hv1⟩ : ∃ n d b, valS l f a = (n, d, b) := ⟨_, _, _, rfl⟩
    obtain ⟨w1, w2, wb, hw1⟩ : ∃ n d b, valS l t a = (n, d, b) := ⟨_, _, _, rfl⟩
    rcases Bool.eq_false_or_eq_true (vb && wb) with hbb | hbb
    · rw [Bool.and_eq_true] at hbb
      obtain ⟨rfl, rfl⟩ := hbb
      obtain ⟨⟨a1, a2⟩, a3, a4⟩ := val_small hc hv1
      obtain ⟨⟨b1, b2⟩, b3, b4⟩ := val_small hc hw1
      rw [convS_yes hb he hv1 hw1] at h
      obtain ⟨hA, hA2⟩ := rnd_11_ok h
      have hp : 0 < v2 * w1 := Int.mul_pos (by omega) (by omega)
      have hq : 0 < w2 * v1 := Int.mul_pos (by omega) (by omega)
      have hA0 : 0 ≤ A := by rw [hA]; exact Int.ediv_nonneg (Int.mul_nonneg hx (Int.mul_nonneg (by omega) (by omega))) (by omega)
      have hb2 : convB A t f a l 1 1 = true := convB_all (inB_iff.2 ⟨by omega, by omega⟩) (inB_iff.2 ht) (inB_iff.2 hf) (inB_iff.2 ha) hr hc
      rw [convS_yes hb2 (fun h => he h.symm) hw1 hv1] at h2
      have hle : A * (w1 * v2) ≤ x * (w2 * v1) := by
        have h1 := Int.ediv_mul_le (x * (v1 * w2)) (show v2 * w1 ≠ 0 by omega)
        rw [← hA, Int.mul_comm v2 w1, Int.mul_comm v1 w2] at h1
        exact h1
      have hB1 : A * (w1 * v2) / (w2 * v1) ≤ x := by
        have := Int.ediv_le_ediv hq hle
        rwa [Int.mul_ediv_cancel _ (by omega)] at this
      have hB0 : 0 ≤ A * (w1 * v2) / (w2 * v1) := Int.ediv_nonneg (Int.mul_nonneg hA0 (Int.mul_nonneg (by omega) (by omega))) (by omega)
      rw [rnd_11 hB0 (by omega)] at h2
      injection h2 with e1 e2
      exact ⟨fun h => absurd h he, e2.symm, by omega, by omega⟩
    · rw [convS_none hb he hv1 hw1 hbb] at h
      have h2 : (9 : Int) = 0 := congrArg Prod.snd h
      omega

/-- a greater amount never becomes less -/
theorem conv_mono {x y f t a m u A B : Int} {l : List Rt} (h1 : convS x f t a l m u = (A, 0)) (h2 : convS y f t a l m u = (B, 0)) (h : x ≤ y) : A ≤ B := by
  obtain ⟨hb, _⟩ := conv_ok h1
  obtain ⟨hb2, _⟩ := conv_ok h2
  have hb' := hb
  unfold convB at hb'
  simp only [Bool.and_eq_true, inB_iff, decide_eq_true_eq] at hb'
  obtain ⟨_, _, _, _, hr, hc⟩ := hb'
  obtain ⟨_, _, hu, _⟩ := validR_iff.1 hr
  by_cases he : f = t
  · rw [convS_same hb he] at h1
    rw [convS_same hb2 he] at h2
    exact rnd_mono hu (by omega) h1 h2 h
  · obtain ⟨v1, v2, vb, hv1⟩ : ∃ n d b, valS l f a = (n, d, b) := ⟨_, _, _, rfl⟩
    obtain ⟨w1, w2, wb, hw1⟩ : ∃ n d b, valS l t a = (n, d, b) := ⟨_, _, _, rfl⟩
    rcases Bool.eq_false_or_eq_true (vb && wb) with hbb | hbb
    · rw [Bool.and_eq_true] at hbb
      obtain ⟨rfl, rfl⟩ := hbb
      obtain ⟨⟨a1, a2⟩, a3, a4⟩ := val_small hc hv1
      obtain ⟨⟨b1, b2⟩, b3, b4⟩ := val_small hc hw1
      rw [convS_yes hb he hv1 hw1] at h1
      rw [convS_yes hb2 he hv1 hw1] at h2
      exact rnd_mono hu (Int.mul_pos (by omega) (by omega)) h1 h2 (Int.mul_le_mul_of_nonneg_right h (Int.mul_nonneg (by omega) (by omega)))
    · rw [convS_none hb he hv1 hw1 hbb] at h1
      have h2 : (9 : Int) = 0 := congrArg Prod.snd h1
      omega

/-- a table is not touched by a store into a small block -/
theorem RatesAt.store {w : World} {b off g i : Nat} {t : TypeId} {x y u : Value} {l : List Rt} (h : RatesAt w b off l) (hb : Bx w g t #[x, y]) : RatesAt (w.setCell ⟨g, i, none⟩ u) b off l := fun k r hk => by
  obtain ⟨a, c, d, e⟩ := h k r hk
  have hne : g ≠ b := by
    rintro rfl
    rw [hb.cell] at e
    have := (Array.getElem?_eq_some_iff.1 e).1
    simp at this
    omega
  have f : ∀ j, (w.setCell ⟨g, i, none⟩ u).cell? ⟨b, j, none⟩ = w.cell? ⟨b, j, none⟩ := fun j => World.cell?_setCell_far w _ _ _ hne
  exact ⟨(f _).trans a, (f _).trans c, (f _).trans d, (f _).trans e⟩
theorem Tab.store {w : World} {v : Value} {g i : Nat} {t : TypeId} {x y u : Value} {l : List Rt} (h : Tab w v l) (hb : Bx w g t #[x, y]) : Tab (w.setCell ⟨g, i, none⟩ u) v l := by
  rcases h with h | ⟨b, off, n, c, h1, h2, h3, h4, h5⟩
  · exact .inl h
  · exact .inr ⟨b, off, n, c, h1, h2, h3.store hb, by simpa [World.setCell] using h4, h5⟩
end Go.Proofs.Ytaifacnpnhcdcaa
