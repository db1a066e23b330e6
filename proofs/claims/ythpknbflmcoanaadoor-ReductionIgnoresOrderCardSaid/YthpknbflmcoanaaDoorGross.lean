/-
  Gross benefits: an element and its contracts (valid, Amount, reduces), and the makers of raw numbers Mod and Amount.
-/
import Derived.Test.YthpknbflmcoanaaDoorChain
namespace Go.Proofs.YthpknbflmcoanaaDoor
open Go.RowKit Mny

/-- an element -/
structure Gr where
  s : Int
  b : Int
  c : Int
  i : Int
  p : Int
  n : Int
  d : Int
/-- is it valid by itself -/
def okG (g : Gr) : Bool := inB 0 5 g.s && (inB 1 3 g.b && (inB 1 999 g.c && (inB 0 1000000000000 g.i && (inB 0 1000000000000 g.p && (validF g.n g.d && (decide (0 ≤ g.n) && decide (g.n ≤ g.d)))))))
/-- the gross amount -/
def grossV (g : Gr) : Int := if g.i ≤ g.p then g.p else g.i
/-- does it reduce -/
def redB (g : Gr) : Bool := decide (0 < g.n) && decide (0 < g.i)

set_option maxHeartbeats 400000 in
theorem plain_Mod (n k : Int) (w : World) (h1 : 1 ≤ k) (h2 : k ≤ 4611686018427387904) :
    Calls Tryd.prog 24 #[.int .i64 n, .int .i64 k] w fun e w' => e = .returned (.int .i64 (n % k)) ∧ w = w' := by
  have t1 := Int.tmod_lt_of_pos n (show 0 < k by omega)
  have t2 : -k < n.tmod k := by
    have := Int.tmod_lt_of_pos (-n) (show 0 < k by omega)
    rw [Int.neg_tmod] at this; omega
  have e0 := Int.emod_nonneg n (show k ≠ 0 by omega)
  have e1 := Int.emod_lt_of_pos n (show 0 < k by omega)
  have hx : n.tmod k = n % k ∨ n.tmod k + k = n % k := by
    have h3 := Int.mul_tdiv_add_tmod n k
    have h4 := Int.mul_ediv_add_emod n k
    rcases Int.lt_or_le n 0 with h | h
    · have h5 : n.tmod k ≤ 0 := by
        have := Int.tmod_nonneg k (show 0 ≤ -n by omega)
        rw [Int.neg_tmod] at this; omega
      by_cases h0 : n.tmod k = 0
      · left
        have : n % k = 0 := Int.emod_eq_zero_of_dvd (Int.dvd_of_tmod_eq_zero h0)
        omega
      · right
        have : (n.tmod k + k) % k = n % k := by
          rw [Int.add_emod_right]
          conv => rhs; rw [← h3]
          rw [Int.add_comm (k * _), Int.add_mul_emod_self_left]
        rw [← this, Int.emod_eq_of_lt (by omega) (by omega)]
    · left; exact Int.tmod_eq_emod_of_nonneg h
  obtain ⟨t, ht⟩ : ∃ t, n.tmod k = t := ⟨_, rfl⟩
  obtain ⟨q, hq⟩ : ∃ q, n % k = q := ⟨_, rfl⟩
  rw [ht] at hx t1 t2
  rw [hq] at hx e0 e1
  by_cases hn : 0 ≤ n
  · have hnn : t = q := by rw [← ht, ← hq]; exact Int.tmod_eq_emod_of_nonneg hn
    subst hnn
    have HQ := Lib.hid hq
    clear hx ht hq
    have q0 : 0 ≤ n % k := by rw [HQ.out]; exact e0
    have c1 : decide (n % k < 0) = false := decide_eq_false (by rw [HQ.out]; omega)
    go_enter Tryd.func24, Tryd.ntmps24
    go_wp2
    go_ret
    exact ⟨rfl, rfl⟩
  · have HT := Lib.hid ht
    have HQ := Lib.hid hq
    have HX := Lib.hid hx
    by_cases hz : t < 0
    · have c1 : decide (n.tmod k < 0) = true := decide_eq_true (by rw [HT.out]; exact hz)
      have v1 : IntKind.i64.wrap (n.tmod k + k) = n.tmod k + k := IntWalk.i64_in _ (by rw [HT.out]; omega)
      have b1 : -k < n.tmod k := by rw [HT.out]; exact t2
      have b2 : n.tmod k < 0 := by rw [HT.out]; exact hz
      have HF : Hid (n.tmod k + k = n % k) := Lib.hid (by rw [HT.out, HQ.out]; rcases HX.out with h | h <;> omega)
      clear ht hq hx
      go_enter Tryd.func24, Tryd.ntmps24
      go_wp2
      go_ret
      exact ⟨ret_int HF.out, rfl⟩
    · have c1 : decide (n.tmod k < 0) = false := decide_eq_false (by rw [HT.out]; exact hz)
      have b2 : ¬ n.tmod k < 0 := by rw [HT.out]; exact hz
      have HF : Hid (n.tmod k = n % k) := Lib.hid (by rw [HT.out, HQ.out]; rcases HX.out with h | h <;> omega)
      clear ht hq hx
      go_enter Tryd.func24, Tryd.ntmps24
      go_wp2
      go_ret
      exact ⟨ret_int HF.out, rfl⟩

set_option maxHeartbeats 400000 in
theorem red_amount (x : Int) (w : World) : Calls Tryd.prog 50 #[.int .i64 x] w fun e w' => e = .returned (.bool (inB 0 1000000000000 x)) ∧ w = w' := by
  by_cases h0 : 0 ≤ x
  · have c0 : decide (0 ≤ x) = true := decide_eq_true h0
    by_cases h1 : x ≤ 1000000000000
    · have c1 : decide (x ≤ 1000000000000) = true := decide_eq_true h1
      have HF := Lib.hid (inB_iff.2 ⟨h0, h1⟩)
      go_enter Tryd.func50, Tryd.ntmps50
      go_wp2
      go_ret
      exact ⟨ret_bool HF.out.symm, rfl⟩
    · have c1 : decide (x ≤ 1000000000000) = false := decide_eq_false h1
      have HF := Lib.hid (inB_out (lo := 0) (hi := 1000000000000) (z := x) (.inr (by omega)))
      go_enter Tryd.func50, Tryd.ntmps50
      go_wp2
      go_ret
      exact ⟨ret_bool HF.out.symm, rfl⟩
  · have c0 : decide (0 ≤ x) = false := decide_eq_false h0
    have HF := Lib.hid (inB_out (lo := 0) (hi := 1000000000000) (z := x) (.inl (by omega)))
    go_enter Tryd.func50, Tryd.ntmps50
    go_wp2
    go_ret
    exact ⟨ret_bool HF.out.symm, rfl⟩

set_option maxHeartbeats 400000 in
theorem red_Amount (s b c i p n d : Int) (w : World) : Calls Tryd.prog 18 #[.agg #[.int .i64 s, .int .i64 b, .int .i64 c, .int .i64 i, .int .i64 p, .int .i64 n, .int .i64 d]] w fun e w' => e = .returned (.int .i64 (grossV ⟨s, b, c, i, p, n, d⟩)) ∧ Below w.heap.size w w' := by
  have hV : grossV ⟨s, b, c, i, p, n, d⟩ = if i ≤ p then p else i := rfl
  by_cases h : i ≤ p
  · rw [if_pos h] at hV
    have HV := Lib.hid hV
    clear hV
    go_enter Tryd.func18, Tryd.ntmps18
    go_wp2
    go_ret
    exact ⟨ret_int (by rw [HV.out]; first | rfl | omega | (simp; omega)), (by repeat (first | (with_reducible exact Below.refl _ _) | (with_reducible assumption) | (with_reducible refine below_drewN ?_ _) | (with_reducible refine Below.drew ?_) | (with_reducible refine Below.alloc ?_ ?_ _) | (with_reducible refine Below.setCell ?_ ?_ _) | exact Below.refl _ _ | assumption | (solve | omega | simp | (simp; omega))))⟩
  · rw [if_neg h] at hV
    have HV := Lib.hid hV
    clear hV
    go_enter Tryd.func18, Tryd.ntmps18
    go_wp2
    go_ret
    exact ⟨ret_int (by rw [HV.out]; first | rfl | omega | (simp; omega)), (by repeat (first | (with_reducible exact Below.refl _ _) | (with_reducible assumption) | (with_reducible refine below_drewN ?_ _) | (with_reducible refine Below.drew ?_) | (with_reducible refine Below.alloc ?_ ?_ _) | (with_reducible refine Below.setCell ?_ ?_ _) | exact Below.refl _ _ | assumption | (solve | omega | simp | (simp; omega))))⟩

set_option maxHeartbeats 400000 in
theorem ref_GrossAmount (s b c i p n d : Int) (w : World) : Calls Tryd.prog 19 #[.agg #[.int .i64 s, .int .i64 b, .int .i64 c, .int .i64 i, .int .i64 p, .int .i64 n, .int .i64 d]] w fun e w' => e = .returned (.int .i64 (grossV ⟨s, b, c, i, p, n, d⟩)) ∧ Below w.heap.size w w' := by
  have hV : grossV ⟨s, b, c, i, p, n, d⟩ = if i ≤ p then p else i := rfl
  by_cases h : i ≤ p
  · rw [if_pos h] at hV
    have HV := Lib.hid hV
    clear hV
    go_enter Tryd.func19, Tryd.ntmps19
    go_wp2
    go_ret
    exact ⟨ret_int (by rw [HV.out]; first | rfl | omega | (simp; omega)), (by repeat (first | (with_reducible exact Below.refl _ _) | (with_reducible assumption) | (with_reducible refine below_drewN ?_ _) | (with_reducible refine Below.drew ?_) | (with_reducible refine Below.alloc ?_ ?_ _) | (with_reducible refine Below.setCell ?_ ?_ _) | exact Below.refl _ _ | assumption | (solve | omega | simp | (simp; omega))))⟩
  · rw [if_neg h] at hV
    have HV := Lib.hid hV
    clear hV
    go_enter Tryd.func19, Tryd.ntmps19
    go_wp2
    go_ret
    exact ⟨ret_int (by rw [HV.out]; first | rfl | omega | (simp; omega)), (by repeat (first | (with_reducible exact Below.refl _ _) | (with_reducible assumption) | (with_reducible refine below_drewN ?_ _) | (with_reducible refine Below.drew ?_) | (with_reducible refine Below.alloc ?_ ?_ _) | (with_reducible refine Below.setCell ?_ ?_ _) | exact Below.refl _ _ | assumption | (solve | omega | simp | (simp; omega))))⟩

set_option maxHeartbeats 400000 in
theorem red_reduces (s b c i p n d : Int) (w : World) : Calls Tryd.prog 42 #[.agg #[.int .i64 s, .int .i64 b, .int .i64 c, .int .i64 i, .int .i64 p, .int .i64 n, .int .i64 d]] w fun e w' => e = .returned (.bool (redB ⟨s, b, c, i, p, n, d⟩)) ∧ Below w.heap.size w w' := by
  have hV : redB ⟨s, b, c, i, p, n, d⟩ = (decide (0 < n) && decide (0 < i)) := rfl
  by_cases h : 0 < n
  · have c1 : decide (0 < n) = true := decide_eq_true h
    have HV := Lib.hid hV
    clear hV
    go_enter Tryd.func42, Tryd.ntmps42
    go_wp2
    all_goals
      go_ret
      exact ⟨ret_bool (by rw [HV.out]; simp [h]), (by repeat (first | (with_reducible exact Below.refl _ _) | (with_reducible assumption) | (with_reducible refine below_drewN ?_ _) | (with_reducible refine Below.drew ?_) | (with_reducible refine Below.alloc ?_ ?_ _) | (with_reducible refine Below.setCell ?_ ?_ _) | exact Below.refl _ _ | assumption | (solve | omega | simp | (simp; omega))))⟩
  · have c1 : decide (0 < n) = false := decide_eq_false h
    have HV := Lib.hid hV
    clear hV
    go_enter Tryd.func42, Tryd.ntmps42
    go_wp2
    all_goals
      go_ret
      exact ⟨ret_bool (by rw [HV.out, c1]; rfl), (by repeat (first | (with_reducible exact Below.refl _ _) | (with_reducible assumption) | (with_reducible refine below_drewN ?_ _) | (with_reducible refine Below.drew ?_) | (with_reducible refine Below.alloc ?_ ?_ _) | (with_reducible refine Below.setCell ?_ ?_ _) | exact Below.refl _ _ | assumption | (solve | omega | simp | (simp; omega))))⟩

set_option maxHeartbeats 400000 in
theorem ref_reduces (s b c i p n d : Int) (w : World) : Calls Tryd.prog 43 #[.agg #[.int .i64 s, .int .i64 b, .int .i64 c, .int .i64 i, .int .i64 p, .int .i64 n, .int .i64 d]] w fun e w' => e = .returned (.bool (redB ⟨s, b, c, i, p, n, d⟩)) ∧ Below w.heap.size w w' := by
  have hV : redB ⟨s, b, c, i, p, n, d⟩ = (decide (0 < n) && decide (0 < i)) := rfl
  by_cases h : 0 < n
  · have c1 : decide (0 < n) = true := decide_eq_true h
    have HV := Lib.hid hV
    clear hV
    go_enter Tryd.func43, Tryd.ntmps43
    go_wp2
    all_goals
      go_ret
      exact ⟨ret_bool (by rw [HV.out]; simp [h]), (by repeat (first | (with_reducible exact Below.refl _ _) | (with_reducible assumption) | (with_reducible refine below_drewN ?_ _) | (with_reducible refine Below.drew ?_) | (with_reducible refine Below.alloc ?_ ?_ _) | (with_reducible refine Below.setCell ?_ ?_ _) | exact Below.refl _ _ | assumption | (solve | omega | simp | (simp; omega))))⟩
  · have c1 : decide (0 < n) = false := decide_eq_false h
    have HV := Lib.hid hV
    clear hV
    go_enter Tryd.func43, Tryd.ntmps43
    go_wp2
    all_goals
      go_ret
      exact ⟨ret_bool (by rw [HV.out, c1]; rfl), (by repeat (first | (with_reducible exact Below.refl _ _) | (with_reducible assumption) | (with_reducible refine below_drewN ?_ _) | (with_reducible refine Below.drew ?_) | (with_reducible refine Below.alloc ?_ ?_ _) | (with_reducible refine Below.setCell ?_ ?_ _) | exact Below.refl _ _ | assumption | (solve | omega | simp | (simp; omega))))⟩
end Go.Proofs.YthpknbflmcoanaaDoor
