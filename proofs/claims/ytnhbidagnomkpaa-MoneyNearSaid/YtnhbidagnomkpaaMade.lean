/-
  Contracts of MakeFraction and of the makers of raw numbers in the statements of chapter 4: Pick, of, rule, amount, awake.
-/
import Derived.Test.YtnhbidagnomkpaaLowest
namespace Go.Proofs.Ytnhbidagnomkpaa
open Go.RowKit Mny

/-- what MakeFraction returns -/
def mkS (n d : Int) : Int × Int × Int := if d = 0 then (0, 0, 3) else lowS (decide (n < 0) != decide (d < 0)) n.natAbs d.natAbs
theorem mkS_zero (n : Int) : mkS n 0 = (0, 0, 3) := rfl
theorem mkS_yes {n d : Int} (h : d ≠ 0) : mkS n d = lowS (decide (n < 0) != decide (d < 0)) n.natAbs d.natAbs := by unfold mkS; rw [if_neg h]
/-- its parts are numbers of the kind -/
theorem lowS_bd (neg : Bool) (N d : Nat) : -1000000000000000 ≤ (lowS neg N d).1 ∧ (lowS neg N d).1 ≤ 1000000000000000 ∧ 0 ≤ (lowS neg N d).2.1 ∧ (lowS neg N d).2.1 ≤ 1000000000 := by
  unfold lowS sgnN
  generalize N / Nat.gcd N d = a
  generalize d / Nat.gcd N d = b
  split
  · simp
  · cases neg <;> simp <;> omega
theorem mkS_bd (n d : Int) : -1000000000000000 ≤ (mkS n d).1 ∧ (mkS n d).1 ≤ 1000000000000000 ∧ 0 ≤ (mkS n d).2.1 ∧ (mkS n d).2.1 ≤ 1000000000 := by
  unfold mkS; split
  · simp
  · exact lowS_bd _ _ _

set_option maxHeartbeats 1000000 in
theorem ref_MakeFraction (n d : Int) (w : World) (n0 : -9223372036854775808 ≤ n) (n1 : n ≤ 9223372036854775807) (d0 : -9223372036854775808 ≤ d) (d1 : d ≤ 9223372036854775807) :
    Calls Try.prog 31 #[.int .i64 n, .int .i64 d] w fun e w' => e = FE (mkS n d) ∧ Below w.heap.size w w' := by
  by_cases hd : d = 0
  · subst hd
    clear n0 n1 d0 d1
    go_enter Try.func31, Try.ntmps31
    go_wp2
    refine bodyPost_ret (v := .tuple #[.agg #[.int .i64 0, .int .i64 0], .int .i64 3]) (by simp [results, Try.results31, go_sem]) rfl ⟨rfl, ?_⟩
    exact (by repeat (first | (with_reducible exact Below.refl _ _) | (with_reducible assumption) | (with_reducible refine below_drewN ?_ _) | (with_reducible refine Below.drew ?_) | (with_reducible refine Below.alloc ?_ ?_ _) | (with_reducible refine Below.setCell ?_ ?_ _) | exact Below.refl _ _ | assumption | (solve | omega | simp | (simp; omega))))
  · have hf := mkS_yes (n := n) hd
    have hl : ∀ W, Calls Try.prog 52 #[.bool (decide (n < 0) != decide (d < 0)), .agg #[.int .u64 (0 : Int), .int .u64 (n.natAbs : Int)], .int .u64 (d.natAbs : Int)] W fun e w' =>
        e = FE (lowS (decide (n < 0) != decide (d < 0)) (wideN 0 n.natAbs) d.natAbs) ∧ Below W.heap.size W w' := fun W => ref_lowest _ 0 n.natAbs d.natAbs W (by omega) (by omega) (by omega) (by omega)
    rw [show wideN 0 n.natAbs = n.natAbs by unfold wideN; omega, ← hf] at hl
    have hdz : (d == 0) = false := beq_eq_false_iff_ne.2 hd
    obtain ⟨A, B, E, hABE⟩ : ∃ A B E, mkS n d = (A, B, E) := ⟨_, _, _, rfl⟩
    rw [hABE] at hl ⊢
    have HL : Hid (∀ W, Calls Try.prog 52 #[.bool (decide (n < 0) != decide (d < 0)), .agg #[.int .u64 (0 : Int), .int .u64 (n.natAbs : Int)], .int .u64 (d.natAbs : Int)] W fun e w' =>
        e = .returned (.tuple #[.agg #[.int .i64 A, .int .i64 B], .int .i64 E]) ∧ Below W.heap.size W w') := Lib.hid hl
    clear hf hl hd hABE
    go_enter Try.func31, Try.ntmps31
    go_wp2_with fail
    refine (ref_size n _ n0 n1).mono ?_
    rintro e w' ⟨rfl, rfl⟩
    go_wp2_with fail
    refine (ref_size d _ d0 d1).mono ?_
    rintro e w' ⟨rfl, rfl⟩
    go_wp2_with fail
    refine (HL.out _).mono ?_
    rintro e w1 ⟨rfl, hb1⟩
    have B4 := Lib.hid ((Bx.made w 23 #[.int .i64 0, .int .i64 0] rfl).below hb1)
    have HB1 := Lib.hid (below_then (w := w) (by repeat (first | (with_reducible exact Below.refl _ _) | (with_reducible assumption) | (with_reducible refine below_drewN ?_ _) | (with_reducible refine Below.drew ?_) | (with_reducible refine Below.alloc ?_ ?_ _) | (with_reducible refine Below.setCell ?_ ?_ _) | exact Below.refl _ _ | assumption | (solve | omega | simp | (simp; omega)))) hb1)
    have hz := B4.out.lt
    obtain ⟨k4, f4⟩ := B4.out.of
    clear hb1
    go_wp2
    refine bodyPost_ret (v := .tuple #[.agg #[.int .i64 A, .int .i64 B], .int .i64 E]) (by simp [results, Try.results31, go_sem, k4]) rfl ⟨rfl, ?_⟩
    have hB1 := HB1.out
    exact (by repeat (first | (with_reducible exact Below.refl _ _) | (with_reducible assumption) | (with_reducible refine below_drewN ?_ _) | (with_reducible refine Below.drew ?_) | (with_reducible refine Below.alloc ?_ ?_ _) | (with_reducible refine Below.setCell ?_ ?_ _) | exact Below.refl _ _ | assumption | (solve | omega | simp | (simp; omega))))

theorem pick_eq (n k : Int) : (n.tmod k + k) % k = n % k := by
  have h3 := Int.mul_tdiv_add_tmod n k
  rw [Int.add_emod_right]
  conv => rhs; rw [← h3]
  rw [Int.add_comm (k * _), Int.add_mul_emod_self_left]
theorem pick_eq2 (n k : Int) : (n % k + k) % k = n % k := by rw [Int.add_emod_right, Int.emod_emod]

set_option maxHeartbeats 400000 in
theorem made_Pick (n k : Int) (w : World) (h1 : 1 ≤ k) (h2 : k ≤ 4611686018427387904) :
    Calls Try.prog 25 #[.int .i64 n, .int .i64 k] w fun e w' => e = .returned (.int .i64 (n % k)) ∧ w = w' := by
  have t1 := Int.tmod_lt_of_pos n (show 0 < k by omega)
  have t2 : -k < n.tmod k := by
    have := Int.tmod_lt_of_pos (-n) (show 0 < k by omega)
    rw [Int.neg_tmod] at this; omega
  have HP := Lib.hid (pick_eq n k)
  have HP2 := Lib.hid (pick_eq2 n k)
  go_enter Try.func25, Try.ntmps25
  go_wp2
  go_ret
  first | exact ⟨ret_int HP.out, rfl⟩ | exact ⟨ret_int HP2.out, rfl⟩
end Go.Proofs.Ytnhbidagnomkpaa
