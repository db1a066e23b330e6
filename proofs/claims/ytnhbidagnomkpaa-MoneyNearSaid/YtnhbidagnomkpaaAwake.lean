/-
  Contracts of amount and awake in the statements of chapter 4.
-/
import Derived.Test.YtnhbidagnomkpaaOf
namespace Go.Proofs.Ytnhbidagnomkpaa
open Go.RowKit Mny

theorem round_example : roundS 5 2 3 1 = (3, 0) := by decide

set_option maxHeartbeats 400000 in
theorem law4_awake (w : World) : Calls Try.prog 18 #[] w fun e w' => e = .returned (.bool true) ∧ Below w.heap.size w w' := by
  have hr := fun W => money_Round 5 2 3 1 W
  rw [round_example] at hr
  have HR : Hid (∀ W, Calls Try.prog 16 #[.agg #[.int .i64 5, .int .i64 2], .agg #[.int .i64 3, .int .i64 1]] W fun e w' => e = .returned (.tuple #[.int .i64 3, .int .i64 0]) ∧ Below W.heap.size W w') := Lib.hid hr
  clear hr
  go_enter Try.func18, Try.ntmps18
  go_wp2_with fail
  refine (HR.out _).mono ?_
  rintro e w1 ⟨rfl, hb1⟩
  have HB1 := Lib.hid hb1
  clear hb1
  go_wp2
  go_ret
  exact ⟨rfl, HB1.out⟩

/-- what amount returns -/
def amountV (n : Int) : Int := if n % 16 = 0 then n else if n % 16 = 1 then 1000000000000 - wrap64 (n.tdiv 16) % 3 else n.tmod 1000000
theorem amountV_bd {n : Int} (n0 : -9223372036854775808 ≤ n) (n1 : n ≤ 9223372036854775807) : -9223372036854775808 ≤ amountV n ∧ amountV n ≤ 9223372036854775807 := by
  have := tmod_bd n 1000000 (by omega)
  unfold amountV; split
  · omega
  · split <;> omega

set_option maxRecDepth 100000 in
set_option maxHeartbeats 400000 in
theorem law4_amount (n : Int) (w : World) : Calls Try.prog 22 #[.int .i64 n] w fun e w' => e = .returned (.int .i64 (amountV n)) ∧ w = w' := by
  have hp := made_Pick n 16
  have hV : amountV n = if n % 16 = 0 then n else if n % 16 = 1 then 1000000000000 - wrap64 (n.tdiv 16) % 3 else n.tmod 1000000 := rfl
  obtain ⟨p, hpe⟩ : ∃ p, n % 16 = p := ⟨_, rfl⟩
  rw [hpe] at hp hV
  have HP := Lib.hid hp
  clear hp hpe
  by_cases h0 : p = 0
  · subst h0
    have HV := Lib.hid (hV.trans rfl : amountV n = n)
    clear hV
    go_enter Try.func22, Try.ntmps22
    go_wp2_with fail
    refine (HP.out _ (by omega) (by omega)).mono ?_
    rintro e w' ⟨rfl, rfl⟩
    go_wp2
    go_ret
    exact ⟨ret_int HV.out.symm, rfl⟩
  · have b0 : (p == 0) = false := beq_eq_false_iff_ne.2 h0
    by_cases h1 : p = 1
    · subst h1
      obtain ⟨q, hq⟩ : ∃ q, wrap64 (n.tdiv 16) = q := ⟨_, rfl⟩
      have hp := made_Pick q 3
      obtain ⟨r, hr⟩ : ∃ r, q % 3 = r := ⟨_, rfl⟩
      have hrb : 0 ≤ r ∧ r < 3 := by omega
      rw [hr] at hp
      rw [if_neg h0, if_pos rfl, hq, hr] at hV
      have HQ := Lib.hid hp
      have HV := Lib.hid hV
      clear hp hr hV
      go_enter Try.func22, Try.ntmps22
      go_wp2_with fail
      refine (HP.out _ (by omega) (by omega)).mono ?_
      rintro e w' ⟨rfl, rfl⟩
      go_wp2_with fail
      refine (HQ.out _ (by omega) (by omega)).mono ?_
      rintro e w' ⟨rfl, rfl⟩
      go_wp2
      go_ret
      exact ⟨ret_int HV.out.symm, rfl⟩
    · have b1 : (p == 1) = false := beq_eq_false_iff_ne.2 h1
      have ht := tmod_bd n 1000000 (by omega)
      obtain ⟨t, hte⟩ : ∃ t, n.tmod 1000000 = t := ⟨_, rfl⟩
      have hmo : 0 ≤ n → n % 1000000 = t := fun h => by rw [← hte, Int.tmod_eq_emod_of_nonneg h]
      rw [hte] at ht
      rw [if_neg h0, if_neg h1, hte] at hV
      have HV := Lib.hid hV
      have HMO := Lib.hid hmo
      clear hV hmo
      go_enter Try.func22, Try.ntmps22
      go_wp2_with fail
      refine (HP.out _ (by omega) (by omega)).mono ?_
      rintro e w' ⟨rfl, rfl⟩
      go_wp2
      all_goals
        go_ret
        first | exact ⟨ret_int HV.out.symm, rfl⟩ | exact ⟨ret_int ((HMO.out (by omega)).trans HV.out.symm), rfl⟩
end Go.Proofs.Ytnhbidagnomkpaa
