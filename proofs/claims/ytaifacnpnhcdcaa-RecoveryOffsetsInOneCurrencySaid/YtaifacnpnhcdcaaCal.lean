/-
  Contracts of package calendar's MonthDays as package money uses it: a month has days.
-/
import Derived.Test.YtaifacnpnhcdcaaSmall
namespace Go.Proofs.Ytaifacnpnhcdcaa
open Go.RowKit

def SomeBool (w : World) (e : Ending) (w' : World) : Prop := ∃ b : Bool, e = .returned (.bool b) ∧ w = w'
def SomeDays (w : World) (e : Ending) (w' : World) : Prop := ∃ n : Int, 1 ≤ n ∧ n ≤ 31 ∧ e = .returned (.int .i64 n) ∧ Below w.heap.size w w'

set_option maxHeartbeats 400000 in
theorem cal_leap (y : Int) (w : World) : Calls Try.prog 81 #[.int .i64 y] w (SomeBool w) := by
  by_cases h4 : (y.tmod 4 == 0) = true
  all_goals by_cases h100 : (y.tmod 100 != 0) = true
  all_goals
    go_enter Try.func81, Try.ntmps81
    go_wp2
    go_ret
    exact ⟨_, rfl, rfl⟩

set_option maxHeartbeats 400000 in
theorem cal_monthLength (y m : Int) (w : World) (h0 : 1 ≤ m) (h1 : m ≤ 12) : Calls Try.prog 69 #[.int .i64 y, .int .i64 m] w (SomeDays w) := by
  by_cases h2 : m = 2
  · subst h2
    go_enter Try.func69, Try.ntmps69
    go_wp2_with fail
    refine (cal_leap _ _).mono ?_
    rintro e w' ⟨b, rfl, rfl⟩
    cases b
    · go_wp2
      go_ret
      exact ⟨28, by omega, by omega, rfl, (Below.refl _ _).alloc (Nat.le_refl _) _⟩
    · go_wp2
      go_ret
      exact ⟨29, by omega, by omega, rfl, (Below.refl _ _).alloc (Nat.le_refl _) _⟩
  · have hc : m = 1 ∨ m = 3 ∨ m = 4 ∨ m = 5 ∨ m = 6 ∨ m = 7 ∨ m = 8 ∨ m = 9 ∨ m = 10 ∨ m = 11 ∨ m = 12 := by omega
    clear h0 h1 h2
    rcases hc with rfl | rfl | rfl | rfl | rfl | rfl | rfl | rfl | rfl | rfl | rfl
    all_goals
      go_enter Try.func69, Try.ntmps69
      go_wp2
      go_ret
      exact ⟨_, by decide, by decide, rfl, (Below.refl _ _).alloc (Nat.le_refl _) _⟩

def DaysOf (x : Int) (w : World) (e : Ending) (w' : World) : Prop := ∃ n : Int, 0 ≤ n ∧ n ≤ 31 ∧ decide (0 < n) = inB 0 2399 x ∧ e = .returned (.int .i64 n) ∧ Below w.heap.size w w'

set_option maxHeartbeats 400000 in
theorem cal_MonthDays (x : Int) (w : World) : Calls Try.prog 59 #[.int .i64 x] w (DaysOf x w) := by
  cases hb : inB 0 2399 x
  · have HB := Lib.hid hb
    go_enter Try.func59, Try.ntmps59
    go_wp2_with fail
    refine (cal_validMonth _ _).mono ?_
    rintro e w' ⟨rfl, rfl⟩
    go_wp2
    go_ret
    exact ⟨0, by omega, by omega, HB.out.symm, rfl, Below.refl _ _⟩
  · have hy := inB_iff.1 hb
    have HB := Lib.hid hb
    obtain ⟨hy0, hy1⟩ := hy
    go_enter Try.func59, Try.ntmps59
    go_wp2_with fail
    refine (cal_validMonth _ _).mono ?_
    rintro e w' ⟨rfl, rfl⟩
    go_wp2_with fail
    refine (cal_monthLength _ _ _ (by omega) (by omega)).mono ?_
    rintro e w' ⟨n, hn0, hn1, rfl, hB⟩
    go_wp2
    go_ret
    exact ⟨n, by omega, hn1, by rw [HB.out]; simp; omega, rfl, hB⟩

set_option maxHeartbeats 400000 in
theorem money_month (x : Int) (w : World) :
    Calls Try.prog 38 #[.int .i64 x] w fun e w' => e = .returned (.bool (inB 0 2399 x)) ∧ Below w.heap.size w w' := by
  go_enter Try.func38, Try.ntmps38
  go_wp2_with fail
  refine (cal_MonthDays _ _).mono ?_
  rintro e w' ⟨n, hn0, hn1, hd, rfl, hB⟩
  have HD := Lib.hid hd
  clear hd
  go_wp2
  go_ret
  exact ⟨ret_bool (by rw [← HD.out]), hB⟩
end Go.Proofs.Ytaifacnpnhcdcaa
