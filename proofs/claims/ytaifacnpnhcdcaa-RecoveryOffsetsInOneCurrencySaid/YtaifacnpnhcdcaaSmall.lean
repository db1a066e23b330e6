/-
  Contracts of the small functions of packages money, rational, calendar and of the reference that only compute with numbers.
-/
import Derived.Test.YtaifacnpnhcdcaaDiv
namespace Go.Proofs.Ytaifacnpnhcdcaa
open Go.RowKit

theorem ret_bool {a b : Bool} (h : a = b) : Ending.returned (.bool a) = .returned (.bool b) := by rw [h]
theorem ret_int {k : IntKind} {a b : Int} (h : a = b) : Ending.returned (.int k a) = .returned (.int k b) := by rw [h]

theorem quiet_left {f : FuncId} {args : Array Value} {w : World} {n : Nat} {v : Value}
    (h : Calls Try.prog f args (w.drewN n) fun e w' => e = .returned v ∧ w.drewN n = w') : Calls Try.prog f args (w.drewN n) fun e w'' => e = .returned v ∧ ∃ m, w'' = w.drewN m :=
  h.mono fun _ _ ⟨he, hm⟩ => ⟨he, n, hm.symm⟩
theorem quiet_add {f : FuncId} {args : Array Value} {w : World} {a n : Nat} {v : Value}
    (h : Calls Try.prog f args (w.drewN (a + n)) fun e w' => e = .returned v ∧ ∃ m, w' = (w.drewN (a + n)).drewN m) :
    Calls Try.prog f args (w.drewN (a + n)) fun e w'' => e = .returned v ∧ ∃ m, w'' = w.drewN (a + m) :=
  h.mono fun _ _ ⟨he, m, hm⟩ => ⟨he, n + m, by rw [hm, World.drewN_drewN, Nat.add_assoc]⟩
theorem quiet_add_left {f : FuncId} {args : Array Value} {w : World} {a n : Nat} {v : Value}
    (h : Calls Try.prog f args (w.drewN (a + n)) fun e w' => e = .returned v ∧ w.drewN (a + n) = w') :
    Calls Try.prog f args (w.drewN (a + n)) fun e w'' => e = .returned v ∧ ∃ m, w'' = w.drewN (a + m) :=
  h.mono fun _ _ ⟨he, hm⟩ => ⟨he, n, hm.symm⟩

theorem below_drewN {B : Nat} {a w : World} (h : Below B a w) (n : Nat) : Below B a (w.drewN n) := ⟨h.os, h.tape, h.output, h.size, h.block⟩
theorem below_of_drewN {B : Nat} {a : World} (n : Nat) : Below B a (a.drewN n) := below_drewN (Below.refl _ _) n

/-- a number in its range -/
def inB (lo hi x : Int) : Bool := decide (lo ≤ x) && decide (x ≤ hi)
theorem inB_iff {lo hi x : Int} : inB lo hi x = true ↔ lo ≤ x ∧ x ≤ hi := by unfold inB; simp
theorem inB_no {lo hi x : Int} : inB lo hi x = false ↔ x < lo ∨ hi < x := by
  unfold inB; simp only [Bool.and_eq_false_iff, decide_eq_false_iff_not]; omega

set_option maxHeartbeats 400000 in
theorem money_size (x : Int) (w : World) (h0 : -4611686018427387904 ≤ x) (h1 : x ≤ 4611686018427387904) :
    Calls Try.prog 48 #[.int .i64 x] w fun e w' => e = .returned (.int .u64 (x.natAbs : Int)) ∧ w = w' := by
  by_cases h : x < 0
  all_goals
    go_enter Try.func48, Try.ntmps48
    go_wp2
    go_ret
    exact ⟨ret_int (by omega), rfl⟩

set_option maxHeartbeats 400000 in
theorem ref_size (x : Int) (w : World) (h0 : -9223372036854775808 ≤ x) (h1 : x ≤ 9223372036854775807) :
    Calls Try.prog 56 #[.int .i64 x] w fun e w' => e = .returned (.int .u64 (x.natAbs : Int)) ∧ w = w' := by
  by_cases h : x < 0
  all_goals
    go_enter Try.func56, Try.ntmps56
    go_wp2
    go_ret
    exact ⟨ret_int (by omega), rfl⟩

set_option maxHeartbeats 400000 in
theorem rat_size (x : Int) (w : World) (h0 : -4611686018427387904 ≤ x) (h1 : x ≤ 4611686018427387904) :
    Calls Try.prog 61 #[.int .i64 x] w fun e w' => e = .returned (.int .u64 (x.natAbs : Int)) ∧ w = w' := by
  by_cases h : x < 0
  all_goals
    go_enter Try.func61, Try.ntmps61
    go_wp2
    go_ret
    exact ⟨ret_int (by (try rw [IntKind.wrap_u64, IntKind.wrap_u64]); (try rw [IntKind.wrap_u64]); omega), rfl⟩

set_option maxHeartbeats 400000 in
theorem ref_gcd (a b : Nat) (w : World) (ha : a < 18446744073709551616) (hb : b < 18446744073709551616) :
    Calls Try.prog 66 #[.int .u64 a, .int .u64 b] w fun e w' => e = .returned (.int .u64 ((Nat.gcd a b : Nat) : Int)) ∧ ∃ n, w' = w.drewN n := by
  go_enter Try.func66, Try.ntmps66
  go_wp2
  go_loopw [0, 1] (fun s t wr => ∃ x y : Nat, s = .int .u64 x ∧ t = .int .u64 y ∧ Hid (Nat.gcd x y = Nat.gcd a b) ∧ x < 18446744073709551616 ∧ y < 18446744073709551616 ∧ ∃ n, wr = w.drewN n) (fun _ t _ => (intOf t).toNat)
  case atStart => exact ⟨a, b, rfl, rfl, rfl, ha, hb, 0, rfl⟩
  case round =>
    obtain ⟨x, y, rfl, rfl, hg, hx, hy, n, rfl⟩ := hrel
    by_cases hz : y = 0
    · subst hz
      go_wp2
      go_ret
      exact ⟨ret_int (by rw [← hg.out, Nat.gcd_zero_right]), n, rfl⟩
    · have hz' : ((y : Int) != 0) = true := by simp [hz]
      have hg2 : Nat.gcd y (x % y) = Nat.gcd a b := by rw [← hg.out, Nat.gcd_comm x y, Nat.gcd_rec y x, Nat.gcd_comm]
      have HG := Lib.hid hg2
      have hlt : x % y < y := Nat.mod_lt _ (by omega)
      clear hg2
      go_wp2
      go_quiet (fail)
      go_wp2
      go_roundw
      case rel => exact ⟨y, x % y, rfl, by go_num, HG, by omega, by omega, n + nq, by rw [World.drewN_drewN]⟩
      case measure => simp only [intOf]; omega

set_option maxHeartbeats 400000 in
theorem rat_gcd (a b : Nat) (w : World) (ha : a < 18446744073709551616) (hb : b < 18446744073709551616) :
    Calls Try.prog 60 #[.int .u64 a, .int .u64 b] w fun e w' => e = .returned (.int .u64 ((Nat.gcd a b : Nat) : Int)) ∧ ∃ n, w' = w.drewN n := by
  go_enter Try.func60, Try.ntmps60
  go_wp2
  go_loopw [0, 1] (fun s t wr => ∃ x y : Nat, s = .int .u64 x ∧ t = .int .u64 y ∧ Hid (Nat.gcd x y = Nat.gcd a b) ∧ x < 18446744073709551616 ∧ y < 18446744073709551616 ∧ ∃ n, wr = w.drewN n) (fun _ t _ => (intOf t).toNat)
  case atStart => exact ⟨a, b, rfl, rfl, rfl, ha, hb, 0, rfl⟩
  case round =>
    obtain ⟨x, y, rfl, rfl, hg, hx, hy, n, rfl⟩ := hrel
    by_cases hz : y = 0
    · subst hz
      go_wp2
      go_ret
      exact ⟨ret_int (by rw [← hg.out, Nat.gcd_zero_right]), n, rfl⟩
    · have hz' : ((y : Int) != 0) = true := by simp [hz]
      have hg2 : Nat.gcd y (x % y) = Nat.gcd a b := by rw [← hg.out, Nat.gcd_comm x y, Nat.gcd_rec y x, Nat.gcd_comm]
      have HG := Lib.hid hg2
      have hlt : x % y < y := Nat.mod_lt _ (by omega)
      clear hg2
      go_wp2
      go_quiet (fail)
      go_wp2
      go_roundw
      case rel => exact ⟨y, x % y, rfl, by go_num, HG, by omega, by omega, n + nq, by rw [World.drewN_drewN]⟩
      case measure => simp only [intOf]; omega

set_option maxHeartbeats 400000 in
theorem money_amount (x : Int) (w : World) :
    Calls Try.prog 45 #[.int .i64 x] w fun e w' => e = .returned (.bool (inB (-1000000000000) 1000000000000 x)) ∧ w = w' := by
  by_cases h0 : -1000000000000 ≤ x
  all_goals by_cases h1 : x ≤ 1000000000000
  all_goals
    go_enter Try.func45, Try.ntmps45
    go_wp2
    go_ret
    exact ⟨ret_bool (by simp [inB, h0, h1]), rfl⟩

set_option maxHeartbeats 400000 in
theorem ref_ValidAmount (x : Int) (w : World) :
    Calls Try.prog 52 #[.int .i64 x] w fun e w' => e = .returned (.bool (inB (-1000000000000) 1000000000000 x)) ∧ w = w' := by
  by_cases h0 : -1000000000000 ≤ x
  all_goals by_cases h1 : x ≤ 1000000000000
  all_goals
    go_enter Try.func52, Try.ntmps52
    go_wp2
    go_ret
    exact ⟨ret_bool (by simp [inB, h0, h1]), rfl⟩

set_option maxHeartbeats 400000 in
theorem money_currency (x : Int) (w : World) :
    Calls Try.prog 37 #[.int .i64 x] w fun e w' => e = .returned (.bool (inB (1) 999 x)) ∧ w = w' := by
  by_cases h0 : 1 ≤ x
  all_goals by_cases h1 : x ≤ 999
  all_goals
    go_enter Try.func37, Try.ntmps37
    go_wp2
    go_ret
    exact ⟨ret_bool (by simp [inB, h0, h1]), rfl⟩

set_option maxHeartbeats 400000 in
theorem ref_validCurrency (x : Int) (w : World) :
    Calls Try.prog 53 #[.int .i64 x] w fun e w' => e = .returned (.bool (inB (1) 999 x)) ∧ w = w' := by
  by_cases h0 : 1 ≤ x
  all_goals by_cases h1 : x ≤ 999
  all_goals
    go_enter Try.func53, Try.ntmps53
    go_wp2
    go_ret
    exact ⟨ret_bool (by simp [inB, h0, h1]), rfl⟩

set_option maxHeartbeats 400000 in
theorem money_small (x : Int) (w : World) :
    Calls Try.prog 40 #[.int .i64 x] w fun e w' => e = .returned (.bool (inB (1) 1000000 x)) ∧ w = w' := by
  by_cases h0 : 1 ≤ x
  all_goals by_cases h1 : x ≤ 1000000
  all_goals
    go_enter Try.func40, Try.ntmps40
    go_wp2
    go_ret
    exact ⟨ret_bool (by simp [inB, h0, h1]), rfl⟩

set_option maxHeartbeats 400000 in
theorem ref_ValidMonth (x : Int) (w : World) :
    Calls Try.prog 22 #[.int .i64 x] w fun e w' => e = .returned (.bool (inB (0) 2399 x)) ∧ w = w' := by
  by_cases h0 : 0 ≤ x
  all_goals by_cases h1 : x ≤ 2399
  all_goals
    go_enter Try.func22, Try.ntmps22
    go_wp2
    go_ret
    exact ⟨ret_bool (by simp [inB, h0, h1]), rfl⟩

set_option maxHeartbeats 400000 in
theorem cal_validMonth (x : Int) (w : World) :
    Calls Try.prog 68 #[.int .i64 x] w fun e w' => e = .returned (.bool (inB (0) 2399 x)) ∧ w = w' := by
  by_cases h0 : 0 ≤ x
  all_goals by_cases h1 : x ≤ 2399
  all_goals
    go_enter Try.func68, Try.ntmps68
    go_wp2
    go_ret
    exact ⟨ret_bool (by simp [inB, h0, h1]), rfl⟩

end Go.Proofs.Ytaifacnpnhcdcaa
