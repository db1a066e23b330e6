/-
  The contracts of math/bits.Mul64, Len64, LeadingZeros64: each returns what its comment says, and the world is as it was.
-/
import Derived.Test.YtaifacnpnhcdcaaProg
import Derived.Test.YtaifacnpnhcdcaaPlain
import Derived.Test.YtaifacnpnhcdcaaLen
import Derived.WalkKit
import Derived.WalkSpells
import Derived.WalkLawsBesides
import Derived.Lib.Mul64
import Derived.Lib.BitFns
import Derived.Lib.ItoaNum
import Derived.Laws.Bits64b
namespace Go.Proofs.Ytaifacnpnhcdcaa
open Go.RowKit

theorem maskN (a : Nat) (ha : a < 18446744073709551616) : bits .and .u64 (a : Int) 4294967295 = ((a % 4294967296 : Nat) : Int) := by
  have h := bits_and_u64_nat a 4294967295 ha (by omega)
  have e : a &&& 4294967295 = a % 4294967296 := Nat.and_two_pow_sub_one_eq_mod a 32
  rw [e] at h
  exact h
theorem divN (a : Nat) : (a : Int) / 4294967296 = ((a / 4294967296 : Nat) : Int) := by omega
theorem mulN (a b : Nat) : (a : Int) * (b : Int) = ((a * b : Nat) : Int) := (Int.natCast_mul a b).symm
theorem addN (a b : Nat) : (a : Int) + (b : Int) = ((a + b : Nat) : Int) := (Int.natCast_add a b).symm
theorem wrapN (a : Nat) (ha : a < 18446744073709551616) : IntKind.u64.wrap (a : Int) = (a : Int) := by rw [IntKind.wrap_u64]; omega
theorem wrapM (a : Nat) : IntKind.u64.wrap (a : Int) = ((a % 18446744073709551616 : Nat) : Int) := by rw [IntKind.wrap_u64]; omega

set_option maxHeartbeats 1000000 in
theorem mul64 (x y : Nat) (hx : x < 18446744073709551616) (hy : y < 18446744073709551616) (w : World) :
    Calls Try.prog 50 #[.int .u64 x, .int .u64 y] w fun e w' => e = .returned (.tuple #[.int .u64 ((x * y / 18446744073709551616 : Nat) : Int), .int .u64 ((x * y % 18446744073709551616 : Nat) : Int)]) ∧ w = w' := by
  obtain ⟨bd, bt, bw, hhi⟩ := Lib.mul64_hi x y hx hy
  have ba := Lib.half_mul_le (a := x / 4294967296) (b := y / 4294967296) (by omega) (by omega)
  have bb := Lib.half_mul_le (a := x / 4294967296) (b := y % 4294967296) (by omega) (by omega)
  have bc := Lib.half_mul_le (a := x % 4294967296) (b := y / 4294967296) (by omega) (by omega)
  have ba' : x / 4294967296 * (y / 4294967296) < 18446744073709551616 := by omega
  have bb' : x / 4294967296 * (y % 4294967296) < 18446744073709551616 := by omega
  have bc' : x % 4294967296 * (y / 4294967296) < 18446744073709551616 := by omega
  have bh1 : x / 4294967296 * (y / 4294967296) + (x / 4294967296 * (y % 4294967296) + x % 4294967296 * (y % 4294967296) / 4294967296) / 4294967296 < 18446744073709551616 := by omega
  have bh : x / 4294967296 * (y / 4294967296) + (x / 4294967296 * (y % 4294967296) + x % 4294967296 * (y % 4294967296) / 4294967296) / 4294967296 + ((x / 4294967296 * (y % 4294967296) + x % 4294967296 * (y % 4294967296) / 4294967296) % 4294967296 + x % 4294967296 * (y / 4294967296)) / 4294967296 < 18446744073709551616 := by omega
  go_enter Try.func50, Try.ntmps50
  go_wp2
  simp only [maskN x hx, maskN y hy, divN, mulN, addN, wrapN _ bd, wrapN _ bb', wrapN _ bt, maskN _ bt, wrapN _ bc', wrapN _ bw, wrapN _ ba', wrapN _ bh1, wrapN _ bh, wrapM (x * y)]
  rw [hhi]
  go_ret2
  exact ⟨rfl, rfl⟩

set_option maxHeartbeats 400000 in
/-- the leading zeros of a number other than 0: s bits, and shifted by them the number fills 64 bits -/
theorem leadingZeros64 (x : Nat) (w : World) (h0 : x ≠ 0) (h1 : x < 18446744073709551616) :
    Calls Try.prog 80 #[.int .u64 x] w fun e w' => ∃ s : Nat, s < 64 ∧ 9223372036854775808 ≤ x * 2 ^ s ∧ x * 2 ^ s < 18446744073709551616 ∧ e = .returned (.int .i64 (s : Int)) ∧ w = w' := by
  have hb := Lib.bitLenAux_bounds 64 x (by simpa using h1) h0
  have hl : Lib.bitLen x ≤ 64 := Lib.bitLen_le x 64 (by omega) (by simpa using h1)
  have hl1 : 1 ≤ Lib.bitLen x := hb.1
  go_enter Try.func80, Try.ntmps80
  go_wp2_with fail
  refine (len64 _ _ (by omega) (by omega)).mono ?_
  rintro e w' ⟨rfl, rfl⟩
  rw [Int.toNat_natCast]
  have hb2 : 2 ^ (Lib.bitLen x - 1) ≤ x := hb.2.1
  have hb3 : x < 2 ^ Lib.bitLen x := hb.2.2
  clear hb
  generalize Lib.bitLen x = n at *
  go_wp2
  go_ret
  refine ⟨64 - n, by omega, ?_, ?_, congrArg Ending.returned (congrArg (Value.int IntKind.i64) (by omega)), rfl⟩
  · have : 2 ^ (n - 1) * 2 ^ (64 - n) ≤ x * 2 ^ (64 - n) := Nat.mul_le_mul_right _ hb2
    rw [← Nat.pow_add, show n - 1 + (64 - n) = 63 by omega] at this
    exact this
  · have : x * 2 ^ (64 - n) < 2 ^ n * 2 ^ (64 - n) := Nat.mul_lt_mul_of_pos_right hb3 (Nat.two_pow_pos _)
    rw [← Nat.pow_add, show n + (64 - n) = 64 by omega] at this
    exact this
end Go.Proofs.Ytaifacnpnhcdcaa
