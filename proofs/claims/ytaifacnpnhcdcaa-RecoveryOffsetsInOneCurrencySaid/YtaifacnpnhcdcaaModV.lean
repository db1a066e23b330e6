/-
  The remainder that is never negative (Mod); rows of the call's own stay.
-/
import Derived.Test.YtaifacnpnhcdcaaChain
import Derived.Maps.AppendAt
import Derived.Deep.RegionHeld
namespace Go.Proofs.Ytaifacnpnhcdcaa
open Go.RowKit Mny

set_option maxHeartbeats 400000 in
theorem plain_Mod (n k : Int) (w : World) (h1 : 1 ≤ k) (h2 : k ≤ 4611686018427387904) :
    Calls Try.prog 11 #[.int .i64 n, .int .i64 k] w fun e w' => e = .returned (.int .i64 (n % k)) ∧ w = w' := by
  have t1 := Int.tmod_lt_of_pos n (show 0 < k by omega)
  have t2 : -k < n.tmod k := by
    have := Int.tmod_lt_of_pos (-n) (show 0 < k by omega)
    rw [Int.neg_tmod] at this; omega
  have e0 := Int.emod_nonneg n (show k ≠ 0 by omega)
  have e1 := Int.emod_lt_of_pos n (show 0 < k by omega)
  have hx : n.tmod k = n % k ∨ n.tmod k + k = n % k := by
    have h3 := Int.mul_tdiv_add_tmod n k
    have h4 := Int.mul_ediv_add_emod n k
    rcases Int.lt_or_le n 0 with h | h
    · have h5 : n.tmod k ≤ 0 := by
        have := Int.tmod_nonneg k (show 0 ≤ -n by omega)
        rw [Int.neg_tmod] at this; omega
      by_cases h0 : n.tmod k = 0
      · left
        have : n % k = 0 := Int.emod_eq_zero_of_dvd (Int.dvd_of_tmod_eq_zero h0)
        omega
      · right
        have : (n.tmod k + k) % k = n % k := by
          rw [Int.add_emod_right]
          conv => rhs; rw [← h3]
          rw [Int.add_comm (k * _), Int.add_mul_emod_self_left]
        rw [← this, Int.emod_eq_of_lt (by omega) (by omega)]
    · left; exact Int.tmod_eq_emod_of_nonneg h
  obtain ⟨t, ht⟩ : ∃ t, n.tmod k = t := ⟨_, rfl⟩
  obtain ⟨q, hq⟩ : ∃ q, n % k = q := ⟨_, rfl⟩
  rw [ht] at hx t1 t2
  rw [hq] at hx e0 e1
  by_cases hn : 0 ≤ n
  · have hnn : t = q := by rw [← ht, ← hq]; exact Int.tmod_eq_emod_of_nonneg hn
    subst hnn
    have HQ := Lib.hid hq
    clear hx ht hq
    have q0 : 0 ≤ n % k := by rw [HQ.out]; exact e0
    have c1 : decide (n % k < 0) = false := decide_eq_false (by rw [HQ.out]; omega)
    go_enter Try.func11, Try.ntmps11
    go_wp2
    go_ret
    exact ⟨rfl, rfl⟩
  · have HT := Lib.hid ht
    have HQ := Lib.hid hq
    have HX := Lib.hid hx
    by_cases hz : t < 0
    · have c1 : decide (n.tmod k < 0) = true := decide_eq_true (by rw [HT.out]; exact hz)
      have v1 : IntKind.i64.wrap (n.tmod k + k) = n.tmod k + k := IntWalk.i64_in _ (by rw [HT.out]; omega)
      have b1 : -k < n.tmod k := by rw [HT.out]; exact t2
      have b2 : n.tmod k < 0 := by rw [HT.out]; exact hz
      have HF : Hid (n.tmod k + k = n % k) := Lib.hid (by rw [HT.out, HQ.out]; rcases HX.out with h | h <;> omega)
      clear ht hq hx
      go_enter Try.func11, Try.ntmps11
      go_wp2
      go_ret
      exact ⟨ret_int HF.out, rfl⟩
    · have c1 : decide (n.tmod k < 0) = false := decide_eq_false (by rw [HT.out]; exact hz)
      have b2 : ¬ n.tmod k < 0 := by rw [HT.out]; exact hz
      have HF : Hid (n.tmod k = n % k) := Lib.hid (by rw [HT.out, HQ.out]; rcases HX.out with h | h <;> omega)
      clear ht hq hx
      go_enter Try.func11, Try.ntmps11
      go_wp2
      go_ret
      exact ⟨ret_int HF.out, rfl⟩

theorem plain_ModN (n k : Int) (w : World) (h1 : 1 ≤ k) (h2 : k ≤ 4611686018427387904) :
    Calls Try.prog 11 #[.int .i64 n, .int .i64 k] w fun e w' => ∃ r : Nat, e = .returned (.int .i64 (r : Int)) ∧ (r : Int) < k ∧ w = w' :=
  (plain_Mod n k w h1 h2).mono fun e w' ⟨he, hw⟩ => by
    have h3 := Int.emod_nonneg n (show k ≠ 0 by omega)
    have h4 := Int.emod_lt_of_pos n (show 0 < k by omega)
    exact ⟨(n % k).toNat, by rw [he, Int.toNat_of_nonneg h3], by rw [Int.toNat_of_nonneg h3]; exact h4, hw⟩
theorem own_below {w w' : World} {base n size : Nat} {e : TypeId} {v : Value} {xs : List Value} (h : w.ownsRow base e size v n xs) (hb : Below w.heap.size w w') : w'.ownsRow base e size v n xs := by
  refine ⟨h.1, ?_⟩
  rcases h.2 with h0 | ⟨g, cap, cur, h1, h2, h3, h4⟩
  · exact .inl h0
  · exact .inr ⟨g, cap, cur, h1, h2, (hb.block g (Bx.lt h3)).trans h3, h4⟩
theorem own_slice {w : World} {base n size : Nat} {e : TypeId} {v : Value} {xs : List Value} (h : w.ownsRow base e size v n xs) : ∃ A c, v = .slice A n c := by
  rcases h.2 with ⟨rfl, rfl⟩ | ⟨g, cap, cur, rfl, _⟩
  · exact ⟨_, _, rfl⟩
  · exact ⟨_, _, rfl⟩
end Go.Proofs.Ytaifacnpnhcdcaa
