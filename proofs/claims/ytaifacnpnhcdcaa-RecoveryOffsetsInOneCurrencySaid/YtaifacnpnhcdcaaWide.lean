/-
  Contracts of the reference's numbers of 128 bits: times and over.
-/
import Derived.Test.YtaifacnpnhcdcaaDivide
namespace Go.Proofs.Ytaifacnpnhcdcaa
open Go.RowKit Mny

theorem bcell {W w1 : World} (hb : Below W.heap.size W w1) : (∀ b o, b < W.heap.size → w1.cell? ⟨b, o, none⟩ = W.cell? ⟨b, o, none⟩) ∧ (∀ b o, b < W.heap.size → w1.frozen? ⟨b, o, none⟩ = W.frozen? ⟨b, o, none⟩) :=
  ⟨fun b o h => hb.cell (p := ⟨b, o, none⟩) h, fun b o h => hb.frozen (p := ⟨b, o, none⟩) h⟩

theorem below_then {w W w1 : World} (h : Below w.heap.size w W) (hb : Below W.heap.size W w1) : Below w.heap.size w w1 := h.trans (hb.mono h.size)

/-- a number of 128 bits by its halves -/
def wideV (n : Nat) : Value := .agg #[.int .u64 ((n / 18446744073709551616 : Nat) : Int), .int .u64 ((n % 18446744073709551616 : Nat) : Int)]

theorem wideV_of {hi lo : Nat} (hlo : lo < 18446744073709551616) : wideV (hi * 18446744073709551616 + lo) = .agg #[.int .u64 (hi : Int), .int .u64 (lo : Int)] := by
  unfold wideV
  rw [show (hi * 18446744073709551616 + lo) / 18446744073709551616 = hi by omega, show (hi * 18446744073709551616 + lo) % 18446744073709551616 = lo by omega]

theorem overG {hi lo d B : Nat} (hd : 0 < d) (hB : 0 < B) (hq : (hi % d * B + lo) / d < B) :
    (hi * B + lo) / d / B = hi / d ∧ (hi * B + lo) / d % B = (hi % d * B + lo) / d ∧ (hi * B + lo) % d = (hi % d * B + lo) % d := by
  have h := Nat.div_add_mod hi d
  generalize hi / d = a at *
  generalize hi % d = b at *
  have e : hi * B + lo = d * (a * B) + (b * B + lo) := by rw [← h, Nat.add_mul, Nat.mul_assoc]; omega
  rw [e, Nat.mul_add_div hd, Nat.mul_add_mod]
  generalize (b * B + lo) / d = c at *
  refine ⟨?_, ?_, rfl⟩
  · rw [Nat.mul_comm, Nat.mul_add_div hB, Nat.div_eq_of_lt hq, Nat.add_zero]
  · rw [Nat.mul_comm, Nat.mul_add_mod, Nat.mod_eq_of_lt hq]
theorem over_eq {hi lo d : Nat} (hd : 0 < d) (hlo : lo < 18446744073709551616) :
    wideN hi lo / d / 18446744073709551616 = hi / d ∧ wideN hi lo / d % 18446744073709551616 = wideN (hi % d) lo / d ∧ wideN hi lo % d = wideN (hi % d) lo % d :=
  overG hd (by decide) (Dv.quot_lt (Nat.mod_lt hi hd) hlo)

set_option maxHeartbeats 1000000 in
theorem ref_times (x y : Nat) (w : World) (hx : x < 18446744073709551616) (hy : y < 18446744073709551616) :
    Calls Try.prog 58 #[.int .u64 x, .int .u64 y] w fun e w' => e = .returned (wideV (x * y)) ∧ Below w.heap.size w w' := by
  go_enter Try.func58, Try.ntmps58
  go_wp2_with fail
  refine (mul64 x y hx hy _).mono ?_
  rintro e w' ⟨rfl, rfl⟩
  go_wp2
  refine bodyPost_ret (v := wideV (x * y)) (by simp [results, Try.results58, go_sem, wideV]) rfl ⟨rfl, (Below.refl _ _).alloc (Nat.le_refl _) _⟩

set_option maxHeartbeats 2000000 in
theorem ref_over (hi lo d : Nat) (w : World) (hhi : hi < 18446744073709551616) (hlo : lo < 18446744073709551616) (hd0 : 0 < d) (hd : d < 18446744073709551616) :
    Calls Try.prog 67 #[.agg #[.int .u64 hi, .int .u64 lo], .int .u64 d] w fun e w' =>
      e = .returned (.tuple #[wideV (wideN hi lo / d), .int .u64 ((wideN hi lo % d : Nat) : Int)]) ∧ Below w.heap.size w w' := by
  have hm := Nat.mod_lt hi hd0
  have hle : hi / d ≤ hi := Nat.div_le_self _ _
  obtain ⟨e1, e2, e3⟩ := over_eq (hi := hi) hd0 hlo
  have hw : IntKind.u64.wrap ((hi : Int) / (d : Int)) = ((hi / d : Nat) : Int) := by rw [natdiv]; exact wrapN _ (by omega)
  have hmod : (hi : Int) % (d : Int) = ((hi % d : Nat) : Int) := rfl
  have hdc : ∀ W, Calls Try.prog 65 #[.int .u64 ((hi % d : Nat) : Int), .int .u64 lo, .int .u64 d] W fun e w' =>
      e = .returned (.tuple #[.int .u64 ((wideN (hi % d) lo / d : Nat) : Int), .int .u64 ((wideN (hi % d) lo % d : Nat) : Int)]) ∧ ∃ n, w' = W.drewN n := fun W => div64 (hi % d) lo d W hm hlo hd
  obtain ⟨q, hq⟩ : ∃ q, wideN (hi % d) lo / d = q := ⟨_, rfl⟩
  obtain ⟨r, hr⟩ : ∃ r, wideN (hi % d) lo % d = r := ⟨_, rfl⟩
  rw [hq] at e2 hdc
  rw [hr] at e3 hdc
  obtain ⟨b, hbe⟩ : ∃ b, hi % d = b := ⟨_, rfl⟩
  obtain ⟨a, hae⟩ : ∃ a, hi / d = a := ⟨_, rfl⟩
  rw [hbe] at hmod hdc hm
  rw [hae] at hw e1 hle
  have HDC := Lib.hid hdc
  clear hdc hq hr hbe hae
  have E1 := Lib.hid e1
  have E2 := Lib.hid e2
  have E3 := Lib.hid e3
  clear e1 e2 e3
  go_enter Try.func67, Try.ntmps67
  go_wp2
  go_quiet ((go_at_call 65; exact Calls.quiet_of (HDC.out _)))
  go_wp2
  refine bodyPost_ret (v := .tuple #[.agg #[.int .u64 (a : Int), .int .u64 (q : Int)], .int .u64 (r : Int)]) (by simp [results, Try.results67, go_sem]) rfl ⟨?_, ?_⟩
  · unfold wideV; rw [E1.out, E2.out, E3.out]
  · exact (by repeat (first | (with_reducible exact Below.refl _ _) | (with_reducible assumption) | (with_reducible refine below_drewN ?_ _) | (with_reducible refine Below.drew ?_) | (with_reducible refine Below.alloc ?_ ?_ _) | (with_reducible refine Below.setCell ?_ ?_ _) | exact Below.refl _ _ | assumption | (solve | omega | simp | (simp; omega))))
end Go.Proofs.Ytaifacnpnhcdcaa
