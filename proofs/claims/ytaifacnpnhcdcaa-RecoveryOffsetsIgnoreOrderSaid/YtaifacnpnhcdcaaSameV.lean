/-
  Comparing two tables of transfers: Same answers true where both hold one list.
-/
import Derived.Test.YtaifacnpnhcdcaaTrs
import Derived.BigQuiet
namespace Go.Proofs.Ytaifacnpnhcdcaa
open Go.RowKit Mny

set_option maxRecDepth 100000 in
set_option maxHeartbeats 4000000 in
theorem plain_SameT (xs : List Tr) (v1 v2 : Value) (w : World) (h1 : TrTab w v1 xs) (h2 : TrTab w v2 xs) (hn : xs.length ≤ 9000000000000000) :
    Calls Try.prog 21 #[v1, v2] w fun e w' => e = .returned (.bool true) ∧ Below w.heap.size w w' := by
  obtain ⟨A1, c1, rfl⟩ := h1.cut
  obtain ⟨A2, c2, rfl⟩ := h2.cut
  obtain ⟨n, hxn⟩ : ∃ n, xs.length = n := ⟨_, rfl⟩
  rw [hxn] at h1 h2 hn ⊢
  have HX := Lib.hid hxn
  have H1 := Lib.hid h1
  have H2 := Lib.hid h2
  clear h1 h2 hxn
  go_enter Try.func21, Try.ntmps21
  go_wp2
  go_loopw [5] (fun i wr => ∃ k : Nat, k ≤ n ∧ i = .int .i64 k ∧ Below w.heap.size w wr) (fun i _ => n - (intOf i).toNat)
  case atStart => exact ⟨0, Nat.zero_le _, rfl, Below.refl _ _⟩
  case round =>
    obtain ⟨k, hk, rfl, hbl⟩ := hrel
    have HB := Lib.hid hbl
    clear hbl
    by_cases hlt : k < n
    · obtain ⟨r, hr⟩ : ∃ r, xs[k]? = some r := ⟨xs[k]'(by rw [HX.out]; exact hlt), List.getElem?_eq_getElem _⟩
      obtain ⟨b1, o1, rfl, g1, l1⟩ := H1.out.rowAt hr
      obtain ⟨b2, o2, rfl, g2, l2⟩ := H2.out.rowAt hr
      obtain ⟨p0, p1, p2, p3, p4⟩ := g1.below l1 HB.out k r hr
      obtain ⟨q0, q1, q2, q3, q4⟩ := g2.below l2 HB.out k r hr
      clear g1 g2 hr
      have c0 : decide ((k : Int) < (n : Int)) = true := decide_eq_true (by omega)
      have hb := HB.out
      go_wp2
      go_quiet (fail)
      go_wp2
      go_roundw
      case rel => exact ⟨k + 1, by omega, by go_num, (by repeat (first | (with_reducible exact Below.refl _ _) | (with_reducible assumption) | (with_reducible refine below_drewN ?_ _) | (with_reducible refine Below.drew ?_) | (with_reducible refine Below.alloc ?_ ?_ _) | (with_reducible refine Below.setCell ?_ ?_ _) | exact Below.refl _ _ | assumption | (solve | omega | simp | (simp; omega))))⟩
      case measure => simp [intOf]; omega
    · obtain rfl : n = k := by omega
      have hb := HB.out
      go_wp2
      go_ret
      exact ⟨rfl, (by repeat (first | (with_reducible exact Below.refl _ _) | (with_reducible assumption) | (with_reducible refine below_drewN ?_ _) | (with_reducible refine Below.drew ?_) | (with_reducible refine Below.alloc ?_ ?_ _) | (with_reducible refine Below.setCell ?_ ?_ _) | exact Below.refl _ _ | assumption | (solve | omega | simp | (simp; omega))))⟩
end Go.Proofs.Ytaifacnpnhcdcaa
