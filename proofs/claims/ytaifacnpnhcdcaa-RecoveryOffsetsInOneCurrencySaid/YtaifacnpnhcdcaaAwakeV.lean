/-
  The sanity check of chapter 29 answers true.
-/
import Derived.Test.YtaifacnpnhcdcaaPay
import Derived.Test.YtaifacnpnhcdcaaOffs
namespace Go.Proofs.Ytaifacnpnhcdcaa
open Go.RowKit Mny

def awkX : List St := [⟨2, 1, 0, 30⟩]
theorem awk_off : offR ⟨0, 1, 50, 0⟩ awkX [] 0 = ([⟨0, 2, 1, 30, 30⟩], 0) := by kernel_rfl
theorem awk_world (w : World) : Below w.heap.size w (w.alloc (.cells #[.int .i64 2, .int .i64 1, .int .i64 0, .int .i64 30] 33)) ∧ StTab (w.alloc (.cells #[.int .i64 2, .int .i64 1, .int .i64 0, .int .i64 30] 33)).heap.size (w.alloc (.cells #[.int .i64 2, .int .i64 1, .int .i64 0, .int .i64 30] 33)) (.slice (some ⟨w.heap.size, 0, none⟩) 1 1) awkX := by
  have hx : Bx (w.alloc (.cells #[.int .i64 2, .int .i64 1, .int .i64 0, .int .i64 30] 33)) w.heap.size 33 #[.int .i64 2, .int .i64 1, .int .i64 0, .int .i64 30] := Bx.made _ _ _ (by simp)
  refine ⟨(by repeat (first | (with_reducible exact Below.refl _ _) | (with_reducible assumption) | (with_reducible refine below_drewN ?_ _) | (with_reducible refine Below.drew ?_) | (with_reducible refine Below.alloc ?_ ?_ _) | (with_reducible refine Below.setCell ?_ ?_ _) | exact Below.refl _ _ | assumption | (solve | omega | simp | (simp; omega)))), .inr ⟨w.heap.size, 0, 1, rfl, hx.lt, ?_⟩⟩
  intro k r hk
  match k, hk with
  | 0, hk => injection hk with hk; subst hk; exact ⟨hx.cell 0, hx.cell 1, hx.cell 2, hx.cell 3⟩
  | k + 1, hk => simp [awkX] at hk
set_option maxRecDepth 100000 in
set_option maxHeartbeats 8000000 in
theorem rec_awake (w : World) : Calls Try.prog 14 #[] w fun e w' => e = .returned (.bool true) ∧ Below w.heap.size w w' := by
  obtain ⟨hb3, hx3⟩ := awk_world w
  have hof := rec_Offsets 0 1 50 0 awkX 1 (some ⟨w.heap.size, 0, none⟩) 1 (.slice none 0 0) [] 0 _ rfl (by decide) hx3 (.inl ⟨_, _, rfl, rfl⟩)
  rw [awk_off] at hof
  have HOF := Lib.hid hof
  have HB3 := Lib.hid hb3
  have HP1 := Lib.hid (fun W => rec_Payment 130 100 30 W (by decide) (by decide) (by decide) (by decide) rfl)
  have HP2 := Lib.hid (fun W => rec_Payment (-50) 100 30 W (by decide) (by decide) (by decide) (by decide) rfl)
  have HP3 := Lib.hid (fun W => rec_Payment 90 100 30 W (by decide) (by decide) (by decide) (by decide) rfl)
  have hm := fun W => rec_Months 150 100 30 W (by decide) (by decide) (by decide) (by decide) rfl
  rw [show monS 150 30 = 5 by decide +kernel] at hm
  have HM := Lib.hid hm
  clear hb3 hx3 hof hm
  go_enter Try.func14, Try.ntmps14
  go_wp2_with fail
  refine (HP1.out _).mono ?_
  rintro e w1 ⟨⟨pay, wh, rfl, hf⟩, rfl⟩
  obtain ⟨rfl, rfl⟩ : pay = 130 ∧ wh = 0 := by unfold PayF at hf; omega
  clear hf
  go_wp2_with fail
  refine (HP2.out _).mono ?_
  rintro e w1 ⟨⟨pay, wh, rfl, hf⟩, rfl⟩
  obtain ⟨rfl, rfl⟩ : pay = 70 ∧ wh = 30 := by unfold PayF at hf; omega
  clear hf
  go_wp2_with fail
  refine (HP3.out _).mono ?_
  rintro e w1 ⟨⟨pay, wh, rfl, hf⟩, rfl⟩
  obtain ⟨rfl, rfl⟩ : pay = 90 ∧ wh = 10 := by unfold PayF at hf; omega
  clear hf
  go_wp2_with fail
  refine (HOF.out).mono ?_
  rintro e w4 ⟨v4, rfl, ht4, hb4⟩
  obtain ⟨A4, c4, rfl⟩ := ht4.cut
  obtain ⟨n4, p4, rfl, hat4, hl4⟩ := ht4.rowAt (k := 0) (r := ⟨0, 2, 1, 30, 30⟩) rfl
  obtain ⟨k0, k1, k2, k3, k4⟩ := hat4 0 _ rfl
  have HB4 := Lib.hid (below_then HB3.out hb4)
  have hs4 := HB4.out.size
  simp only [Nat.zero_mul, Nat.add_zero] at k0 k1 k2 k3 k4
  clear ht4 hat4 hb4
  go_wp2_with fail
  refine (HM.out _).mono ?_
  rintro e w5 ⟨rfl, rfl⟩
  have hB := HB4.out
  go_wp2
  go_ret
  exact ⟨rfl, (by repeat (first | (with_reducible exact Below.refl _ _) | (with_reducible assumption) | (with_reducible refine below_drewN ?_ _) | (with_reducible refine Below.drew ?_) | (with_reducible refine Below.alloc ?_ ?_ _) | (with_reducible refine Below.setCell ?_ ?_ _) | exact Below.refl _ _ | assumption | (solve | omega | simp | (simp; omega))))⟩
end Go.Proofs.Ytaifacnpnhcdcaa
