/-
  The contract of the reference's SubFractions at two valid fractions.
-/
import Derived.Test.YtnhbidagnomkpaaAdd
namespace Go.Proofs.Ytnhbidagnomkpaa
open Go.RowKit Mny

set_option maxRecDepth 100000 in
set_option maxHeartbeats 4000000 in
theorem ref_Sub (n1 d1 n2 d2 : Int) (w : World) (h1 : validF n1 d1 = true) (h2 : validF n2 d2 = true) :
    Calls Try.prog 32 #[.agg #[.int .i64 n1, .int .i64 d1], .agg #[.int .i64 n2, .int .i64 d2]] w fun e w' => e = FE (addS n1 d1 (-n2) d2) ∧ Below w.heap.size w w' := by
  have hN := fun W => ref_Neg n2 d2 W h2
  have hA := fun W => ref_Add n1 d1 (-n2) d2 W h1 (validF_neg h2)
  obtain ⟨r1, r2, r3, hr⟩ : ∃ a b c, addS n1 d1 (-n2) d2 = (a, b, c) := ⟨_, _, _, rfl⟩
  rw [hr] at hA ⊢
  have HN : Hid (∀ W, Calls Try.prog 33 #[.agg #[.int .i64 n2, .int .i64 d2]] W fun e w' => e = .returned (.tuple #[.agg #[.int .i64 (-n2), .int .i64 d2], .int .i64 0]) ∧ Below W.heap.size W w') := Lib.hid hN
  have HA : Hid (∀ W, Calls Try.prog 53 #[.agg #[.int .i64 n1, .int .i64 d1], .agg #[.int .i64 (-n2), .int .i64 d2]] W fun e w' => e = .returned (.tuple #[.agg #[.int .i64 r1, .int .i64 r2], .int .i64 r3]) ∧ Below W.heap.size W w') := Lib.hid hA
  clear hN hA hr h1 h2
  have B0 := Lib.hid (((Bx.made w 23 #[.int .i64 n1, .int .i64 d1] rfl).alloc (.cells #[.int .i64 n2, .int .i64 d2] 23)).alloc (.cells #[.int .i64 0, .int .i64 0] 23))
  have B2 := Lib.hid (Bx.made ((w.alloc (.cells #[.int .i64 n1, .int .i64 d1] 23)).alloc (.cells #[.int .i64 n2, .int .i64 d2] 23)) 23 #[.int .i64 0, .int .i64 0] (g := w.heap.size + 2) (by simp))
  have HB0 : Hid (Below w.heap.size w (((w.alloc (.cells #[.int .i64 n1, .int .i64 d1] 23)).alloc (.cells #[.int .i64 n2, .int .i64 d2] 23)).alloc (.cells #[.int .i64 0, .int .i64 0] 23))) := Lib.hid (by repeat (first | (with_reducible exact Below.refl _ _) | (with_reducible assumption) | (with_reducible refine below_drewN ?_ _) | (with_reducible refine Below.drew ?_) | (with_reducible refine Below.alloc ?_ ?_ _) | (with_reducible refine Below.setCell ?_ ?_ _) | exact Below.refl _ _ | assumption | (solve | omega | simp | (simp; omega))))
  go_enter Try.func32, Try.ntmps32
  go_wp2_with fail
  refine (HN.out _).mono ?_
  rintro e w1 ⟨rfl, hb1⟩
  have HB1 := Lib.hid (below_then HB0.out hb1)
  have X0 := Lib.hid (B0.out.below hb1)
  have X2 := Lib.hid (B2.out.below hb1)
  clear hb1
  have hs1 := HB1.out.size
  have hl2 := X2.out.lt
  have k0 : w1.cell? ⟨w.heap.size, 0, none⟩ = some (.int .i64 n1) := X0.out.cell 0
  have k1 : w1.cell? ⟨w.heap.size, 1, none⟩ = some (.int .i64 d1) := X0.out.cell 1
  have e1 : ¬ w.heap.size = w1.heap.size := by omega
  have e2 : w.heap.size < w1.heap.size := by omega
  go_wp2_with fail
  have hbn : Below w1.heap.size w1 (w1.alloc (.cells #[.int .i64 (-n2), .int .i64 d2] 23)) := (Below.refl _ _).alloc (Nat.le_refl _) _
  refine (HA.out _).mono ?_
  rintro e w2 ⟨rfl, hb2⟩
  have HB2 := Lib.hid (below_then (below_then HB1.out hbn) hb2)
  have Y2 := (X2.out.below hbn).below hb2
  have k2 : w2.cell? ⟨w.heap.size + 2, 0, none⟩ = some (.int .i64 0) := Y2.cell 0
  have k3 : w2.cell? ⟨w.heap.size + 2, 1, none⟩ = some (.int .i64 0) := Y2.cell 1
  have f2 : w2.frozen? ⟨w.heap.size + 2, 0, none⟩ = false := Y2.free 0
  have f3 : w2.frozen? ⟨w.heap.size + 2, 1, none⟩ = false := Y2.free 1
  have k6 : (w2.setCell ⟨w.heap.size + 2, 0, none⟩ (.int .i64 r1)).cell? ⟨w.heap.size + 2, 0, none⟩ = some (.int .i64 r1) := (Y2.put 0 (.int .i64 r1)).cell 0
  have k7 : ((w2.setCell ⟨w.heap.size + 2, 0, none⟩ (.int .i64 r1)).setCell ⟨w.heap.size + 2, 1, none⟩ (.int .i64 r2)).cell? ⟨w.heap.size + 2, 1, none⟩ = some (.int .i64 r2) := ((Y2.put 0 (.int .i64 r1)).put 1 (.int .i64 r2)).cell 1
  clear hb2 hbn Y2
  have hb2 := HB2.out
  go_wp2
  refine bodyPost_ret (v := .tuple #[.agg #[.int .i64 r1, .int .i64 r2], .int .i64 r3]) (by first | (simp [results, Try.results32, go_sem, k6]; done) | (simp [results, Try.results32, go_sem, k6, k7]; done)) rfl ⟨rfl, ?_⟩
  exact (by repeat (first | (with_reducible exact Below.refl _ _) | (with_reducible assumption) | (with_reducible refine below_drewN ?_ _) | (with_reducible refine Below.drew ?_) | (with_reducible refine Below.alloc ?_ ?_ _) | (with_reducible refine Below.setCell ?_ ?_ _) | exact Below.refl _ _ | assumption | (solve | omega | simp | (simp; omega))))
end Go.Proofs.Ytnhbidagnomkpaa
