/-
  Contracts of the reference's plus and minus on numbers of 128 bits, and of Neg.
-/
import Derived.Test.YtnhbidagnomkpaaLowest
import Derived.Test.YtnhbidagnomkpaaChain
import Derived.Shelf.Spec.BitsCarry
namespace Go.Proofs.Ytnhbidagnomkpaa
open Go.RowKit Mny

theorem call_Add64 (x y : Nat) (w : World) : (callFunc 68 #[.int .u64 (x : Int), .int .u64 (y : Int), .int .u64 0]).run Try.prog w =
    .ok (.value (.tuple #[.int .u64 (((x + y) % 18446744073709551616 : Nat) : Int), .int .u64 (((x + y) / 18446744073709551616 : Nat) : Int)])) w := by
  rw [run_callFunc_extern Try.func68 (by kernel_rfl) (by kernel_rfl) (by kernel_rfl) (e := add64Entry) (by kernel_rfl), run_add64 x y 0 (by omega) (by omega) (by omega) (by omega)]
  simp only [Result.andThen]
  congr 5 <;> omega
theorem call_Sub64 (x y : Nat) (w : World) : (callFunc 69 #[.int .u64 (x : Int), .int .u64 (y : Int), .int .u64 0]).run Try.prog w =
    .ok (.value (.tuple #[.int .u64 (((x + 18446744073709551616 - y) % 18446744073709551616 : Nat) : Int), .int .u64 ((if x < y then 1 else 0 : Nat) : Int)])) w := by
  rw [run_callFunc_extern Try.func69 (by kernel_rfl) (by kernel_rfl) (by kernel_rfl) (e := sub64Entry) (by kernel_rfl)]
  have h := run_sub64 (P := Try.prog) x y 0 (by omega) w
  rw [show ((0 : Nat) : Int) = 0 from rfl] at h
  rw [h]
  simp only [Result.andThen, Nat.sub_zero, Nat.add_zero]

set_option maxRecDepth 100000 in
set_option maxHeartbeats 1000000 in
theorem ref_plus (ah al bh bl : Nat) (w : World) (h1 : al < 18446744073709551616) (h2 : bl < 18446744073709551616) (h3 : ah + bh < 18446744073709551615) :
    Calls Try.prog 64 #[.agg #[.int .u64 (ah : Int), .int .u64 (al : Int)], .agg #[.int .u64 (bh : Int), .int .u64 (bl : Int)]] w fun e w' =>
      e = .returned (wideV (wideN ah al + wideN bh bl)) ∧ Below w.heap.size w w' := by
  have hadd := call_Add64 al bl
  have hc : (al + bl) / 18446744073709551616 ≤ 1 := by omega
  have hwv : wideV (wideN ah al + wideN bh bl) = .agg #[.int .u64 ((ah + bh + (al + bl) / 18446744073709551616 : Nat) : Int), .int .u64 (((al + bl) % 18446744073709551616 : Nat) : Int)] := by
    have e1 : (wideN ah al + wideN bh bl) / 18446744073709551616 = ah + bh + (al + bl) / 18446744073709551616 := by unfold wideN; omega
    have e2 : (wideN ah al + wideN bh bl) % 18446744073709551616 = (al + bl) % 18446744073709551616 := by unfold wideN; omega
    unfold wideV
    rw [e1, e2]
  obtain ⟨lo, hlo⟩ : ∃ x, (al + bl) % 18446744073709551616 = x := ⟨_, rfl⟩
  obtain ⟨c, hce⟩ : ∃ x, (al + bl) / 18446744073709551616 = x := ⟨_, rfl⟩
  rw [hlo, hce] at hadd hwv
  rw [hce] at hc
  clear hlo hce
  have v1 : IntKind.u64.wrap ((ah : Int) + (bh : Int)) = ((ah + bh : Nat) : Int) := by rw [addN]; exact wrapN _ (by omega)
  have v2 : IntKind.u64.wrap (((ah + bh : Nat) : Int) + (c : Int)) = ((ah + bh + c : Nat) : Int) := by rw [addN]; exact wrapN _ (by omega)
  obtain ⟨s, hs⟩ : ∃ s, ah + bh = s := ⟨_, rfl⟩
  rw [hs] at v1 v2 hwv
  obtain ⟨t, ht⟩ : ∃ t, s + c = t := ⟨_, rfl⟩
  rw [ht] at v2 hwv
  have HWV := Lib.hid hwv
  have b1 : s < 18446744073709551615 := by omega
  have b2 : t < 18446744073709551616 := by omega
  clear hs ht hwv h1 h2 h3
  go_enter Try.func64, Try.ntmps64
  go_wp2
  refine bodyPost_ret (v := .agg #[.int .u64 (t : Int), .int .u64 (lo : Int)]) (by simp [results, Try.results64, go_sem]) rfl ⟨by rw [HWV.out], ?_⟩
  exact (by repeat (first | (with_reducible exact Below.refl _ _) | (with_reducible assumption) | (with_reducible refine below_drewN ?_ _) | (with_reducible refine Below.drew ?_) | (with_reducible refine Below.alloc ?_ ?_ _) | (with_reducible refine Below.setCell ?_ ?_ _) | exact Below.refl _ _ | assumption | (solve | omega | simp | (simp; omega))))

set_option maxRecDepth 100000 in
set_option maxHeartbeats 1000000 in
theorem ref_minus (ah al bh bl : Nat) (w : World) (h0 : ah < 18446744073709551616) (h1 : al < 18446744073709551616) (h2 : bl < 18446744073709551616) (h3 : wideN bh bl ≤ wideN ah al) :
    Calls Try.prog 65 #[.agg #[.int .u64 (ah : Int), .int .u64 (al : Int)], .agg #[.int .u64 (bh : Int), .int .u64 (bl : Int)]] w fun e w' =>
      e = .returned (wideV (wideN ah al - wideN bh bl)) ∧ Below w.heap.size w w' := by
  have hsub := call_Sub64 al bl
  unfold wideN at h3
  have hle : bh ≤ ah := by omega
  have hwv : wideV (wideN ah al - wideN bh bl) = .agg #[.int .u64 ((ah - bh - (if al < bl then 1 else 0) : Nat) : Int), .int .u64 (((al + 18446744073709551616 - bl) % 18446744073709551616 : Nat) : Int)] := by
    have e1 : (wideN ah al - wideN bh bl) / 18446744073709551616 = ah - bh - (if al < bl then 1 else 0) := by unfold wideN; split <;> omega
    have e2 : (wideN ah al - wideN bh bl) % 18446744073709551616 = (al + 18446744073709551616 - bl) % 18446744073709551616 := by unfold wideN; omega
    unfold wideV
    rw [e1, e2]
  have hcb : (if al < bl then 1 else 0) ≤ ah - bh := by split <;> omega
  obtain ⟨lo, hlo⟩ : ∃ x, (al + 18446744073709551616 - bl) % 18446744073709551616 = x := ⟨_, rfl⟩
  obtain ⟨c, hce⟩ : ∃ x : Nat, (if al < bl then 1 else 0) = x := ⟨_, rfl⟩
  rw [hlo, hce] at hsub hwv
  rw [hce] at hcb
  clear hlo hce
  have v1 : IntKind.u64.wrap ((ah : Int) - (bh : Int)) = ((ah - bh : Nat) : Int) := by rw [show (ah : Int) - (bh : Int) = ((ah - bh : Nat) : Int) by omega]; exact wrapN _ (by omega)
  have v2 : IntKind.u64.wrap (((ah - bh : Nat) : Int) - (c : Int)) = ((ah - bh - c : Nat) : Int) := by rw [show ((ah - bh : Nat) : Int) - (c : Int) = ((ah - bh - c : Nat) : Int) by omega]; exact wrapN _ (by omega)
  obtain ⟨s, hs⟩ : ∃ s, ah - bh = s := ⟨_, rfl⟩
  have hsb : s < 18446744073709551616 := by omega
  rw [hs] at v1 v2 hwv hcb
  obtain ⟨t, ht⟩ : ∃ t, s - c = t := ⟨_, rfl⟩
  rw [ht] at v2 hwv
  have HWV := Lib.hid hwv
  have b2 : t < 18446744073709551616 := by omega
  clear hs ht hwv h1 h2 h3 hle h0
  go_enter Try.func65, Try.ntmps65
  go_wp2
  refine bodyPost_ret (v := .agg #[.int .u64 (t : Int), .int .u64 (lo : Int)]) (by simp [results, Try.results65, go_sem]) rfl ⟨by rw [HWV.out], ?_⟩
  exact (by repeat (first | (with_reducible exact Below.refl _ _) | (with_reducible assumption) | (with_reducible refine below_drewN ?_ _) | (with_reducible refine Below.drew ?_) | (with_reducible refine Below.alloc ?_ ?_ _) | (with_reducible refine Below.setCell ?_ ?_ _) | exact Below.refl _ _ | assumption | (solve | omega | simp | (simp; omega))))

/-- a fraction with the sign turned is valid too -/
theorem validF_neg {n d : Int} (h : validF n d = true) : validF (-n) d = true := by
  rw [validF_iff] at h ⊢
  obtain ⟨a1, a2, a3, a4, a5⟩ := h
  exact ⟨a1, a2, by omega, by omega, by rw [Int.natAbs_neg]; exact a5⟩
set_option maxRecDepth 100000 in
set_option maxHeartbeats 1000000 in
theorem ref_Neg (n d : Int) (w : World) (h : validF n d = true) : Calls Try.prog 33 #[.agg #[.int .i64 n, .int .i64 d]] w fun e w' => e = FE (-n, d, 0) ∧ Below w.heap.size w w' := by
  have hv := fun W => ref_ValidFraction n d W
  obtain ⟨a1, a2, a3, a4, _⟩ := validF_iff.1 h
  rw [h] at hv
  have HV := Lib.hid hv
  have B0 := Lib.hid ((Bx.made w 23 #[.int .i64 n, .int .i64 d] rfl).alloc (.cells #[.int .i64 0, .int .i64 0] 23))
  have B1 := Lib.hid (Bx.made (w.alloc (.cells #[.int .i64 n, .int .i64 d] 23)) 23 #[.int .i64 0, .int .i64 0] (g := w.heap.size + 1) (by simp))
  have HB0 : Hid (Below w.heap.size w ((w.alloc (.cells #[.int .i64 n, .int .i64 d] 23)).alloc (.cells #[.int .i64 0, .int .i64 0] 23))) := Lib.hid (by repeat (first | (with_reducible exact Below.refl _ _) | (with_reducible assumption) | (with_reducible refine below_drewN ?_ _) | (with_reducible refine Below.drew ?_) | (with_reducible refine Below.alloc ?_ ?_ _) | (with_reducible refine Below.setCell ?_ ?_ _) | exact Below.refl _ _ | assumption | (solve | omega | simp | (simp; omega))))
  clear hv h
  go_enter Try.func33, Try.ntmps33
  go_wp2_with fail
  refine (HV.out _).mono ?_
  rintro e w1 ⟨rfl, hb1⟩
  have HB1 := Lib.hid (below_then HB0.out hb1)
  have X0 := B0.out.below hb1
  have X1 := B1.out.below hb1
  have k0 : w1.cell? ⟨w.heap.size, 0, none⟩ = some (.int .i64 n) := X0.cell 0
  have k1 : w1.cell? ⟨w.heap.size, 1, none⟩ = some (.int .i64 d) := X0.cell 1
  have k2 : w1.cell? ⟨w.heap.size + 1, 0, none⟩ = some (.int .i64 0) := X1.cell 0
  have k3 : w1.cell? ⟨w.heap.size + 1, 1, none⟩ = some (.int .i64 0) := X1.cell 1
  have f2 : w1.frozen? ⟨w.heap.size + 1, 0, none⟩ = false := X1.free 0
  have f3 : w1.frozen? ⟨w.heap.size + 1, 1, none⟩ = false := X1.free 1
  have k6 : (w1.setCell ⟨w.heap.size + 1, 0, none⟩ (.int .i64 (-n))).cell? ⟨w.heap.size + 1, 0, none⟩ = some (.int .i64 (-n)) := (X1.put 0 (.int .i64 (-n))).cell 0
  have k7 : ((w1.setCell ⟨w.heap.size + 1, 0, none⟩ (.int .i64 (-n))).setCell ⟨w.heap.size + 1, 1, none⟩ (.int .i64 d)).cell? ⟨w.heap.size + 1, 1, none⟩ = some (.int .i64 d) := ((X1.put 0 (.int .i64 (-n))).put 1 (.int .i64 d)).cell 1
  clear hb1 X0 X1
  have hb1 := HB1.out
  go_wp2
  refine bodyPost_ret (v := .tuple #[.agg #[.int .i64 (-n), .int .i64 d], .int .i64 0]) (by first | (simp [results, Try.results33, go_sem, k6]; done) | (simp [results, Try.results33, go_sem, k6, k7]; done)) rfl ⟨rfl, ?_⟩
  exact (by repeat (first | (with_reducible exact Below.refl _ _) | (with_reducible assumption) | (with_reducible refine below_drewN ?_ _) | (with_reducible refine Below.drew ?_) | (with_reducible refine Below.alloc ?_ ?_ _) | (with_reducible refine Below.setCell ?_ ?_ _) | exact Below.refl _ _ | assumption | (solve | omega | simp | (simp; omega))))
end Go.Proofs.Ytnhbidagnomkpaa
