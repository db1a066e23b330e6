/-
  Contracts of the reference's lowest and MakeFraction (a fraction in lowest terms, or an error), and of the makers of raw numbers.
-/
import Derived.Test.YtnhbidagnomkpaaRound
namespace Go.Proofs.Ytnhbidagnomkpaa
open Go.RowKit Mny

/-- a fraction and an error -/
def FE (r : Int × Int × Int) : Ending := .returned (.tuple #[.agg #[.int .i64 r.1, .int .i64 r.2.1], .int .i64 r.2.2])
/-- a fraction in lowest terms -/
def lowS (neg : Bool) (N d : Nat) : Int × Int × Int :=
  if 1000000000000000 < N / Nat.gcd N d ∨ 1000000000 < d / Nat.gcd N d then (0, 0, 2) else (sgnN neg (N / Nat.gcd N d), ((d / Nat.gcd N d : Nat) : Int), 0)
theorem lowS_far {neg : Bool} {N d a b : Nat} (ha : N / Nat.gcd N d = a) (hb : d / Nat.gcd N d = b) (h : 1000000000000000 < a ∨ 1000000000 < b) : lowS neg N d = (0, 0, 2) := by
  unfold lowS; rw [ha, hb, if_pos h]
theorem lowS_in {neg : Bool} {N d a b : Nat} (ha : N / Nat.gcd N d = a) (hb : d / Nat.gcd N d = b) (h : ¬ (1000000000000000 < a ∨ 1000000000 < b)) : lowS neg N d = (sgnN neg a, (b : Int), 0) := by
  unfold lowS; rw [ha, hb, if_neg h]

set_option maxRecDepth 100000 in
set_option maxHeartbeats 1000000 in
theorem ref_lowest (neg : Bool) (hi lo d : Nat) (w : World) (hhi : hi < 18446744073709551616) (hlo : lo < 18446744073709551616) (hd0 : 0 < d) (hd : d < 18446744073709551616) :
    Calls Try.prog 52 #[.bool neg, .agg #[.int .u64 hi, .int .u64 lo], .int .u64 d] w fun e w' => e = FE (lowS neg (wideN hi lo) d) ∧ Below w.heap.size w w' := by
  have hml := Nat.mod_lt (wideN hi lo) hd0
  have hg : Nat.gcd d (wideN hi lo % d) = Nat.gcd (wideN hi lo) d := by rw [Nat.gcd_comm, Nat.gcd_comm (wideN hi lo) d, ← Nat.gcd_rec]
  have hg0 : 0 < Nat.gcd (wideN hi lo) d := Nat.gcd_pos_of_pos_right _ hd0
  have hgd : Nat.gcd (wideN hi lo) d ≤ d := Nat.gcd_le_right _ hd0
  have hov1 : ∀ W, Calls Try.prog 62 #[.agg #[.int .u64 hi, .int .u64 lo], .int .u64 d] W _ := fun W => ref_over hi lo d W hhi hlo hd0 hd
  have hov2 : ∀ W, Calls Try.prog 62 #[.agg #[.int .u64 hi, .int .u64 lo], .int .u64 ((Nat.gcd (wideN hi lo) d : Nat) : Int)] W _ := fun W => ref_over hi lo _ W hhi hlo hg0 (by omega)
  obtain ⟨r, hr⟩ : ∃ r, wideN hi lo % d = r := ⟨_, rfl⟩
  obtain ⟨q, hq⟩ : ∃ q, wideN hi lo / d = q := ⟨_, rfl⟩
  rw [hq, hr] at hov1
  rw [hr] at hg hml
  have hgc : ∀ W, Calls Try.prog 51 #[.int .u64 d, .int .u64 r] W _ := fun W => ref_gcd d r W hd (by omega)
  rw [hg] at hgc
  have hGd : IntKind.u64.wrap ((d : Int) / ((Nat.gcd (wideN hi lo) d : Nat) : Int)) = ((d / Nat.gcd (wideN hi lo) d : Nat) : Int) := by
    rw [natdiv]; exact wrapN _ (Nat.lt_of_le_of_lt (Nat.div_le_self _ _) hd)
  have hbd : d / Nat.gcd (wideN hi lo) d ≤ d := Nat.div_le_self _ _
  obtain ⟨a, ha⟩ : ∃ a, wideN hi lo / Nat.gcd (wideN hi lo) d = a := ⟨_, rfl⟩
  obtain ⟨b, hb⟩ : ∃ b, d / Nat.gcd (wideN hi lo) d = b := ⟨_, rfl⟩
  obtain ⟨r2, hr2⟩ : ∃ r, wideN hi lo % Nat.gcd (wideN hi lo) d = r := ⟨_, rfl⟩
  have HFAR : Hid (1000000000000000 < a ∨ 1000000000 < b → lowS neg (wideN hi lo) d = (0, 0, 2)) := Lib.hid (lowS_far ha hb)
  have HIN : Hid (¬ (1000000000000000 < a ∨ 1000000000 < b) → lowS neg (wideN hi lo) d = (sgnN neg a, (b : Int), 0)) := Lib.hid (lowS_in ha hb)
  rw [ha, hr2] at hov2
  rw [hb] at hGd hbd
  clear ha hb hr2 hr hq
  obtain ⟨G, hG⟩ : ∃ G, Nat.gcd (wideN hi lo) d = G := ⟨_, rfl⟩
  rw [hG] at hov2 hgc hGd hg0 hgd
  clear hG hg
  have HO1 := Lib.hid hov1
  have HGC := Lib.hid hgc
  have hg0' : 1 ≤ G := hg0
  clear hov1 hgc hg0
  by_cases hA : 18446744073709551616 ≤ a
  · have hx : (((a / 18446744073709551616 : Nat) : Int) != 0) = true := by rw [bne_iff_ne]; omega
    have HF := Lib.hid (HFAR.out (.inl (by omega)))
    have HO2 := Lib.hid hov2
    unfold wideV at HO2
    generalize a / 18446744073709551616 = ah at hx HO2
    generalize a % 18446744073709551616 = al at HO2
    clear hA hov2
    go_enter Try.func52, Try.ntmps52
    go_wp2_with fail
    refine (HO1.out _).mono ?_
    rintro e w1 ⟨rfl, hb1⟩
    have HB1 := Lib.hid (below_then (w := w) (by repeat (first | (with_reducible exact Below.refl _ _) | (with_reducible assumption) | (with_reducible refine below_drewN ?_ _) | (with_reducible refine Below.drew ?_) | (with_reducible refine Below.alloc ?_ ?_ _) | (with_reducible refine Below.setCell ?_ ?_ _) | exact Below.refl _ _ | assumption | (solve | omega | simp | (simp; omega)))) hb1)
    have B4 := Lib.hid (((Bx.made w 66 #[.int .u64 hi, .int .u64 lo] rfl).alloc (.cells #[.int .i64 0, .int .i64 0] 23)).below hb1)
    have B6 := Lib.hid ((Bx.made (w.alloc (.cells #[.int .u64 hi, .int .u64 lo] 66)) 23 #[.int .i64 0, .int .i64 0] (g := w.heap.size + 1) (by simp)).below hb1)
    have hz : w.heap.size + 1 < w1.heap.size := B6.out.lt
    have hz0 : w.heap.size < w1.heap.size := B4.out.lt
    clear hb1
    unfold wideV
    go_wp2_with fail
    refine (HGC.out _).mono ?_
    rintro e w2 ⟨rfl, k, rfl⟩
    have c0 : w1.cell? ⟨w.heap.size, 0, none⟩ = some (.int .u64 hi) := B4.out.cell 0
    have c1 : w1.cell? ⟨w.heap.size, 1, none⟩ = some (.int .u64 lo) := B4.out.cell 1
    go_wp2_with fail
    refine (HO2.out _).mono ?_
    rintro e w3 ⟨rfl, hb3⟩
    have B43 := Lib.hid (((B4.out.alloc _).drewN k).below hb3)
    have B63 := Lib.hid (((B6.out.alloc _).drewN k).below hb3)
    have HB3 := Lib.hid (below_then (below_drewN (HB1.out.alloc HB1.out.size _) k) hb3)
    have hz3 : w.heap.size + 1 < w3.heap.size := B63.out.lt
    have hz30 : w.heap.size < w3.heap.size := B43.out.lt
    obtain ⟨k4, f4⟩ := B43.out.of
    obtain ⟨k6, f6⟩ := B63.out.of
    clear hb3 c0 c1
    go_wp2
    refine bodyPost_ret (v := .tuple #[.agg #[.int .i64 0, .int .i64 0], .int .i64 2]) (by simp [results, Try.results52, go_sem, k6]) rfl ⟨by rw [HF.out]; rfl, ?_⟩
    have hB3 := HB3.out
    exact (by repeat (first | (with_reducible exact Below.refl _ _) | (with_reducible assumption) | (with_reducible refine below_drewN ?_ _) | (with_reducible refine Below.drew ?_) | (with_reducible refine Below.alloc ?_ ?_ _) | (with_reducible refine Below.setCell ?_ ?_ _) | exact Below.refl _ _ | assumption | (solve | omega | simp | (simp; omega))))
  · have hW : wideV a = .agg #[.int .u64 (0 : Int), .int .u64 (a : Int)] := by
      have := wideV_of (hi := 0) (lo := a) (by omega); simpa using this
    rw [hW] at hov2
    have HO2 := Lib.hid hov2
    clear hW hov2
    by_cases hA2 : 1000000000000000 < a
    · have d1 : decide ((1000000000000000 : Int) < (a : Int)) = true := decide_eq_true (by omega)
      have HF := Lib.hid (HFAR.out (.inl hA2))
      clear hA hA2
      go_enter Try.func52, Try.ntmps52
      go_wp2_with fail
      refine (HO1.out _).mono ?_
      rintro e w1 ⟨rfl, hb1⟩
      have HB1 := Lib.hid (below_then (w := w) (by repeat (first | (with_reducible exact Below.refl _ _) | (with_reducible assumption) | (with_reducible refine below_drewN ?_ _) | (with_reducible refine Below.drew ?_) | (with_reducible refine Below.alloc ?_ ?_ _) | (with_reducible refine Below.setCell ?_ ?_ _) | exact Below.refl _ _ | assumption | (solve | omega | simp | (simp; omega)))) hb1)
      have B4 := Lib.hid (((Bx.made w 66 #[.int .u64 hi, .int .u64 lo] rfl).alloc (.cells #[.int .i64 0, .int .i64 0] 23)).below hb1)
      have B6 := Lib.hid ((Bx.made (w.alloc (.cells #[.int .u64 hi, .int .u64 lo] 66)) 23 #[.int .i64 0, .int .i64 0] (g := w.heap.size + 1) (by simp)).below hb1)
      have hz : w.heap.size + 1 < w1.heap.size := B6.out.lt
      have hz0 : w.heap.size < w1.heap.size := B4.out.lt
      clear hb1
      unfold wideV
      go_wp2_with fail
      refine (HGC.out _).mono ?_
      rintro e w2 ⟨rfl, k, rfl⟩
      have c0 : w1.cell? ⟨w.heap.size, 0, none⟩ = some (.int .u64 hi) := B4.out.cell 0
      have c1 : w1.cell? ⟨w.heap.size, 1, none⟩ = some (.int .u64 lo) := B4.out.cell 1
      go_wp2_with fail
      refine (HO2.out _).mono ?_
      rintro e w3 ⟨rfl, hb3⟩
      have B43 := Lib.hid (((B4.out.alloc _).drewN k).below hb3)
      have B63 := Lib.hid (((B6.out.alloc _).drewN k).below hb3)
      have HB3 := Lib.hid (below_then (below_drewN (HB1.out.alloc HB1.out.size _) k) hb3)
      have hz3 : w.heap.size + 1 < w3.heap.size := B63.out.lt
      have hz30 : w.heap.size < w3.heap.size := B43.out.lt
      obtain ⟨k4, f4⟩ := B43.out.of
      obtain ⟨k6, f6⟩ := B63.out.of
      clear hb3 c0 c1
      go_wp2
      refine bodyPost_ret (v := .tuple #[.agg #[.int .i64 0, .int .i64 0], .int .i64 2]) (by simp [results, Try.results52, go_sem, k6]) rfl ⟨by rw [HF.out]; rfl, ?_⟩
      have hB3 := HB3.out
      exact (by repeat (first | (with_reducible exact Below.refl _ _) | (with_reducible assumption) | (with_reducible refine below_drewN ?_ _) | (with_reducible refine Below.drew ?_) | (with_reducible refine Below.alloc ?_ ?_ _) | (with_reducible refine Below.setCell ?_ ?_ _) | exact Below.refl _ _ | assumption | (solve | omega | simp | (simp; omega))))
    · have d1 : decide ((1000000000000000 : Int) < (a : Int)) = false := decide_eq_false (by omega)
      by_cases hb2 : 1000000000 < b
      · have d2 : decide ((1000000000 : Int) < (b : Int)) = true := decide_eq_true (by omega)
        have HF := Lib.hid (HFAR.out (.inr hb2))
        go_enter Try.func52, Try.ntmps52
        go_wp2_with fail
        refine (HO1.out _).mono ?_
        rintro e w1 ⟨rfl, hb1⟩
        have HB1 := Lib.hid (below_then (w := w) (by repeat (first | (with_reducible exact Below.refl _ _) | (with_reducible assumption) | (with_reducible refine below_drewN ?_ _) | (with_reducible refine Below.drew ?_) | (with_reducible refine Below.alloc ?_ ?_ _) | (with_reducible refine Below.setCell ?_ ?_ _) | exact Below.refl _ _ | assumption | (solve | omega | simp | (simp; omega)))) hb1)
        have B4 := Lib.hid (((Bx.made w 66 #[.int .u64 hi, .int .u64 lo] rfl).alloc (.cells #[.int .i64 0, .int .i64 0] 23)).below hb1)
        have B6 := Lib.hid ((Bx.made (w.alloc (.cells #[.int .u64 hi, .int .u64 lo] 66)) 23 #[.int .i64 0, .int .i64 0] (g := w.heap.size + 1) (by simp)).below hb1)
        have hz : w.heap.size + 1 < w1.heap.size := B6.out.lt
        have hz0 : w.heap.size < w1.heap.size := B4.out.lt
        clear hb1
        unfold wideV
        go_wp2_with fail
        refine (HGC.out _).mono ?_
        rintro e w2 ⟨rfl, k, rfl⟩
        have c0 : w1.cell? ⟨w.heap.size, 0, none⟩ = some (.int .u64 hi) := B4.out.cell 0
        have c1 : w1.cell? ⟨w.heap.size, 1, none⟩ = some (.int .u64 lo) := B4.out.cell 1
        go_wp2_with fail
        refine (HO2.out _).mono ?_
        rintro e w3 ⟨rfl, hb3⟩
        have B43 := Lib.hid (((B4.out.alloc _).drewN k).below hb3)
        have B63 := Lib.hid (((B6.out.alloc _).drewN k).below hb3)
        have HB3 := Lib.hid (below_then (below_drewN (HB1.out.alloc HB1.out.size _) k) hb3)
        have hz3 : w.heap.size + 1 < w3.heap.size := B63.out.lt
        have hz30 : w.heap.size < w3.heap.size := B43.out.lt
        obtain ⟨k4, f4⟩ := B43.out.of
        obtain ⟨k6, f6⟩ := B63.out.of
        clear hb3 c0 c1
        go_wp2
        refine bodyPost_ret (v := .tuple #[.agg #[.int .i64 0, .int .i64 0], .int .i64 2]) (by simp [results, Try.results52, go_sem, k6]) rfl ⟨by rw [HF.out]; rfl, ?_⟩
        have hB3 := HB3.out
        exact (by repeat (first | (with_reducible exact Below.refl _ _) | (with_reducible assumption) | (with_reducible refine below_drewN ?_ _) | (with_reducible refine Below.drew ?_) | (with_reducible refine Below.alloc ?_ ?_ _) | (with_reducible refine Below.setCell ?_ ?_ _) | exact Below.refl _ _ | assumption | (solve | omega | simp | (simp; omega))))
      · have d2 : decide ((1000000000 : Int) < (b : Int)) = false := decide_eq_false (by omega)
        have HF := Lib.hid (HIN.out (by omega))
        go_enter Try.func52, Try.ntmps52
        go_wp2_with fail
        refine (HO1.out _).mono ?_
        rintro e w1 ⟨rfl, hb1⟩
        have HB1 := Lib.hid (below_then (w := w) (by repeat (first | (with_reducible exact Below.refl _ _) | (with_reducible assumption) | (with_reducible refine below_drewN ?_ _) | (with_reducible refine Below.drew ?_) | (with_reducible refine Below.alloc ?_ ?_ _) | (with_reducible refine Below.setCell ?_ ?_ _) | exact Below.refl _ _ | assumption | (solve | omega | simp | (simp; omega)))) hb1)
        have B4 := Lib.hid (((Bx.made w 66 #[.int .u64 hi, .int .u64 lo] rfl).alloc (.cells #[.int .i64 0, .int .i64 0] 23)).below hb1)
        have B6 := Lib.hid ((Bx.made (w.alloc (.cells #[.int .u64 hi, .int .u64 lo] 66)) 23 #[.int .i64 0, .int .i64 0] (g := w.heap.size + 1) (by simp)).below hb1)
        have hz : w.heap.size + 1 < w1.heap.size := B6.out.lt
        have hz0 : w.heap.size < w1.heap.size := B4.out.lt
        clear hb1
        unfold wideV
        go_wp2_with fail
        refine (HGC.out _).mono ?_
        rintro e w2 ⟨rfl, k, rfl⟩
        have c0 : w1.cell? ⟨w.heap.size, 0, none⟩ = some (.int .u64 hi) := B4.out.cell 0
        have c1 : w1.cell? ⟨w.heap.size, 1, none⟩ = some (.int .u64 lo) := B4.out.cell 1
        go_wp2_with fail
        refine (HO2.out _).mono ?_
        rintro e w3 ⟨rfl, hb3⟩
        have B43 := Lib.hid (((B4.out.alloc _).drewN k).below hb3)
        have B63 := Lib.hid (((B6.out.alloc _).drewN k).below hb3)
        have HB3 := Lib.hid (below_then (below_drewN (HB1.out.alloc HB1.out.size _) k) hb3)
        have hz3 : w.heap.size + 1 < w3.heap.size := B63.out.lt
        have hz30 : w.heap.size < w3.heap.size := B43.out.lt
        obtain ⟨k4, f4⟩ := B43.out.of
        obtain ⟨k6, f6⟩ := B63.out.of
        clear hb3 c0 c1
        cases neg
        · go_wp2
          refine bodyPost_ret (v := .tuple #[.agg #[.int .i64 (a : Int), .int .i64 (b : Int)], .int .i64 0]) (by simp [results, Try.results52, go_sem, k6, hz3]) rfl ⟨by rw [HF.out]; rfl, ?_⟩
          have hB3 := HB3.out
          exact (by repeat (first | (with_reducible exact Below.refl _ _) | (with_reducible assumption) | (with_reducible refine below_drewN ?_ _) | (with_reducible refine Below.drew ?_) | (with_reducible refine Below.alloc ?_ ?_ _) | (with_reducible refine Below.setCell ?_ ?_ _) | exact Below.refl _ _ | assumption | (solve | omega | simp | (simp; omega))))
        · go_wp2
          refine bodyPost_ret (v := .tuple #[.agg #[.int .i64 (-(a : Int)), .int .i64 (b : Int)], .int .i64 0]) (by simp [results, Try.results52, go_sem, k6, hz3]) rfl ⟨by rw [HF.out]; rfl, ?_⟩
          have hB3 := HB3.out
          exact (by repeat (first | (with_reducible exact Below.refl _ _) | (with_reducible assumption) | (with_reducible refine below_drewN ?_ _) | (with_reducible refine Below.drew ?_) | (with_reducible refine Below.alloc ?_ ?_ _) | (with_reducible refine Below.setCell ?_ ?_ _) | exact Below.refl _ _ | assumption | (solve | omega | simp | (simp; omega))))
end Go.Proofs.Ytnhbidagnomkpaa
