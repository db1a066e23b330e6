/-
  The contracts of Share, of the program and of the reference: both are one plain function.
-/
import Derived.Test.YtnhbidagnomkpaaLowest
namespace Go.Proofs.Ytnhbidagnomkpaa
open Go.RowKit Mny

/-- what Share returns -/
def shareS (n d num den m u : Int) : Int × Int := if validF n d && (validR m u && (inB 0 73049 num && inB 1 73049 den)) then rnd m u (n * num) (d * den) else (0, 1)
section
variable {n d num den m u : Int}
theorem shareS_no1 (h : validF n d = false) : shareS n d num den m u = (0, 1) := by unfold shareS; rw [h]; rfl
theorem shareS_no2 (h : validR m u = false) : shareS n d num den m u = (0, 1) := by unfold shareS; rw [h, Bool.false_and, Bool.and_false]; rfl
theorem shareS_no3 (h : ¬ ((0 ≤ num ∧ num ≤ 73049) ∧ (1 ≤ den ∧ den ≤ 73049))) : shareS n d num den m u = (0, 1) := by
  unfold shareS
  rw [if_neg]
  simp only [Bool.and_eq_true, inB_iff]
  exact fun h2 => h h2.2.2
theorem shareS_yes (h : validF n d = true) (h2 : validR m u = true) (a : 0 ≤ num) (b : num ≤ 73049) (c : 1 ≤ den) (e : den ≤ 73049) : shareS n d num den m u = rnd m u (n * num) (d * den) := by
  unfold shareS
  rw [if_pos]
  simp only [Bool.and_eq_true, inB_iff]
  exact ⟨h, h2, ⟨a, b⟩, c, e⟩
end
theorem sgn_mul (n : Int) (K : Nat) : sgnN (decide (n < 0)) (n.natAbs * K) = n * (K : Int) := by
  unfold sgnN
  by_cases h : n < 0
  · rw [if_pos (by simpa using h), Int.natCast_mul, ← Int.neg_mul]; congr 1; omega
  · rw [if_neg (by simpa using h), Int.natCast_mul]; congr 1; omega

set_option maxRecDepth 100000 in
set_option maxHeartbeats 1000000 in
theorem money_Share (n d num den m u : Int) (w : World) :
    Calls Try.prog 26 #[.agg #[.int .i64 n, .int .i64 d], .int .i64 num, .int .i64 den, .agg #[.int .i64 m, .int .i64 u]] w fun e w' => e = IE (shareS n d num den m u) ∧ Below w.heap.size w w' := by
  cases hv : validF n d
  · have HF := Lib.hid (shareS_no1 (num := num) (den := den) (m := m) (u := u) hv)
    go_enter Try.func26, Try.ntmps26
    go_wp2_with fail
    refine (rat_Valid n d _).mono ?_
    rintro e w1 ⟨rfl, hb1⟩
    have HB1 := Lib.hid (below_then (w := w) (by repeat (first | exact Below.refl _ _ | assumption | (with_reducible refine below_drewN ?_ _) | (with_reducible refine Below.drew ?_) | (with_reducible refine Below.alloc ?_ ?_ _) | (with_reducible refine Below.setCell ?_ ?_ _) | (solve | omega | simp | (simp; omega)))) hb1)
    go_wp2
    go_ret2
    exact ⟨by rw [HF.out]; rfl, HB1.out⟩
  · cases hr : validR m u
    · have HF := Lib.hid (shareS_no2 (n := n) (d := d) (num := num) (den := den) hr)
      go_enter Try.func26, Try.ntmps26
      go_wp2_with fail
      refine (rat_Valid n d _).mono ?_
      rintro e w1 ⟨rfl, hb1⟩
      have HB1 := Lib.hid (below_then (w := w) (by repeat (first | exact Below.refl _ _ | assumption | (with_reducible refine below_drewN ?_ _) | (with_reducible refine Below.drew ?_) | (with_reducible refine Below.alloc ?_ ?_ _) | (with_reducible refine Below.setCell ?_ ?_ _) | (solve | omega | simp | (simp; omega)))) hb1)
      have B1 := Lib.hid (((Bx.made w 23 #[.int .i64 n, .int .i64 d] rfl).alloc (.cells #[.int .i64 m, .int .i64 u] 25)).below hb1)
      have B2 := Lib.hid ((Bx.made (w.alloc (.cells #[.int .i64 n, .int .i64 d] 23)) 25 #[.int .i64 m, .int .i64 u] (g := w.heap.size + 1) (by simp)).below hb1)
      have cm : w1.cell? ⟨w.heap.size + 1, 0, none⟩ = some (.int .i64 m) := B2.out.cell 0
      have cu : w1.cell? ⟨w.heap.size + 1, 1, none⟩ = some (.int .i64 u) := B2.out.cell 1
      go_wp2_with fail
      refine (money_ValidRounding m u _).mono ?_
      rintro e w2 ⟨rfl, hb2⟩
      have HB2 := Lib.hid (below_then HB1.out hb2)
      go_wp2
      go_ret2
      exact ⟨by rw [HF.out]; rfl, HB2.out⟩
    · by_cases t1 : num < 0
      · have HF := Lib.hid (shareS_no3 (n := n) (d := d) (m := m) (u := u) (num := num) (den := den) (by omega))
        have c1 : decide (num < 0) = true := decide_eq_true t1
        clear t1
        go_enter Try.func26, Try.ntmps26
        go_wp2_with fail
        refine (rat_Valid n d _).mono ?_
        rintro e w1 ⟨rfl, hb1⟩
        have HB1 := Lib.hid (below_then (w := w) (by repeat (first | exact Below.refl _ _ | assumption | (with_reducible refine below_drewN ?_ _) | (with_reducible refine Below.drew ?_) | (with_reducible refine Below.alloc ?_ ?_ _) | (with_reducible refine Below.setCell ?_ ?_ _) | (solve | omega | simp | (simp; omega)))) hb1)
        have B1 := Lib.hid (((Bx.made w 23 #[.int .i64 n, .int .i64 d] rfl).alloc (.cells #[.int .i64 m, .int .i64 u] 25)).below hb1)
        have B2 := Lib.hid ((Bx.made (w.alloc (.cells #[.int .i64 n, .int .i64 d] 23)) 25 #[.int .i64 m, .int .i64 u] (g := w.heap.size + 1) (by simp)).below hb1)
        have cm : w1.cell? ⟨w.heap.size + 1, 0, none⟩ = some (.int .i64 m) := B2.out.cell 0
        have cu : w1.cell? ⟨w.heap.size + 1, 1, none⟩ = some (.int .i64 u) := B2.out.cell 1
        go_wp2_with fail
        refine (money_ValidRounding m u _).mono ?_
        rintro e w2 ⟨rfl, hb2⟩
        have HB2 := Lib.hid (below_then HB1.out hb2)
        go_wp2
        go_ret2
        exact ⟨by rw [HF.out]; rfl, HB2.out⟩
      · have c1 : decide (num < 0) = false := decide_eq_false t1
        by_cases t2 : (73049 : Int) < num
        · have HF := Lib.hid (shareS_no3 (n := n) (d := d) (m := m) (u := u) (num := num) (den := den) (by omega))
          have c2 : decide ((73049 : Int) < num) = true := decide_eq_true t2
          clear t1 t2
          go_enter Try.func26, Try.ntmps26
          go_wp2_with fail
          refine (rat_Valid n d _).mono ?_
          rintro e w1 ⟨rfl, hb1⟩
          have HB1 := Lib.hid (below_then (w := w) (by repeat (first | exact Below.refl _ _ | assumption | (with_reducible refine below_drewN ?_ _) | (with_reducible refine Below.drew ?_) | (with_reducible refine Below.alloc ?_ ?_ _) | (with_reducible refine Below.setCell ?_ ?_ _) | (solve | omega | simp | (simp; omega)))) hb1)
          have B1 := Lib.hid (((Bx.made w 23 #[.int .i64 n, .int .i64 d] rfl).alloc (.cells #[.int .i64 m, .int .i64 u] 25)).below hb1)
          have B2 := Lib.hid ((Bx.made (w.alloc (.cells #[.int .i64 n, .int .i64 d] 23)) 25 #[.int .i64 m, .int .i64 u] (g := w.heap.size + 1) (by simp)).below hb1)
          have cm : w1.cell? ⟨w.heap.size + 1, 0, none⟩ = some (.int .i64 m) := B2.out.cell 0
          have cu : w1.cell? ⟨w.heap.size + 1, 1, none⟩ = some (.int .i64 u) := B2.out.cell 1
          go_wp2_with fail
          refine (money_ValidRounding m u _).mono ?_
          rintro e w2 ⟨rfl, hb2⟩
          have HB2 := Lib.hid (below_then HB1.out hb2)
          go_wp2
          go_ret2
          exact ⟨by rw [HF.out]; rfl, HB2.out⟩
        · have c2 : decide ((73049 : Int) < num) = false := decide_eq_false t2
          by_cases t3 : den < 1
          · have HF := Lib.hid (shareS_no3 (n := n) (d := d) (m := m) (u := u) (num := num) (den := den) (by omega))
            have c3 : decide (den < 1) = true := decide_eq_true t3
            clear t1 t2 t3
            go_enter Try.func26, Try.ntmps26
            go_wp2_with fail
            refine (rat_Valid n d _).mono ?_
            rintro e w1 ⟨rfl, hb1⟩
            have HB1 := Lib.hid (below_then (w := w) (by repeat (first | exact Below.refl _ _ | assumption | (with_reducible refine below_drewN ?_ _) | (with_reducible refine Below.drew ?_) | (with_reducible refine Below.alloc ?_ ?_ _) | (with_reducible refine Below.setCell ?_ ?_ _) | (solve | omega | simp | (simp; omega)))) hb1)
            have B1 := Lib.hid (((Bx.made w 23 #[.int .i64 n, .int .i64 d] rfl).alloc (.cells #[.int .i64 m, .int .i64 u] 25)).below hb1)
            have B2 := Lib.hid ((Bx.made (w.alloc (.cells #[.int .i64 n, .int .i64 d] 23)) 25 #[.int .i64 m, .int .i64 u] (g := w.heap.size + 1) (by simp)).below hb1)
            have cm : w1.cell? ⟨w.heap.size + 1, 0, none⟩ = some (.int .i64 m) := B2.out.cell 0
            have cu : w1.cell? ⟨w.heap.size + 1, 1, none⟩ = some (.int .i64 u) := B2.out.cell 1
            go_wp2_with fail
            refine (money_ValidRounding m u _).mono ?_
            rintro e w2 ⟨rfl, hb2⟩
            have HB2 := Lib.hid (below_then HB1.out hb2)
            go_wp2
            go_ret2
            exact ⟨by rw [HF.out]; rfl, HB2.out⟩
          · have c3 : decide (den < 1) = false := decide_eq_false t3
            by_cases t4 : (73049 : Int) < den
            · have HF := Lib.hid (shareS_no3 (n := n) (d := d) (m := m) (u := u) (num := num) (den := den) (by omega))
              have c4 : decide ((73049 : Int) < den) = true := decide_eq_true t4
              clear t1 t2 t3 t4
              go_enter Try.func26, Try.ntmps26
              go_wp2_with fail
              refine (rat_Valid n d _).mono ?_
              rintro e w1 ⟨rfl, hb1⟩
              have HB1 := Lib.hid (below_then (w := w) (by repeat (first | exact Below.refl _ _ | assumption | (with_reducible refine below_drewN ?_ _) | (with_reducible refine Below.drew ?_) | (with_reducible refine Below.alloc ?_ ?_ _) | (with_reducible refine Below.setCell ?_ ?_ _) | (solve | omega | simp | (simp; omega)))) hb1)
              have B1 := Lib.hid (((Bx.made w 23 #[.int .i64 n, .int .i64 d] rfl).alloc (.cells #[.int .i64 m, .int .i64 u] 25)).below hb1)
              have B2 := Lib.hid ((Bx.made (w.alloc (.cells #[.int .i64 n, .int .i64 d] 23)) 25 #[.int .i64 m, .int .i64 u] (g := w.heap.size + 1) (by simp)).below hb1)
              have cm : w1.cell? ⟨w.heap.size + 1, 0, none⟩ = some (.int .i64 m) := B2.out.cell 0
              have cu : w1.cell? ⟨w.heap.size + 1, 1, none⟩ = some (.int .i64 u) := B2.out.cell 1
              go_wp2_with fail
              refine (money_ValidRounding m u _).mono ?_
              rintro e w2 ⟨rfl, hb2⟩
              have HB2 := Lib.hid (below_then HB1.out hb2)
              go_wp2
              go_ret2
              exact ⟨by rw [HF.out]; rfl, HB2.out⟩
            · have c4 : decide ((73049 : Int) < den) = false := decide_eq_false t4
              have HF := Lib.hid (shareS_yes hv hr (show 0 ≤ num by omega) (show num ≤ 73049 by omega) (show 1 ≤ den by omega) (show den ≤ 73049 by omega))
              obtain ⟨v1, v2, v3, v4, _⟩ := validF_iff.1 hv
              obtain ⟨r1, r2, r3, r4⟩ := validR_iff.1 hr
              obtain ⟨D, rfl⟩ : ∃ D : Nat, d = (D : Int) := ⟨d.toNat, by omega⟩
              obtain ⟨K, rfl⟩ : ∃ K : Nat, num = (K : Int) := ⟨num.toNat, by omega⟩
              obtain ⟨G, rfl⟩ : ∃ G : Nat, den = (G : Int) := ⟨den.toNat, by omega⟩
              have bK : K ≤ 73049 := by omega
              have bG : G ≤ 73049 := by omega
              have bG1 : 1 ≤ G := by omega
              have hDG : D * G ≤ 1000000000 * 73049 := Nat.mul_le_mul (by omega) (by omega)
              have hDG1 : 1 ≤ D * G := Nat.mul_pos (by omega) (by omega)
              have hmul : D * G * u.toNat < 9223372036854775808 := by
                have : D * G * u.toNat ≤ 1000000000 * 73049 * 100000 := Nat.mul_le_mul hDG (by omega)
                omega
              have hsg : sgnN (decide (n < 0)) (n.natAbs * K) = n * (K : Int) := sgn_mul n K
              obtain ⟨nn, hnn⟩ : ∃ nn, n.natAbs = nn := ⟨_, rfl⟩
              have hSZ := fun W => money_size n W (by omega) (by omega)
              have hnb : nn ≤ 1000000000000000 := by omega
              rw [hnn] at hSZ hsg
              clear hnn
              have hPL : nn * K < 18446744073709551616 * 18446744073709551616 := Nat.mul_lt_mul'' (by omega) (by omega)
              have hMU := fun W => mul64 nn K (by omega) (by omega) W
              have hWN : wideN (nn * K / 18446744073709551616) (nn * K % 18446744073709551616) = nn * K := by unfold wideN; omega
              have hhb : nn * K / 18446744073709551616 < 18446744073709551616 := Nat.div_lt_of_lt_mul hPL
              have hlb : nn * K % 18446744073709551616 < 18446744073709551616 := Nat.mod_lt _ (by decide)
              obtain ⟨hi, hhi⟩ : ∃ hi, nn * K / 18446744073709551616 = hi := ⟨_, rfl⟩
              obtain ⟨lo, hlo⟩ : ∃ lo, nn * K % 18446744073709551616 = lo := ⟨_, rfl⟩
              rw [hhi] at hMU hWN hhb
              rw [hlo] at hMU hWN hlb
              clear hhi hlo
              rw [← hWN] at hsg
              clear hWN hPL
              have hwr : IntKind.u64.wrap ((D : Int) * (G : Int)) = ((D * G : Nat) : Int) := by rw [mulN]; exact wrapN _ (by omega)
              have hcast : (D : Int) * (G : Int) = ((D * G : Nat) : Int) := mulN D G
              rw [hcast] at HF
              obtain ⟨M, hM⟩ : ∃ M, D * G = M := ⟨_, rfl⟩
              rw [hM] at hmul hDG hDG1 hwr HF
              clear hM hcast
              obtain ⟨A, E, hAE⟩ : ∃ A E, rnd m u (n * (K : Int)) (M : Int) = (A, E) := ⟨_, _, rfl⟩
              have hR : Rnd m u (n * (K : Int)) (M : Int) = .returned (.tuple #[.int .i64 A, .int .i64 E]) := by unfold Rnd; rw [hAE]; rfl
              rw [hAE] at HF
              have hDV := fun W => money_divide (decide (n < 0)) hi lo M m u W hr (by omega) (by omega) hmul
              rw [hsg, hR] at hDV
              have HSZ := Lib.hid hSZ
              have HMU := Lib.hid hMU
              have HDV := Lib.hid hDV
              clear hmul hAE hR hsg hSZ hMU hDV hDG hDG1 hnb hhb hlb t1 t2 t3 t4
              go_enter Try.func26, Try.ntmps26
              go_wp2_with fail
              refine (rat_Valid n (D : Int) _).mono ?_
              rintro e w1 ⟨rfl, hb1⟩
              have HB1 := Lib.hid (below_then (w := w) (by repeat (first | exact Below.refl _ _ | assumption | (with_reducible refine below_drewN ?_ _) | (with_reducible refine Below.drew ?_) | (with_reducible refine Below.alloc ?_ ?_ _) | (with_reducible refine Below.setCell ?_ ?_ _) | (solve | omega | simp | (simp; omega)))) hb1)
              have B1 := Lib.hid (((Bx.made w 23 #[.int .i64 n, .int .i64 (D : Int)] rfl).alloc (.cells #[.int .i64 m, .int .i64 u] 25)).below hb1)
              have B2 := Lib.hid ((Bx.made (w.alloc (.cells #[.int .i64 n, .int .i64 (D : Int)] 23)) 25 #[.int .i64 m, .int .i64 u] (g := w.heap.size + 1) (by simp)).below hb1)
              have cm : w1.cell? ⟨w.heap.size + 1, 0, none⟩ = some (.int .i64 m) := B2.out.cell 0
              have cu : w1.cell? ⟨w.heap.size + 1, 1, none⟩ = some (.int .i64 u) := B2.out.cell 1
              go_wp2_with fail
              refine (money_ValidRounding m u _).mono ?_
              rintro e w2 ⟨rfl, hb2⟩
              have HB2 := Lib.hid (below_then HB1.out hb2)
              obtain ⟨c12, r12⟩ := (B1.out.below hb2).of
              obtain ⟨c22, r22⟩ := (B2.out.below hb2).of
              clear hb1 hb2 cm cu
              go_wp2_with fail
              refine (HSZ.out _).mono ?_
              rintro e _ ⟨rfl, rfl⟩
              go_wp2_with fail
              refine (HMU.out _).mono ?_
              rintro e _ ⟨rfl, rfl⟩
              go_wp2_with fail
              refine (HDV.out _).mono ?_
              rintro e w3 ⟨rfl, hb3⟩
              have HB3 := Lib.hid (below_then (w := w) HB2.out hb3)
              go_wp2
              go_ret2
              exact ⟨by rw [HF.out]; rfl, HB3.out⟩

set_option maxRecDepth 100000 in
set_option maxHeartbeats 1000000 in
theorem ref_Share (n d num den m u : Int) (w : World) :
    Calls Try.prog 27 #[.agg #[.int .i64 n, .int .i64 d], .int .i64 num, .int .i64 den, .agg #[.int .i64 m, .int .i64 u]] w fun e w' => e = IE (shareS n d num den m u) ∧ Below w.heap.size w w' := by
  cases hv : validF n d
  · have HF := Lib.hid (shareS_no1 (num := num) (den := den) (m := m) (u := u) hv)
    go_enter Try.func27, Try.ntmps27
    go_wp2_with fail
    refine (ref_ValidFraction n d _).mono ?_
    rintro e w1 ⟨rfl, hb1⟩
    have HB1 := Lib.hid (below_then (w := w) (by repeat (first | exact Below.refl _ _ | assumption | (with_reducible refine below_drewN ?_ _) | (with_reducible refine Below.drew ?_) | (with_reducible refine Below.alloc ?_ ?_ _) | (with_reducible refine Below.setCell ?_ ?_ _) | (solve | omega | simp | (simp; omega)))) hb1)
    go_wp2
    go_ret2
    exact ⟨by rw [HF.out]; rfl, HB1.out⟩
  · cases hr : validR m u
    · have HF := Lib.hid (shareS_no2 (n := n) (d := d) (num := num) (den := den) hr)
      go_enter Try.func27, Try.ntmps27
      go_wp2_with fail
      refine (ref_ValidFraction n d _).mono ?_
      rintro e w1 ⟨rfl, hb1⟩
      have HB1 := Lib.hid (below_then (w := w) (by repeat (first | exact Below.refl _ _ | assumption | (with_reducible refine below_drewN ?_ _) | (with_reducible refine Below.drew ?_) | (with_reducible refine Below.alloc ?_ ?_ _) | (with_reducible refine Below.setCell ?_ ?_ _) | (solve | omega | simp | (simp; omega)))) hb1)
      have B1 := Lib.hid (((Bx.made w 23 #[.int .i64 n, .int .i64 d] rfl).alloc (.cells #[.int .i64 m, .int .i64 u] 25)).below hb1)
      have B2 := Lib.hid ((Bx.made (w.alloc (.cells #[.int .i64 n, .int .i64 d] 23)) 25 #[.int .i64 m, .int .i64 u] (g := w.heap.size + 1) (by simp)).below hb1)
      have cm : w1.cell? ⟨w.heap.size + 1, 0, none⟩ = some (.int .i64 m) := B2.out.cell 0
      have cu : w1.cell? ⟨w.heap.size + 1, 1, none⟩ = some (.int .i64 u) := B2.out.cell 1
      go_wp2_with fail
      refine (ref_ValidRounding m u _).mono ?_
      rintro e w2 ⟨rfl, hb2⟩
      have HB2 := Lib.hid (below_then HB1.out hb2)
      go_wp2
      go_ret2
      exact ⟨by rw [HF.out]; rfl, HB2.out⟩
    · by_cases t1 : num < 0
      · have HF := Lib.hid (shareS_no3 (n := n) (d := d) (m := m) (u := u) (num := num) (den := den) (by omega))
        have c1 : decide (num < 0) = true := decide_eq_true t1
        clear t1
        go_enter Try.func27, Try.ntmps27
        go_wp2_with fail
        refine (ref_ValidFraction n d _).mono ?_
        rintro e w1 ⟨rfl, hb1⟩
        have HB1 := Lib.hid (below_then (w := w) (by repeat (first | exact Below.refl _ _ | assumption | (with_reducible refine below_drewN ?_ _) | (with_reducible refine Below.drew ?_) | (with_reducible refine Below.alloc ?_ ?_ _) | (with_reducible refine Below.setCell ?_ ?_ _) | (solve | omega | simp | (simp; omega)))) hb1)
        have B1 := Lib.hid (((Bx.made w 23 #[.int .i64 n, .int .i64 d] rfl).alloc (.cells #[.int .i64 m, .int .i64 u] 25)).below hb1)
        have B2 := Lib.hid ((Bx.made (w.alloc (.cells #[.int .i64 n, .int .i64 d] 23)) 25 #[.int .i64 m, .int .i64 u] (g := w.heap.size + 1) (by simp)).below hb1)
        have cm : w1.cell? ⟨w.heap.size + 1, 0, none⟩ = some (.int .i64 m) := B2.out.cell 0
        have cu : w1.cell? ⟨w.heap.size + 1, 1, none⟩ = some (.int .i64 u) := B2.out.cell 1
        go_wp2_with fail
        refine (ref_ValidRounding m u _).mono ?_
        rintro e w2 ⟨rfl, hb2⟩
        have HB2 := Lib.hid (below_then HB1.out hb2)
        go_wp2
        go_ret2
        exact ⟨by rw [HF.out]; rfl, HB2.out⟩
      · have c1 : decide (num < 0) = false := decide_eq_false t1
        by_cases t2 : (73049 : Int) < num
        · have HF := Lib.hid (shareS_no3 (n := n) (d := d) (m := m) (u := u) (num := num) (den := den) (by omega))
          have c2 : decide ((73049 : Int) < num) = true := decide_eq_true t2
          clear t1 t2
          go_enter Try.func27, Try.ntmps27
          go_wp2_with fail
          refine (ref_ValidFraction n d _).mono ?_
          rintro e w1 ⟨rfl, hb1⟩
          have HB1 := Lib.hid (below_then (w := w) (by repeat (first | exact Below.refl _ _ | assumption | (with_reducible refine below_drewN ?_ _) | (with_reducible refine Below.drew ?_) | (with_reducible refine Below.alloc ?_ ?_ _) | (with_reducible refine Below.setCell ?_ ?_ _) | (solve | omega | simp | (simp; omega)))) hb1)
          have B1 := Lib.hid (((Bx.made w 23 #[.int .i64 n, .int .i64 d] rfl).alloc (.cells #[.int .i64 m, .int .i64 u] 25)).below hb1)
          have B2 := Lib.hid ((Bx.made (w.alloc (.cells #[.int .i64 n, .int .i64 d] 23)) 25 #[.int .i64 m, .int .i64 u] (g := w.heap.size + 1) (by simp)).below hb1)
          have cm : w1.cell? ⟨w.heap.size + 1, 0, none⟩ = some (.int .i64 m) := B2.out.cell 0
          have cu : w1.cell? ⟨w.heap.size + 1, 1, none⟩ = some (.int .i64 u) := B2.out.cell 1
          go_wp2_with fail
          refine (ref_ValidRounding m u _).mono ?_
          rintro e w2 ⟨rfl, hb2⟩
          have HB2 := Lib.hid (below_then HB1.out hb2)
          go_wp2
          go_ret2
          exact ⟨by rw [HF.out]; rfl, HB2.out⟩
        · have c2 : decide ((73049 : Int) < num) = false := decide_eq_false t2
          by_cases t3 : den < 1
          · have HF := Lib.hid (shareS_no3 (n := n) (d := d) (m := m) (u := u) (num := num) (den := den) (by omega))
            have c3 : decide (den < 1) = true := decide_eq_true t3
            clear t1 t2 t3
            go_enter Try.func27, Try.ntmps27
            go_wp2_with fail
            refine (ref_ValidFraction n d _).mono ?_
            rintro e w1 ⟨rfl, hb1⟩
            have HB1 := Lib.hid (below_then (w := w) (by repeat (first | exact Below.refl _ _ | assumption | (with_reducible refine below_drewN ?_ _) | (with_reducible refine Below.drew ?_) | (with_reducible refine Below.alloc ?_ ?_ _) | (with_reducible refine Below.setCell ?_ ?_ _) | (solve | omega | simp | (simp; omega)))) hb1)
            have B1 := Lib.hid (((Bx.made w 23 #[.int .i64 n, .int .i64 d] rfl).alloc (.cells #[.int .i64 m, .int .i64 u] 25)).below hb1)
            have B2 := Lib.hid ((Bx.made (w.alloc (.cells #[.int .i64 n, .int .i64 d] 23)) 25 #[.int .i64 m, .int .i64 u] (g := w.heap.size + 1) (by simp)).below hb1)
            have cm : w1.cell? ⟨w.heap.size + 1, 0, none⟩ = some (.int .i64 m) := B2.out.cell 0
            have cu : w1.cell? ⟨w.heap.size + 1, 1, none⟩ = some (.int .i64 u) := B2.out.cell 1
            go_wp2_with fail
            refine (ref_ValidRounding m u _).mono ?_
            rintro e w2 ⟨rfl, hb2⟩
            have HB2 := Lib.hid (below_then HB1.out hb2)
            go_wp2
            go_ret2
            exact ⟨by rw [HF.out]; rfl, HB2.out⟩
          · have c3 : decide (den < 1) = false := decide_eq_false t3
            by_cases t4 : (73049 : Int) < den
            · have HF := Lib.hid (shareS_no3 (n := n) (d := d) (m := m) (u := u) (num := num) (den := den) (by omega))
              have c4 : decide ((73049 : Int) < den) = true := decide_eq_true t4
              clear t1 t2 t3 t4
              go_enter Try.func27, Try.ntmps27
              go_wp2_with fail
              refine (ref_ValidFraction n d _).mono ?_
              rintro e w1 ⟨rfl, hb1⟩
              have HB1 := Lib.hid (below_then (w := w) (by repeat (first | exact Below.refl _ _ | assumption | (with_reducible refine below_drewN ?_ _) | (with_reducible refine Below.drew ?_) | (with_reducible refine Below.alloc ?_ ?_ _) | (with_reducible refine Below.setCell ?_ ?_ _) | (solve | omega | simp | (simp; omega)))) hb1)
              have B1 := Lib.hid (((Bx.made w 23 #[.int .i64 n, .int .i64 d] rfl).alloc (.cells #[.int .i64 m, .int .i64 u] 25)).below hb1)
              have B2 := Lib.hid ((Bx.made (w.alloc (.cells #[.int .i64 n, .int .i64 d] 23)) 25 #[.int .i64 m, .int .i64 u] (g := w.heap.size + 1) (by simp)).below hb1)
              have cm : w1.cell? ⟨w.heap.size + 1, 0, none⟩ = some (.int .i64 m) := B2.out.cell 0
              have cu : w1.cell? ⟨w.heap.size + 1, 1, none⟩ = some (.int .i64 u) := B2.out.cell 1
              go_wp2_with fail
              refine (ref_ValidRounding m u _).mono ?_
              rintro e w2 ⟨rfl, hb2⟩
              have HB2 := Lib.hid (below_then HB1.out hb2)
              go_wp2
              go_ret2
              exact ⟨by rw [HF.out]; rfl, HB2.out⟩
            · have c4 : decide ((73049 : Int) < den) = false := decide_eq_false t4
              have HF := Lib.hid (shareS_yes hv hr (show 0 ≤ num by omega) (show num ≤ 73049 by omega) (show 1 ≤ den by omega) (show den ≤ 73049 by omega))
              obtain ⟨v1, v2, v3, v4, _⟩ := validF_iff.1 hv
              obtain ⟨r1, r2, r3, r4⟩ := validR_iff.1 hr
              obtain ⟨D, rfl⟩ : ∃ D : Nat, d = (D : Int) := ⟨d.toNat, by omega⟩
              obtain ⟨K, rfl⟩ : ∃ K : Nat, num = (K : Int) := ⟨num.toNat, by omega⟩
              obtain ⟨G, rfl⟩ : ∃ G : Nat, den = (G : Int) := ⟨den.toNat, by omega⟩
              have bK : K ≤ 73049 := by omega
              have bG : G ≤ 73049 := by omega
              have bG1 : 1 ≤ G := by omega
              have hDG : D * G ≤ 1000000000 * 73049 := Nat.mul_le_mul (by omega) (by omega)
              have hDG1 : 1 ≤ D * G := Nat.mul_pos (by omega) (by omega)
              have hmul : D * G * u.toNat < 9223372036854775808 := by
                have : D * G * u.toNat ≤ 1000000000 * 73049 * 100000 := Nat.mul_le_mul hDG (by omega)
                omega
              have hsg : sgnN (decide (n < 0)) (n.natAbs * K) = n * (K : Int) := sgn_mul n K
              obtain ⟨nn, hnn⟩ : ∃ nn, n.natAbs = nn := ⟨_, rfl⟩
              have hSZ := fun W => ref_size n W (by omega) (by omega)
              have hnb : nn ≤ 1000000000000000 := by omega
              rw [hnn] at hSZ hsg
              clear hnn
              have hPL : nn * K < 18446744073709551616 * 18446744073709551616 := Nat.mul_lt_mul'' (by omega) (by omega)
              have hMU := fun W => ref_times nn K W (by omega) (by omega)
              unfold wideV at hMU
              have hWN : wideN (nn * K / 18446744073709551616) (nn * K % 18446744073709551616) = nn * K := by unfold wideN; omega
              have hhb : nn * K / 18446744073709551616 < 18446744073709551616 := Nat.div_lt_of_lt_mul hPL
              have hlb : nn * K % 18446744073709551616 < 18446744073709551616 := Nat.mod_lt _ (by decide)
              obtain ⟨hi, hhi⟩ : ∃ hi, nn * K / 18446744073709551616 = hi := ⟨_, rfl⟩
              obtain ⟨lo, hlo⟩ : ∃ lo, nn * K % 18446744073709551616 = lo := ⟨_, rfl⟩
              rw [hhi] at hMU hWN hhb
              rw [hlo] at hMU hWN hlb
              clear hhi hlo
              rw [← hWN] at hsg
              clear hWN hPL
              have hwr : IntKind.u64.wrap ((D : Int) * (G : Int)) = ((D * G : Nat) : Int) := by rw [mulN]; exact wrapN _ (by omega)
              have hcast : (D : Int) * (G : Int) = ((D * G : Nat) : Int) := mulN D G
              rw [hcast] at HF
              obtain ⟨M, hM⟩ : ∃ M, D * G = M := ⟨_, rfl⟩
              rw [hM] at hmul hDG hDG1 hwr HF
              clear hM hcast
              obtain ⟨A, E, hAE⟩ : ∃ A E, rnd m u (n * (K : Int)) (M : Int) = (A, E) := ⟨_, _, rfl⟩
              have hR : Rnd m u (n * (K : Int)) (M : Int) = .returned (.tuple #[.int .i64 A, .int .i64 E]) := by unfold Rnd; rw [hAE]; rfl
              rw [hAE] at HF
              have hDV := fun W => ref_rounded (decide (n < 0)) hi lo M m u W hr (by omega) (by omega) (by omega) hmul
              rw [hsg, hR] at hDV
              have HSZ := Lib.hid hSZ
              have HMU := Lib.hid hMU
              have HDV := Lib.hid hDV
              clear hmul hAE hR hsg hSZ hMU hDV hDG hDG1 hnb hhb hlb t1 t2 t3 t4
              go_enter Try.func27, Try.ntmps27
              go_wp2_with fail
              refine (ref_ValidFraction n (D : Int) _).mono ?_
              rintro e w1 ⟨rfl, hb1⟩
              have HB1 := Lib.hid (below_then (w := w) (by repeat (first | exact Below.refl _ _ | assumption | (with_reducible refine below_drewN ?_ _) | (with_reducible refine Below.drew ?_) | (with_reducible refine Below.alloc ?_ ?_ _) | (with_reducible refine Below.setCell ?_ ?_ _) | (solve | omega | simp | (simp; omega)))) hb1)
              have B1 := Lib.hid (((Bx.made w 23 #[.int .i64 n, .int .i64 (D : Int)] rfl).alloc (.cells #[.int .i64 m, .int .i64 u] 25)).below hb1)
              have B2 := Lib.hid ((Bx.made (w.alloc (.cells #[.int .i64 n, .int .i64 (D : Int)] 23)) 25 #[.int .i64 m, .int .i64 u] (g := w.heap.size + 1) (by simp)).below hb1)
              have cm : w1.cell? ⟨w.heap.size + 1, 0, none⟩ = some (.int .i64 m) := B2.out.cell 0
              have cu : w1.cell? ⟨w.heap.size + 1, 1, none⟩ = some (.int .i64 u) := B2.out.cell 1
              go_wp2_with fail
              refine (ref_ValidRounding m u _).mono ?_
              rintro e w2 ⟨rfl, hb2⟩
              have HB2 := Lib.hid (below_then HB1.out hb2)
              have cn : ∀ x : BW w2, x.val.cell? ⟨w.heap.size, 0, none⟩ = some (.int .i64 n) := BW.cells (B1.out.below hb2) 0
              have cd : ∀ x : BW w2, x.val.cell? ⟨w.heap.size, 1, none⟩ = some (.int .i64 (D : Int)) := BW.cells (B1.out.below hb2) 1
              have cm2 : ∀ x : BW w2, x.val.cell? ⟨w.heap.size + 1, 0, none⟩ = some (.int .i64 m) := BW.cells (B2.out.below hb2) 0
              have cu2 : ∀ x : BW w2, x.val.cell? ⟨w.heap.size + 1, 1, none⟩ = some (.int .i64 u) := BW.cells (B2.out.below hb2) 1
              clear hb1 hb2 cm cu
              go_wp2
              refine wp_region_below (by kernel_rfl) (by kernel_rfl) ?_
              repeat (go_big_quiet_step (((first | (go_at_call 45; exact bq_same (HSZ.out _)) | (go_at_call 50; exact bq_below (HMU.out _)) | (go_at_call 44; exact bq_below (HDV.out _))))))
              refine wpQuiet_nil ?_
              intro _ hw'
              obtain ⟨⟨w3, hb3⟩, rfl⟩ := hw'
              have HB3 := Lib.hid (below_then HB2.out hb3)
              go_wp2
              go_ret2
              exact ⟨by rw [HF.out]; rfl, HB3.out⟩
end Go.Proofs.Ytnhbidagnomkpaa
