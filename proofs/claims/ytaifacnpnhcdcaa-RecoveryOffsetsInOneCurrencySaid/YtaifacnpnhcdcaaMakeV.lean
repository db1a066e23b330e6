/-
  The makers of raw numbers: Amount, fraction.
-/
import Derived.Test.YtaifacnpnhcdcaaModV
import Derived.BigQuiet
namespace Go.Proofs.Ytaifacnpnhcdcaa
open Go.RowKit Mny

theorem frac_low {a b g : Nat} (ha : 1 ≤ a) (hb : 1 ≤ b) (hg : g = Nat.gcd a b) (ha2 : a ≤ 1000000000) (hb2 : b ≤ 1000000000) :
    validF ((a / g : Nat) : Int) ((b / g : Nat) : Int) = true ∧ 1 ≤ a / g ∧ a / g ≤ a ∧ 1 ≤ b / g ∧ b / g ≤ b ∧ (a ≤ b → a / g ≤ b / g) := by
  have hp : 0 < g := by rw [hg]; exact Nat.gcd_pos_of_pos_left _ (by omega)
  have h1 : g ∣ a := hg ▸ Nat.gcd_dvd_left _ _
  have h2 : g ∣ b := hg ▸ Nat.gcd_dvd_right _ _
  have e1 : 1 ≤ a / g := (Nat.le_div_iff_mul_le hp).2 (by rw [Nat.one_mul]; exact Nat.le_of_dvd (by omega) h1)
  have e2 : 1 ≤ b / g := (Nat.le_div_iff_mul_le hp).2 (by rw [Nat.one_mul]; exact Nat.le_of_dvd (by omega) h2)
  have e3 := Nat.div_le_self a g
  have e4 := Nat.div_le_self b g
  refine ⟨?_, e1, e3, e2, e4, fun h => Nat.div_le_div_right h⟩
  rw [validF_of (by omega) (by omega) (by omega) (by omega)]
  have : Nat.gcd (a / g) (b / g) = 1 := by rw [Nat.gcd_div h1 h2, ← hg, Nat.div_self hp]
  simp only [Int.natAbs_natCast, this]
  rfl
/-- an amount came out -/
def AmtOut (w : World) (e : Ending) (w' : World) : Prop := ∃ x, e = .returned (.int .i64 x) ∧ (0 ≤ x ∧ x ≤ 1000000000000) ∧ w = w'
set_option maxRecDepth 100000 in
set_option maxHeartbeats 4000000 in
theorem plain_Amount (n : Int) (w : World) : Calls Try.prog 12 #[.int .i64 n] w (AmtOut w) := by
  have m8 := fun W => plain_Mod n 8 W (by decide) (by decide)
  obtain ⟨q, hq⟩ : ∃ q, n % 8 = q := ⟨_, rfl⟩
  rw [hq] at m8
  have M8 := Lib.hid m8
  clear m8 hq
  by_cases h0 : q = 0
  · have c0 : (q == 0) = true := beq_iff_eq.2 h0
    go_enter Try.func12, Try.ntmps12
    go_wp2_with fail
    refine (M8.out _).mono ?_
    rintro e w1 ⟨rfl, rfl⟩
    go_wp2
    go_ret
    exact ⟨_, rfl, ⟨by omega, by omega⟩, rfl⟩
  have c0 : (q == 0) = false := beq_eq_false_iff_ne.2 h0
  by_cases h1 : q = 1
  · have c1 : (q == 1) = true := beq_iff_eq.2 h1
    go_enter Try.func12, Try.ntmps12
    go_wp2_with fail
    refine (M8.out _).mono ?_
    rintro e w1 ⟨rfl, rfl⟩
    go_wp2_with fail
    refine (plain_Mod _ 1000 _ (by decide) (by decide)).mono ?_
    rintro e w1 ⟨rfl, rfl⟩
    have z0 : 0 ≤ (n.tdiv 8) % 1000 := Int.emod_nonneg _ (by decide)
    have z1 : (n.tdiv 8) % 1000 < 1000 := Int.emod_lt_of_pos _ (by decide)
    go_wp2
    go_ret
    exact ⟨_, rfl, ⟨by omega, by omega⟩, rfl⟩
  have c1 : (q == 1) = false := beq_eq_false_iff_ne.2 h1
  by_cases h2 : q = 2
  · have c2 : (q == 2) = true := beq_iff_eq.2 h2
    go_enter Try.func12, Try.ntmps12
    go_wp2_with fail
    refine (M8.out _).mono ?_
    rintro e w1 ⟨rfl, rfl⟩
    go_wp2_with fail
    refine (plain_Mod _ 1000000000001 _ (by decide) (by decide)).mono ?_
    rintro e w1 ⟨rfl, rfl⟩
    have z0 : 0 ≤ (n.tdiv 8) % 1000000000001 := Int.emod_nonneg _ (by decide)
    have z1 : (n.tdiv 8) % 1000000000001 < 1000000000001 := Int.emod_lt_of_pos _ (by decide)
    go_wp2
    go_ret
    exact ⟨_, rfl, ⟨by omega, by omega⟩, rfl⟩
  have c2 : (q == 2) = false := beq_eq_false_iff_ne.2 h2
  go_enter Try.func12, Try.ntmps12
  go_wp2_with fail
  refine (M8.out _).mono ?_
  rintro e w1 ⟨rfl, rfl⟩
  go_wp2_with fail
  refine (plain_Mod _ 5000 _ (by decide) (by decide)).mono ?_
  rintro e w1 ⟨rfl, rfl⟩
  have z0 : 0 ≤ (n.tdiv 8) % 5000 := Int.emod_nonneg _ (by decide)
  have z1 : (n.tdiv 8) % 5000 < 5000 := Int.emod_lt_of_pos _ (by decide)
  go_wp2
  go_ret
  exact ⟨_, rfl, ⟨by omega, by omega⟩, rfl⟩

/-- a fraction in lowest terms came out -/
def FracOut (w : World) (a b : Nat) (e : Ending) (w' : World) : Prop := ∃ p q : Nat, e = .returned (.agg #[.int .i64 p, .int .i64 q]) ∧ validF p q = true ∧ 1 ≤ p ∧ p ≤ a ∧ 1 ≤ q ∧ q ≤ b ∧ (a ≤ b → p ≤ q) ∧ Below w.heap.size w w'
set_option maxRecDepth 100000 in
set_option maxHeartbeats 4000000 in
theorem plain_fraction (a b : Nat) (w : World) (ha : 1 ≤ a) (hb : 1 ≤ b) (ha2 : a ≤ 1000000000) (hb2 : b ≤ 1000000000) : Calls Try.prog 26 #[.int .i64 a, .int .i64 b] w (FracOut w a b) := by
  have HF := fun g hg => Lib.hid (frac_low (g := g) ha hb hg ha2 hb2)
  have X0 := Lib.hid (Bx.made w 51 #[.int .i64 0, .int .i64 0] rfl)
  have B0 := Lib.hid ((Below.refl w.heap.size w).alloc (Nat.le_refl _) (.cells #[.int .i64 0, .int .i64 0] 51))
  go_enter Try.func26, Try.ntmps26
  go_wp2
  go_loopw [5, 6] (fun s t wr => ∃ x y : Nat, s = .int .i64 x ∧ t = .int .i64 y ∧ Hid (Nat.gcd x y = Nat.gcd a b) ∧ x ≤ 1000000000 ∧ y ≤ 1000000000 ∧ Bx wr w.heap.size 51 #[.int .i64 0, .int .i64 0] ∧ Below w.heap.size w wr) (fun _ t _ => (intOf t).toNat)
  case atStart => exact ⟨a, b, rfl, rfl, Lib.hid rfl, ha2, hb2, X0.out, B0.out⟩
  case round =>
    obtain ⟨x, y, rfl, rfl, hg, hx, hy, hbx, hbl⟩ := hrel
    have HBX := Lib.hid hbx
    have HB := Lib.hid hbl
    have hsz := HBX.out.lt
    clear hbx hbl
    by_cases hz : y = 0
    · subst hz
      have hgx : x = Nat.gcd a b := by rw [← hg.out, Nat.gcd_zero_right]
      have hxp : 0 < x := by rw [hgx]; exact Nat.gcd_pos_of_pos_left _ (by omega)
      have HR := HF x hgx
      have j0 : ((x : Int) == 0) = false := beq_eq_false_iff_ne.2 (by omega)
      have j1 : (x == 0) = false := beq_eq_false_iff_ne.2 (by omega)
      have j2 : ¬ x = 0 := by omega
      have t1 : (a : Int).tdiv (x : Int) = ((a / x : Nat) : Int) := (Int.ofNat_tdiv a x).symm
      have t2 : (b : Int).tdiv (x : Int) = ((b / x : Nat) : Int) := (Int.ofNat_tdiv b x).symm
      obtain ⟨p, hp⟩ : ∃ p, a / x = p := ⟨_, rfl⟩
      obtain ⟨q, hq⟩ : ∃ q, b / x = q := ⟨_, rfl⟩
      obtain ⟨r1, r2, r3, r4, r5, r6⟩ := HR.out
      rw [hp, hq] at r1
      rw [hp] at r2 r3 t1 r6
      rw [hq] at r4 r5 t2 r6
      have f0 : wr.frozen? ⟨w.heap.size, 0, none⟩ = false := HBX.out.free 0
      have f1 : wr.frozen? ⟨w.heap.size, 1, none⟩ = false := HBX.out.free 1
      have g0 : wr.cell? ⟨w.heap.size, 0, none⟩ = some (.int .i64 0) := HBX.out.cell 0
      have g1 : wr.cell? ⟨w.heap.size, 1, none⟩ = some (.int .i64 0) := HBX.out.cell 1
      have hbl := HB.out
      have k6 : (wr.setCell ⟨w.heap.size, 0, none⟩ (.int .i64 (p : Int))).cell? ⟨w.heap.size, 0, none⟩ = some (.int .i64 (p : Int)) := (HBX.out.put 0 (.int .i64 (p : Int))).cell 0
      have k7 : ((wr.setCell ⟨w.heap.size, 0, none⟩ (.int .i64 (p : Int))).setCell ⟨w.heap.size, 1, none⟩ (.int .i64 (q : Int))).cell? ⟨w.heap.size, 1, none⟩ = some (.int .i64 (q : Int)) := ((HBX.out.put 0 (.int .i64 (p : Int))).put 1 (.int .i64 (q : Int))).cell 1
      clear hgx
      go_wp2
      go_region
      go_wp2
      refine bodyPost_ret (v := .agg #[.int .i64 (p : Int), .int .i64 (q : Int)]) (by first | (simp [results, Try.results26, go_sem, k6]; done) | (simp [results, Try.results26, go_sem, k6, k7]; done)) rfl ⟨p, q, rfl, r1, r2, r3, r4, r5, r6, ?_⟩
      exact (by repeat (first | (with_reducible exact Below.refl _ _) | (with_reducible assumption) | (with_reducible refine below_drewN ?_ _) | (with_reducible refine Below.drew ?_) | (with_reducible refine Below.alloc ?_ ?_ _) | (with_reducible refine Below.setCell ?_ ?_ _) | exact Below.refl _ _ | assumption | (solve | omega | simp | (simp; omega))))
    · have hz' : ((y : Int) != 0) = true := by simp [hz]
      have hg2 : Nat.gcd y (x % y) = Nat.gcd a b := by rw [← hg.out, Nat.gcd_comm x y, Nat.gcd_rec y x, Nat.gcd_comm]
      have HG := Lib.hid hg2
      have hlt : x % y < y := Nat.mod_lt _ (by omega)
      have hb3 := HB.out
      clear hg2
      go_wp2
      go_quiet (fail)
      go_wp2
      go_roundw
      case rel => exact ⟨y, x % y, rfl, by go_num, HG, by omega, by omega, by first | exact HBX.out.drewN _ | exact HBX.out.drew | exact HBX.out, (by repeat (first | (with_reducible exact Below.refl _ _) | (with_reducible assumption) | (with_reducible refine below_drewN ?_ _) | (with_reducible refine Below.drew ?_) | (with_reducible refine Below.alloc ?_ ?_ _) | (with_reducible refine Below.setCell ?_ ?_ _) | exact Below.refl _ _ | assumption | (solve | omega | simp | (simp; omega))))⟩
      case measure => simp only [intOf]; omega

end Go.Proofs.Ytaifacnpnhcdcaa
