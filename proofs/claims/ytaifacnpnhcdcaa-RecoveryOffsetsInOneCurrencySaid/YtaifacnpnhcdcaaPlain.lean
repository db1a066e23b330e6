/-
  Plain lemmas on division of two digits, rounding and fractions; no program is in sight here.
-/
namespace Go.Proofs.Ytaifacnpnhcdcaa
namespace Dv
/-- digits -/
def B : Nat := 4294967296

theorem q_lt {u u1 y : Nat} (hu : u < y) (hu1 : u1 < 4294967296) : (u * 4294967296 + u1) / y < 4294967296 := by
  have hy : 0 < y := by omega
  rw [Nat.div_lt_iff_lt_mul hy]
  have : (u + 1) * 4294967296 ≤ y * 4294967296 := Nat.mul_le_mul_right _ hu
  omega

theorem start {u u1 y yn1 yn0 : Nat} (hy : y = yn1 * 4294967296 + yn0) (hn1 : 2147483648 ≤ yn1) (hn0 : yn0 < 4294967296) (hu : u < y) (hu1 : u1 < 4294967296) :
    (u / yn1) * yn1 + u % yn1 = u ∧ (u * 4294967296 + u1) / y ≤ u / yn1 ∧ u / yn1 ≤ 4294967297 ∧ u % yn1 < yn1 := by
  have hp : 0 < yn1 := by omega
  have h1 : u / yn1 * yn1 + u % yn1 = u := by rw [Nat.mul_comm]; exact Nat.div_add_mod u yn1
  have h2 : u % yn1 < yn1 := Nat.mod_lt _ hp
  refine ⟨h1, ?_, ?_, h2⟩
  · -- Q*y <= u*B+u1 < (u+1)*B, Q*yn1*B <= Q*y, so Q*yn1 < u+1
    rw [Nat.le_div_iff_mul_le hp]
    have hq : (u * 4294967296 + u1) / y * y ≤ u * 4294967296 + u1 := Nat.div_mul_le_self _ _
    generalize (u * 4294967296 + u1) / y = Q at *
    subst hy
    rw [Nat.mul_add, ← Nat.mul_assoc] at hq
    have : Q * yn1 * 4294967296 < (u + 1) * 4294967296 := by omega
    have := Nat.lt_of_mul_lt_mul_right this
    omega
  · apply Nat.le_of_lt_succ
    rw [Nat.div_lt_iff_lt_mul hp]
    omega

theorem step {q r u u1 y yn1 yn0 : Nat} (hy : y = yn1 * 4294967296 + yn0) (hu : u < y) (hu1 : u1 < 4294967296)
    (hi : q * yn1 + r = u) (hQ : (u * 4294967296 + u1) / y ≤ q) (hc : 4294967296 ≤ q ∨ 4294967296 * r + u1 < q * yn0) :
    1 ≤ q ∧ (u * 4294967296 + u1) / y ≤ q - 1 ∧ (q - 1) * yn1 + (r + yn1) = u := by
  have hlt : (u * 4294967296 + u1) / y < q := by
    rcases hc with h | h
    · exact Nat.lt_of_lt_of_le (q_lt hu hu1) h
    · have hyp : 0 < y := by omega
      rw [Nat.div_lt_iff_lt_mul hyp]
      subst hy hi
      rw [Nat.mul_add, ← Nat.mul_assoc]
      rw [Nat.add_mul]
      omega
  generalize (u * 4294967296 + u1) / y = Q at *
  refine ⟨by omega, by omega, ?_⟩
  obtain ⟨k, rfl⟩ : ∃ k, q = k + 1 := ⟨q - 1, by omega⟩
  rw [Nat.add_mul] at hi
  simp only [Nat.add_sub_cancel]
  omega

theorem exit1 {q r u u1 y yn1 yn0 : Nat} (hy : y = yn1 * 4294967296 + yn0) (hyp : 0 < y)
    (hi : q * yn1 + r = u) (hQ : (u * 4294967296 + u1) / y ≤ q) (hc : q * yn0 ≤ 4294967296 * r + u1) :
    q = (u * 4294967296 + u1) / y := by
  refine Nat.le_antisymm ?_ hQ
  rw [Nat.le_div_iff_mul_le hyp]
  subst hy hi
  rw [Nat.mul_add, ← Nat.mul_assoc, Nat.add_mul]
  omega

theorem exit2 {q r u u1 y yn1 yn0 : Nat} (hy : y = yn1 * 4294967296 + yn0) (hyp : 0 < y) (hn0 : yn0 < 4294967296)
    (hi : q * yn1 + r = u) (hQ : (u * 4294967296 + u1) / y ≤ q) (hq : q ≤ 4294967296) (hr : 4294967296 ≤ r) :
    q = (u * 4294967296 + u1) / y := by
  refine exit1 hy hyp hi hQ ?_
  have := Nat.mul_le_mul_right yn0 hq
  omega

/-- the remainder of the first half -/
theorem rest {q u u1 y : Nat} (h : q = (u * 4294967296 + u1) / y) : u * 4294967296 + u1 - q * y = (u * 4294967296 + u1) % y := by
  subst h
  have := Nat.div_add_mod (u * 4294967296 + u1) y
  rw [Nat.mul_comm] at this
  omega

/-- two halves make the whole -/
theorem joinG {b u v1 v0 y : Nat} (hyp : 0 < y) :
    (u * (b * b) + (v1 * b + v0)) / y = (u * b + v1) / y * b + ((u * b + v1) % y * b + v0) / y ∧
    (u * (b * b) + (v1 * b + v0)) % y = ((u * b + v1) % y * b + v0) % y := by
  have h := Nat.div_add_mod (u * b + v1) y
  generalize (u * b + v1) / y = q at *
  generalize (u * b + v1) % y = r at *
  have e : u * (b * b) + (v1 * b + v0) = y * (q * b) + (r * b + v0) := by
    have : (u * b + v1) * b = (y * q + r) * b := by rw [h]
    rw [Nat.add_mul, Nat.add_mul, Nat.mul_assoc, Nat.mul_assoc] at this
    omega
  rw [e]
  exact ⟨Nat.mul_add_div hyp _ _, Nat.mul_add_mod y _ _⟩

theorem join {u v1 v0 y : Nat} (hyp : 0 < y) :
    (u * 18446744073709551616 + (v1 * 4294967296 + v0)) / y = (u * 4294967296 + v1) / y * 4294967296 + ((u * 4294967296 + v1) % y * 4294967296 + v0) / y ∧
    (u * 18446744073709551616 + (v1 * 4294967296 + v0)) % y = ((u * 4294967296 + v1) % y * 4294967296 + v0) % y :=
  joinG (b := 4294967296) hyp

/-- shifting both -/
theorem shifted {n d : Nat} (s : Nat) : (n * 2 ^ s) / (d * 2 ^ s) = n / d ∧ (n * 2 ^ s) % (d * 2 ^ s) / 2 ^ s = n % d := by
  have hp : 0 < 2 ^ s := Nat.two_pow_pos s
  refine ⟨Nat.mul_div_mul_right n d hp, ?_⟩
  rw [Nat.mul_mod_mul_right]
  exact Nat.mul_div_cancel _ hp
end Dv

namespace Mny
/-- does the mode go up from k, r being what is above it, out of d -/
def upB (mode r d k : Int) : Bool :=
  if mode = 2 then decide (0 < r) else if mode = 3 then decide (d - r ≤ r)
  else if mode = 4 then (decide (d - r < r) || (decide (r = d - r) && decide (k % 2 ≠ 0))) else false
/-- the number of units that n / d is rounded to (d: with the unit in it) -/
def units (mode n d : Int) : Int := n / d + (if upB mode (n % d) d (n / d) then 1 else 0)
/-- is it an amount -/
def okU (k unit : Int) : Bool := decide (-(1000000000000 / unit) ≤ k) && decide (k ≤ 1000000000000 / unit)
/-- rounding n / den: the amount and the error -/
def rnd (mode unit n den : Int) : Int × Int :=
  let k := units mode n (den * unit)
  if okU k unit then (k * unit, 0) else (0, 2)

theorem div_of {n d q r : Int} (h : n = d * q + r) (h0 : 0 ≤ r) (h1 : r < d) : n / d = q ∧ n % d = r := by
  have := (Int.ediv_emod_unique (a := n) (b := d) (q := q) (r := r) (by omega)).2 ⟨by rw [h]; omega, h0, h1⟩
  exact ⟨this.1, this.2⟩

theorem units_bd (mode n d : Int) : n / d ≤ units mode n d ∧ units mode n d ≤ n / d + 1 := by
  unfold units; split <;> omega

/-- the quotient and what is above it of a number with a sign, from those of its size -/
theorem neg_div {m d q r : Int} (h : m = d * q + r) (h0 : 0 ≤ r) (h1 : r < d) :
    (-m) / d = (if 0 < r then -q - 1 else -q) ∧ (-m) % d = (if 0 < r then d - r else 0) := by
  by_cases hr : 0 < r
  · rw [if_pos hr, if_pos hr]
    refine div_of ?_ (by omega) (by omega)
    rw [h, Int.mul_sub, Int.mul_neg]; omega
  · rw [if_neg hr, if_neg hr]
    refine div_of ?_ (by omega) (by omega)
    rw [h, Int.mul_neg]; omega

/-- rounding is monotone -/
theorem units_mono (mode : Int) {n1 d1 n2 d2 : Int} (h1 : 0 < d1) (h2 : 0 < d2) (h : n1 * d2 ≤ n2 * d1) : units mode n1 d1 ≤ units mode n2 d2 := by
  have e1 := Int.mul_ediv_add_emod n1 d1
  have e2 := Int.mul_ediv_add_emod n2 d2
  have a1 := Int.emod_nonneg n1 (show d1 ≠ 0 by omega)
  have a2 := Int.emod_lt_of_pos n1 h1
  have b1 := Int.emod_nonneg n2 (show d2 ≠ 0 by omega)
  have b2 := Int.emod_lt_of_pos n2 h2
  unfold units
  generalize n1 / d1 = k1 at *
  generalize n2 / d2 = k2 at *
  generalize n1 % d1 = r1 at *
  generalize n2 % d2 = r2 at *
  subst e1 e2
  rw [Int.add_mul, Int.add_mul] at h
  have c1 : d1 * k1 * d2 = k1 * (d1 * d2) := by rw [Int.mul_comm d1 k1, Int.mul_assoc]
  have c2 : d2 * k2 * d1 = k2 * (d1 * d2) := by rw [Int.mul_comm d2 k2, Int.mul_assoc, Int.mul_comm d2 d1]
  rw [c1, c2] at h
  have hp : 0 < d1 * d2 := Int.mul_pos h1 h2
  have f1 : r2 * d1 < d1 * d2 := by rw [Int.mul_comm]; exact Int.mul_lt_mul_of_pos_left b2 h1
  have f2 : 0 ≤ r1 * d2 := Int.mul_nonneg a1 (by omega)
  have hk : k1 ≤ k2 := by
    apply Int.not_lt.1
    intro hlt
    have : (k2 + 1) * (d1 * d2) ≤ k1 * (d1 * d2) := Int.mul_le_mul_of_nonneg_right (by omega) (by omega)
    rw [Int.add_mul] at this
    omega
  by_cases hkk : k1 < k2
  · split <;> split <;> omega
  · obtain rfl : k1 = k2 := by omega
    have hr : r1 * d2 ≤ r2 * d1 := by omega
    have key : upB mode r1 d1 k1 = true → upB mode r2 d2 k1 = true := by
      unfold upB
      by_cases m2 : mode = 2
      · simp only [m2, if_true, decide_eq_true_eq]
        intro hu
        have : 0 < r1 * d2 := Int.mul_pos hu h2
        apply Int.not_le.1
        intro hn
        have : r2 * d1 ≤ 0 := Int.mul_nonpos_of_nonpos_of_nonneg hn (by omega)
        omega
      · by_cases m3 : mode = 3
        · simp only [m3, if_true]
          simp only [show ¬ ((3 : Int) = 2) by decide, if_false, decide_eq_true_eq]
          intro hu
          apply Int.not_lt.1
          intro hn
          have g1 : d1 * d2 ≤ 2 * r1 * d2 := Int.mul_le_mul_of_nonneg_right (by omega) (by omega)
          have g2 : 2 * r2 * d1 < d2 * d1 := Int.mul_lt_mul_of_pos_right (by omega) h1
          rw [Int.mul_assoc] at g1 g2
          rw [Int.mul_comm d2 d1] at g2
          omega
        · by_cases m4 : mode = 4
          · simp only [m4, show ¬ ((4 : Int) = 2) by decide, show ¬ ((4 : Int) = 3) by decide, if_true, if_false, Bool.or_eq_true, Bool.and_eq_true, decide_eq_true_eq]
            rintro (hu | ⟨hu, hv⟩)
            · left
              apply Int.not_le.1
              intro hn
              have g1 : d1 * d2 < 2 * r1 * d2 := Int.mul_lt_mul_of_pos_right (by omega) h2
              have g2 : 2 * r2 * d1 ≤ d2 * d1 := Int.mul_le_mul_of_nonneg_right (by omega) (by omega)
              rw [Int.mul_assoc] at g1 g2
              rw [Int.mul_comm d2 d1] at g2
              omega
            · by_cases hq : d2 - r2 < r2
              · exact .inl hq
              · refine .inr ⟨?_, hv⟩
                apply Int.le_antisymm (by omega)
                apply Int.not_lt.1
                intro hn
                have g1 : d1 * d2 = 2 * r1 * d2 := by rw [show d1 = 2 * r1 by omega]
                have g2 : 2 * r2 * d1 < d2 * d1 := Int.mul_lt_mul_of_pos_right (by omega) h1
                rw [Int.mul_assoc] at g1 g2
                rw [Int.mul_comm d2 d1] at g2
                omega
          · simp [m2, m3, m4]
    by_cases u1 : upB mode r1 d1 k1 = true
    · rw [if_pos u1, if_pos (key u1)]; omega
    · rw [if_neg u1]; split <;> omega
end Mny

namespace Mny
/-- the units of a number with a sign, off its size -/
def kAbs (mode : Int) (neg : Bool) (q rest d : Int) : Int :=
  q + (if (if mode = 1 then neg && decide (0 < rest)
       else if mode = 2 then !neg && decide (0 < rest)
       else if mode = 3 then decide (d - rest < rest) || (decide (rest = d - rest) && !neg)
       else decide (d - rest < rest) || (decide (rest = d - rest) && decide (q % 2 = 1))) then 1 else 0)

theorem units_abs {mode : Int} (hm : 1 ≤ mode ∧ mode ≤ 4) (neg : Bool) {n d q r : Int} (h : n = d * q + r) (h0 : 0 ≤ r) (h1 : r < d) :
    units mode (if neg then -n else n) d = if neg then -(kAbs mode neg q r d) else kAbs mode neg q r d := by
  have hc : mode = 1 ∨ mode = 2 ∨ mode = 3 ∨ mode = 4 := by omega
  unfold units upB kAbs
  cases neg
  · obtain ⟨e1, e2⟩ := div_of h h0 h1
    simp only [Bool.false_eq_true, if_false, e1, e2]
    rcases hc with rfl | rfl | rfl | rfl
    · simp
    · simp
    · simp only [show ¬ ((3 : Int) = 1) by decide, show ¬ ((3 : Int) = 2) by decide, if_true, if_false]
      congr 1
      apply ite_congr _ (fun _ => rfl) (fun _ => rfl)
      simp; omega
    · simp only [show ¬ ((4 : Int) = 1) by decide, show ¬ ((4 : Int) = 2) by decide, show ¬ ((4 : Int) = 3) by decide, if_true, if_false]
      congr 1
      apply ite_congr _ (fun _ => rfl) (fun _ => rfl)
      simp; omega
  · obtain ⟨e1, e2⟩ := neg_div h h0 h1
    simp only [if_true, e1, e2]
    by_cases hr : 0 < r
    · simp only [if_pos hr]
      rcases hc with rfl | rfl | rfl | rfl
      · simp [hr]; omega
      · have : r < d := h1
        simp [this]
      · simp only [show ¬ ((3 : Int) = 1) by decide, show ¬ ((3 : Int) = 2) by decide, if_true, if_false]
        by_cases hx : d - r < r
        · have : ¬ (d - (d - r) ≤ d - r) := by omega
          simp [hx, this]; omega
        · have : (d - (d - r) ≤ d - r) := by omega
          simp [hx, this]
      · simp only [show ¬ ((4 : Int) = 1) by decide, show ¬ ((4 : Int) = 2) by decide, show ¬ ((4 : Int) = 3) by decide, if_true, if_false]
        by_cases hx : d - r < r
        · have g1 : ¬ (d - (d - r) < d - r) := by omega
          have g2 : ¬ (d - r = d - (d - r)) := by omega
          simp [hx, g1, g2]; omega
        · by_cases hy : r = d - r
          · have g1 : ¬ (d - (d - r) < d - r) := by omega
            have g2 : (d - r = d - (d - r)) := by omega
            by_cases hz : q % 2 = 1
            · have : ¬ ((-q - 1) % 2 ≠ 0) := by omega
              rw [if_neg (by simp [g1, this]), if_pos (by simp [hz, ← hy])]; omega
            · have : ((-q - 1) % 2 ≠ 0) := by omega
              rw [if_pos (by simp [← g2, this]), if_neg (by simp [hx, hz])]; omega
          · have g1 : (d - (d - r) < d - r) := by omega
            rw [if_pos (by simp [g1]), if_neg (by simp [hx, hy])]; omega
    · obtain rfl : r = 0 := by omega
      have g1 : ¬ (d - 0 ≤ 0) := by omega
      have g2 : ¬ (d - 0 < 0) := by omega
      have g3 : ¬ (0 = d - 0) := by omega
      have g4 : ¬ (d < 0) := by omega
      have g5 : ¬ (0 = d) := by omega
      rcases hc with rfl | rfl | rfl | rfl <;> simp <;> omega

theorem kAbs_bd (mode : Int) (neg : Bool) (q r d : Int) : q ≤ kAbs mode neg q r d ∧ kAbs mode neg q r d ≤ q + 1 := by
  unfold kAbs; split <;> omega

theorem unit_bd {u : Int} (hu : 1 ≤ u) : 0 ≤ 1000000000000 / u ∧ 1000000000000 / u ≤ 1000000000000 :=
  ⟨Int.ediv_nonneg (by omega) (by omega), Int.ediv_le_self _ (by omega)⟩

/-- rounding off the size, as the reference does it -/
theorem rnd_abs {mode : Int} (hm : 1 ≤ mode ∧ mode ≤ 4) (neg : Bool) {unit n den q r : Int} (hu : 1 ≤ unit) (hq : 0 ≤ q) (h : n = den * unit * q + r) (h0 : 0 ≤ r) (h1 : r < den * unit) :
    rnd mode unit (if neg then -n else n) den = if 1000000000000 / unit < kAbs mode neg q r (den * unit) then (0, 2) else ((if neg then -(kAbs mode neg q r (den * unit) * unit) else kAbs mode neg q r (den * unit) * unit), 0) := by
  have hb := kAbs_bd mode neg q r (den * unit)
  have hub := unit_bd hu
  unfold rnd okU
  simp only [units_abs hm neg h h0 h1]
  generalize kAbs mode neg q r (den * unit) = k at *
  generalize 1000000000000 / unit = m at *
  cases neg
  · simp only [Bool.false_eq_true, if_false]
    by_cases hx : m < k
    · rw [if_pos hx, if_neg (by simp; omega)]
    · rw [if_neg hx, if_pos (by simp; omega)]
  · simp only [if_true]
    by_cases hx : m < k
    · rw [if_pos hx, if_neg (by simp; omega)]
    · rw [if_neg hx, if_pos (by simp; omega), Int.neg_mul]

theorem rnd_far {mode : Int} (hm : 1 ≤ mode ∧ mode ≤ 4) (neg : Bool) {unit n den q r : Int} (hu : 1 ≤ unit) (hq : 0 ≤ q) (h : n = den * unit * q + r) (h0 : 0 ≤ r) (h1 : r < den * unit) (hf : 1000000000000 < q) :
    rnd mode unit (if neg then -n else n) den = (0, 2) := by
  rw [rnd_abs hm neg hu hq h h0 h1, if_pos]
  have hb := kAbs_bd mode neg q r (den * unit)
  have hub := unit_bd hu
  omega
end Mny

namespace Mny
/-- valid fractions -/
def validF (n d : Int) : Bool :=
  decide (1 ≤ d) && (decide (d ≤ 1000000000) && (decide (-1000000000000000 ≤ n) && (decide (n ≤ 1000000000000000) && decide (Nat.gcd n.natAbs d.natAbs = 1))))
theorem validF_iff {n d : Int} : validF n d = true ↔ 1 ≤ d ∧ d ≤ 1000000000 ∧ -1000000000000000 ≤ n ∧ n ≤ 1000000000000000 ∧ Nat.gcd n.natAbs d.natAbs = 1 := by
  unfold validF; simp only [Bool.and_eq_true, decide_eq_true_eq]

/-- equal values, both in lowest terms: one fraction -/
theorem uniqN {a b c d : Nat} (hb : 0 < b) (hd : 0 < d) (h : a * d = c * b) (h1 : Nat.gcd a b = 1) (h2 : Nat.gcd c d = 1) : a = c ∧ b = d := by
  have hbd : b ∣ d := by
    have : b ∣ a * d := ⟨c, by rw [h, Nat.mul_comm]⟩
    exact Nat.Coprime.dvd_of_dvd_mul_left (Nat.Coprime.symm h1) this
  have hdb : d ∣ b := by
    have : d ∣ c * b := ⟨a, by rw [← h, Nat.mul_comm]⟩
    exact Nat.Coprime.dvd_of_dvd_mul_left (Nat.Coprime.symm h2) this
  have : b = d := Nat.dvd_antisymm hbd hdb
  subst this
  exact ⟨Nat.eq_of_mul_eq_mul_right hb h, rfl⟩

theorem uniqF {n1 d1 n2 d2 : Int} (h1 : validF n1 d1 = true) (h2 : validF n2 d2 = true) (h : n1 * d2 = n2 * d1) : n1 = n2 ∧ d1 = d2 := by
  rw [validF_iff] at h1 h2
  obtain ⟨a1, a2, a3, a4, a5⟩ := h1
  obtain ⟨b1, b2, b3, b4, b5⟩ := h2
  have hN : n1.natAbs * d2.natAbs = n2.natAbs * d1.natAbs := by rw [← Int.natAbs_mul, ← Int.natAbs_mul, h]
  obtain ⟨e1, e2⟩ := uniqN (by omega) (by omega) hN a5 b5
  have e : d1 = d2 := by omega
  subst e
  exact ⟨Int.eq_of_mul_eq_mul_right (by omega) h, rfl⟩

/-- the order of two fractions -/
def cmpF (n1 d1 n2 d2 : Int) : Int := if n1 * d2 < n2 * d1 then -1 else if n2 * d1 < n1 * d2 then 1 else 0
theorem cmpF_lt {n1 d1 n2 d2 : Int} (h : n1 * d2 < n2 * d1) : cmpF n1 d1 n2 d2 = -1 := by unfold cmpF; rw [if_pos h]
theorem cmpF_gt {n1 d1 n2 d2 : Int} (h : n2 * d1 < n1 * d2) : cmpF n1 d1 n2 d2 = 1 := by unfold cmpF; rw [if_neg (by omega), if_pos h]
theorem cmpF_eq {n1 d1 n2 d2 : Int} (h : n1 * d2 = n2 * d1) : cmpF n1 d1 n2 d2 = 0 := by unfold cmpF; rw [if_neg (by omega), if_neg (by omega)]
theorem cmpF_cases (n1 d1 n2 d2 : Int) : (cmpF n1 d1 n2 d2 = -1 ∧ n1 * d2 < n2 * d1) ∨ (cmpF n1 d1 n2 d2 = 0 ∧ n1 * d2 = n2 * d1) ∨ (cmpF n1 d1 n2 d2 = 1 ∧ n2 * d1 < n1 * d2) := by
  rcases Int.lt_trichotomy (n1 * d2) (n2 * d1) with h | h | h
  · exact .inl ⟨cmpF_lt h, h⟩
  · exact .inr (.inl ⟨cmpF_eq h, h⟩)
  · exact .inr (.inr ⟨cmpF_gt h, h⟩)
end Mny

namespace Dv
theorem norm {hi lo y s : Nat} (hs : s < 64) (hhi : hi < y) (hlo : lo < 18446744073709551616) :
    (hi * 2 ^ s + lo / 2 ^ (64 - s)) * 18446744073709551616 + lo * 2 ^ s % 18446744073709551616 = (hi * 18446744073709551616 + lo) * 2 ^ s ∧
    hi * 2 ^ s + lo / 2 ^ (64 - s) < y * 2 ^ s ∧ lo / 2 ^ (64 - s) < 2 ^ s := by
  have hp : 0 < 2 ^ s := Nat.two_pow_pos s
  have e64 : 2 ^ (64 - s) * 2 ^ s = 18446744073709551616 := by rw [← Nat.pow_add, show 64 - s + s = 64 by omega]
  have hd : lo * 2 ^ s / 18446744073709551616 = lo / 2 ^ (64 - s) := by rw [← e64]; exact Nat.mul_div_mul_right _ _ hp
  have h1 := Nat.div_add_mod (lo * 2 ^ s) 18446744073709551616
  rw [hd] at h1
  have hl : lo * 2 ^ s < 18446744073709551616 * 2 ^ s := Nat.mul_lt_mul_of_pos_right hlo hp
  have hy : (hi + 1) * 2 ^ s ≤ y * 2 ^ s := Nat.mul_le_mul_right _ hhi
  rw [Nat.add_mul] at hy
  have hN : (hi * 18446744073709551616 + lo) * 2 ^ s = hi * 2 ^ s * 18446744073709551616 + lo * 2 ^ s := by
    rw [Nat.add_mul, Nat.mul_right_comm]
  rw [hN]
  generalize lo * 2 ^ s = L at *
  generalize hi * 2 ^ s = H at *
  generalize lo / 2 ^ (64 - s) = l at *
  generalize y * 2 ^ s = Y at *
  generalize 2 ^ s = p at *
  refine ⟨by omega, by omega, by omega⟩

theorem or_add {a b s : Nat} (h : b < 2 ^ s) : (a * 2 ^ s ||| b) = a * 2 ^ s + b := by
  rw [Nat.mul_comm]; exact (Nat.two_pow_add_eq_or_of_lt h a).symm

/-- what is left, reckoned modulo 2^64 -/
theorem modsub {x c z r : Int} (h : x + c - z = r) (h0 : 0 ≤ r) (h1 : r < 18446744073709551616) :
    ((x % 18446744073709551616 + c) % 18446744073709551616 - z % 18446744073709551616) % 18446744073709551616 = r := by omega

theorem prod_lt {a b : Nat} (ha : a < 4294967296) (hb : b < 4294967296) : a * b < 18446744073709551616 :=
  Nat.lt_of_le_of_lt (Nat.mul_le_mul (Nat.le_of_lt_succ (n := 4294967295) ha) (Nat.le_of_lt_succ (n := 4294967295) hb)) (by decide)
theorem quot_lt {hi lo y : Nat} (hhi : hi < y) (hlo : lo < 18446744073709551616) : (hi * 18446744073709551616 + lo) / y < 18446744073709551616 := by
  have hy : 0 < y := by omega
  rw [Nat.div_lt_iff_lt_mul hy]
  have : (hi + 1) * 18446744073709551616 ≤ y * 18446744073709551616 := Nat.mul_le_mul_right _ hhi
  omega
end Dv

end Go.Proofs.Ytaifacnpnhcdcaa
