/-
  The contract of math/bits.Div64: quotient and remainder of (hi, lo) by y, for hi less than y.
-/
import Derived.Test.YtaifacnpnhcdcaaBits
import Derived.Deep.QuietTactic
import Derived.BigQuiet
import Derived.Deep.CutBlock
import Derived.Deep.DeepCutAuto
import Derived.Lib.Hide
namespace Go.Proofs.Ytaifacnpnhcdcaa
open Go.RowKit

theorem ret2_u64 {a b c d : Int} (h : a = c) (k : b = d) : Ending.returned (.tuple #[.int .u64 a, .int .u64 b]) = .returned (.tuple #[.int .u64 c, .int .u64 d]) := by rw [h, k]
theorem natdiv (a b : Nat) : (a : Int) / (b : Int) = ((a / b : Nat) : Int) := rfl
theorem natmod (a b : Nat) : (a : Int) % (b : Int) = ((a % b : Nat) : Int) := rfl

set_option maxHeartbeats 1000000 in
theorem div64_small (lo y : Nat) (w : World) (hy0 : 0 < y) (hlo : lo < 18446744073709551616) (hy : y < 18446744073709551616) :
    Calls Try.prog 65 #[.int .u64 (0 : Int), .int .u64 lo, .int .u64 y] w fun e w' =>
      e = .returned (.tuple #[.int .u64 ((lo / y : Nat) : Int), .int .u64 ((lo % y : Nat) : Int)]) ∧ ∃ n, w' = w.drewN n := by
  have hle : lo / y ≤ lo := Nat.div_le_self _ _
  go_enter Try.func65, Try.ntmps65
  go_wp2
  go_quiet (fail)
  go_wp2
  go_ret2
  exact ⟨ret2_u64 (by rw [natdiv]; exact wrapN _ (by omega)) rfl, _, rfl⟩

/-- the head of one of Div64's two loops -/
def DHead (yn1 U u1 Y : Nat) (a b : Value) : Prop :=
  ∃ q r : Nat, a = .int .u64 q ∧ b = .int .u64 r ∧ q * yn1 + r = U ∧ (U * 4294967296 + u1) / Y ≤ q ∧ q ≤ 4294967297 ∧ r < 4294967296

set_option maxRecDepth 100000 in
set_option maxHeartbeats 4000000 in
theorem div64_big (hi lo y : Nat) (w : World) (h0 : 0 < hi) (hhi : hi < y) (hlo : lo < 18446744073709551616) (hy : y < 18446744073709551616) :
    Calls Try.prog 65 #[.int .u64 hi, .int .u64 lo, .int .u64 y] w fun e w' =>
      e = .returned (.tuple #[.int .u64 (((hi * 18446744073709551616 + lo) / y : Nat) : Int), .int .u64 (((hi * 18446744073709551616 + lo) % y : Nat) : Int)]) ∧ ∃ n, w' = w.drewN n := by
  go_enter Try.func65, Try.ntmps65
  go_wp2_with fail
  refine (leadingZeros64 y w (by omega) hy).mono ?_
  rintro e w' ⟨s, hs, hs1, hs2, rfl, rfl⟩
  obtain ⟨hn1, hn2, hn3⟩ := Dv.norm hs hhi hlo
  have hsh := Dv.shifted (n := hi * 18446744073709551616 + lo) (d := y) s
  have hY : IntKind.u64.wrap ((y : Int) * 2 ^ s) = ((y * 2 ^ s : Nat) : Int) := by
    rw [show ((y : Int) * 2 ^ s) = ((y * 2 ^ s : Nat) : Int) by simp]; exact wrapN _ hs2
  have hlod : lo / 2 ^ (64 - s) ≤ lo := Nat.div_le_self _ _
  have hlt1 : hi * 2 ^ s < 18446744073709551616 := Nat.lt_of_le_of_lt (Nat.le_add_right _ _) (Nat.lt_trans hn2 hs2)
  have hU : bits .or .u64 (IntKind.u64.wrap ((hi : Int) * 2 ^ s)) ((lo : Int) / 2 ^ (64 - s)) = ((hi * 2 ^ s + lo / 2 ^ (64 - s) : Nat) : Int) := by
    rw [show ((hi : Int) * 2 ^ s) = ((hi * 2 ^ s : Nat) : Int) by simp, show ((lo : Int) / 2 ^ (64 - s)) = ((lo / 2 ^ (64 - s) : Nat) : Int) by simp, wrapN _ hlt1, bits_or_u64_nat _ _ hlt1 (by omega), Dv.or_add hn3]
  have hV : IntKind.u64.wrap ((lo : Int) * 2 ^ s) = ((lo * 2 ^ s % 18446744073709551616 : Nat) : Int) := by
    rw [show ((lo : Int) * 2 ^ s) = ((lo * 2 ^ s : Nat) : Int) by simp]; exact wrapM _
  have hVb : lo * 2 ^ s % 18446744073709551616 < 18446744073709551616 := Nat.mod_lt _ (by omega)
  rw [← hn1] at hsh
  generalize hi * 2 ^ s + lo / 2 ^ (64 - s) = U at *
  generalize lo * 2 ^ s % 18446744073709551616 = V at *
  generalize y * 2 ^ s = Y at *
  obtain ⟨yn1, hyn1⟩ : ∃ a, a = Y / 4294967296 := ⟨_, rfl⟩
  obtain ⟨yn0, hyn0⟩ : ∃ a, a = Y % 4294967296 := ⟨_, rfl⟩
  have hD : (Y : Int) / 4294967296 = (yn1 : Int) := by rw [hyn1]; rfl
  have hA : bits .and .u64 (Y : Int) 4294967295 = (yn0 : Int) := by rw [hyn0]; exact maskN _ hs2
  obtain ⟨un1, hun1⟩ : ∃ a, a = V / 4294967296 := ⟨_, rfl⟩
  obtain ⟨un0, hun0⟩ : ∃ a, a = V % 4294967296 := ⟨_, rfl⟩
  have hV1 : (V : Int) / 4294967296 = (un1 : Int) := by rw [hun1]; rfl
  have hV0 : bits .and .u64 (V : Int) 4294967295 = (un0 : Int) := by rw [hun0]; exact maskN _ hVb
  have hYe : Y = yn1 * 4294967296 + yn0 := by omega
  have hVe : V = un1 * 4294967296 + un0 := by omega
  have b1 : 2147483648 ≤ yn1 := by omega
  have b0 : yn0 < 4294967296 := by omega
  have c1 : un1 < 4294967296 := by omega
  have c0 : un0 < 4294967296 := by omega
  obtain ⟨st1, st2, st3, st4⟩ := Dv.start hYe b1 b0 hn2 c1
  have hq : IntKind.u64.wrap ((U : Int) / (yn1 : Int)) = ((U / yn1 : Nat) : Int) := by rw [natdiv]; exact wrapN _ (by omega)
  have hm : IntKind.u64.wrap (((U / yn1 : Nat) : Int) * (yn1 : Int)) = ((U / yn1 * yn1 : Nat) : Int) := by rw [mulN]; exact wrapN _ (by omega)
  have hr : (U : Int) - ((U / yn1 * yn1 : Nat) : Int) = ((U % yn1 : Nat) : Int) := by omega
  have b1' : 1 ≤ yn1 := by omega
  have hmU : U / yn1 * yn1 ≤ U := by omega
  have HS := Lib.hid hsh
  have HY := Lib.hid hYe
  have HV := Lib.hid hVe
  have HU := Lib.hid hn1
  have Hst := Lib.hid st1
  clear hyn1 hyn0 hun1 hun0 hsh hn1 hYe hVe st1
  generalize U / yn1 = q1 at *
  generalize U % yn1 = r1 at *
  generalize q1 * yn1 = m1 at hm hr hmU
  go_upto_block 0 with (fail)
  go_cut [15, 16] (fun a b wx => ∃ q r : Nat, a = .int .u64 q ∧ b = .int .u64 r ∧ q = (U * 4294967296 + un1) / Y ∧ w = wx)
  case first =>
    go_wp2_with fail
    go_loopw [15, 16] (fun a b wr => DHead yn1 U un1 Y a b ∧ w = wr) (fun a _ _ => (intOf a).toNat)
    case atStart => exact ⟨⟨q1, r1, rfl, rfl, Hst.out, st2, st3, by omega⟩, rfl⟩
    case round =>
      obtain ⟨⟨q, r, rfl, rfl, i1, i2, i3, i4⟩, rfl⟩ := hrel
      have I1 := Lib.hid i1
      have I2 := Lib.hid i2
      clear i1 i2 st2
      by_cases hA1 : 4294967296 ≤ q
      · have d1 : decide ((4294967296 : Int) ≤ (q : Int)) = true := decide_eq_true (by omega)
        obtain ⟨s1, s2, s3⟩ := Dv.step HY.out hn2 c1 I1.out I2.out (.inl hA1)
        have S2 := Lib.hid s2
        have S3 := Lib.hid s3
        clear s2 s3
        by_cases hB : 4294967296 ≤ r + yn1
        · have hex := Dv.exit2 HY.out (by omega) b0 S3.out S2.out (by omega) hB
          have HE := Lib.hid hex
          clear hex
          have d2 : decide ((4294967296 : Int) ≤ (r : Int) + (yn1 : Int)) = true := decide_eq_true (by omega)
          go_wp2
          go_meet
          exact ⟨q - 1, r + yn1, by go_num, by go_num, HE.out, rfl⟩
        · have d2 : decide ((4294967296 : Int) ≤ (r : Int) + (yn1 : Int)) = false := decide_eq_false (by omega)
          go_wp2
          go_roundw
          case rel => exact ⟨⟨q - 1, r + yn1, by go_num, by go_num, S3.out, S2.out, by omega, by omega⟩, trivial⟩
          case measure => simp [intOf]; omega
      · have d1 : decide ((4294967296 : Int) ≤ (q : Int)) = false := decide_eq_false (by omega)
        have hp : IntKind.u64.wrap ((q : Int) * (yn0 : Int)) = ((q * yn0 : Nat) : Int) := by
          rw [mulN]; exact wrapN _ (Dv.prod_lt (by omega) b0)
        by_cases hA2 : 4294967296 * r + un1 < q * yn0
        · obtain ⟨s1, s2, s3⟩ := Dv.step HY.out hn2 c1 I1.out I2.out (.inr hA2)
          have S2 := Lib.hid s2
          have S3 := Lib.hid s3
          clear s2 s3
          by_cases hB : 4294967296 ≤ r + yn1
          · have hex := Dv.exit2 HY.out (by omega) b0 S3.out S2.out (by omega) hB
            have HE := Lib.hid hex
            clear hex
            generalize q * yn0 = p at hp hA2
            have d2 : decide ((4294967296 : Int) ≤ (r : Int) + (yn1 : Int)) = true := decide_eq_true (by omega)
            have d3 : decide ((4294967296 : Int) * (r : Int) + (un1 : Int) < (p : Int)) = true := decide_eq_true (by omega)
            go_wp2
            go_meet
            exact ⟨q - 1, r + yn1, by go_num, by go_num, HE.out, rfl⟩
          · generalize q * yn0 = p at hp hA2
            have d2 : decide ((4294967296 : Int) ≤ (r : Int) + (yn1 : Int)) = false := decide_eq_false (by omega)
            have d3 : decide ((4294967296 : Int) * (r : Int) + (un1 : Int) < (p : Int)) = true := decide_eq_true (by omega)
            go_wp2
            go_roundw
            case rel => exact ⟨⟨q - 1, r + yn1, by go_num, by go_num, S3.out, S2.out, by omega, by omega⟩, trivial⟩
            case measure => simp [intOf]; omega
        · have hex := Dv.exit1 HY.out (by omega) I1.out I2.out (by omega)
          have HE := Lib.hid hex
          clear hex
          generalize q * yn0 = p at hp hA2
          have d3 : decide ((4294967296 : Int) * (r : Int) + (un1 : Int) < (p : Int)) = false := decide_eq_false (by omega)
          go_wp2
          go_meet
          exact ⟨q, r, rfl, rfl, HE.out, rfl⟩
  case rest =>
    obtain ⟨q, r, rfl, rfl, hQ, rfl⟩ := hcut
    have hQb : q < 4294967296 := by rw [hQ]; exact Dv.q_lt hn2 c1
    have hrest := Dv.rest hQ
    have hle : q * Y ≤ U * 4294967296 + un1 := by rw [hQ]; exact Nat.div_mul_le_self _ _
    have hT : (U * 4294967296 + un1) % Y < Y := Nat.mod_lt _ (by omega)
    have h21 : IntKind.u64.wrap (IntKind.u64.wrap (IntKind.u64.wrap ((U : Int) * 4294967296) + (un1 : Int)) - IntKind.u64.wrap ((q : Int) * (Y : Int))) = (((U * 4294967296 + un1) % Y : Nat) : Int) := by
      rw [IntKind.wrap_u64, IntKind.wrap_u64, IntKind.wrap_u64, IntKind.wrap_u64]
      exact Dv.modsub (by rw [mulN]; omega) (by omega) (by omega)
    have HQ := Lib.hid hQ
    have hJ := Dv.join (u := U) (v1 := un1) (v0 := un0) (y := Y) (by omega)
    clear hQ hrest hle hq hm hr hmU
    obtain ⟨T, hTe⟩ : ∃ T, (U * 4294967296 + un1) % Y = T := ⟨_, rfl⟩
    rw [hTe] at hT h21 hJ
    have HJ := Lib.hid hJ
    clear hTe hJ
    obtain ⟨tt1, tt2, tt3, tt4⟩ := Dv.start HY.out b1 b0 hT c0
    have hq : IntKind.u64.wrap ((T : Int) / (yn1 : Int)) = ((T / yn1 : Nat) : Int) := by rw [natdiv]; exact wrapN _ (by omega)
    have hm : IntKind.u64.wrap (((T / yn1 : Nat) : Int) * (yn1 : Int)) = ((T / yn1 * yn1 : Nat) : Int) := by rw [mulN]; exact wrapN _ (by omega)
    have hr : (T : Int) - ((T / yn1 * yn1 : Nat) : Int) = ((T % yn1 : Nat) : Int) := by omega
    have hmU : T / yn1 * yn1 ≤ T := by omega
    have Hst2 := Lib.hid tt1
    clear tt1
    generalize T / yn1 = q2 at hq hm hr hmU tt2 tt3 Hst2
    generalize T % yn1 = r2 at hr tt4 Hst2
    generalize q2 * yn1 = m2 at hm hr hmU
    go_upto_block 2 with (fail)
    go_cut [18, 16] (fun a b wx => ∃ q r : Nat, a = .int .u64 q ∧ b = .int .u64 r ∧ q = (T * 4294967296 + un0) / Y ∧ w = wx)
    case first =>
      go_wp2_with fail
      go_loopw [18, 16] (fun a b wr => DHead yn1 T un0 Y a b ∧ w = wr) (fun a _ _ => (intOf a).toNat)
      case atStart => exact ⟨⟨q2, r2, rfl, rfl, Hst2.out, tt2, tt3, by omega⟩, rfl⟩
      case round =>
        obtain ⟨⟨q, r, rfl, rfl, i1, i2, i3, i4⟩, rfl⟩ := hrel
        have I1 := Lib.hid i1
        have I2 := Lib.hid i2
        clear i1 i2 tt2
        by_cases hA1 : 4294967296 ≤ q
        · have d1 : decide ((4294967296 : Int) ≤ (q : Int)) = true := decide_eq_true (by omega)
          obtain ⟨s1, s2, s3⟩ := Dv.step HY.out hT c0 I1.out I2.out (.inl hA1)
          have S2 := Lib.hid s2
          have S3 := Lib.hid s3
          clear s2 s3
          by_cases hB : 4294967296 ≤ r + yn1
          · have hex := Dv.exit2 HY.out (by omega) b0 S3.out S2.out (by omega) hB
            have HE := Lib.hid hex
            clear hex
            have d2 : decide ((4294967296 : Int) ≤ (r : Int) + (yn1 : Int)) = true := decide_eq_true (by omega)
            go_wp2
            go_meet
            exact ⟨q - 1, r + yn1, by go_num, by go_num, HE.out, rfl⟩
          · have d2 : decide ((4294967296 : Int) ≤ (r : Int) + (yn1 : Int)) = false := decide_eq_false (by omega)
            go_wp2
            go_roundw
            case rel => exact ⟨⟨q - 1, r + yn1, by go_num, by go_num, S3.out, S2.out, by omega, by omega⟩, trivial⟩
            case measure => simp [intOf]; omega
        · have d1 : decide ((4294967296 : Int) ≤ (q : Int)) = false := decide_eq_false (by omega)
          have hp : IntKind.u64.wrap ((q : Int) * (yn0 : Int)) = ((q * yn0 : Nat) : Int) := by
            rw [mulN]; exact wrapN _ (Dv.prod_lt (by omega) b0)
          by_cases hA2 : 4294967296 * r + un0 < q * yn0
          · obtain ⟨s1, s2, s3⟩ := Dv.step HY.out hT c0 I1.out I2.out (.inr hA2)
            have S2 := Lib.hid s2
            have S3 := Lib.hid s3
            clear s2 s3
            by_cases hB : 4294967296 ≤ r + yn1
            · have hex := Dv.exit2 HY.out (by omega) b0 S3.out S2.out (by omega) hB
              have HE := Lib.hid hex
              clear hex
              generalize q * yn0 = p at hp hA2
              have d2 : decide ((4294967296 : Int) ≤ (r : Int) + (yn1 : Int)) = true := decide_eq_true (by omega)
              have d3 : decide ((4294967296 : Int) * (r : Int) + (un0 : Int) < (p : Int)) = true := decide_eq_true (by omega)
              go_wp2
              go_meet
              exact ⟨q - 1, r + yn1, by go_num, by go_num, HE.out, rfl⟩
            · generalize q * yn0 = p at hp hA2
              have d2 : decide ((4294967296 : Int) ≤ (r : Int) + (yn1 : Int)) = false := decide_eq_false (by omega)
              have d3 : decide ((4294967296 : Int) * (r : Int) + (un0 : Int) < (p : Int)) = true := decide_eq_true (by omega)
              go_wp2
              go_roundw
              case rel => exact ⟨⟨q - 1, r + yn1, by go_num, by go_num, S3.out, S2.out, by omega, by omega⟩, trivial⟩
              case measure => simp [intOf]; omega
          · have hex := Dv.exit1 HY.out (by omega) I1.out I2.out (by omega)
            have HE := Lib.hid hex
            clear hex
            generalize q * yn0 = p at hp hA2
            have d3 : decide ((4294967296 : Int) * (r : Int) + (un0 : Int) < (p : Int)) = false := decide_eq_false (by omega)
            go_wp2
            go_meet
            exact ⟨q, r, rfl, rfl, HE.out, rfl⟩

    case rest =>
      obtain ⟨q', r', rfl, rfl, hQ', rfl⟩ := hcut
      have hQb' : q' < 4294967296 := by rw [hQ']; exact Dv.q_lt hT c0
      have hle : q' * Y ≤ T * 4294967296 + un0 := by rw [hQ']; exact Nat.div_mul_le_self _ _
      have hrest := Dv.rest hQ'
      have hT' : (T * 4294967296 + un0) % Y < Y := Nat.mod_lt _ (by omega)
      have h22 : IntKind.u64.wrap (IntKind.u64.wrap (IntKind.u64.wrap ((T : Int) * 4294967296) + (un0 : Int)) - IntKind.u64.wrap ((q' : Int) * (Y : Int))) = (((T * 4294967296 + un0) % Y : Nat) : Int) := by
        rw [IntKind.wrap_u64, IntKind.wrap_u64, IntKind.wrap_u64, IntKind.wrap_u64]
        exact Dv.modsub (by rw [mulN]; omega) (by omega) (by omega)
      have HQ2 := Lib.hid hQ'
      clear hQ' hle hrest hq hm hr hmU h21
      have e1 : q * 4294967296 + q' = (hi * 18446744073709551616 + lo) / y := by
        rw [← HS.out.1, HV.out, HJ.out.1, HQ.out, HQ2.out]
      have e2 : (T * 4294967296 + un0) % Y / 2 ^ s = (hi * 18446744073709551616 + lo) % y := by
        rw [← HS.out.2, HV.out, HJ.out.2]
      obtain ⟨R, hRe⟩ : ∃ R, (T * 4294967296 + un0) % Y = R := ⟨_, rfl⟩
      rw [hRe] at e2 h22 hT'
      have E1 := Lib.hid e1
      have E2 := Lib.hid e2
      clear e1 e2 hRe
      go_wp2
      go_ret2
      exact ⟨ret2_u64 (by rw [← E1.out]; omega) (by rw [← E2.out]; simp), 0, rfl⟩

theorem div64 (hi lo y : Nat) (w : World) (hhi : hi < y) (hlo : lo < 18446744073709551616) (hy : y < 18446744073709551616) :
    Calls Try.prog 65 #[.int .u64 hi, .int .u64 lo, .int .u64 y] w fun e w' =>
      e = .returned (.tuple #[.int .u64 (((hi * 18446744073709551616 + lo) / y : Nat) : Int), .int .u64 (((hi * 18446744073709551616 + lo) % y : Nat) : Int)]) ∧ ∃ n, w' = w.drewN n := by
  by_cases h0 : hi = 0
  · subst h0
    simpa using div64_small lo y w (by omega) hlo hy
  · exact div64_big hi lo y w (by omega) hhi hlo hy
end Go.Proofs.Ytaifacnpnhcdcaa
