/-
  Sums of amounts: the plain function, and the contracts of Sum of the program and of the reference.
-/
import Derived.Test.YtnhbidagnomkpaaAwake
import Derived.Test.YtnhbidagnomkpaaScale
import Derived.Test.YtnhbidagnomkpaaPostG
namespace Go.Proofs.Ytnhbidagnomkpaa
open Go.RowKit Mny

/-- is it an amount -/
abbrev amB (z : Int) : Bool := inB (-1000000000000) 1000000000000 z
/-- what Sum returns -/
def sumS (l : List Int) : Int × Int := if l.all (fun z => inB (-1000000000000) 1000000000000 z) then (if inB (-1000000000000) 1000000000000 l.sum then (l.sum, 0) else (0, 2)) else (0, 1)
theorem sumS_bad {l : List Int} {k : Nat} {z : Int} (h : l[k]? = some z) (hz : inB (-1000000000000) 1000000000000 z = false) : sumS l = (0, 1) := by
  unfold sumS
  rw [if_neg]
  intro ha
  rw [List.all_eq_true] at ha
  have := ha z (List.mem_of_getElem? h)
  rw [hz] at this
  cases this
theorem sumS_in {l : List Int} (h : l.all (fun z => inB (-1000000000000) 1000000000000 z) = true) (h2 : inB (-1000000000000) 1000000000000 l.sum = true) : sumS l = (l.sum, 0) := by
  unfold sumS; rw [if_pos h, if_pos h2]
theorem sumS_out {l : List Int} (h : l.all (fun z => inB (-1000000000000) 1000000000000 z) = true) (h2 : inB (-1000000000000) 1000000000000 l.sum = false) : sumS l = (0, 2) := by
  unfold sumS; rw [if_pos h, if_neg (by rw [h2]; decide)]

theorem inB_out {lo hi z : Int} (h : z < lo ∨ hi < z) : inB lo hi z = false := by
  rw [Bool.eq_false_iff]
  intro hx
  have := inB_iff.1 hx
  omega

/-- the state of the program's loop -/
def SumP (zs : List Int) (k : Nat) (q r : Int) : Prop :=
  (zs.take k).all (fun z => inB (-1000000000000) 1000000000000 z) = true ∧ q * 1000000000000 + r = (zs.take k).sum ∧ -1000000000000 < r ∧ r < 1000000000000 ∧ -(2 * (k : Int)) ≤ q ∧ q ≤ 2 * k
theorem take_next {zs : List Int} {k : Nat} {z : Int} (h : zs[k]? = some z) : zs.take (k + 1) = zs.take k ++ [z] := by
  rw [List.take_add_one, h]; rfl
theorem SumP.zero (zs : List Int) : SumP zs 0 0 0 := by unfold SumP; simp
theorem SumP.next {zs : List Int} {k : Nat} {q r z a b : Int} (h : SumP zs k q r) (hz : zs[k]? = some z) (hi : inB (-1000000000000) 1000000000000 z = true) (ha : 1000000000000 * a + b = r + z) (hb : -1000000000000 < b ∧ b < 1000000000000) (ha1 : -2 ≤ a ∧ a ≤ 2) :
    SumP zs (k + 1) (q + a) b := by
  obtain ⟨h1, h2, h3, h4, h5, h6⟩ := h
  unfold SumP
  rw [take_next hz, List.all_append, h1, List.sum_append]
  refine ⟨by simp [hi], ?_, hb.1, hb.2, by omega, by omega⟩
  simp
  omega

/-- the state of the reference's first loop -/
def AllP (zs : List Int) (k : Nat) : Prop := (zs.take k).all (fun z => inB (-1000000000000) 1000000000000 z) = true
theorem AllP.zero (zs : List Int) : AllP zs 0 := by unfold AllP; simp
theorem AllP.next {zs : List Int} {k : Nat} {z : Int} (h : AllP zs k) (hz : zs[k]? = some z) (hi : inB (-1000000000000) 1000000000000 z = true) : AllP zs (k + 1) := by
  unfold AllP at *
  rw [take_next hz, List.all_append, h]
  simp [hi]
/-- the state of the reference's second loop -/
def SumR (zs : List Int) (k : Nat) (q r : Int) : Prop :=
  q * 1000000000000 + r = (zs.take k).sum ∧ -1000000000000 ≤ r ∧ r ≤ 1000000000000 ∧ -(k : Int) ≤ q ∧ q ≤ k
theorem SumR.zero (zs : List Int) : SumR zs 0 0 0 := by unfold SumR; simp
theorem SumR.next {zs : List Int} {k : Nat} {q r z q' r' : Int} (h : SumR zs k q r) (hz : zs[k]? = some z) (e : q' * 1000000000000 + r' = q * 1000000000000 + r + z) (hb : -1000000000000 ≤ r' ∧ r' ≤ 1000000000000) (ha1 : q - 1 ≤ q' ∧ q' ≤ q + 1) : SumR zs (k + 1) q' r' := by
  obtain ⟨h2, h3, h4, h5, h6⟩ := h
  unfold SumR
  rw [take_next hz, List.sum_append]
  refine ⟨?_, hb.1, hb.2, by omega, by omega⟩
  simp
  omega

theorem sum_yes {zs : List Int} {v : Int} (h : zs.all (fun z => inB (-1000000000000) 1000000000000 z) = true) (hv : zs.sum = v) (hb : -1000000000000 ≤ v ∧ v ≤ 1000000000000) :
    IE (sumS zs) = .returned (.tuple #[.int .i64 v, .int .i64 0]) := by
  rw [sumS_in h (by rw [hv]; exact inB_iff.2 hb), hv]; rfl
theorem sum_no {zs : List Int} (h : zs.all (fun z => inB (-1000000000000) 1000000000000 z) = true) (hb : zs.sum < -1000000000000 ∨ 1000000000000 < zs.sum) :
    IE (sumS zs) = .returned (.tuple #[.int .i64 0, .int .i64 2]) := by
  rw [sumS_out h (inB_out hb)]; rfl
theorem tq_bd {r z : Int} (h1 : -1000000000000 < r) (h2 : r < 1000000000000) (h3 : inB (-1000000000000) 1000000000000 z = true) :
    ∃ a b : Int, (r + z).tdiv 1000000000000 = a ∧ (r + z).tmod 1000000000000 = b ∧ 1000000000000 * a + b = r + z ∧ (-1000000000000 < b ∧ b < 1000000000000) ∧ (-2 ≤ a ∧ a ≤ 2) ∧ -2000000000000 < r + z ∧ r + z < 2000000000000 := by
  obtain ⟨z0, z1⟩ := inB_iff.1 h3
  have e := Int.mul_tdiv_add_tmod (r + z) 1000000000000
  have b1 := Int.tmod_lt_of_pos (r + z) (show (0 : Int) < 1000000000000 by decide)
  have b2 : -1000000000000 < (r + z).tmod 1000000000000 := by
    have := Int.tmod_lt_of_pos (-(r + z)) (show (0 : Int) < 1000000000000 by decide)
    rw [Int.neg_tmod] at this
    omega
  generalize (r + z).tdiv 1000000000000 = a at *
  generalize (r + z).tmod 1000000000000 = b at *
  exact ⟨_, _, rfl, rfl, e, ⟨b2, b1⟩, by omega, by omega, by omega⟩

set_option maxRecDepth 100000 in
set_option maxHeartbeats 2000000 in
theorem money_Sum (zs : List Int) (n b off c : Nat) (w : World) (hn : zs.length = n) (hr : RowAt w b off zs) (hl : n ≤ 1000000) :
    Calls Try.prog 23 #[.slice (some ⟨b, off, none⟩) n c] w fun e w' => e = IE (sumS zs) ∧ w = w' := by
  have HN := Lib.hid hn
  have HR := Lib.hid hr
  clear hn hr
  go_enter Try.func23, Try.ntmps23
  go_wp2
  go_loop [4, 5, 10] (fun a b i => ∃ (k : Nat) (q r : Int), k ≤ n ∧ i = .int .i64 k ∧ a = .int .i64 q ∧ b = .int .i64 r ∧ SumP zs k q r) (fun _ _ i => n - (intOf i).toNat)
  case atStart => exact ⟨0, 0, 0, Nat.zero_le _, rfl, rfl, rfl, SumP.zero zs⟩
  case round =>
    obtain ⟨k, q, r, hk, rfl, rfl, rfl, hS⟩ := hrel
    have HS := Lib.hid hS
    obtain ⟨-, -, hS3, hS4, hS5, hS6⟩ := hS
    by_cases hlt : k < n
    · obtain ⟨z, hz⟩ : ∃ z, zs[k]? = some z := ⟨zs[k]'(by rw [HN.out]; exact hlt), List.getElem?_eq_getElem _⟩
      have hcell : w.cell? ⟨b, off + k, none⟩ = some (.int .i64 z) := HR.out k z hz
      have HZ := Lib.hid hz
      clear hz
      have hAM := fun W => money_amount z W
      cases hi : inB (-1000000000000) 1000000000000 z
      · rw [hi] at hAM
        have HAM := Lib.hid hAM
        have HF := Lib.hid (sumS_bad HZ.out hi)
        clear hAM hi
        go_wp2_with fail
        refine (HAM.out _).mono ?_
        rintro e _ ⟨rfl, rfl⟩
        go_wp2
        go_ret2
        exact ⟨by rw [HF.out]; rfl, rfl⟩
      · rw [hi] at hAM
        have HAM := Lib.hid hAM
        obtain ⟨a, b', ha, hb, he, hbb, hab, t1, t2⟩ := tq_bd hS3 hS4 hi
        have HNX := Lib.hid (SumP.next HS.out HZ.out hi he hbb hab)
        have hd1 : -2 ≤ (r + z).tdiv 1000000000000 := by rw [ha]; exact hab.1
        have hd2 : (r + z).tdiv 1000000000000 ≤ 2 := by rw [ha]; exact hab.2
        have HA := Lib.hid ha
        have HB := Lib.hid hb
        clear hAM hi he ha hb hbb hab
        go_wp2_with fail
        refine (HAM.out _).mono ?_
        rintro e _ ⟨rfl, rfl⟩
        go_wp2
        go_round
        case rel => exact ⟨k + 1, _, _, by omega, by go_num, rfl, rfl, by have := HNX.out; rw [HA.out, HB.out]; exact this⟩
        case measure => simp [intOf]; omega
    · obtain rfl : k = n := by omega
      have hall : zs.take k = zs := List.take_of_length_le (by rw [HN.out]; exact Nat.le_refl _)
      have hSo := HS.out
      unfold SumP at hSo
      rw [hall] at hSo
      obtain ⟨ha, he, -, -, -, -⟩ := hSo
      have HALL := Lib.hid ha
      have HE := Lib.hid he
      clear ha he hall
      by_cases h1 : q < -2
      · have c1 : decide (q < -2) = true := decide_eq_true h1
        have HF := Lib.hid (sumS_out HALL.out (inB_out (by have := HE.out; omega)))
        clear h1
        go_wp2
        go_ret2
        exact ⟨by rw [HF.out]; rfl, rfl⟩
      · have c1 : decide (q < -2) = false := decide_eq_false h1
        by_cases h2 : 2 < q
        · have c2 : decide (2 < q) = true := decide_eq_true h2
          have HF := Lib.hid (sumS_out HALL.out (inB_out (by have := HE.out; omega)))
          go_wp2
          go_ret2
          exact ⟨by rw [HF.out]; rfl, rfl⟩
        · have c2 : decide (2 < q) = false := decide_eq_false h2
          have hAM := fun W => money_amount (q * 1000000000000 + r) W
          cases hi : inB (-1000000000000) 1000000000000 (q * 1000000000000 + r)
          · rw [hi] at hAM
            have HAM := Lib.hid hAM
            have HF := Lib.hid (sumS_out HALL.out (by rw [← HE.out]; exact hi))
            clear hAM hi
            go_wp2_with fail
            refine (HAM.out _).mono ?_
            rintro e _ ⟨rfl, rfl⟩
            go_wp2
            go_ret2
            exact ⟨by rw [HF.out]; rfl, rfl⟩
          · rw [hi] at hAM
            have HAM := Lib.hid hAM
            have HF := Lib.hid (sumS_in HALL.out (by rw [← HE.out]; exact hi))
            have HE2 := Lib.hid HE.out.symm
            clear hAM hi
            go_wp2_with fail
            refine (HAM.out _).mono ?_
            rintro e _ ⟨rfl, rfl⟩
            go_wp2
            go_ret2
            exact ⟨by rw [HF.out, HE2.out]; rfl, rfl⟩

set_option maxRecDepth 100000 in
set_option maxHeartbeats 4000000 in
theorem ref_Sum (zs : List Int) (n b off c : Nat) (w : World) (hn : zs.length = n) (hr : RowAt w b off zs) (hl : n ≤ 1000000) :
    Calls Try.prog 24 #[.slice (some ⟨b, off, none⟩) n c] w fun e w' => e = IE (sumS zs) ∧ w = w' := by
  have HN := Lib.hid hn
  have HR := Lib.hid hr
  clear hn hr
  go_enter Try.func24, Try.ntmps24
  go_wp2
  go_loop [4] (fun i => ∃ k : Nat, k ≤ n ∧ i = .int .i64 k ∧ AllP zs k) (fun i => n - (intOf i).toNat)
  case atStart => exact ⟨0, Nat.zero_le _, rfl, AllP.zero zs⟩
  case round =>
    obtain ⟨k, hk, rfl, hS⟩ := hrel
    have HS := Lib.hid hS
    clear hS
    by_cases hlt : k < n
    · obtain ⟨z, hz⟩ : ∃ z, zs[k]? = some z := ⟨zs[k]'(by rw [HN.out]; exact hlt), List.getElem?_eq_getElem _⟩
      have hcell : w.cell? ⟨b, off + k, none⟩ = some (.int .i64 z) := HR.out k z hz
      have HZ := Lib.hid hz
      clear hz
      have hAM := fun W => ref_ValidAmount z W
      cases hi : inB (-1000000000000) 1000000000000 z
      · rw [hi] at hAM
        have HAM := Lib.hid hAM
        have HF := Lib.hid (sumS_bad HZ.out hi)
        clear hAM hi
        go_wp2_with fail
        refine (HAM.out _).mono ?_
        rintro e _ ⟨rfl, rfl⟩
        go_wp2
        go_ret2
        exact ⟨by rw [HF.out]; rfl, rfl⟩
      · rw [hi] at hAM
        have HAM := Lib.hid hAM
        have HNX := Lib.hid (AllP.next HS.out HZ.out hi)
        clear hAM hi
        go_wp2_with fail
        refine (HAM.out _).mono ?_
        rintro e _ ⟨rfl, rfl⟩
        go_wp2
        go_round
        case rel => exact ⟨k + 1, by omega, by go_num, HNX.out⟩
        case measure => simp [intOf]; omega
    · obtain rfl : k = n := by omega
      have hall : zs.take k = zs := List.take_of_length_le (by rw [HN.out]; exact Nat.le_refl _)
      have hSo := HS.out
      unfold AllP at hSo
      rw [hall] at hSo
      have HALL := Lib.hid hSo
      clear hSo hall
      go_wp2
      go_loop [5, 6, 7] (fun a b i => ∃ (j : Nat) (q r : Int), j ≤ k ∧ i = .int .i64 j ∧ a = .int .i64 q ∧ b = .int .i64 r ∧ SumR zs j q r) (fun _ _ i => k - (intOf i).toNat)
      case atStart => exact ⟨0, 0, 0, Nat.zero_le _, rfl, rfl, rfl, SumR.zero zs⟩
      case round =>
        obtain ⟨j, q, r, hj, rfl, rfl, rfl, hR⟩ := hrel
        have HRR := Lib.hid hR
        obtain ⟨-, hR3, hR4, hR5, hR6⟩ := hR
        by_cases hlt2 : j < k
        · obtain ⟨z, hz⟩ : ∃ z, zs[j]? = some z := ⟨zs[j]'(by rw [HN.out]; exact hlt2), List.getElem?_eq_getElem _⟩
          have hcell : w.cell? ⟨b, off + j, none⟩ = some (.int .i64 z) := HR.out j z hz
          obtain ⟨z0, z1⟩ := inB_iff.1 (List.all_eq_true.1 HALL.out z (List.mem_of_getElem? hz))
          have HZ := Lib.hid hz
          clear hz
          by_cases a1 : 1000000000000 < r + z
          · have HNX := Lib.hid (SumR.next (q' := q + 1) (r' := r + z - 1000000000000) HRR.out HZ.out (by omega) (by omega) (by omega))
            go_wp2
            go_round
            case rel => exact ⟨j + 1, _, _, by omega, by go_num, rfl, rfl, HNX.out⟩
            case measure => simp [intOf]; omega
          · by_cases a2 : r + z < -1000000000000
            · have HNX := Lib.hid (SumR.next (q' := q - 1) (r' := r + z + 1000000000000) HRR.out HZ.out (by omega) (by omega) (by omega))
              go_wp2
              go_round
              case rel => exact ⟨j + 1, _, _, by omega, by go_num, rfl, rfl, HNX.out⟩
              case measure => simp [intOf]; omega
            · have HNX := Lib.hid (SumR.next (q' := q) (r' := r + z) HRR.out HZ.out (by omega) (by omega) (by omega))
              go_wp2
              go_round
              case rel => exact ⟨j + 1, _, _, by omega, by go_num, rfl, rfl, HNX.out⟩
              case measure => simp [intOf]; omega
        · obtain rfl : j = k := by omega
          have hall : zs.take j = zs := List.take_of_length_le (by rw [HN.out]; exact Nat.le_refl _)
          have hRo := HRR.out
          unfold SumR at hRo
          rw [hall] at hRo
          obtain ⟨he, -, -, -, -⟩ := hRo
          have HE := Lib.hid he
          clear he hall
          go_wp2
          all_goals
            go_ret2
            have hE := HE.out
            (try simp only [beq_iff_eq, beq_eq_false_iff_ne, ne_eq] at *)
            first
              | (refine ⟨(sum_yes (v := r) HALL.out ?_ ?_).symm, by first | rfl | trivial⟩ <;> omega)
              | (refine ⟨(sum_yes (v := 1000000000000 + r) HALL.out ?_ ?_).symm, by first | rfl | trivial⟩ <;> omega)
              | (refine ⟨(sum_yes (v := r - 1000000000000) HALL.out ?_ ?_).symm, by first | rfl | trivial⟩ <;> omega)
              | (refine ⟨(sum_yes (v := 1000000000000) HALL.out ?_ ?_).symm, by first | rfl | trivial⟩ <;> omega)
              | (refine ⟨(sum_yes (v := -1000000000000) HALL.out ?_ ?_).symm, by first | rfl | trivial⟩ <;> omega)
              | (refine ⟨(sum_no HALL.out ?_).symm, by first | rfl | trivial⟩; omega)
end Go.Proofs.Ytnhbidagnomkpaa
