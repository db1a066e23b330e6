/-
  ReductionReducersAgree: the walk.
-/
import Derived.Test.YthpknbflmcoanaaDoorGtb
import Derived.Test.YthpknbflmcoanaaDoorAwk
namespace Go.Proofs.YthpknbflmcoanaaDoor
open Go.RowKit Mny

set_option maxRecDepth 100000 in
set_option maxHeartbeats 8000000 in
theorem walk_ReductionReducersAgree (l : List Gr) (j : Int) (v : Value) (W : World) (hg : GTb W v l) (hD : DownAt W) : Calls Tryd.prog 5 #[v, .int .i64 j] W fun e w' => e = .returned (.bool true) ∧ Below W.heap.size W w' := by
  have HL : Hid (l.length ≤ 9000000000000000) := Lib.hid (by have := hg.len; omega)
  have HL2 := Lib.hid hg.len
  obtain ⟨A, c, rfl⟩ := hg.cut
  obtain ⟨n, hn⟩ : ∃ n, l.length = n := ⟨_, rfl⟩
  rw [hn] at hg HL2 ⊢
  have HN := Lib.hid hn
  have HG := Lib.hid hg
  have HD := Lib.hid hD
  clear hg hn hD
  have hn2 := HL2.out
  by_cases h0 : 0 < n
  · have c0 : decide (0 < (n : Int)) = true := decide_eq_true (by omega)
    have c1 : decide ((n : Int) > 0) = true := decide_eq_true (by omega)
    go_enter Tryd.func5, Tryd.ntmps5
    go_wp2_with fail
    refine (plain_Mod j (n : Int) _ (by omega) (by omega)).mono ?_
    rintro e w1 ⟨rfl, rfl⟩
    obtain ⟨kk, hkk⟩ : ∃ q, j % (n : Int) = q := ⟨_, rfl⟩
    rw [hkk]
    clear hkk
    go_wp2_with fail
    refine (red_awake _ HD.out).mono ?_
    rintro e w2 ⟨rfl, hb2⟩
    have HB2 := Lib.hid hb2
    clear hb2
    have h1 := red_Reducers (HG.out.below HB2.out) j
    have HR1 := Lib.hid h1
    clear h1
    go_wp2_with fail
    refine (HR1.out).mono ?_
    rintro e wa1 ⟨va1, rfl, hna, hba⟩
    have HA1 := Lib.hid (below_then HB2.out hba)
    have HNA1 := Lib.hid hna
    clear hna hba
    have h2 := ref_Reducers (HG.out.below HA1.out) j
    have HR2 := Lib.hid h2
    clear h2
    go_wp2_with fail
    refine (HR2.out).mono ?_
    rintro e wb1 ⟨vb1, rfl, hnb, hbb⟩
    have HIN := Lib.hid (plain_Ints _ _ _ _ (HNA1.out.below hbb) hnb (Nat.le_trans redS_len HL.out))
    have HC1 := Lib.hid (below_then HA1.out hbb)
    clear hnb hbb
    go_wp2_with fail
    refine (HIN.out).mono ?_
    rintro e wc1 ⟨rfl, hbc⟩
    have HE1 := Lib.hid (below_then HC1.out hbc)
    clear hbc
    have h1 := red_Reducers (HG.out.below HE1.out) kk
    have HR1 := Lib.hid h1
    clear h1
    go_wp2_with fail
    refine (HR1.out).mono ?_
    rintro e wa2 ⟨va2, rfl, hna, hba⟩
    have HA2 := Lib.hid (below_then HE1.out hba)
    have HNA2 := Lib.hid hna
    clear hna hba
    have h2 := ref_Reducers (HG.out.below HA2.out) kk
    have HR2 := Lib.hid h2
    clear h2
    go_wp2_with fail
    refine (HR2.out).mono ?_
    rintro e wb2 ⟨vb2, rfl, hnb, hbb⟩
    have HIN := Lib.hid (plain_Ints _ _ _ _ (HNA2.out.below hbb) hnb (Nat.le_trans redS_len HL.out))
    have HC2 := Lib.hid (below_then HA2.out hbb)
    clear hnb hbb
    go_wp2_with fail
    refine (HIN.out).mono ?_
    rintro e wc2 ⟨rfl, hbc⟩
    have HE2 := Lib.hid (below_then HC2.out hbc)
    clear hbc
    have hbz := HE2.out
    go_wp2
    go_ret
    exact ⟨rfl, (by repeat (first | (with_reducible exact Below.refl _ _) | (with_reducible assumption) | (with_reducible refine below_drewN ?_ _) | (with_reducible refine Below.drew ?_) | (with_reducible refine Below.alloc ?_ ?_ _) | (with_reducible refine Below.setCell ?_ ?_ _) | exact Below.refl _ _ | assumption | (solve | omega | simp | (simp; omega))))⟩
  · obtain rfl : n = 0 := by omega
    go_enter Tryd.func5, Tryd.ntmps5
    go_wp2_with fail
    refine (red_awake _ HD.out).mono ?_
    rintro e w2 ⟨rfl, hb2⟩
    have HB2 := Lib.hid hb2
    clear hb2
    have h1 := red_Reducers (HG.out.below HB2.out) j
    have HR1 := Lib.hid h1
    clear h1
    go_wp2_with fail
    refine (HR1.out).mono ?_
    rintro e wa1 ⟨va1, rfl, hna, hba⟩
    have HA1 := Lib.hid (below_then HB2.out hba)
    have HNA1 := Lib.hid hna
    clear hna hba
    have h2 := ref_Reducers (HG.out.below HA1.out) j
    have HR2 := Lib.hid h2
    clear h2
    go_wp2_with fail
    refine (HR2.out).mono ?_
    rintro e wb1 ⟨vb1, rfl, hnb, hbb⟩
    have HIN := Lib.hid (plain_Ints _ _ _ _ (HNA1.out.below hbb) hnb (Nat.le_trans redS_len HL.out))
    have HC1 := Lib.hid (below_then HA1.out hbb)
    clear hnb hbb
    go_wp2_with fail
    refine (HIN.out).mono ?_
    rintro e wc1 ⟨rfl, hbc⟩
    have HE1 := Lib.hid (below_then HC1.out hbc)
    clear hbc
    have h1 := red_Reducers (HG.out.below HE1.out) 0
    have HR1 := Lib.hid h1
    clear h1
    go_wp2_with fail
    refine (HR1.out).mono ?_
    rintro e wa2 ⟨va2, rfl, hna, hba⟩
    have HA2 := Lib.hid (below_then HE1.out hba)
    have HNA2 := Lib.hid hna
    clear hna hba
    have h2 := ref_Reducers (HG.out.below HA2.out) 0
    have HR2 := Lib.hid h2
    clear h2
    go_wp2_with fail
    refine (HR2.out).mono ?_
    rintro e wb2 ⟨vb2, rfl, hnb, hbb⟩
    have HIN := Lib.hid (plain_Ints _ _ _ _ (HNA2.out.below hbb) hnb (Nat.le_trans redS_len HL.out))
    have HC2 := Lib.hid (below_then HA2.out hbb)
    clear hnb hbb
    go_wp2_with fail
    refine (HIN.out).mono ?_
    rintro e wc2 ⟨rfl, hbc⟩
    have HE2 := Lib.hid (below_then HC2.out hbc)
    clear hbc
    have hbz := HE2.out
    go_wp2
    go_ret
    exact ⟨rfl, (by repeat (first | (with_reducible exact Below.refl _ _) | (with_reducible assumption) | (with_reducible refine below_drewN ?_ _) | (with_reducible refine Below.drew ?_) | (with_reducible refine Below.alloc ?_ ?_ _) | (with_reducible refine Below.setCell ?_ ?_ _) | exact Below.refl _ _ | assumption | (solve | omega | simp | (simp; omega))))⟩
end Go.Proofs.YthpknbflmcoanaaDoor
