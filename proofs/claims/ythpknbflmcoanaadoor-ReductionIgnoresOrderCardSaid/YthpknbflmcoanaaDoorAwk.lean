/-
  The sanity check of chapter 21: two states that reduce for each other.
-/
import Derived.Test.YthpknbflmcoanaaDoorApply
import Derived.Test.YthpknbflmcoanaaDoorSame
import Derived.Test.YthpknbflmcoanaaDoorDedT
namespace Go.Proofs.YthpknbflmcoanaaDoor
open Go.RowKit Mny

def awkL : List Gr := [⟨0, 1, 1, 1000, 600, 1, 1⟩, ⟨1, 1, 1, 1000, 600, 1, 1⟩]
def awkN : List Nt := [⟨0, 1, 1, 1000, 600, 1000, 600⟩, ⟨1, 1, 1, 1000, 600, 1000, 600⟩]
def awkD : List Ded := [⟨0, 1, 1000⟩, ⟨1, 0, 1000⟩]
theorem NumTab.below {w w' : World} {v : Value} {l : List Int} (h : NumTab w v l) (hw : Below w.heap.size w w') : NumTab w' v l := by
  rcases h with h | ⟨b, off, n, c, h1, h2, h3, h4, h5, h6⟩
  · exact .inl h
  · exact .inr ⟨b, off, n, c, h1, h2, h3, fun k z hk => (hw.cell (p := ⟨b, _, none⟩) h5).trans (h4 k z hk), Nat.lt_of_lt_of_le h5 hw.size, h6⟩
theorem awk_app : appR awkL [] 0 = (awkN, 0) := by decide +kernel
theorem awk_ded : dedR awkL [] 0 = (awkD, 0) := by decide +kernel
theorem awk_val : valG awkL = true := by decide +kernel
theorem awk_red : redS awkL ((0 : Nat) : Int) = [1] := by decide +kernel
theorem awk_amt : grossV ⟨0, 1, 1, 1000, 600, 1, 1⟩ = 1000 := by decide +kernel

theorem awk_world (w : World) : Below w.heap.size w (((w.alloc (.cells #[.int .i64 0, .int .i64 1, .int .i64 1, .int .i64 1000, .int .i64 600, .int .i64 1, .int .i64 1] 27)).alloc (.cells #[.int .i64 1, .int .i64 1, .int .i64 1, .int .i64 1000, .int .i64 600, .int .i64 1, .int .i64 1] 27)).alloc (.cells #[.int .i64 0, .int .i64 1, .int .i64 1, .int .i64 1000, .int .i64 600, .int .i64 1, .int .i64 1, .int .i64 1, .int .i64 1, .int .i64 1, .int .i64 1000, .int .i64 600, .int .i64 1, .int .i64 1] 27)) ∧ Bx (((w.alloc (.cells #[.int .i64 0, .int .i64 1, .int .i64 1, .int .i64 1000, .int .i64 600, .int .i64 1, .int .i64 1] 27)).alloc (.cells #[.int .i64 1, .int .i64 1, .int .i64 1, .int .i64 1000, .int .i64 600, .int .i64 1, .int .i64 1] 27)).alloc (.cells #[.int .i64 0, .int .i64 1, .int .i64 1, .int .i64 1000, .int .i64 600, .int .i64 1, .int .i64 1, .int .i64 1, .int .i64 1, .int .i64 1, .int .i64 1000, .int .i64 600, .int .i64 1, .int .i64 1] 27)) w.heap.size 27 #[.int .i64 0, .int .i64 1, .int .i64 1, .int .i64 1000, .int .i64 600, .int .i64 1, .int .i64 1] ∧ GrossAt (((w.alloc (.cells #[.int .i64 0, .int .i64 1, .int .i64 1, .int .i64 1000, .int .i64 600, .int .i64 1, .int .i64 1] 27)).alloc (.cells #[.int .i64 1, .int .i64 1, .int .i64 1, .int .i64 1000, .int .i64 600, .int .i64 1, .int .i64 1] 27)).alloc (.cells #[.int .i64 0, .int .i64 1, .int .i64 1, .int .i64 1000, .int .i64 600, .int .i64 1, .int .i64 1, .int .i64 1, .int .i64 1, .int .i64 1, .int .i64 1000, .int .i64 600, .int .i64 1, .int .i64 1] 27)) (w.heap.size + 1 + 1) 0 awkL ∧ w.heap.size + 1 + 1 < ((((w.alloc (.cells #[.int .i64 0, .int .i64 1, .int .i64 1, .int .i64 1000, .int .i64 600, .int .i64 1, .int .i64 1] 27)).alloc (.cells #[.int .i64 1, .int .i64 1, .int .i64 1, .int .i64 1000, .int .i64 600, .int .i64 1, .int .i64 1] 27)).alloc (.cells #[.int .i64 0, .int .i64 1, .int .i64 1, .int .i64 1000, .int .i64 600, .int .i64 1, .int .i64 1, .int .i64 1, .int .i64 1, .int .i64 1, .int .i64 1000, .int .i64 600, .int .i64 1, .int .i64 1] 27))).heap.size := by
  have hx : Bx (((w.alloc (.cells #[.int .i64 0, .int .i64 1, .int .i64 1, .int .i64 1000, .int .i64 600, .int .i64 1, .int .i64 1] 27)).alloc (.cells #[.int .i64 1, .int .i64 1, .int .i64 1, .int .i64 1000, .int .i64 600, .int .i64 1, .int .i64 1] 27)).alloc (.cells #[.int .i64 0, .int .i64 1, .int .i64 1, .int .i64 1000, .int .i64 600, .int .i64 1, .int .i64 1, .int .i64 1, .int .i64 1, .int .i64 1, .int .i64 1000, .int .i64 600, .int .i64 1, .int .i64 1] 27)) (w.heap.size + 1 + 1) 27 #[.int .i64 0, .int .i64 1, .int .i64 1, .int .i64 1000, .int .i64 600, .int .i64 1, .int .i64 1, .int .i64 1, .int .i64 1, .int .i64 1, .int .i64 1000, .int .i64 600, .int .i64 1, .int .i64 1] := Bx.made _ _ _ (by simp)
  refine ⟨(by repeat (first | (with_reducible exact Below.refl _ _) | (with_reducible assumption) | (with_reducible refine below_drewN ?_ _) | (with_reducible refine Below.drew ?_) | (with_reducible refine Below.alloc ?_ ?_ _) | (with_reducible refine Below.setCell ?_ ?_ _) | exact Below.refl _ _ | assumption | (solve | omega | simp | (simp; omega)))), ((Bx.made w 27 #[.int .i64 0, .int .i64 1, .int .i64 1, .int .i64 1000, .int .i64 600, .int .i64 1, .int .i64 1] rfl).alloc _).alloc _, ?_, hx.lt⟩
  intro k r hk
  match k, hk with
  | 0, hk => injection hk with hk; subst hk; exact ⟨hx.cell 0, hx.cell 1, hx.cell 2, hx.cell 3, hx.cell 4, hx.cell 5, hx.cell 6⟩
  | 1, hk => injection hk with hk; subst hk; exact ⟨hx.cell 7, hx.cell 8, hx.cell 9, hx.cell 10, hx.cell 11, hx.cell 12, hx.cell 13⟩
  | k + 2, hk => simp [awkL] at hk

set_option maxRecDepth 100000 in
set_option maxHeartbeats 8000000 in
theorem red_awake (w : World) (hD : DownAt w) : Calls Tryd.prog 20 #[] w fun e w' => e = .returned (.bool true) ∧ Below w.heap.size w w' := by
  obtain ⟨hb3, hx1, hg3, hs3⟩ := awk_world w
  obtain ⟨W3, hW3⟩ : ∃ W, (((w.alloc (.cells #[.int .i64 0, .int .i64 1, .int .i64 1, .int .i64 1000, .int .i64 600, .int .i64 1, .int .i64 1] 27)).alloc (.cells #[.int .i64 1, .int .i64 1, .int .i64 1, .int .i64 1000, .int .i64 600, .int .i64 1, .int .i64 1] 27)).alloc (.cells #[.int .i64 0, .int .i64 1, .int .i64 1, .int .i64 1000, .int .i64 600, .int .i64 1, .int .i64 1, .int .i64 1, .int .i64 1, .int .i64 1, .int .i64 1000, .int .i64 600, .int .i64 1, .int .i64 1] 27)) = W := ⟨_, rfl⟩
  rw [hW3] at hb3 hx1 hg3 hs3
  have HD3 := Lib.hid (hD.below hb3)
  have HB3 := Lib.hid hb3
  have HX1 := Lib.hid hx1
  have HG3 := Lib.hid hg3
  have HW3 := Lib.hid hW3
  have hAP := red_Apply1 awkL [] 2 (w.heap.size + 1 + 1) 0 2 (.slice none 0 0) 0 W3 rfl hg3 hs3 (by decide) (by decide) (.inl ⟨_, _, rfl, rfl⟩) HD3.out
  rw [awk_app] at hAP
  have HAP := Lib.hid hAP
  clear hAP hb3 hx1 hg3 hW3 hD
  go_enter Tryd.func20, Tryd.ntmps20
  go_wp2_with fail
  rw [HW3.out]
  refine (HAP.out).mono ?_
  rintro e w4 ⟨v4, rfl, hn4, hb4⟩
  obtain ⟨A4, c4, rfl⟩ := hn4.cut
  obtain ⟨n4, p4, rfl, hat4, hl4⟩ := hn4.rowAt (k := 0) (r := ⟨0, 1, 1, 1000, 600, 1000, 600⟩) rfl
  have HN4 := Lib.hid hat4
  have HB4 := Lib.hid hb4
  have hs4 := hb4.size
  clear hn4 hat4 hb4
  have hd := red_Deductions1 awkL [] 2 (w.heap.size + 1 + 1) 0 2 (.slice none 0 0) 0 w4 rfl (HG3.out.below hs3 HB4.out) (by omega) (by decide) (.inl ⟨_, _, rfl, rfl⟩) (HD3.out.below HB4.out)
  rw [awk_ded] at hd
  have HDD := Lib.hid hd
  clear hd
  go_wp2_with fail
  refine (HDD.out).mono ?_
  rintro e w5 ⟨v5, rfl, hd5, hb5⟩
  obtain ⟨A5, c5, rfl⟩ := hd5.cut
  have HB5 := Lib.hid (below_then HB4.out hb5)
  have HN5 := Lib.hid (HN4.out.below hl4 hb5)
  have hs5' := hb5.size
  have hs5 := HB5.out.size
  clear hd5 hb5
  have hv := red_Valid1 awkL 2 (w.heap.size + 1 + 1) 0 2 w5 rfl (HG3.out.below hs3 HB5.out) (by omega) (by decide)
  rw [awk_val] at hv
  have HV := Lib.hid hv
  clear hv
  go_wp2_with fail
  refine (HV.out).mono ?_
  rintro e w6 ⟨rfl, hb6⟩
  have HB6 := Lib.hid (below_then HB5.out hb6)
  have HN6 := Lib.hid (HN5.out.below (by omega) hb6)
  have hs6' := hb6.size
  have HX6 := Lib.hid (HX1.out.below HB6.out)
  have hs6 := HB6.out.size
  clear hb6
  have k0 : w6.cell? ⟨w.heap.size, 0, none⟩ = some (.int .i64 0) := HX6.out.cell 0
  have k1 : w6.cell? ⟨w.heap.size, 1, none⟩ = some (.int .i64 1) := HX6.out.cell 1
  have k2 : w6.cell? ⟨w.heap.size, 2, none⟩ = some (.int .i64 1) := HX6.out.cell 2
  have k3 : w6.cell? ⟨w.heap.size, 3, none⟩ = some (.int .i64 1000) := HX6.out.cell 3
  have k4 : w6.cell? ⟨w.heap.size, 4, none⟩ = some (.int .i64 600) := HX6.out.cell 4
  have k5 : w6.cell? ⟨w.heap.size, 5, none⟩ = some (.int .i64 1) := HX6.out.cell 5
  have k6 : w6.cell? ⟨w.heap.size, 6, none⟩ = some (.int .i64 1) := HX6.out.cell 6
  have ham := red_Amount 0 1 1 1000 600 1 1 w6
  rw [awk_amt] at ham
  have HAM := Lib.hid ham
  clear ham
  go_wp2_with fail
  refine (HAM.out).mono ?_
  rintro e w7 ⟨rfl, hb7⟩
  have HB7 := Lib.hid (below_then HB6.out hb7)
  have HN7 := Lib.hid (HN6.out.below (by omega) hb7)
  have hs7 := HB7.out.size
  have hs7' := hb7.size
  clear hb7 k0 k1 k2 k3 k4 k5 k6
  have hrd := red_Reducers1 awkL 2 (w.heap.size + 1 + 1) 0 2 ((0 : Nat) : Int) w7 rfl (HG3.out.below hs3 HB7.out) (by omega) (by decide)
  rw [awk_red] at hrd
  have HRD := Lib.hid hrd
  clear hrd
  go_wp2_with fail
  refine (HRD.out).mono ?_
  rintro e w8 ⟨v8, rfl, hn8, hb8⟩
  have HB8 := Lib.hid (below_then HB7.out hb8)
  have HN8 := Lib.hid (HN7.out.below (by omega) hb8)
  have hs8 := HB8.out.size
  have hs8' := hb8.size
  have HT8 := Lib.hid hn8
  clear hb8 hn8
  have hb9 : Below w8.heap.size w8 (w8.alloc (.cells #[.int .i64 1] 3)) := (Below.refl _ _).alloc (Nat.le_refl _) _
  have ht9 : NumTab (w8.alloc (.cells #[.int .i64 1] 3)) (.slice (some ⟨w8.heap.size, 0, none⟩) 1 1) [1] := .inr ⟨_, _, _, _, rfl, by decide, rfl, fun k z hk => by
    match k, hk with
    | 0, hk => injection hk with hk; subst hk; exact (Bx.made w8 3 #[.int .i64 1] rfl).cell 0
    | k + 1, hk => simp at hk, by simp, Nat.le_refl _⟩
  have HIN := Lib.hid (plain_Ints [1] v8 (.slice (some ⟨w8.heap.size, 0, none⟩) 1 1) _ (HT8.out.below hb9) ht9 (by decide))
  have HB9 := Lib.hid (below_then HB8.out hb9)
  have HN9 := Lib.hid (HN8.out.below (by omega) hb9)
  have hs9 := hb9.size
  clear hb9 ht9
  go_wp2_with fail
  refine (HIN.out).mono ?_
  rintro e wA ⟨rfl, hbA⟩
  have HBA := Lib.hid (below_then HB9.out hbA)
  have hNA := HN9.out.below (by omega) hbA
  have hsA := HBA.out.size
  clear hbA
  obtain ⟨_, _, _, _, _, e5, e6⟩ := hNA 0 _ rfl
  obtain ⟨_, _, _, _, _, _, f6⟩ := hNA 1 _ rfl
  simp only at e5 e6 f6
  have hB : Below w.heap.size w wA := below_then HB3.out HBA.out
  go_wp2
  go_ret
  exact ⟨rfl, (by repeat (first | (with_reducible exact Below.refl _ _) | (with_reducible assumption) | (with_reducible refine below_drewN ?_ _) | (with_reducible refine Below.drew ?_) | (with_reducible refine Below.alloc ?_ ?_ _) | (with_reducible refine Below.setCell ?_ ?_ _) | exact Below.refl _ _ | assumption | (solve | omega | simp | (simp; omega))))⟩
end Go.Proofs.YthpknbflmcoanaaDoor
