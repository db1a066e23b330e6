/-
  MoneyRates: for every input the law returns true; there is no condition.
-/
import Derived.Test.YtnhbidagnomkpaaOpenRates
namespace Go.Proofs.Ytnhbidagnomkpaa
open Go.RowKit Mny Go.WideShapes Go.ChangeShapes Go.ChangeAt

theorem walk_MoneyRatesL (cur mon mood : Int) (A : Option Addr) (n c : Nat) (w : World) (hlim : 60 < n) :
    Calls Try.prog 10 #[.slice A n c, .int .i64 cur, .int .i64 mon, .int .i64 mood] w fun e w' => e = .returned (.bool true) ∧ Below w.heap.size w w' := by
  go_enter Try.func10, Try.ntmps10
  go_wp2
  go_ret
  exact ⟨rfl, (by repeat (first | (with_reducible exact Below.refl _ _) | (with_reducible assumption) | (with_reducible refine below_drewN ?_ _) | (with_reducible refine Below.drew ?_) | (with_reducible refine Below.alloc ?_ ?_ _) | (with_reducible refine Below.setCell ?_ ?_ _) | exact Below.refl _ _ | assumption | (solve | omega | simp | (simp; omega))))⟩

set_option maxRecDepth 100000 in
set_option maxHeartbeats 8000000 in
theorem walk_MoneyRatesT (cur mon mood : Int) (A : Option Addr) (n c : Nat) (l : List Rt) (w : World) (hT : Tab w (.slice A n c) l) (hl : l.length = n) (hlim : n ≤ 60) :
    Calls Try.prog 10 #[.slice A n c, .int .i64 cur, .int .i64 mon, .int .i64 mood] w fun e w' => e = .returned (.bool true) ∧ Below w.heap.size w w' := by
  have HT := Lib.hid hT
  have HL : Hid (l.length ≤ 60) := Lib.hid (by omega)
  clear hT hl
  have hpc := fun W => made_Pick cur 5 W (by omega) (by omega)
  obtain ⟨pc, hpce⟩ : ∃ p, cur % 5 = p := ⟨_, rfl⟩
  have hpcb : 0 ≤ pc ∧ pc < 5 := by omega
  rw [hpce] at hpc
  have HPC := Lib.hid hpc
  obtain ⟨pc0, pc1⟩ := hpcb
  clear hpc hpce
  have hpm := fun W => made_Pick mon 2500 W (by omega) (by omega)
  obtain ⟨pm, hpme⟩ : ∃ p, mon % 2500 = p := ⟨_, rfl⟩
  have hpmb : 0 ≤ pm ∧ pm < 2500 := by omega
  rw [hpme] at hpm
  have HPM := Lib.hid hpm
  obtain ⟨pm0, pm1⟩ := hpmb
  clear hpm hpme
  obtain ⟨q2, hq2⟩ : ∃ q, mood.tmod 2 = q := ⟨_, rfl⟩
  have HQ2 := Lib.hid hq2
  clear hq2
  go_enter Try.func10, Try.ntmps10
  go_wp2_with fail
  refine (law_rates mood HT.out HL.out).mono ?_
  rintro e w1 ⟨v, l', rfl, hT1, hb1⟩
  have HT1 := Lib.hid hT1
  have HB1 := Lib.hid hb1
  clear hT1 hb1
  by_cases hz : q2 = 0
  · have hb2 : (mood.tmod 2 == 0) = true := by rw [HQ2.out, hz]; rfl
    clear hz
    go_wp2_with fail
    refine (HPC.out _).mono ?_
    rintro e _ ⟨rfl, rfl⟩
    go_wp2_with fail
    refine (HPM.out _).mono ?_
    rintro e _ ⟨rfl, rfl⟩
    obtain ⟨vn, vd, vb, hv⟩ : ∃ n d b, valS l' pc pm = (n, d, b) := ⟨_, _, _, rfl⟩
    have hva := money_ValueT HT1.out pc pm
    rw [hv] at hva
    have HVA : Hid (Calls Try.prog 35 #[v, .int .i64 pc, .int .i64 pm] w1 fun e w' => e = .returned (.tuple #[.agg #[.int .i64 vn, .int .i64 vd], .bool vb]) ∧ Below w1.heap.size w1 w') := Lib.hid hva
    have HV := Lib.hid hv
    clear hva hv
    go_wp2_with fail
    refine HVA.out.mono ?_
    rintro e w2 ⟨rfl, hb2⟩
    have HB2 := Lib.hid (below_then HB1.out hb2)
    have HT2 := Lib.hid (HT1.out.below hb2)
    clear hb2
    have HT2' : Hid (Tab (w2.alloc (.cells #[.int .i64 vn, .int .i64 vd] 23)) v l') := Lib.hid (HT2.out.below ((Below.refl _ _).alloc (Nat.le_refl _) _))
    have hvr := ref_RateAtT HT2'.out pc pm
    rw [HV.out] at hvr
    have HVR : Hid (Calls Try.prog 36 #[v, .int .i64 pc, .int .i64 pm] (w2.alloc (.cells #[.int .i64 vn, .int .i64 vd] 23)) fun e w' => e = .returned (.tuple #[.agg #[.int .i64 vn, .int .i64 vd], .bool vb]) ∧ Below (w2.alloc (.cells #[.int .i64 vn, .int .i64 vd] 23)).heap.size (w2.alloc (.cells #[.int .i64 vn, .int .i64 vd] 23)) w') := Lib.hid hvr
    clear hvr
    have hB2 := HB2.out
    have hs2 := hB2.size
    have HB2' : Hid (Below w.heap.size w (w2.alloc (.cells #[.int .i64 vn, .int .i64 vd] 23))) := Lib.hid (by repeat (first | (with_reducible exact Below.refl _ _) | (with_reducible assumption) | (with_reducible refine below_drewN ?_ _) | (with_reducible refine Below.drew ?_) | (with_reducible refine Below.alloc ?_ ?_ _) | (with_reducible refine Below.setCell ?_ ?_ _) | exact Below.refl _ _ | assumption | (solve | omega | simp | (simp; omega))))
    clear hB2
    go_wp2_with fail
    refine HVR.out.mono ?_
    rintro e w3 ⟨rfl, hb3⟩
    have HB3 := Lib.hid (below_then HB2'.out hb3)
    have X3 := Lib.hid ((Bx.made w2 23 #[.int .i64 vn, .int .i64 vd] rfl).below hb3)
    have HT3 := Lib.hid (HT2'.out.below hb3)
    clear hb3
    have hB3 := HB3.out
    have hs3 := hB3.size
    have HB4 : Hid (Below w.heap.size w (w3.alloc (.cells #[.int .i64 vn, .int .i64 vd] 23))) := Lib.hid (by repeat (first | (with_reducible exact Below.refl _ _) | (with_reducible assumption) | (with_reducible refine below_drewN ?_ _) | (with_reducible refine Below.drew ?_) | (with_reducible refine Below.alloc ?_ ?_ _) | (with_reducible refine Below.setCell ?_ ?_ _) | exact Below.refl _ _ | assumption | (solve | omega | simp | (simp; omega))))
    clear hB3
    have X4 := Lib.hid (X3.out.alloc (.cells #[.int .i64 vn, .int .i64 vd] 23))
    have Y4 := Lib.hid (Bx.made w3 23 #[.int .i64 vn, .int .i64 vd] rfl)
    go_wp2_with fail
    refine (law4_awake _).mono ?_
    rintro e w5 ⟨rfl, hb5⟩
    have HB5 := Lib.hid (below_then HB4.out hb5)
    have HT5 := Lib.hid ((HT3.out.below ((Below.refl _ _).alloc (Nat.le_refl _) _)).below hb5)
    have X5 := Lib.hid (X4.out.below hb5)
    have Y5 := Lib.hid (Y4.out.below hb5)
    clear hb5
    obtain ⟨ck, hck⟩ : ∃ ck, chkS l' = ck := ⟨_, rfl⟩
    have hc1 := money_CheckRates HT5.out
    rw [hck] at hc1
    have HC1 := Lib.hid hc1
    clear hc1
    go_wp2_with fail
    refine HC1.out.mono ?_
    rintro e w6 ⟨rfl, hb6⟩
    have HB6 := Lib.hid (below_then HB5.out hb6)
    have hc2 := ref_CheckRates (HT5.out.below hb6)
    rw [hck] at hc2
    have HC2 := Lib.hid hc2
    have X6 := Lib.hid (X5.out.below hb6)
    have Y6 := Lib.hid (Y5.out.below hb6)
    clear hc2 hck hb6
    go_wp2_with fail
    refine HC2.out.mono ?_
    rintro e w7 ⟨rfl, hb7⟩
    have HB9 := Lib.hid (below_then HB6.out hb7)
    obtain ⟨x0, x1⟩ := (X6.out.below hb7).of
    obtain ⟨y0, y1⟩ := (Y6.out.below hb7).of
    clear hb7
    go_wp2
    go_ret
    exact ⟨ret_bool (by simp), HB9.out⟩
  · have hb2 : (mood.tmod 2 == 0) = false := by rw [HQ2.out]; exact beq_eq_false_iff_ne.2 hz
    clear hz
    obtain ⟨vn, vd, vb, hv⟩ : ∃ n d b, valS l' cur mon = (n, d, b) := ⟨_, _, _, rfl⟩
    have hva := money_ValueT HT1.out cur mon
    rw [hv] at hva
    have HVA : Hid (Calls Try.prog 35 #[v, .int .i64 cur, .int .i64 mon] w1 fun e w' => e = .returned (.tuple #[.agg #[.int .i64 vn, .int .i64 vd], .bool vb]) ∧ Below w1.heap.size w1 w') := Lib.hid hva
    have HV := Lib.hid hv
    clear hva hv
    go_wp2_with fail
    refine HVA.out.mono ?_
    rintro e w2 ⟨rfl, hb2⟩
    have HB2 := Lib.hid (below_then HB1.out hb2)
    have HT2 := Lib.hid (HT1.out.below hb2)
    clear hb2
    have HT2' : Hid (Tab (w2.alloc (.cells #[.int .i64 vn, .int .i64 vd] 23)) v l') := Lib.hid (HT2.out.below ((Below.refl _ _).alloc (Nat.le_refl _) _))
    have hvr := ref_RateAtT HT2'.out cur mon
    rw [HV.out] at hvr
    have HVR : Hid (Calls Try.prog 36 #[v, .int .i64 cur, .int .i64 mon] (w2.alloc (.cells #[.int .i64 vn, .int .i64 vd] 23)) fun e w' => e = .returned (.tuple #[.agg #[.int .i64 vn, .int .i64 vd], .bool vb]) ∧ Below (w2.alloc (.cells #[.int .i64 vn, .int .i64 vd] 23)).heap.size (w2.alloc (.cells #[.int .i64 vn, .int .i64 vd] 23)) w') := Lib.hid hvr
    clear hvr
    have hB2 := HB2.out
    have hs2 := hB2.size
    have HB2' : Hid (Below w.heap.size w (w2.alloc (.cells #[.int .i64 vn, .int .i64 vd] 23))) := Lib.hid (by repeat (first | (with_reducible exact Below.refl _ _) | (with_reducible assumption) | (with_reducible refine below_drewN ?_ _) | (with_reducible refine Below.drew ?_) | (with_reducible refine Below.alloc ?_ ?_ _) | (with_reducible refine Below.setCell ?_ ?_ _) | exact Below.refl _ _ | assumption | (solve | omega | simp | (simp; omega))))
    clear hB2
    go_wp2_with fail
    refine HVR.out.mono ?_
    rintro e w3 ⟨rfl, hb3⟩
    have HB3 := Lib.hid (below_then HB2'.out hb3)
    have X3 := Lib.hid ((Bx.made w2 23 #[.int .i64 vn, .int .i64 vd] rfl).below hb3)
    have HT3 := Lib.hid (HT2'.out.below hb3)
    clear hb3
    have hB3 := HB3.out
    have hs3 := hB3.size
    have HB4 : Hid (Below w.heap.size w (w3.alloc (.cells #[.int .i64 vn, .int .i64 vd] 23))) := Lib.hid (by repeat (first | (with_reducible exact Below.refl _ _) | (with_reducible assumption) | (with_reducible refine below_drewN ?_ _) | (with_reducible refine Below.drew ?_) | (with_reducible refine Below.alloc ?_ ?_ _) | (with_reducible refine Below.setCell ?_ ?_ _) | exact Below.refl _ _ | assumption | (solve | omega | simp | (simp; omega))))
    clear hB3
    have X4 := Lib.hid (X3.out.alloc (.cells #[.int .i64 vn, .int .i64 vd] 23))
    have Y4 := Lib.hid (Bx.made w3 23 #[.int .i64 vn, .int .i64 vd] rfl)
    go_wp2_with fail
    refine (law4_awake _).mono ?_
    rintro e w5 ⟨rfl, hb5⟩
    have HB5 := Lib.hid (below_then HB4.out hb5)
    have HT5 := Lib.hid ((HT3.out.below ((Below.refl _ _).alloc (Nat.le_refl _) _)).below hb5)
    have X5 := Lib.hid (X4.out.below hb5)
    have Y5 := Lib.hid (Y4.out.below hb5)
    clear hb5
    obtain ⟨ck, hck⟩ : ∃ ck, chkS l' = ck := ⟨_, rfl⟩
    have hc1 := money_CheckRates HT5.out
    rw [hck] at hc1
    have HC1 := Lib.hid hc1
    clear hc1
    go_wp2_with fail
    refine HC1.out.mono ?_
    rintro e w6 ⟨rfl, hb6⟩
    have HB6 := Lib.hid (below_then HB5.out hb6)
    have hc2 := ref_CheckRates (HT5.out.below hb6)
    rw [hck] at hc2
    have HC2 := Lib.hid hc2
    have X6 := Lib.hid (X5.out.below hb6)
    have Y6 := Lib.hid (Y5.out.below hb6)
    clear hc2 hck hb6
    go_wp2_with fail
    refine HC2.out.mono ?_
    rintro e w7 ⟨rfl, hb7⟩
    have HB9 := Lib.hid (below_then HB6.out hb7)
    obtain ⟨x0, x1⟩ := (X6.out.below hb7).of
    obtain ⟨y0, y1⟩ := (Y6.out.below hb7).of
    clear hb7
    go_wp2
    go_ret
    exact ⟨ret_bool (by simp), HB9.out⟩

theorem walk_MoneyRates (cur mon mood : Int) (v : Value) {w0 : World} (h : TabIn w0 v) (w : World) (hw : w0 = w) :
    Calls Try.prog 10 #[v, .int .i64 cur, .int .i64 mon, .int .i64 mood] w fun e w' => e = .returned (.bool true) ∧ Below w.heap.size w w' := by
  subst hw
  rcases h with ⟨A, c, rfl⟩ | ⟨b, off, n, c, l, rfl, hpos, hl, hr, hb, _⟩
  · exact walk_MoneyRatesT cur mon mood A 0 c [] w0 (.inl ⟨_, _, rfl, rfl⟩) rfl (by omega)
  · by_cases hlim : 60 < n
    · exact walk_MoneyRatesL cur mon mood _ n c w0 hlim
    · exact walk_MoneyRatesT cur mon mood _ n c l w0 (.inr ⟨b, off, n, c, rfl, hl, hr, hb, by omega⟩) hl (by omega)

end Go.Proofs.Ytnhbidagnomkpaa
