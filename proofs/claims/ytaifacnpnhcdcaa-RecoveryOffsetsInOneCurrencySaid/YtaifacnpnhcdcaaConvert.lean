/-
  Conversions between currencies: the plain function, and the contracts of Convert of the program and of the reference.
-/
import Derived.Test.YtaifacnpnhcdcaaCheck
import Derived.Test.YtaifacnpnhcdcaaChain
namespace Go.Proofs.Ytaifacnpnhcdcaa
open Go.RowKit Mny

/-- this value is a table that reads as these rows -/
def Tab (w : World) (v : Value) (l : List Rt) : Prop :=
  (∃ A c, v = .slice A 0 c ∧ l = []) ∨ ∃ b off n c, v = .slice (some ⟨b, off, none⟩) n c ∧ l.length = n ∧ RatesAt w b off l ∧ b < w.heap.size ∧ n ≤ 1000000000000000
theorem Tab.below {w w' : World} {v : Value} {l : List Rt} (h : Tab w v l) (hw : Below w.heap.size w w') : Tab w' v l := by
  rcases h with h | ⟨b, off, n, c, h1, h2, h3, h4, h5⟩
  · exact .inl h
  · exact .inr ⟨b, off, n, c, h1, h2, h3.below h4 hw, Nat.lt_of_lt_of_le h4 hw.size, h5⟩
theorem chkS_nil : chkS [] = 0 := by decide
theorem valS_nil (c m : Int) : valS [] c m = (0, 0, false) := rfl
theorem money_Value0 (A : Option Addr) (cc : Nat) (c m : Int) (w : World) : Calls Try.prog 49 #[.slice A 0 cc, .int .i64 c, .int .i64 m] w fun e w' => e = FB (0, 0, false) ∧ Below w.heap.size w w' := by
  go_enter Try.func49, Try.ntmps49
  go_wp2
  refine wp_loop_rounds 1 ?_
  rw [rounds_succ]
  go_wp2
  refine bodyPost_ret (v := .tuple #[.agg #[.int .i64 0, .int .i64 0], .bool false]) (by simp [results, Try.results49, go_sem]) rfl ⟨rfl, ?_⟩
  exact (by repeat (first | (with_reducible exact Below.refl _ _) | (with_reducible assumption) | (with_reducible refine below_drewN ?_ _) | (with_reducible refine Below.drew ?_) | (with_reducible refine Below.alloc ?_ ?_ _) | (with_reducible refine Below.setCell ?_ ?_ _) | exact Below.refl _ _ | assumption | (solve | omega | simp | (simp; omega))))
theorem ref_RateAt0 (A : Option Addr) (cc : Nat) (c m : Int) (w : World) : Calls Try.prog 57 #[.slice A 0 cc, .int .i64 c, .int .i64 m] w fun e w' => e = FB (0, 0, false) ∧ Below w.heap.size w w' := by
  go_enter Try.func57, Try.ntmps57
  go_wp2
  refine wp_loop_rounds 1 ?_
  rw [rounds_succ]
  go_wp2
  refine bodyPost_ret (v := .tuple #[.agg #[.int .i64 0, .int .i64 0], .bool false]) (by simp [results, Try.results57, go_sem]) rfl ⟨rfl, ?_⟩
  exact (by repeat (first | (with_reducible exact Below.refl _ _) | (with_reducible assumption) | (with_reducible refine below_drewN ?_ _) | (with_reducible refine Below.drew ?_) | (with_reducible refine Below.alloc ?_ ?_ _) | (with_reducible refine Below.setCell ?_ ?_ _) | exact Below.refl _ _ | assumption | (solve | omega | simp | (simp; omega))))
section
variable {w : World} {v : Value} {l : List Rt}
theorem money_CheckRates (h : Tab w v l) : Calls Try.prog 28 #[v] w fun e w' => e = .returned (.int .i64 (chkS l)) ∧ Below w.heap.size w w' := by
  rcases h with ⟨A, c, rfl, rfl⟩ | ⟨b, off, n, c, rfl, h2, h3, h4, h5⟩
  · rw [chkS_nil]; exact money_CheckRates0 A c w
  · exact money_CheckRates1 l n b off c w h2 h3 h4 h5
theorem ref_CheckRates (h : Tab w v l) : Calls Try.prog 35 #[v] w fun e w' => e = .returned (.int .i64 (chkS l)) ∧ Below w.heap.size w w' := by
  rcases h with ⟨A, c, rfl, rfl⟩ | ⟨b, off, n, c, rfl, h2, h3, h4, h5⟩
  · rw [chkS_nil]; exact ref_CheckRates0 A c w
  · exact ref_CheckRates1 l n b off c w h2 h3 h4 h5
theorem money_ValueT (h : Tab w v l) (c m : Int) : Calls Try.prog 49 #[v, .int .i64 c, .int .i64 m] w fun e w' => e = FB (valS l c m) ∧ Below w.heap.size w w' := by
  rcases h with ⟨A, cc, rfl, rfl⟩ | ⟨b, off, n, cc, rfl, h2, h3, h4, h5⟩
  · rw [valS_nil]; exact money_Value0 A cc c m w
  · exact money_Value l n b off cc c m w h2 h3 h4 h5
theorem ref_RateAtT (h : Tab w v l) (c m : Int) : Calls Try.prog 57 #[v, .int .i64 c, .int .i64 m] w fun e w' => e = FB (valS l c m) ∧ Below w.heap.size w w' := by
  rcases h with ⟨A, cc, rfl, rfl⟩ | ⟨b, off, n, cc, rfl, h2, h3, h4, h5⟩
  · rw [valS_nil]; exact ref_RateAt0 A cc c m w
  · exact ref_RateAt l n b off cc c m w h2 h3 h4 h5
end

/-- a rate in force out of a valid table is small -/
theorem val_small {l : List Rt} {c m n d : Int} (h : chkS l = 0) (hv : valS l c m = (n, d, true)) : (1 ≤ n ∧ n ≤ 1000000) ∧ (1 ≤ d ∧ d ≤ 1000000) := by
  have hb := bestK_bd l c m l.length
  have hall : ChkP l l.length := by
    unfold chkS at h
    split at h
    · omega
    · split at h
      · rename_i ha
        rw [List.all_eq_true] at ha
        exact fun j hj => ha j (List.mem_range.2 hj)
      · omega
  unfold valS at hv
  split at hv
  · rename_i r hr
    split at hv
    · injection hv with _ hv; injection hv with _ hv; cases hv
    · rename_i hneg
      injection hv with e1 hv
      injection hv with e2 hv
      have hk := hall (bestK l c m l.length).toNat (by omega)
      unfold rowOk at hk
      rw [hr] at hk
      simp only [Bool.and_eq_true] at hk
      have ho := hk.1
      unfold okR at ho
      simp only [Bool.and_eq_true, inB_iff] at ho
      subst e1 e2
      exact ⟨ho.2.2.2.1, ho.2.2.2.2⟩
  · injection hv with _ hv; injection hv with _ hv; cases hv

/-- are the arguments of Convert valid -/
def convB (x f t a : Int) (l : List Rt) (m u : Int) : Bool := inB (-1000000000000) 1000000000000 x && (inB 1 999 f && (inB 1 999 t && (inB 0 2399 a && (validR m u && decide (chkS l = 0)))))
/-- what Convert returns for valid arguments -/
def convV (x f t a : Int) (l : List Rt) (m u : Int) : Int × Int :=
  if f = t then rnd m u x 1 else if (valS l f a).2.2 && (valS l t a).2.2 then rnd m u (x * ((valS l f a).1 * (valS l t a).2.1)) ((valS l f a).2.1 * (valS l t a).1) else (0, 9)
/-- what Convert returns -/
def convS (x f t a : Int) (l : List Rt) (m u : Int) : Int × Int := if convB x f t a l m u then convV x f t a l m u else (0, 1)
section
variable {x f t a m u : Int} {l : List Rt}
theorem convS_bad (h : convB x f t a l m u = false) : convS x f t a l m u = (0, 1) := by unfold convS; rw [h]; rfl
theorem convB_1 (h : inB (-1000000000000) 1000000000000 x = false) : convB x f t a l m u = false := by unfold convB; simp only [h, Bool.false_and]
theorem convB_2 (h : inB 1 999 f = false) : convB x f t a l m u = false := by unfold convB; simp only [h, Bool.false_and, Bool.and_false]
theorem convB_3 (h : inB 1 999 t = false) : convB x f t a l m u = false := by unfold convB; simp only [h, Bool.false_and, Bool.and_false]
theorem convB_4 (h : inB 0 2399 a = false) : convB x f t a l m u = false := by unfold convB; simp only [h, Bool.false_and, Bool.and_false]
theorem convB_5 (h : validR m u = false) : convB x f t a l m u = false := by unfold convB; simp only [h, Bool.false_and, Bool.and_false]
theorem convB_6 (h : ¬ chkS l = 0) : convB x f t a l m u = false := by unfold convB; simp only [h, decide_false, Bool.and_false]
theorem convB_all (h1 : inB (-1000000000000) 1000000000000 x = true) (h2 : inB 1 999 f = true) (h3 : inB 1 999 t = true) (h4 : inB 0 2399 a = true) (h5 : validR m u = true) (h6 : chkS l = 0) : convB x f t a l m u = true := by
  unfold convB; simp only [h1, h2, h3, h4, h5, h6, decide_true, Bool.and_self]
theorem convS_same (h : convB x f t a l m u = true) (he : f = t) : convS x f t a l m u = rnd m u x 1 := by unfold convS convV; rw [if_pos h, if_pos he]
theorem convS_none {v1 v2 w1 w2 : Int} {vb wb : Bool} (h : convB x f t a l m u = true) (he : ¬ f = t) (hv : valS l f a = (v1, v2, vb)) (hw : valS l t a = (w1, w2, wb)) (hn : (vb && wb) = false) : convS x f t a l m u = (0, 9) := by
  unfold convS convV; rw [if_pos h, if_neg he, hv, hw]; simp only [hn]; rfl
theorem convS_yes {v1 v2 w1 w2 : Int} (h : convB x f t a l m u = true) (he : ¬ f = t) (hv : valS l f a = (v1, v2, true)) (hw : valS l t a = (w1, w2, true)) : convS x f t a l m u = rnd m u (x * (v1 * w2)) (v2 * w1) := by
  unfold convS convV; rw [if_pos h, if_neg he, hv, hw]; rfl
end

set_option maxRecDepth 100000 in
set_option maxHeartbeats 8000000 in
theorem money_Convert (x f t a m u : Int) (v : Value) (l : List Rt) (w : World) (hT : Tab w v l) :
    Calls Try.prog 33 #[.int .i64 x, .int .i64 f, .int .i64 t, .int .i64 a, v, .agg #[.int .i64 m, .int .i64 u]] w fun e w' => e = IE (convS x f t a l m u) ∧ Below w.heap.size w w' := by
  have HT := Lib.hid hT
  clear hT
  go_enter Try.func33, Try.ntmps33
  have h1c := fun W => money_amount x W
  rcases Bool.eq_false_or_eq_true (inB (-1000000000000) 1000000000000 x) with h1 | h1
  · rw [h1] at h1c
    have H1C := Lib.hid h1c
    clear h1c
    go_wp2_with fail
    refine (H1C.out _).mono ?_
    rintro e _ ⟨rfl, rfl⟩
    have O1 := Lib.hid h1
    obtain ⟨x0, x1⟩ := inB_iff.1 h1
    clear h1
    have h2c := fun W => money_currency f W
    rcases Bool.eq_false_or_eq_true (inB 1 999 f) with h2 | h2
    · rw [h2] at h2c
      have H2C := Lib.hid h2c
      clear h2c
      go_wp2_with fail
      refine (H2C.out _).mono ?_
      rintro e _ ⟨rfl, rfl⟩
      have O2 := Lib.hid h2
      clear h2
      have h3c := fun W => money_currency t W
      rcases Bool.eq_false_or_eq_true (inB 1 999 t) with h3 | h3
      · rw [h3] at h3c
        have H3C := Lib.hid h3c
        clear h3c
        go_wp2_with fail
        refine (H3C.out _).mono ?_
        rintro e _ ⟨rfl, rfl⟩
        have O3 := Lib.hid h3
        clear h3
        have h4c := fun W => money_month a W
        rcases Bool.eq_false_or_eq_true (inB 0 2399 a) with h4 | h4
        · rw [h4] at h4c
          have H4C := Lib.hid h4c
          clear h4c
          go_wp2_with fail
          refine (H4C.out _).mono ?_
          rintro e w1 ⟨rfl, hb1⟩
          have HB1 := Lib.hid (below_then (w := w) (by repeat (first | (with_reducible exact Below.refl _ _) | (with_reducible assumption) | (with_reducible refine below_drewN ?_ _) | (with_reducible refine Below.drew ?_) | (with_reducible refine Below.alloc ?_ ?_ _) | (with_reducible refine Below.setCell ?_ ?_ _) | exact Below.refl _ _ | assumption | (solve | omega | simp | (simp; omega)))) hb1)
          have R1 := Lib.hid ((Bx.made w 65 #[.int .i64 m, .int .i64 u] rfl).below hb1)
          have O4 := Lib.hid h4
          clear h4
          obtain ⟨rc1, rf1⟩ := R1.out.of
          clear hb1
          have h5c := fun W => money_ValidRounding m u W
          rcases Bool.eq_false_or_eq_true (validR m u) with h5 | h5
          · rw [h5] at h5c
            have H5C := Lib.hid h5c
            clear h5c
            go_wp2_with fail
            refine (H5C.out _).mono ?_
            rintro e w2 ⟨rfl, hb2⟩
            have HB2 := Lib.hid (below_then HB1.out hb2)
            have R2 := Lib.hid (R1.out.below hb2)
            clear hb2 rc1 rf1
            have O5 := Lib.hid h5
            obtain ⟨m0, m1, u0, u1⟩ := validR_iff.1 h5
            clear h5
            have h6c := money_CheckRates (HT.out.below HB2.out)
            by_cases h6 : chkS l = 0
            · rw [h6] at h6c
              have H6C := Lib.hid h6c
              clear h6c
              go_wp2_with fail
              refine H6C.out.mono ?_
              rintro e w3 ⟨rfl, hb3⟩
              have HB3 := Lib.hid (below_then HB2.out hb3)
              have R3 := Lib.hid (R2.out.below hb3)
              have T3 := Lib.hid (HT.out.below HB3.out)
              clear hb3
              have HALL := Lib.hid (convB_all O1.out O2.out O3.out O4.out O5.out h6)
              have O6 := Lib.hid h6
              clear h6
              by_cases hft : f = t
              · have HSM := Lib.hid (convS_same HALL.out hft)
                have HDV : Hid (∀ W, Calls Try.prog 47 #[.bool (decide (x < 0)), .int .u64 (0 : Int), .int .u64 (x.natAbs : Int), .int .u64 (1 : Int), .agg #[.int .i64 m, .int .i64 u]] W fun e w' => e = Rnd m u (sgnN (decide (x < 0)) (wideN 0 x.natAbs)) 1 ∧ Below W.heap.size W w') := Lib.hid fun W => money_divide (decide (x < 0)) 0 x.natAbs 1 m u W O5.out (by omega) (by omega) (by omega)
                obtain ⟨A, E, hAE⟩ : ∃ A E, rnd m u x 1 = (A, E) := ⟨_, _, rfl⟩
                have hR : Rnd m u x 1 = .returned (.tuple #[.int .i64 A, .int .i64 E]) := by unfold Rnd; rw [hAE]; rfl
                rw [sgn_nat, hR] at HDV
                have HF : Hid (convS x f t a l m u = (A, E)) := Lib.hid (by rw [HSM.out, hAE])
                have hfb : (f == t) = true := beq_iff_eq.2 hft
                clear hft hAE hR
                have cm2 : ∀ x : BW w3, x.val.cell? ⟨w.heap.size, 0, none⟩ = some (.int .i64 m) := BW.cells R3.out 0
                have cu2 : ∀ x : BW w3, x.val.cell? ⟨w.heap.size, 1, none⟩ = some (.int .i64 u) := BW.cells R3.out 1
                go_wp2
                refine wp_region_below (by kernel_rfl) (by kernel_rfl) ?_
                repeat (go_big_quiet_step (((first | (go_at_call 48; refine bq_same (money_size x _ ?_ ?_) <;> omega) | (go_at_call 47; exact bq_below (HDV.out _))))))
                refine wpQuiet_nil ?_
                intro w9 hw'
                obtain ⟨⟨_, hb9⟩, rfl⟩ := hw'
                have HB9 := Lib.hid (below_then HB3.out hb9)
                go_wp2
                go_ret2
                exact ⟨by rw [HF.out]; rfl, HB9.out⟩
              · have hfb : (f == t) = false := beq_eq_false_iff_ne.2 hft
                have HNE := Lib.hid hft
                clear hft
                obtain ⟨vn, vd, vb, hv⟩ : ∃ n d b, valS l f a = (n, d, b) := ⟨_, _, _, rfl⟩
                obtain ⟨tn, td, tb, ht⟩ : ∃ n d b, valS l t a = (n, d, b) := ⟨_, _, _, rfl⟩
                have hva := money_ValueT T3.out f a
                rw [hv] at hva
                have HVA : Hid (Calls Try.prog 49 #[v, .int .i64 f, .int .i64 a] w3 fun e w' => e = .returned (.tuple #[.agg #[.int .i64 vn, .int .i64 vd], .bool vb]) ∧ Below w3.heap.size w3 w') := Lib.hid hva
                have HV := Lib.hid hv
                have HT2 := Lib.hid ht
                clear hva hv ht
                go_wp2_with fail
                refine HVA.out.mono ?_
                rintro e w4 ⟨rfl, hb4⟩
                have HB4 := Lib.hid (below_then HB3.out hb4)
                have hB4 := HB4.out
                have hs4 := hB4.size
                have HB4' : Hid (Below w.heap.size w (w4.alloc (.cells #[.int .i64 vn, .int .i64 vd] 51))) := Lib.hid (by repeat (first | (with_reducible exact Below.refl _ _) | (with_reducible assumption) | (with_reducible refine below_drewN ?_ _) | (with_reducible refine Below.drew ?_) | (with_reducible refine Below.alloc ?_ ?_ _) | (with_reducible refine Below.setCell ?_ ?_ _) | exact Below.refl _ _ | assumption | (solve | omega | simp | (simp; omega))))
                have htb := money_ValueT (HT.out.below HB4'.out) t a
                rw [HT2.out] at htb
                have HTB : Hid (Calls Try.prog 49 #[v, .int .i64 t, .int .i64 a] (w4.alloc (.cells #[.int .i64 vn, .int .i64 vd] 51)) fun e w' => e = .returned (.tuple #[.agg #[.int .i64 tn, .int .i64 td], .bool tb]) ∧ Below (w4.alloc (.cells #[.int .i64 vn, .int .i64 vd] 51)).heap.size (w4.alloc (.cells #[.int .i64 vn, .int .i64 vd] 51)) w') := Lib.hid htb
                have R4 := Lib.hid ((R3.out.below hb4).alloc (.cells #[.int .i64 vn, .int .i64 vd] 51))
                clear htb hb4
                go_wp2_with fail
                refine HTB.out.mono ?_
                rintro e w5 ⟨rfl, hb5⟩
                have HB5 := Lib.hid (below_then HB4'.out hb5)
                have R5 := Lib.hid (R4.out.below hb5)
                have V5 := Lib.hid ((Bx.made w4 51 #[.int .i64 vn, .int .i64 vd] rfl).below hb5)
                have hB5 := HB5.out
                have hs5 := hB5.size
                have HB6 : Hid (Below w.heap.size w (w5.alloc (.cells #[.int .i64 tn, .int .i64 td] 51))) := Lib.hid (by repeat (first | (with_reducible exact Below.refl _ _) | (with_reducible assumption) | (with_reducible refine below_drewN ?_ _) | (with_reducible refine Below.drew ?_) | (with_reducible refine Below.alloc ?_ ?_ _) | (with_reducible refine Below.setCell ?_ ?_ _) | exact Below.refl _ _ | assumption | (solve | omega | simp | (simp; omega))))
                clear hb5 hB4 hB5 hs4 hs5
                rcases Bool.eq_false_or_eq_true (vb && tb) with hbb | hbb
                · rw [Bool.and_eq_true] at hbb
                  obtain ⟨rfl, rfl⟩ := hbb
                  have HY := Lib.hid (convS_yes HALL.out HNE.out HV.out HT2.out)
                  obtain ⟨⟨vn0, vn1⟩, vd0, vd1⟩ := val_small O6.out HV.out
                  obtain ⟨⟨tn0, tn1⟩, td0, td1⟩ := val_small O6.out HT2.out
                  clear HV HT2
                  obtain ⟨N1, rfl⟩ : ∃ N : Nat, vn = N := ⟨vn.toNat, by omega⟩
                  obtain ⟨D1, rfl⟩ : ∃ N : Nat, vd = N := ⟨vd.toNat, by omega⟩
                  obtain ⟨N2, rfl⟩ : ∃ N : Nat, tn = N := ⟨tn.toNat, by omega⟩
                  obtain ⟨D2, rfl⟩ : ∃ N : Nat, td = N := ⟨td.toNat, by omega⟩
                  have hK : N1 * D2 ≤ 1000000 * 1000000 := Nat.mul_le_mul (by omega) (by omega)
                  have hM : D1 * N2 ≤ 1000000 * 1000000 := Nat.mul_le_mul (by omega) (by omega)
                  have hM1 : 1 ≤ D1 * N2 := Nat.mul_pos (by omega) (by omega)
                  have hmul : D1 * N2 * u.toNat < 9223372036854775808 := by
                    have : D1 * N2 * u.toNat ≤ 1000000 * 1000000 * 100000 := Nat.mul_le_mul hM (by omega)
                    omega
                  have hcast : (N1 : Int) * (D2 : Int) = ((N1 * D2 : Nat) : Int) := mulN N1 D2
                  have hcast2 : (D1 : Int) * (N2 : Int) = ((D1 * N2 : Nat) : Int) := mulN D1 N2
                  have hw1 : IntKind.u64.wrap ((N1 : Int) * (D2 : Int)) = ((N1 * D2 : Nat) : Int) := by rw [mulN]; exact wrapN _ (by omega)
                  have hw2 : IntKind.u64.wrap ((D1 : Int) * (N2 : Int)) = ((D1 * N2 : Nat) : Int) := by rw [mulN]; exact wrapN _ (by omega)
                  have hy := HY.out
                  rw [hcast, hcast2] at hy
                  obtain ⟨K, hKe⟩ : ∃ K, N1 * D2 = K := ⟨_, rfl⟩
                  obtain ⟨M, hMe⟩ : ∃ M, D1 * N2 = M := ⟨_, rfl⟩
                  rw [hKe] at hK hw1 hy
                  rw [hMe] at hM hM1 hmul hw2 hy
                  clear hKe hMe hcast hcast2
                  have hsg : sgnN (decide (x < 0)) (x.natAbs * K) = x * (K : Int) := sgn_mul x K
                  obtain ⟨nn, hnn⟩ : ∃ nn, x.natAbs = nn := ⟨_, rfl⟩
                  have hSZ := fun W => money_size x W (by omega) (by omega)
                  have hnb : nn ≤ 1000000000000 := by omega
                  rw [hnn] at hSZ hsg
                  clear hnn
                  have hPL : nn * K < 18446744073709551616 * 18446744073709551616 := Nat.mul_lt_mul'' (by omega) (by omega)
                  have hMU := fun W => mul64 nn K (by omega) (by omega) W
                  have hWN : wideN (nn * K / 18446744073709551616) (nn * K % 18446744073709551616) = nn * K := by unfold wideN; omega
                  have hhb : nn * K / 18446744073709551616 < 18446744073709551616 := Nat.div_lt_of_lt_mul hPL
                  have hlb : nn * K % 18446744073709551616 < 18446744073709551616 := Nat.mod_lt _ (by decide)
                  obtain ⟨hi, hhi⟩ : ∃ hi, nn * K / 18446744073709551616 = hi := ⟨_, rfl⟩
                  obtain ⟨lo, hlo⟩ : ∃ lo, nn * K % 18446744073709551616 = lo := ⟨_, rfl⟩
                  rw [hhi] at hMU hWN hhb
                  rw [hlo] at hMU hWN hlb
                  clear hhi hlo
                  rw [← hWN] at hsg
                  clear hWN hPL
                  obtain ⟨A, E, hAE⟩ : ∃ A E, rnd m u (x * (K : Int)) (M : Int) = (A, E) := ⟨_, _, rfl⟩
                  have hR : Rnd m u (x * (K : Int)) (M : Int) = .returned (.tuple #[.int .i64 A, .int .i64 E]) := by unfold Rnd; rw [hAE]; rfl
                  rw [hAE] at hy
                  have HF := Lib.hid hy
                  have hDV := fun W => money_divide (decide (x < 0)) hi lo M m u W O5.out (by omega) (by omega) hmul
                  rw [hsg, hR] at hDV
                  have HSZ := Lib.hid hSZ
                  have HMU := Lib.hid hMU
                  have HDV := Lib.hid hDV
                  clear hmul hAE hR hsg hSZ hMU hDV hM1 hnb hhb hlb hy HY
                  have p1 : IntKind.u64.wrap (N1 : Int) = (N1 : Int) := wrapN N1 (by omega)
                  have p2 : IntKind.u64.wrap (D2 : Int) = (D2 : Int) := wrapN D2 (by omega)
                  have R6 := Lib.hid (R5.out.alloc (.cells #[.int .i64 (N2 : Int), .int .i64 (D2 : Int)] 51))
                  have V6 := Lib.hid (V5.out.alloc (.cells #[.int .i64 (N2 : Int), .int .i64 (D2 : Int)] 51))
                  have X6 := Lib.hid (Bx.made w5 51 #[.int .i64 (N2 : Int), .int .i64 (D2 : Int)] rfl)
                  have k0 : ∀ x : BW (w5.alloc (.cells #[.int .i64 (N2 : Int), .int .i64 (D2 : Int)] 51)), x.val.cell? ⟨w.heap.size, 0, none⟩ = some (.int .i64 m) := BW.cells R6.out 0
                  have k1 : ∀ x : BW (w5.alloc (.cells #[.int .i64 (N2 : Int), .int .i64 (D2 : Int)] 51)), x.val.cell? ⟨w.heap.size, 1, none⟩ = some (.int .i64 u) := BW.cells R6.out 1
                  have k2 : ∀ x : BW (w5.alloc (.cells #[.int .i64 (N2 : Int), .int .i64 (D2 : Int)] 51)), x.val.cell? ⟨w4.heap.size, 0, none⟩ = some (.int .i64 (N1 : Int)) := BW.cells V6.out 0
                  have k3 : ∀ x : BW (w5.alloc (.cells #[.int .i64 (N2 : Int), .int .i64 (D2 : Int)] 51)), x.val.cell? ⟨w4.heap.size, 1, none⟩ = some (.int .i64 (D1 : Int)) := BW.cells V6.out 1
                  have k4 : ∀ x : BW (w5.alloc (.cells #[.int .i64 (N2 : Int), .int .i64 (D2 : Int)] 51)), x.val.cell? ⟨w5.heap.size, 0, none⟩ = some (.int .i64 (N2 : Int)) := BW.cells X6.out 0
                  have k5 : ∀ x : BW (w5.alloc (.cells #[.int .i64 (N2 : Int), .int .i64 (D2 : Int)] 51)), x.val.cell? ⟨w5.heap.size, 1, none⟩ = some (.int .i64 (D2 : Int)) := BW.cells X6.out 1
                  go_wp2
                  refine wp_region_below (by kernel_rfl) (by kernel_rfl) ?_
                  repeat (go_big_quiet_step (((first | (go_at_call 48; exact bq_same (HSZ.out _)) | (go_at_call 50; exact bq_same (HMU.out _))))))
                  refine wpQuiet_nil ?_
                  intro w7 hw'
                  obtain ⟨⟨_, hb7⟩, rfl⟩ := hw'
                  have HB7 := Lib.hid (below_then HB6.out hb7)
                  obtain ⟨y0, z0⟩ := (R6.out.below hb7).of
                  obtain ⟨y1, z1⟩ := (V6.out.below hb7).of
                  obtain ⟨y2, z2⟩ := (X6.out.below hb7).of
                  clear hb7 k0 k1 k2 k3 k4 k5
                  go_wp2_with fail
                  refine (HDV.out _).mono ?_
                  rintro e w8 ⟨rfl, hb8⟩
                  have HB8 := Lib.hid (below_then (w := w) HB7.out hb8)
                  go_wp2
                  go_ret2
                  exact ⟨by rw [HF.out]; rfl, HB8.out⟩
                · have HF := Lib.hid (convS_none HALL.out HNE.out HV.out HT2.out hbb)
                  have HBB := Lib.hid hbb
                  clear hbb
                  rcases Bool.eq_false_or_eq_true vb with hv1 | hv1
                  · have ht1 : tb = false := by have := HBB.out; rw [hv1] at this; simpa using this
                    subst hv1 ht1
                    go_wp2
                    go_ret2
                    exact ⟨by rw [HF.out]; rfl, HB6.out⟩
                  · subst hv1
                    go_wp2
                    go_ret2
                    exact ⟨by rw [HF.out]; rfl, HB6.out⟩
            · obtain ⟨ce, hce⟩ : ∃ ce, chkS l = ce := ⟨_, rfl⟩
              rw [hce] at h6c
              have hcb : (ce != 0) = true := bne_iff_ne.2 (by rw [← hce]; exact h6)
              have HN6 := Lib.hid h6
              clear hce h6
              have H6C := Lib.hid h6c
              clear h6c
              go_wp2_with fail
              refine H6C.out.mono ?_
              rintro e w3 ⟨rfl, hb3⟩
              have HB3 := Lib.hid (below_then HB2.out hb3)
              have R3 := Lib.hid (R2.out.below hb3)
              have T3 := Lib.hid (HT.out.below HB3.out)
              clear hb3
              have HF := Lib.hid (convS_bad (x := x) (f := f) (t := t) (a := a) (l := l) (m := m) (u := u) (convB_6 HN6.out))
              have hBf := HB3.out
              go_wp2
              go_ret2
              exact ⟨by rw [HF.out]; rfl, (by repeat (first | (with_reducible exact Below.refl _ _) | (with_reducible assumption) | (with_reducible refine below_drewN ?_ _) | (with_reducible refine Below.drew ?_) | (with_reducible refine Below.alloc ?_ ?_ _) | (with_reducible refine Below.setCell ?_ ?_ _) | exact Below.refl _ _ | assumption | (solve | omega | simp | (simp; omega))))⟩
          · rw [h5] at h5c
            have H5C := Lib.hid h5c
            clear h5c
            go_wp2_with fail
            refine (H5C.out _).mono ?_
            rintro e w2 ⟨rfl, hb2⟩
            have HB2 := Lib.hid (below_then HB1.out hb2)
            have R2 := Lib.hid (R1.out.below hb2)
            clear hb2 rc1 rf1
            have HF := Lib.hid (convS_bad (x := x) (f := f) (t := t) (a := a) (l := l) (m := m) (u := u) (convB_5 h5))
            have hBf := HB2.out
            go_wp2
            go_ret2
            exact ⟨by rw [HF.out]; rfl, (by repeat (first | (with_reducible exact Below.refl _ _) | (with_reducible assumption) | (with_reducible refine below_drewN ?_ _) | (with_reducible refine Below.drew ?_) | (with_reducible refine Below.alloc ?_ ?_ _) | (with_reducible refine Below.setCell ?_ ?_ _) | exact Below.refl _ _ | assumption | (solve | omega | simp | (simp; omega))))⟩
        · rw [h4] at h4c
          have H4C := Lib.hid h4c
          clear h4c
          go_wp2_with fail
          refine (H4C.out _).mono ?_
          rintro e w1 ⟨rfl, hb1⟩
          have HB1 := Lib.hid (below_then (w := w) (by repeat (first | (with_reducible exact Below.refl _ _) | (with_reducible assumption) | (with_reducible refine below_drewN ?_ _) | (with_reducible refine Below.drew ?_) | (with_reducible refine Below.alloc ?_ ?_ _) | (with_reducible refine Below.setCell ?_ ?_ _) | exact Below.refl _ _ | assumption | (solve | omega | simp | (simp; omega)))) hb1)
          have R1 := Lib.hid ((Bx.made w 65 #[.int .i64 m, .int .i64 u] rfl).below hb1)
          have HF := Lib.hid (convS_bad (x := x) (f := f) (t := t) (a := a) (l := l) (m := m) (u := u) (convB_4 h4))
          have hBf := HB1.out
          go_wp2
          go_ret2
          exact ⟨by rw [HF.out]; rfl, (by repeat (first | (with_reducible exact Below.refl _ _) | (with_reducible assumption) | (with_reducible refine below_drewN ?_ _) | (with_reducible refine Below.drew ?_) | (with_reducible refine Below.alloc ?_ ?_ _) | (with_reducible refine Below.setCell ?_ ?_ _) | exact Below.refl _ _ | assumption | (solve | omega | simp | (simp; omega))))⟩
      · rw [h3] at h3c
        have H3C := Lib.hid h3c
        clear h3c
        go_wp2_with fail
        refine (H3C.out _).mono ?_
        rintro e _ ⟨rfl, rfl⟩
        have HF := Lib.hid (convS_bad (x := x) (f := f) (t := t) (a := a) (l := l) (m := m) (u := u) (convB_3 h3))
        go_wp2
        go_ret2
        exact ⟨by rw [HF.out]; rfl, (by repeat (first | (with_reducible exact Below.refl _ _) | (with_reducible assumption) | (with_reducible refine below_drewN ?_ _) | (with_reducible refine Below.drew ?_) | (with_reducible refine Below.alloc ?_ ?_ _) | (with_reducible refine Below.setCell ?_ ?_ _) | exact Below.refl _ _ | assumption | (solve | omega | simp | (simp; omega))))⟩
    · rw [h2] at h2c
      have H2C := Lib.hid h2c
      clear h2c
      go_wp2_with fail
      refine (H2C.out _).mono ?_
      rintro e _ ⟨rfl, rfl⟩
      have HF := Lib.hid (convS_bad (x := x) (f := f) (t := t) (a := a) (l := l) (m := m) (u := u) (convB_2 h2))
      go_wp2
      go_ret2
      exact ⟨by rw [HF.out]; rfl, (by repeat (first | (with_reducible exact Below.refl _ _) | (with_reducible assumption) | (with_reducible refine below_drewN ?_ _) | (with_reducible refine Below.drew ?_) | (with_reducible refine Below.alloc ?_ ?_ _) | (with_reducible refine Below.setCell ?_ ?_ _) | exact Below.refl _ _ | assumption | (solve | omega | simp | (simp; omega))))⟩
  · rw [h1] at h1c
    have H1C := Lib.hid h1c
    clear h1c
    go_wp2_with fail
    refine (H1C.out _).mono ?_
    rintro e _ ⟨rfl, rfl⟩
    have HF := Lib.hid (convS_bad (x := x) (f := f) (t := t) (a := a) (l := l) (m := m) (u := u) (convB_1 h1))
    go_wp2
    go_ret2
    exact ⟨by rw [HF.out]; rfl, (by repeat (first | (with_reducible exact Below.refl _ _) | (with_reducible assumption) | (with_reducible refine below_drewN ?_ _) | (with_reducible refine Below.drew ?_) | (with_reducible refine Below.alloc ?_ ?_ _) | (with_reducible refine Below.setCell ?_ ?_ _) | exact Below.refl _ _ | assumption | (solve | omega | simp | (simp; omega))))⟩

set_option maxRecDepth 100000 in
set_option maxHeartbeats 8000000 in
theorem ref_Convert (x f t a m u : Int) (v : Value) (l : List Rt) (w : World) (hT : Tab w v l) :
    Calls Try.prog 36 #[.int .i64 x, .int .i64 f, .int .i64 t, .int .i64 a, v, .agg #[.int .i64 m, .int .i64 u]] w fun e w' => e = IE (convS x f t a l m u) ∧ Below w.heap.size w w' := by
  have HT := Lib.hid hT
  clear hT
  go_enter Try.func36, Try.ntmps36
  have h1c := fun W => ref_ValidAmount x W
  rcases Bool.eq_false_or_eq_true (inB (-1000000000000) 1000000000000 x) with h1 | h1
  · rw [h1] at h1c
    have H1C := Lib.hid h1c
    clear h1c
    go_wp2_with fail
    refine (H1C.out _).mono ?_
    rintro e _ ⟨rfl, rfl⟩
    have O1 := Lib.hid h1
    obtain ⟨x0, x1⟩ := inB_iff.1 h1
    clear h1
    have h2c := fun W => ref_validCurrency f W
    rcases Bool.eq_false_or_eq_true (inB 1 999 f) with h2 | h2
    · rw [h2] at h2c
      have H2C := Lib.hid h2c
      clear h2c
      go_wp2_with fail
      refine (H2C.out _).mono ?_
      rintro e _ ⟨rfl, rfl⟩
      have O2 := Lib.hid h2
      clear h2
      have h3c := fun W => ref_validCurrency t W
      rcases Bool.eq_false_or_eq_true (inB 1 999 t) with h3 | h3
      · rw [h3] at h3c
        have H3C := Lib.hid h3c
        clear h3c
        go_wp2_with fail
        refine (H3C.out _).mono ?_
        rintro e _ ⟨rfl, rfl⟩
        have O3 := Lib.hid h3
        clear h3
        have h4c := fun W => ref_ValidMonth a W
        rcases Bool.eq_false_or_eq_true (inB 0 2399 a) with h4 | h4
        · rw [h4] at h4c
          have H4C := Lib.hid h4c
          clear h4c
          go_wp2_with fail
          refine (H4C.out _).mono ?_
          rintro e _ ⟨rfl, rfl⟩
          have HB1 : Hid (Below w.heap.size w (w.alloc (.cells #[.int .i64 m, .int .i64 u] 65))) := Lib.hid (by repeat (first | (with_reducible exact Below.refl _ _) | (with_reducible assumption) | (with_reducible refine below_drewN ?_ _) | (with_reducible refine Below.drew ?_) | (with_reducible refine Below.alloc ?_ ?_ _) | (with_reducible refine Below.setCell ?_ ?_ _) | exact Below.refl _ _ | assumption | (solve | omega | simp | (simp; omega))))
          have R1 := Lib.hid (Bx.made w 65 #[.int .i64 m, .int .i64 u] rfl)
          have O4 := Lib.hid h4
          clear h4
          have h5c := fun W => ref_ValidRounding m u W
          rcases Bool.eq_false_or_eq_true (validR m u) with h5 | h5
          · rw [h5] at h5c
            have H5C := Lib.hid h5c
            clear h5c
            go_wp2_with fail
            refine (H5C.out _).mono ?_
            rintro e w2 ⟨rfl, hb2⟩
            have HB2 := Lib.hid (below_then HB1.out hb2)
            have R2 := Lib.hid (R1.out.below hb2)
            clear hb2
            have O5 := Lib.hid h5
            obtain ⟨m0, m1, u0, u1⟩ := validR_iff.1 h5
            clear h5
            have h6c := ref_CheckRates (HT.out.below HB2.out)
            by_cases h6 : chkS l = 0
            · rw [h6] at h6c
              have H6C := Lib.hid h6c
              clear h6c
              go_wp2_with fail
              refine H6C.out.mono ?_
              rintro e w3 ⟨rfl, hb3⟩
              have HB3 := Lib.hid (below_then HB2.out hb3)
              have R3 := Lib.hid (R2.out.below hb3)
              have T3 := Lib.hid (HT.out.below HB3.out)
              clear hb3
              have HALL := Lib.hid (convB_all O1.out O2.out O3.out O4.out O5.out h6)
              have O6 := Lib.hid h6
              clear h6
              by_cases hft : f = t
              · have HSM := Lib.hid (convS_same HALL.out hft)
                have HDV : Hid (∀ W, Calls Try.prog 55 #[.bool (decide (x < 0)), .agg #[.int .u64 (0 : Int), .int .u64 (x.natAbs : Int)], .int .u64 (1 : Int), .agg #[.int .i64 m, .int .i64 u]] W fun e w' => e = Rnd m u (sgnN (decide (x < 0)) (wideN 0 x.natAbs)) 1 ∧ Below W.heap.size W w') := Lib.hid fun W => ref_rounded (decide (x < 0)) 0 x.natAbs 1 m u W O5.out (by omega) (by omega) (by omega) (by omega)
                obtain ⟨A, E, hAE⟩ : ∃ A E, rnd m u x 1 = (A, E) := ⟨_, _, rfl⟩
                have hR : Rnd m u x 1 = .returned (.tuple #[.int .i64 A, .int .i64 E]) := by unfold Rnd; rw [hAE]; rfl
                rw [sgn_nat, hR] at HDV
                have HF : Hid (convS x f t a l m u = (A, E)) := Lib.hid (by rw [HSM.out, hAE])
                have hfb : (f == t) = true := beq_iff_eq.2 hft
                clear hft hAE hR
                have cm2 : ∀ x : BW w3, x.val.cell? ⟨w.heap.size, 0, none⟩ = some (.int .i64 m) := BW.cells R3.out 0
                have cu2 : ∀ x : BW w3, x.val.cell? ⟨w.heap.size, 1, none⟩ = some (.int .i64 u) := BW.cells R3.out 1
                go_wp2
                refine wp_region_below (by kernel_rfl) (by kernel_rfl) ?_
                repeat (go_big_quiet_step (((first | (go_at_call 56; refine bq_same (ref_size x _ ?_ ?_) <;> omega) | (go_at_call 55; exact bq_below (HDV.out _))))))
                refine wpQuiet_nil ?_
                intro w9 hw'
                obtain ⟨⟨_, hb9⟩, rfl⟩ := hw'
                have HB9 := Lib.hid (below_then HB3.out hb9)
                go_wp2
                go_ret2
                exact ⟨by rw [HF.out]; rfl, HB9.out⟩
              · have hfb : (f == t) = false := beq_eq_false_iff_ne.2 hft
                have HNE := Lib.hid hft
                clear hft
                obtain ⟨vn, vd, vb, hv⟩ : ∃ n d b, valS l f a = (n, d, b) := ⟨_, _, _, rfl⟩
                obtain ⟨tn, td, tb, ht⟩ : ∃ n d b, valS l t a = (n, d, b) := ⟨_, _, _, rfl⟩
                have hva := ref_RateAtT T3.out f a
                rw [hv] at hva
                have HVA : Hid (Calls Try.prog 57 #[v, .int .i64 f, .int .i64 a] w3 fun e w' => e = .returned (.tuple #[.agg #[.int .i64 vn, .int .i64 vd], .bool vb]) ∧ Below w3.heap.size w3 w') := Lib.hid hva
                have HV := Lib.hid hv
                have HT2 := Lib.hid ht
                clear hva hv ht
                go_wp2_with fail
                refine HVA.out.mono ?_
                rintro e w4 ⟨rfl, hb4⟩
                have HB4 := Lib.hid (below_then HB3.out hb4)
                have hB4 := HB4.out
                have hs4 := hB4.size
                have HB4' : Hid (Below w.heap.size w (w4.alloc (.cells #[.int .i64 vn, .int .i64 vd] 51))) := Lib.hid (by repeat (first | (with_reducible exact Below.refl _ _) | (with_reducible assumption) | (with_reducible refine below_drewN ?_ _) | (with_reducible refine Below.drew ?_) | (with_reducible refine Below.alloc ?_ ?_ _) | (with_reducible refine Below.setCell ?_ ?_ _) | exact Below.refl _ _ | assumption | (solve | omega | simp | (simp; omega))))
                have htb := ref_RateAtT (HT.out.below HB4'.out) t a
                rw [HT2.out] at htb
                have HTB : Hid (Calls Try.prog 57 #[v, .int .i64 t, .int .i64 a] (w4.alloc (.cells #[.int .i64 vn, .int .i64 vd] 51)) fun e w' => e = .returned (.tuple #[.agg #[.int .i64 tn, .int .i64 td], .bool tb]) ∧ Below (w4.alloc (.cells #[.int .i64 vn, .int .i64 vd] 51)).heap.size (w4.alloc (.cells #[.int .i64 vn, .int .i64 vd] 51)) w') := Lib.hid htb
                have R4 := Lib.hid ((R3.out.below hb4).alloc (.cells #[.int .i64 vn, .int .i64 vd] 51))
                clear htb hb4
                go_wp2_with fail
                refine HTB.out.mono ?_
                rintro e w5 ⟨rfl, hb5⟩
                have HB5 := Lib.hid (below_then HB4'.out hb5)
                have R5 := Lib.hid (R4.out.below hb5)
                have V5 := Lib.hid ((Bx.made w4 51 #[.int .i64 vn, .int .i64 vd] rfl).below hb5)
                have hB5 := HB5.out
                have hs5 := hB5.size
                have HB6 : Hid (Below w.heap.size w (w5.alloc (.cells #[.int .i64 tn, .int .i64 td] 51))) := Lib.hid (by repeat (first | (with_reducible exact Below.refl _ _) | (with_reducible assumption) | (with_reducible refine below_drewN ?_ _) | (with_reducible refine Below.drew ?_) | (with_reducible refine Below.alloc ?_ ?_ _) | (with_reducible refine Below.setCell ?_ ?_ _) | exact Below.refl _ _ | assumption | (solve | omega | simp | (simp; omega))))
                clear hb5 hB4 hB5 hs4 hs5
                rcases Bool.eq_false_or_eq_true (vb && tb) with hbb | hbb
                · rw [Bool.and_eq_true] at hbb
                  obtain ⟨rfl, rfl⟩ := hbb
                  have HY := Lib.hid (convS_yes HALL.out HNE.out HV.out HT2.out)
                  obtain ⟨⟨vn0, vn1⟩, vd0, vd1⟩ := val_small O6.out HV.out
                  obtain ⟨⟨tn0, tn1⟩, td0, td1⟩ := val_small O6.out HT2.out
                  clear HV HT2
                  obtain ⟨N1, rfl⟩ : ∃ N : Nat, vn = N := ⟨vn.toNat, by omega⟩
                  obtain ⟨D1, rfl⟩ : ∃ N : Nat, vd = N := ⟨vd.toNat, by omega⟩
                  obtain ⟨N2, rfl⟩ : ∃ N : Nat, tn = N := ⟨tn.toNat, by omega⟩
                  obtain ⟨D2, rfl⟩ : ∃ N : Nat, td = N := ⟨td.toNat, by omega⟩
                  have hK : N1 * D2 ≤ 1000000 * 1000000 := Nat.mul_le_mul (by omega) (by omega)
                  have hM : D1 * N2 ≤ 1000000 * 1000000 := Nat.mul_le_mul (by omega) (by omega)
                  have hM1 : 1 ≤ D1 * N2 := Nat.mul_pos (by omega) (by omega)
                  have hmul : D1 * N2 * u.toNat < 9223372036854775808 := by
                    have : D1 * N2 * u.toNat ≤ 1000000 * 1000000 * 100000 := Nat.mul_le_mul hM (by omega)
                    omega
                  have hcast : (N1 : Int) * (D2 : Int) = ((N1 * D2 : Nat) : Int) := mulN N1 D2
                  have hcast2 : (D1 : Int) * (N2 : Int) = ((D1 * N2 : Nat) : Int) := mulN D1 N2
                  have hw1 : IntKind.u64.wrap ((N1 : Int) * (D2 : Int)) = ((N1 * D2 : Nat) : Int) := by rw [mulN]; exact wrapN _ (by omega)
                  have hw2 : IntKind.u64.wrap ((D1 : Int) * (N2 : Int)) = ((D1 * N2 : Nat) : Int) := by rw [mulN]; exact wrapN _ (by omega)
                  have hy := HY.out
                  rw [hcast, hcast2] at hy
                  obtain ⟨K, hKe⟩ : ∃ K, N1 * D2 = K := ⟨_, rfl⟩
                  obtain ⟨M, hMe⟩ : ∃ M, D1 * N2 = M := ⟨_, rfl⟩
                  rw [hKe] at hK hw1 hy
                  rw [hMe] at hM hM1 hmul hw2 hy
                  clear hKe hMe hcast hcast2
                  have hsg : sgnN (decide (x < 0)) (x.natAbs * K) = x * (K : Int) := sgn_mul x K
                  obtain ⟨nn, hnn⟩ : ∃ nn, x.natAbs = nn := ⟨_, rfl⟩
                  have hSZ := fun W => ref_size x W (by omega) (by omega)
                  have hnb : nn ≤ 1000000000000 := by omega
                  rw [hnn] at hSZ hsg
                  clear hnn
                  have hPL : nn * K < 18446744073709551616 * 18446744073709551616 := Nat.mul_lt_mul'' (by omega) (by omega)
                  have hMU := fun W => ref_times nn K W (by omega) (by omega)
                  unfold wideV at hMU
                  have hWN : wideN (nn * K / 18446744073709551616) (nn * K % 18446744073709551616) = nn * K := by unfold wideN; omega
                  have hhb : nn * K / 18446744073709551616 < 18446744073709551616 := Nat.div_lt_of_lt_mul hPL
                  have hlb : nn * K % 18446744073709551616 < 18446744073709551616 := Nat.mod_lt _ (by decide)
                  obtain ⟨hi, hhi⟩ : ∃ hi, nn * K / 18446744073709551616 = hi := ⟨_, rfl⟩
                  obtain ⟨lo, hlo⟩ : ∃ lo, nn * K % 18446744073709551616 = lo := ⟨_, rfl⟩
                  rw [hhi] at hMU hWN hhb
                  rw [hlo] at hMU hWN hlb
                  clear hhi hlo
                  rw [← hWN] at hsg
                  clear hWN hPL
                  obtain ⟨A, E, hAE⟩ : ∃ A E, rnd m u (x * (K : Int)) (M : Int) = (A, E) := ⟨_, _, rfl⟩
                  have hR : Rnd m u (x * (K : Int)) (M : Int) = .returned (.tuple #[.int .i64 A, .int .i64 E]) := by unfold Rnd; rw [hAE]; rfl
                  rw [hAE] at hy
                  have HF := Lib.hid hy
                  have hDV := fun W => ref_rounded (decide (x < 0)) hi lo M m u W O5.out (by omega) (by omega) (by omega) hmul
                  rw [hsg, hR] at hDV
                  have HSZ := Lib.hid hSZ
                  have HMU := Lib.hid hMU
                  have HDV := Lib.hid hDV
                  clear hmul hAE hR hsg hSZ hMU hDV hM1 hnb hhb hlb hy HY
                  have p1 : IntKind.u64.wrap (N1 : Int) = (N1 : Int) := wrapN N1 (by omega)
                  have p2 : IntKind.u64.wrap (D2 : Int) = (D2 : Int) := wrapN D2 (by omega)
                  have R6 := Lib.hid (R5.out.alloc (.cells #[.int .i64 (N2 : Int), .int .i64 (D2 : Int)] 51))
                  have V6 := Lib.hid (V5.out.alloc (.cells #[.int .i64 (N2 : Int), .int .i64 (D2 : Int)] 51))
                  have X6 := Lib.hid (Bx.made w5 51 #[.int .i64 (N2 : Int), .int .i64 (D2 : Int)] rfl)
                  have k0 : ∀ x : BW (w5.alloc (.cells #[.int .i64 (N2 : Int), .int .i64 (D2 : Int)] 51)), x.val.cell? ⟨w.heap.size, 0, none⟩ = some (.int .i64 m) := BW.cells R6.out 0
                  have k1 : ∀ x : BW (w5.alloc (.cells #[.int .i64 (N2 : Int), .int .i64 (D2 : Int)] 51)), x.val.cell? ⟨w.heap.size, 1, none⟩ = some (.int .i64 u) := BW.cells R6.out 1
                  have k2 : ∀ x : BW (w5.alloc (.cells #[.int .i64 (N2 : Int), .int .i64 (D2 : Int)] 51)), x.val.cell? ⟨w4.heap.size, 0, none⟩ = some (.int .i64 (N1 : Int)) := BW.cells V6.out 0
                  have k3 : ∀ x : BW (w5.alloc (.cells #[.int .i64 (N2 : Int), .int .i64 (D2 : Int)] 51)), x.val.cell? ⟨w4.heap.size, 1, none⟩ = some (.int .i64 (D1 : Int)) := BW.cells V6.out 1
                  have k4 : ∀ x : BW (w5.alloc (.cells #[.int .i64 (N2 : Int), .int .i64 (D2 : Int)] 51)), x.val.cell? ⟨w5.heap.size, 0, none⟩ = some (.int .i64 (N2 : Int)) := BW.cells X6.out 0
                  have k5 : ∀ x : BW (w5.alloc (.cells #[.int .i64 (N2 : Int), .int .i64 (D2 : Int)] 51)), x.val.cell? ⟨w5.heap.size, 1, none⟩ = some (.int .i64 (D2 : Int)) := BW.cells X6.out 1
                  go_wp2
                  refine wp_region_below (by kernel_rfl) (by kernel_rfl) ?_
                  repeat (go_big_quiet_step (((first | (go_at_call 56; exact bq_same (HSZ.out _)) | (go_at_call 58; exact bq_below (HMU.out _)) | (go_at_call 55; exact bq_below (HDV.out _))))))
                  refine wpQuiet_nil ?_
                  intro w7 hw'
                  obtain ⟨⟨_, hb7⟩, rfl⟩ := hw'
                  have HB8 := Lib.hid (below_then HB6.out hb7)
                  go_wp2
                  go_ret2
                  exact ⟨by rw [HF.out]; rfl, HB8.out⟩
                · have HF := Lib.hid (convS_none HALL.out HNE.out HV.out HT2.out hbb)
                  have HBB := Lib.hid hbb
                  clear hbb
                  rcases Bool.eq_false_or_eq_true vb with hv1 | hv1
                  · have ht1 : tb = false := by have := HBB.out; rw [hv1] at this; simpa using this
                    subst hv1 ht1
                    go_wp2
                    go_ret2
                    exact ⟨by rw [HF.out]; rfl, HB6.out⟩
                  · subst hv1
                    go_wp2
                    go_ret2
                    exact ⟨by rw [HF.out]; rfl, HB6.out⟩
            · obtain ⟨ce, hce⟩ : ∃ ce, chkS l = ce := ⟨_, rfl⟩
              rw [hce] at h6c
              have hcb : (ce != 0) = true := bne_iff_ne.2 (by rw [← hce]; exact h6)
              have HN6 := Lib.hid h6
              clear hce h6
              have H6C := Lib.hid h6c
              clear h6c
              go_wp2_with fail
              refine H6C.out.mono ?_
              rintro e w3 ⟨rfl, hb3⟩
              have HB3 := Lib.hid (below_then HB2.out hb3)
              have R3 := Lib.hid (R2.out.below hb3)
              have T3 := Lib.hid (HT.out.below HB3.out)
              clear hb3
              have HF := Lib.hid (convS_bad (x := x) (f := f) (t := t) (a := a) (l := l) (m := m) (u := u) (convB_6 HN6.out))
              have hBf := HB3.out
              go_wp2
              go_ret2
              exact ⟨by rw [HF.out]; rfl, (by repeat (first | (with_reducible exact Below.refl _ _) | (with_reducible assumption) | (with_reducible refine below_drewN ?_ _) | (with_reducible refine Below.drew ?_) | (with_reducible refine Below.alloc ?_ ?_ _) | (with_reducible refine Below.setCell ?_ ?_ _) | exact Below.refl _ _ | assumption | (solve | omega | simp | (simp; omega))))⟩
          · rw [h5] at h5c
            have H5C := Lib.hid h5c
            clear h5c
            go_wp2_with fail
            refine (H5C.out _).mono ?_
            rintro e w2 ⟨rfl, hb2⟩
            have HB2 := Lib.hid (below_then HB1.out hb2)
            have R2 := Lib.hid (R1.out.below hb2)
            clear hb2
            have HF := Lib.hid (convS_bad (x := x) (f := f) (t := t) (a := a) (l := l) (m := m) (u := u) (convB_5 h5))
            have hBf := HB2.out
            go_wp2
            go_ret2
            exact ⟨by rw [HF.out]; rfl, (by repeat (first | (with_reducible exact Below.refl _ _) | (with_reducible assumption) | (with_reducible refine below_drewN ?_ _) | (with_reducible refine Below.drew ?_) | (with_reducible refine Below.alloc ?_ ?_ _) | (with_reducible refine Below.setCell ?_ ?_ _) | exact Below.refl _ _ | assumption | (solve | omega | simp | (simp; omega))))⟩
        · rw [h4] at h4c
          have H4C := Lib.hid h4c
          clear h4c
          go_wp2_with fail
          refine (H4C.out _).mono ?_
          rintro e _ ⟨rfl, rfl⟩
          have HB1 : Hid (Below w.heap.size w (w.alloc (.cells #[.int .i64 m, .int .i64 u] 65))) := Lib.hid (by repeat (first | (with_reducible exact Below.refl _ _) | (with_reducible assumption) | (with_reducible refine below_drewN ?_ _) | (with_reducible refine Below.drew ?_) | (with_reducible refine Below.alloc ?_ ?_ _) | (with_reducible refine Below.setCell ?_ ?_ _) | exact Below.refl _ _ | assumption | (solve | omega | simp | (simp; omega))))
          have R1 := Lib.hid (Bx.made w 65 #[.int .i64 m, .int .i64 u] rfl)
          have HF := Lib.hid (convS_bad (x := x) (f := f) (t := t) (a := a) (l := l) (m := m) (u := u) (convB_4 h4))
          have hBf := HB1.out
          go_wp2
          go_ret2
          exact ⟨by rw [HF.out]; rfl, (by repeat (first | (with_reducible exact Below.refl _ _) | (with_reducible assumption) | (with_reducible refine below_drewN ?_ _) | (with_reducible refine Below.drew ?_) | (with_reducible refine Below.alloc ?_ ?_ _) | (with_reducible refine Below.setCell ?_ ?_ _) | exact Below.refl _ _ | assumption | (solve | omega | simp | (simp; omega))))⟩
      · rw [h3] at h3c
        have H3C := Lib.hid h3c
        clear h3c
        go_wp2_with fail
        refine (H3C.out _).mono ?_
        rintro e _ ⟨rfl, rfl⟩
        have HF := Lib.hid (convS_bad (x := x) (f := f) (t := t) (a := a) (l := l) (m := m) (u := u) (convB_3 h3))
        go_wp2
        go_ret2
        exact ⟨by rw [HF.out]; rfl, (by repeat (first | (with_reducible exact Below.refl _ _) | (with_reducible assumption) | (with_reducible refine below_drewN ?_ _) | (with_reducible refine Below.drew ?_) | (with_reducible refine Below.alloc ?_ ?_ _) | (with_reducible refine Below.setCell ?_ ?_ _) | exact Below.refl _ _ | assumption | (solve | omega | simp | (simp; omega))))⟩
    · rw [h2] at h2c
      have H2C := Lib.hid h2c
      clear h2c
      go_wp2_with fail
      refine (H2C.out _).mono ?_
      rintro e _ ⟨rfl, rfl⟩
      have HF := Lib.hid (convS_bad (x := x) (f := f) (t := t) (a := a) (l := l) (m := m) (u := u) (convB_2 h2))
      go_wp2
      go_ret2
      exact ⟨by rw [HF.out]; rfl, (by repeat (first | (with_reducible exact Below.refl _ _) | (with_reducible assumption) | (with_reducible refine below_drewN ?_ _) | (with_reducible refine Below.drew ?_) | (with_reducible refine Below.alloc ?_ ?_ _) | (with_reducible refine Below.setCell ?_ ?_ _) | exact Below.refl _ _ | assumption | (solve | omega | simp | (simp; omega))))⟩
  · rw [h1] at h1c
    have H1C := Lib.hid h1c
    clear h1c
    go_wp2_with fail
    refine (H1C.out _).mono ?_
    rintro e _ ⟨rfl, rfl⟩
    have HF := Lib.hid (convS_bad (x := x) (f := f) (t := t) (a := a) (l := l) (m := m) (u := u) (convB_1 h1))
    go_wp2
    go_ret2
    exact ⟨by rw [HF.out]; rfl, (by repeat (first | (with_reducible exact Below.refl _ _) | (with_reducible assumption) | (with_reducible refine below_drewN ?_ _) | (with_reducible refine Below.drew ?_) | (with_reducible refine Below.alloc ?_ ?_ _) | (with_reducible refine Below.setCell ?_ ?_ _) | exact Below.refl _ _ | assumption | (solve | omega | simp | (simp; omega))))⟩
end Go.Proofs.Ytaifacnpnhcdcaa
