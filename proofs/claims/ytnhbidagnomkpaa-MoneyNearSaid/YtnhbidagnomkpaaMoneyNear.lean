/-
  MoneyNear: for every fraction, rounding and mood the law returns true; there is no condition.
-/
import Derived.Test.YtnhbidagnomkpaaRule
import Derived.Test.YtnhbidagnomkpaaAwake
import Derived.Test.YtnhbidagnomkpaaPostG
import Derived.Test.YtnhbidagnomkpaaNearQ
import Derived.Test.YtnhbidagnomkpaaSub
import Derived.Test.YtnhbidagnomkpaaComp
namespace Go.Proofs.Ytnhbidagnomkpaa
open Go.RowKit Mny Go.WideShapes Go.ChangeShapes Go.ChangeAt

theorem law_ofY (n d mood : Int) (w : World) : Calls Try.prog 14 #[.agg #[.int .i64 n, .int .i64 d], .int .i64 mood] w fun e w' => ∃ f1 f2 : Int, e = .returned (.agg #[.int .i64 f1, .int .i64 f2]) ∧ Below w.heap.size w w' :=
  (law_of n d mood w).mono fun _ _ ⟨h1, h2⟩ => ⟨_, _, h1, h2⟩
theorem law_ruleY (n d mood : Int) (w : World) : Calls Try.prog 15 #[.agg #[.int .i64 n, .int .i64 d], .int .i64 mood] w fun e w' => ∃ f1 f2 : Int, e = .returned (.agg #[.int .i64 f1, .int .i64 f2]) ∧ Below w.heap.size w w' :=
  (law_rule n d mood w).mono fun _ _ ⟨h1, h2⟩ => ⟨_, _, h1, h2⟩
theorem roundS_bad {n d m u A E : Int} (h : roundS n d m u = (A, E)) (he : E ≠ 0) : A = 0 := by
  unfold roundS at h
  split at h
  · unfold rnd at h
    simp only at h
    split at h
    · exact absurd (congrArg Prod.snd h).symm he
    · exact (congrArg Prod.fst h).symm
  · exact (congrArg Prod.fst h).symm
theorem roundS_good {n d m u A : Int} (h : roundS n d m u = (A, 0)) : validF n d = true ∧ validR m u = true ∧ ∃ k, k = units m n (d * u) ∧ A = k * u ∧ -1000000000000 ≤ A ∧ A ≤ 1000000000000 := by
  unfold roundS at h
  split at h
  · rename_i hv
    rw [Bool.and_eq_true] at hv
    obtain ⟨_, _, hu, _⟩ := validR_iff.1 hv.2
    unfold rnd at h
    simp only at h
    split at h
    · rename_i hk
      have hA : units m n (d * u) * u = A := congrArg Prod.fst h
      unfold okU at hk
      simp only [Bool.and_eq_true, decide_eq_true_eq] at hk
      have hb := Int.ediv_mul_le 1000000000000 (b := u) (by omega)
      have a1 := Int.mul_le_mul_of_nonneg_right hk.1 (show 0 ≤ u by omega)
      have a2 := Int.mul_le_mul_of_nonneg_right hk.2 (show 0 ≤ u by omega)
      rw [Int.neg_mul] at a1
      rw [hA] at a1 a2
      exact ⟨hv.1, hv.2, _, rfl, hA.symm, by omega, by omega⟩
    · have h2 : (2 : Int) = 0 := congrArg Prod.snd h
      omega
  · have h2 : (1 : Int) = 0 := congrArg Prod.snd h
    omega
theorem validF_one {n : Int} (h : -1000000000000 ≤ n ∧ n ≤ 1000000000000) : validF n 1 = true := validF_iff.2 ⟨by omega, by omega, by omega, by omega, by simp⟩

set_option maxRecDepth 100000 in
set_option maxHeartbeats 20000000 in
theorem walk_MoneyNear (n d m u mood : Int) (w : World) :
    Calls Try.prog 9 #[.agg #[.int .i64 n, .int .i64 d], .agg #[.int .i64 m, .int .i64 u], .int .i64 mood] w fun e w' => e = .returned (.bool true) ∧ Below w.heap.size w w' := by
  go_enter Try.func9, Try.ntmps9
  go_upto_region 1 with (fail)
  have B1 := Lib.hid ((Bx.made w 23 #[.int .i64 n, .int .i64 d] rfl).alloc (.cells #[.int .i64 m, .int .i64 u] 25))
  have B2 := Lib.hid (Bx.made (w.alloc (.cells #[.int .i64 n, .int .i64 d] 23)) 25 #[.int .i64 m, .int .i64 u] (g := w.heap.size + 1) (by simp))
  have HB0 : Hid (Below w.heap.size w ((w.alloc (.cells #[.int .i64 n, .int .i64 d] 23)).alloc (.cells #[.int .i64 m, .int .i64 u] 25))) := Lib.hid (by repeat (first | (with_reducible exact Below.refl _ _) | (with_reducible assumption) | (with_reducible refine below_drewN ?_ _) | (with_reducible refine Below.drew ?_) | (with_reducible refine Below.alloc ?_ ?_ _) | (with_reducible refine Below.setCell ?_ ?_ _) | exact Below.refl _ _ | assumption | (solve | omega | simp | (simp; omega))))
  generalize hW0 : (w.alloc (.cells #[.int .i64 n, .int .i64 d] 23)).alloc (.cells #[.int .i64 m, .int .i64 u] 25) = W0 at B1 B2 HB0 ⊢
  have HW0 := Lib.hid hW0
  clear hW0
  go_cut [6] (fun a wx => ∃ f1 f2 g1 g2 : Int, Below w.heap.size w wx ∧ Bx wx w.heap.size 23 #[.int .i64 f1, .int .i64 f2] ∧ Bx wx (w.heap.size + 1) 25 #[.int .i64 g1, .int .i64 g2])
  case first =>
    have S0 : Below W0.heap.size W0 W0.drew := (Below.refl _ _).drew
    obtain ⟨c01, r01⟩ := B1.out.of
    obtain ⟨c02, r02⟩ := B2.out.of
    go_region_with (first
      | (go_at_call 14; refine (law_ofY _ _ _ _).mono ?_; rintro e w1 ⟨f1, f2, rfl, hb1⟩; have T1 := below_then (w := W0) (by first | assumption | exact (by repeat (first | (with_reducible exact Below.refl _ _) | (with_reducible assumption) | (with_reducible refine below_drewN ?_ _) | (with_reducible refine Below.drew ?_) | (with_reducible refine Below.alloc ?_ ?_ _) | (with_reducible refine Below.setCell ?_ ?_ _) | exact Below.refl _ _ | assumption | (solve | omega | simp | (simp; omega))))) hb1; obtain ⟨c11, r11⟩ := (B1.out.below T1).of; obtain ⟨c12, r12⟩ := (B2.out.below T1).of)
      | (go_at_call 15; refine (law_ruleY _ _ _ _).mono ?_; rintro e w2 ⟨g1, g2, rfl, hb2⟩; have T2 := below_then (w := W0) (by first | assumption | exact (by repeat (first | (with_reducible exact Below.refl _ _) | (with_reducible assumption) | (with_reducible refine below_drewN ?_ _) | (with_reducible refine Below.drew ?_) | (with_reducible refine Below.alloc ?_ ?_ _) | (with_reducible refine Below.setCell ?_ ?_ _) | exact Below.refl _ _ | assumption | (solve | omega | simp | (simp; omega))))) hb2; obtain ⟨c21, r21⟩ := (B1.out.below T2).of; obtain ⟨c22, r22⟩ := (B2.out.below T2).of))
    all_goals
      have T9 : Below W0.heap.size W0 w2 := by assumption
      have hB9 := below_then HB0.out T9
      go_wp2_with fail
      go_meet
      exact ⟨_, _, _, _, (by repeat (first | (with_reducible exact Below.refl _ _) | (with_reducible assumption) | (with_reducible refine below_drewN ?_ _) | (with_reducible refine Below.drew ?_) | (with_reducible refine Below.alloc ?_ ?_ _) | (with_reducible refine Below.setCell ?_ ?_ _) | exact Below.refl _ _ | assumption | (solve | omega | simp | (simp; omega)))), ((((B1.out.below T9).put 0 _).put 1 _).far (by simp) _).far (by simp) _, ((((B2.out.below T9).far (by simp) _).far (by simp) _).put 0 _).put 1 _⟩
  case rest =>
    obtain ⟨f1, f2, g1, g2, hB, b1, b2⟩ := hcut
    have HB := Lib.hid hB
    have Xf := Lib.hid b1
    have Xr := Lib.hid b2
    clear hB b1 b2 B1 B2 HB0 HW0
    have hszc := HB.out.size
    obtain ⟨A, E, hAE⟩ : ∃ A E, roundS f1 f2 g1 g2 = (A, E) := ⟨_, _, rfl⟩
    have hm := fun W => money_Round f1 f2 g1 g2 W
    rw [hAE] at hm
    have HM : Hid (∀ W, Calls Try.prog 16 #[.agg #[.int .i64 f1, .int .i64 f2], .agg #[.int .i64 g1, .int .i64 g2]] W fun e w' => e = .returned (.tuple #[.int .i64 A, .int .i64 E]) ∧ Below W.heap.size W w') := Lib.hid hm
    clear hm
    have kf0 : wc.cell? ⟨w.heap.size, 0, none⟩ = some (.int .i64 f1) := Xf.out.cell 0
    have kf1 : wc.cell? ⟨w.heap.size, 1, none⟩ = some (.int .i64 f2) := Xf.out.cell 1
    have kr0 : wc.cell? ⟨(w.heap.size + 1), 0, none⟩ = some (.int .i64 g1) := Xr.out.cell 0
    have kr1 : wc.cell? ⟨(w.heap.size + 1), 1, none⟩ = some (.int .i64 g2) := Xr.out.cell 1
    go_wp2_with fail
    refine (HM.out _).mono ?_
    rintro e w3 ⟨rfl, hb⟩
    replace Xf := Lib.hid (Xf.out.below hb)
    replace Xr := Lib.hid (Xr.out.below hb)
    replace HB := Lib.hid (below_then HB.out hb)
    clear hb kf0 kf1 kr0 kr1
    have hszw3 := HB.out.size
    by_cases hE : E = 0
    · subst hE
      obtain ⟨hv, hr, k, hk, hAk, hA1, hA2⟩ := roundS_good hAE
      obtain ⟨m1, m4, u1, u2⟩ := validR_iff.1 hr
      obtain ⟨fd1, fd2, fn1, fn2, _⟩ := validF_iff.1 hv
      have hvA := validF_one ⟨hA1, hA2⟩
      have hsub := fun W => ref_Sub f1 f2 A 1 W hv hvA
      obtain ⟨dn, dd, code, hds⟩ : ∃ a b c, addS f1 f2 (-A) 1 = (a, b, c) := ⟨_, _, _, rfl⟩
      rw [hds] at hsub
      have HSUB : Hid (∀ W, Calls Try.prog 32 #[.agg #[.int .i64 f1, .int .i64 f2], .agg #[.int .i64 A, .int .i64 1]] W fun e w' => e = .returned (.tuple #[.agg #[.int .i64 dn, .int .i64 dd], .int .i64 code]) ∧ Below W.heap.size W w') := Lib.hid hsub
      have hmk := fun W => ref_MakeFraction A 1 W (by omega) (by omega) (by omega) (by omega)
      rw [mkS_one ⟨by omega, by omega⟩] at hmk
      have HMK : Hid (∀ W, Calls Try.prog 31 #[.int .i64 A, .int .i64 1] W fun e w' => e = .returned (.tuple #[.agg #[.int .i64 A, .int .i64 1], .int .i64 0]) ∧ Below W.heap.size W w') := Lib.hid hmk
      have hvg := validF_one (n := g2) ⟨by omega, by omega⟩
      have hmu := fun W => ref_MakeFraction g2 1 W (by omega) (by omega) (by omega) (by omega)
      rw [mkS_one ⟨by omega, by omega⟩] at hmu
      have HMU : Hid (∀ W, Calls Try.prog 31 #[.int .i64 g2, .int .i64 1] W fun e w' => e = .returned (.tuple #[.agg #[.int .i64 g2, .int .i64 1], .int .i64 0]) ∧ Below W.heap.size W w') := Lib.hid hmu
      obtain ⟨h1, h2, hmh, hvh, hhe⟩ := mkS_two ⟨u1, u2⟩
      have hm2 := fun W => ref_MakeFraction g2 2 W (by omega) (by omega) (by omega) (by omega)
      rw [hmh] at hm2
      have HMH : Hid (∀ W, Calls Try.prog 31 #[.int .i64 g2, .int .i64 2] W fun e w' => e = .returned (.tuple #[.agg #[.int .i64 h1, .int .i64 h2], .int .i64 0]) ∧ Below W.heap.size W w') := Lib.hid hm2
      have HNU : Hid (∀ W, Calls Try.prog 33 #[.agg #[.int .i64 g2, .int .i64 1]] W fun e w' => e = .returned (.tuple #[.agg #[.int .i64 (-g2), .int .i64 1], .int .i64 0]) ∧ Below W.heap.size W w') := Lib.hid (fun W => ref_Neg g2 1 W hvg)
      have HNH : Hid (∀ W, Calls Try.prog 33 #[.agg #[.int .i64 h1, .int .i64 h2]] W fun e w' => e = .returned (.tuple #[.agg #[.int .i64 (-h1), .int .i64 h2], .int .i64 0]) ∧ Below W.heap.size W w') := Lib.hid (fun W => ref_Neg h1 h2 W hvh)
      have hrem : A.tmod g2 = 0 := by rw [hAk]; exact Int.mul_tmod_left k g2
      have g2n : (g2 == 0) = false := beq_eq_false_iff_ne.2 (by omega)
      have g2m : ¬ g2 = 0 := by omega
      have HAK := Lib.hid hAk
      have HKU := Lib.hid hk
      have HHE := Lib.hid hhe
      have HDS := Lib.hid hds
      have HVF := Lib.hid hv
      have HVH := Lib.hid hvh
      have HVG := Lib.hid hvg
      clear hsub hmk hmu hmh hm2 hAE hAk hk hhe hds hv hr hvA hvh hvg
      go_wp2_with fail
      refine (HMK.out _).mono ?_
      rintro e w4 ⟨rfl, hb⟩
      replace Xf := Lib.hid (Xf.out.below hb)
      replace Xr := Lib.hid (Xr.out.below hb)
      replace HB := Lib.hid (below_then HB.out hb)
      clear hb
      have hszw4 := HB.out.size
      have kf0 : w4.cell? ⟨w.heap.size, 0, none⟩ = some (.int .i64 f1) := Xf.out.cell 0
      have kf1 : w4.cell? ⟨w.heap.size, 1, none⟩ = some (.int .i64 f2) := Xf.out.cell 1
      have ef : ¬ w.heap.size = w4.heap.size := by have := Xf.out.lt; omega
      have lf : w.heap.size < w4.heap.size := Xf.out.lt
      have er : ¬ (w.heap.size + 1) = w4.heap.size := by have := Xr.out.lt; omega
      have lr : (w.heap.size + 1) < w4.heap.size := Xr.out.lt
      go_wp2_with fail
      refine (HSUB.out _).mono ?_
      rintro e w5 ⟨rfl, hb⟩
      replace Xf := Lib.hid ((Xf.out.alloc _).below hb)
      replace Xr := Lib.hid ((Xr.out.alloc _).below hb)
      have Xx : Hid (Bx w5 w4.heap.size 23 #[.int .i64 A, .int .i64 1]) := Lib.hid ((Bx.made w4 23 #[.int .i64 A, .int .i64 1] rfl).below hb)
      replace HB := Lib.hid (below_then (HB.out.alloc HB.out.size _) hb)
      clear hb kf0 kf1 ef lf er lr
      have hszw5 := HB.out.size
      have ef : ¬ w.heap.size = w5.heap.size := by have := Xf.out.lt; omega
      have lf : w.heap.size < w5.heap.size := Xf.out.lt
      have er : ¬ (w.heap.size + 1) = w5.heap.size := by have := Xr.out.lt; omega
      have lr : (w.heap.size + 1) < w5.heap.size := Xr.out.lt
      have ex : ¬ w4.heap.size = w5.heap.size := by have := Xx.out.lt; omega
      have lx : w4.heap.size < w5.heap.size := Xx.out.lt
      go_wp2_with fail
      refine (law4_awake _).mono ?_
      rintro e w6 ⟨rfl, hb⟩
      replace Xf := Lib.hid ((Xf.out.alloc _).below hb)
      replace Xr := Lib.hid ((Xr.out.alloc _).below hb)
      replace Xx := Lib.hid ((Xx.out.alloc _).below hb)
      have Xd : Hid (Bx w6 w5.heap.size 23 #[.int .i64 dn, .int .i64 dd]) := Lib.hid ((Bx.made w5 23 #[.int .i64 dn, .int .i64 dd] rfl).below hb)
      replace HB := Lib.hid (below_then (HB.out.alloc HB.out.size _) hb)
      clear hb ef lf er lr ex lx
      have hszw6 := HB.out.size
      have kr0 : w6.cell? ⟨(w.heap.size + 1), 0, none⟩ = some (.int .i64 g1) := Xr.out.cell 0
      have kr1 : w6.cell? ⟨(w.heap.size + 1), 1, none⟩ = some (.int .i64 g2) := Xr.out.cell 1
      by_cases hC : code = 0
      · subst hC
        obtain ⟨hvd, hdx⟩ := addS_sub (by omega) HDS.out
        obtain ⟨dd1, dd2, dn1, dn2, _⟩ := validF_iff.1 hvd
        have hh2 := (validF_iff.1 HVH.out).1
        have hca := near_a (u := g2) fd1 dd1 hdx
        have hcb := near_b (u := g2) fd1 dd1 hdx
        have hcc := near_c fd1 dd1 hh2 HHE.out hdx
        have hcg := near_g fd1 dd1 hh2 HHE.out hdx
        have hdn := near_n fd1 dd1 hdx
        have hP : 0 < f2 * g2 := Int.mul_pos (by omega) (by omega)
        have hnb := near_bd (m := g1) (N := f1) (P := f2 * g2) hP ⟨m1, m4⟩
        rw [← HKU.out, show k * (f2 * g2) = A * f2 by rw [HAK.out, Int.mul_assoc, Int.mul_comm f2 g2]] at hnb
        obtain ⟨R, hR⟩ : ∃ R, f1 - A * f2 = R := ⟨_, rfl⟩
        obtain ⟨Q, hQ⟩ : ∃ Q, f2 * g2 = Q := ⟨_, rfl⟩
        rw [hR] at hca hcb hcc hcg hdn hnb
        rw [hQ] at hca hcb hcc hcg hnb hP
        have hc1 := fun W => ref_Compare dn dd g2 1 W
        have hc2 := fun W => ref_Compare (-g2) 1 dn dd W
        have hc3 := fun W => ref_Compare dn dd h1 h2 W
        have hc4 := fun W => ref_Compare (-h1) h2 dn dd W
        rw [compS_yes hvd HVG.out, hca] at hc1
        rw [compS_yes (validF_neg HVG.out) hvd, hcb] at hc2
        rw [compS_yes hvd HVH.out, hcc] at hc3
        rw [compS_yes (validF_neg HVH.out) hvd, hcg] at hc4
        obtain ⟨ca, ha⟩ : ∃ q, sg (R - Q) = q := ⟨_, rfl⟩
        obtain ⟨cb, hb'⟩ : ∃ q, sg (-Q - R) = q := ⟨_, rfl⟩
        obtain ⟨cc, hc'⟩ : ∃ q, sg (2 * R - Q) = q := ⟨_, rfl⟩
        obtain ⟨cg, hg'⟩ : ∃ q, sg (-Q - 2 * R) = q := ⟨_, rfl⟩
        rw [ha] at hc1
        rw [hb'] at hc2
        rw [hc'] at hc3
        rw [hg'] at hc4
        have HC1 : Hid (∀ W, Calls Try.prog 21 #[.agg #[.int .i64 dn, .int .i64 dd], .agg #[.int .i64 g2, .int .i64 1]] W fun e w' => e = .returned (.tuple #[.int .i64 ca, .int .i64 0]) ∧ Below W.heap.size W w') := Lib.hid hc1
        have HC2 : Hid (∀ W, Calls Try.prog 21 #[.agg #[.int .i64 (-g2), .int .i64 1], .agg #[.int .i64 dn, .int .i64 dd]] W fun e w' => e = .returned (.tuple #[.int .i64 cb, .int .i64 0]) ∧ Below W.heap.size W w') := Lib.hid hc2
        have HC3 : Hid (∀ W, Calls Try.prog 21 #[.agg #[.int .i64 dn, .int .i64 dd], .agg #[.int .i64 h1, .int .i64 h2]] W fun e w' => e = .returned (.tuple #[.int .i64 cc, .int .i64 0]) ∧ Below W.heap.size W w') := Lib.hid hc3
        have HC4 : Hid (∀ W, Calls Try.prog 21 #[.agg #[.int .i64 (-h1), .int .i64 h2], .agg #[.int .i64 dn, .int .i64 dd]] W fun e w' => e = .returned (.tuple #[.int .i64 cg, .int .i64 0]) ∧ Below W.heap.size W w') := Lib.hid hc4
        have ia := sg_neg (x := R - Q)
        have ib := sg_neg (x := -Q - R)
        have ic := sg_neg (x := 2 * R - Q)
        have ic2 := sg_le (x := 2 * R - Q)
        have ig := sg_le (x := -Q - 2 * R)
        have ic0 := sg_zero (x := 2 * R - Q)
        have ig0 := sg_zero (x := -Q - 2 * R)
        rw [ha] at ia
        rw [hb'] at ib
        rw [hc'] at ic ic2 ic0
        rw [hg'] at ig ig0
        have jn := sg_nonneg (x := dn)
        have jl := sg_le (x := dn)
        rw [hdn] at jn jl
        rw [sg_nonneg] at jn
        rw [sg_le] at jl
        have HNB := Lib.hid hnb
        have HJ := Lib.hid (And.intro (And.intro jn jl) (And.intro (And.intro ia ib) (And.intro (And.intro ic ic2) (And.intro ig (And.intro ic0 ig0)))))
        clear hvd hdx hca hcb hcc hcg hdn hnb hR hQ hc1 hc2 hc3 hc4 ha hb' hc' hg' ia ib ic ic2 ig ic0 ig0 jn jl kr0 kr1
        have kr0 : w6.cell? ⟨(w.heap.size + 1), 0, none⟩ = some (.int .i64 g1) := Xr.out.cell 0
        have kr1 : w6.cell? ⟨(w.heap.size + 1), 1, none⟩ = some (.int .i64 g2) := Xr.out.cell 1
        go_wp2_with fail
        refine (HMU.out _).mono ?_
        rintro e w7 ⟨rfl, hb⟩
        replace Xf := Lib.hid (Xf.out.below hb)
        replace Xr := Lib.hid (Xr.out.below hb)
        replace Xx := Lib.hid (Xx.out.below hb)
        replace Xd := Lib.hid (Xd.out.below hb)
        replace HB := Lib.hid (below_then HB.out hb)
        clear hb kr0 kr1
        have hszw7 := HB.out.size
        have kr0 : w7.cell? ⟨(w.heap.size + 1), 0, none⟩ = some (.int .i64 g1) := Xr.out.cell 0
        have kr1 : w7.cell? ⟨(w.heap.size + 1), 1, none⟩ = some (.int .i64 g2) := Xr.out.cell 1
        have ef : ¬ w.heap.size = w7.heap.size := by have := Xf.out.lt; omega
        have lf : w.heap.size < w7.heap.size := Xf.out.lt
        have er : ¬ (w.heap.size + 1) = w7.heap.size := by have := Xr.out.lt; omega
        have lr : (w.heap.size + 1) < w7.heap.size := Xr.out.lt
        have ex : ¬ w4.heap.size = w7.heap.size := by have := Xx.out.lt; omega
        have lx : w4.heap.size < w7.heap.size := Xx.out.lt
        have ed : ¬ w5.heap.size = w7.heap.size := by have := Xd.out.lt; omega
        have ld : w5.heap.size < w7.heap.size := Xd.out.lt
        go_wp2_with fail
        refine (HMH.out _).mono ?_
        rintro e w8 ⟨rfl, hb⟩
        replace Xf := Lib.hid ((Xf.out.alloc _).below hb)
        replace Xr := Lib.hid ((Xr.out.alloc _).below hb)
        replace Xx := Lib.hid ((Xx.out.alloc _).below hb)
        replace Xd := Lib.hid ((Xd.out.alloc _).below hb)
        have Xu : Hid (Bx w8 w7.heap.size 23 #[.int .i64 g2, .int .i64 1]) := Lib.hid ((Bx.made w7 23 #[.int .i64 g2, .int .i64 1] rfl).below hb)
        replace HB := Lib.hid (below_then (HB.out.alloc HB.out.size _) hb)
        clear hb kr0 kr1 ef lf er lr ex lx ed ld
        have hszw8 := HB.out.size
        have ku0 : w8.cell? ⟨w7.heap.size, 0, none⟩ = some (.int .i64 g2) := Xu.out.cell 0
        have ku1 : w8.cell? ⟨w7.heap.size, 1, none⟩ = some (.int .i64 1) := Xu.out.cell 1
        have ef : ¬ w.heap.size = w8.heap.size := by have := Xf.out.lt; omega
        have lf : w.heap.size < w8.heap.size := Xf.out.lt
        have er : ¬ (w.heap.size + 1) = w8.heap.size := by have := Xr.out.lt; omega
        have lr : (w.heap.size + 1) < w8.heap.size := Xr.out.lt
        have ex : ¬ w4.heap.size = w8.heap.size := by have := Xx.out.lt; omega
        have lx : w4.heap.size < w8.heap.size := Xx.out.lt
        have ed : ¬ w5.heap.size = w8.heap.size := by have := Xd.out.lt; omega
        have ld : w5.heap.size < w8.heap.size := Xd.out.lt
        have eu : ¬ w7.heap.size = w8.heap.size := by have := Xu.out.lt; omega
        have lu : w7.heap.size < w8.heap.size := Xu.out.lt
        go_wp2_with fail
        refine (HNU.out _).mono ?_
        rintro e w9 ⟨rfl, hb⟩
        replace Xf := Lib.hid ((Xf.out.alloc _).below hb)
        replace Xr := Lib.hid ((Xr.out.alloc _).below hb)
        replace Xx := Lib.hid ((Xx.out.alloc _).below hb)
        replace Xd := Lib.hid ((Xd.out.alloc _).below hb)
        replace Xu := Lib.hid ((Xu.out.alloc _).below hb)
        have Xh : Hid (Bx w9 w8.heap.size 23 #[.int .i64 h1, .int .i64 h2]) := Lib.hid ((Bx.made w8 23 #[.int .i64 h1, .int .i64 h2] rfl).below hb)
        replace HB := Lib.hid (below_then (HB.out.alloc HB.out.size _) hb)
        clear hb ku0 ku1 ef lf er lr ex lx ed ld eu lu
        have hszw9 := HB.out.size
        have kh0 : w9.cell? ⟨w8.heap.size, 0, none⟩ = some (.int .i64 h1) := Xh.out.cell 0
        have kh1 : w9.cell? ⟨w8.heap.size, 1, none⟩ = some (.int .i64 h2) := Xh.out.cell 1
        have ef : ¬ w.heap.size = w9.heap.size := by have := Xf.out.lt; omega
        have lf : w.heap.size < w9.heap.size := Xf.out.lt
        have er : ¬ (w.heap.size + 1) = w9.heap.size := by have := Xr.out.lt; omega
        have lr : (w.heap.size + 1) < w9.heap.size := Xr.out.lt
        have ex : ¬ w4.heap.size = w9.heap.size := by have := Xx.out.lt; omega
        have lx : w4.heap.size < w9.heap.size := Xx.out.lt
        have ed : ¬ w5.heap.size = w9.heap.size := by have := Xd.out.lt; omega
        have ld : w5.heap.size < w9.heap.size := Xd.out.lt
        have eu : ¬ w7.heap.size = w9.heap.size := by have := Xu.out.lt; omega
        have lu : w7.heap.size < w9.heap.size := Xu.out.lt
        have eh : ¬ w8.heap.size = w9.heap.size := by have := Xh.out.lt; omega
        have lh : w8.heap.size < w9.heap.size := Xh.out.lt
        go_wp2_with fail
        refine (HNH.out _).mono ?_
        rintro e w10 ⟨rfl, hb⟩
        replace Xf := Lib.hid ((Xf.out.alloc _).below hb)
        replace Xr := Lib.hid ((Xr.out.alloc _).below hb)
        replace Xx := Lib.hid ((Xx.out.alloc _).below hb)
        replace Xd := Lib.hid ((Xd.out.alloc _).below hb)
        replace Xu := Lib.hid ((Xu.out.alloc _).below hb)
        replace Xh := Lib.hid ((Xh.out.alloc _).below hb)
        have Xl : Hid (Bx w10 w9.heap.size 23 #[.int .i64 (-g2), .int .i64 1]) := Lib.hid ((Bx.made w9 23 #[.int .i64 (-g2), .int .i64 1] rfl).below hb)
        replace HB := Lib.hid (below_then (HB.out.alloc HB.out.size _) hb)
        clear hb kh0 kh1 ef lf er lr ex lx ed ld eu lu eh lh
        have hszw10 := HB.out.size
        have kd0 : w10.cell? ⟨w5.heap.size, 0, none⟩ = some (.int .i64 dn) := Xd.out.cell 0
        have kd1 : w10.cell? ⟨w5.heap.size, 1, none⟩ = some (.int .i64 dd) := Xd.out.cell 1
        have ku0 : w10.cell? ⟨w7.heap.size, 0, none⟩ = some (.int .i64 g2) := Xu.out.cell 0
        have ku1 : w10.cell? ⟨w7.heap.size, 1, none⟩ = some (.int .i64 1) := Xu.out.cell 1
        have ef : ¬ w.heap.size = w10.heap.size := by have := Xf.out.lt; omega
        have lf : w.heap.size < w10.heap.size := Xf.out.lt
        have er : ¬ (w.heap.size + 1) = w10.heap.size := by have := Xr.out.lt; omega
        have lr : (w.heap.size + 1) < w10.heap.size := Xr.out.lt
        have ex : ¬ w4.heap.size = w10.heap.size := by have := Xx.out.lt; omega
        have lx : w4.heap.size < w10.heap.size := Xx.out.lt
        have ed : ¬ w5.heap.size = w10.heap.size := by have := Xd.out.lt; omega
        have ld : w5.heap.size < w10.heap.size := Xd.out.lt
        have eu : ¬ w7.heap.size = w10.heap.size := by have := Xu.out.lt; omega
        have lu : w7.heap.size < w10.heap.size := Xu.out.lt
        have eh : ¬ w8.heap.size = w10.heap.size := by have := Xh.out.lt; omega
        have lh : w8.heap.size < w10.heap.size := Xh.out.lt
        have el : ¬ w9.heap.size = w10.heap.size := by have := Xl.out.lt; omega
        have ll : w9.heap.size < w10.heap.size := Xl.out.lt
        go_wp2_with fail
        refine (HC1.out _).mono ?_
        rintro e w11 ⟨rfl, hb⟩
        replace Xf := Lib.hid ((Xf.out.alloc _).below hb)
        replace Xr := Lib.hid ((Xr.out.alloc _).below hb)
        replace Xx := Lib.hid ((Xx.out.alloc _).below hb)
        replace Xd := Lib.hid ((Xd.out.alloc _).below hb)
        replace Xu := Lib.hid ((Xu.out.alloc _).below hb)
        replace Xh := Lib.hid ((Xh.out.alloc _).below hb)
        replace Xl := Lib.hid ((Xl.out.alloc _).below hb)
        have Xv : Hid (Bx w11 w10.heap.size 23 #[.int .i64 (-h1), .int .i64 h2]) := Lib.hid ((Bx.made w10 23 #[.int .i64 (-h1), .int .i64 h2] rfl).below hb)
        replace HB := Lib.hid (below_then (HB.out.alloc HB.out.size _) hb)
        clear hb kd0 kd1 ku0 ku1 ef lf er lr ex lx ed ld eu lu eh lh el ll
        have hszw11 := HB.out.size
        have kl0 : w11.cell? ⟨w9.heap.size, 0, none⟩ = some (.int .i64 (-g2)) := Xl.out.cell 0
        have kl1 : w11.cell? ⟨w9.heap.size, 1, none⟩ = some (.int .i64 1) := Xl.out.cell 1
        have kd0 : w11.cell? ⟨w5.heap.size, 0, none⟩ = some (.int .i64 dn) := Xd.out.cell 0
        have kd1 : w11.cell? ⟨w5.heap.size, 1, none⟩ = some (.int .i64 dd) := Xd.out.cell 1
        go_wp2_with fail
        refine (HC2.out _).mono ?_
        rintro e w12 ⟨rfl, hb⟩
        replace Xf := Lib.hid (Xf.out.below hb)
        replace Xr := Lib.hid (Xr.out.below hb)
        replace Xx := Lib.hid (Xx.out.below hb)
        replace Xd := Lib.hid (Xd.out.below hb)
        replace Xu := Lib.hid (Xu.out.below hb)
        replace Xh := Lib.hid (Xh.out.below hb)
        replace Xl := Lib.hid (Xl.out.below hb)
        replace Xv := Lib.hid (Xv.out.below hb)
        replace HB := Lib.hid (below_then HB.out hb)
        clear hb kl0 kl1 kd0 kd1
        have hszw12 := HB.out.size
        have kd0 : w12.cell? ⟨w5.heap.size, 0, none⟩ = some (.int .i64 dn) := Xd.out.cell 0
        have kd1 : w12.cell? ⟨w5.heap.size, 1, none⟩ = some (.int .i64 dd) := Xd.out.cell 1
        have kh0 : w12.cell? ⟨w8.heap.size, 0, none⟩ = some (.int .i64 h1) := Xh.out.cell 0
        have kh1 : w12.cell? ⟨w8.heap.size, 1, none⟩ = some (.int .i64 h2) := Xh.out.cell 1
        go_wp2_with fail
        refine (HC3.out _).mono ?_
        rintro e w13 ⟨rfl, hb⟩
        replace Xf := Lib.hid (Xf.out.below hb)
        replace Xr := Lib.hid (Xr.out.below hb)
        replace Xx := Lib.hid (Xx.out.below hb)
        replace Xd := Lib.hid (Xd.out.below hb)
        replace Xu := Lib.hid (Xu.out.below hb)
        replace Xh := Lib.hid (Xh.out.below hb)
        replace Xl := Lib.hid (Xl.out.below hb)
        replace Xv := Lib.hid (Xv.out.below hb)
        replace HB := Lib.hid (below_then HB.out hb)
        clear hb kd0 kd1 kh0 kh1
        have hszw13 := HB.out.size
        have kv0 : w13.cell? ⟨w10.heap.size, 0, none⟩ = some (.int .i64 (-h1)) := Xv.out.cell 0
        have kv1 : w13.cell? ⟨w10.heap.size, 1, none⟩ = some (.int .i64 h2) := Xv.out.cell 1
        have kd0 : w13.cell? ⟨w5.heap.size, 0, none⟩ = some (.int .i64 dn) := Xd.out.cell 0
        have kd1 : w13.cell? ⟨w5.heap.size, 1, none⟩ = some (.int .i64 dd) := Xd.out.cell 1
        go_wp2_with fail
        refine (HC4.out _).mono ?_
        rintro e w14 ⟨rfl, hb⟩
        replace Xf := Lib.hid (Xf.out.below hb)
        replace Xr := Lib.hid (Xr.out.below hb)
        replace Xx := Lib.hid (Xx.out.below hb)
        replace Xd := Lib.hid (Xd.out.below hb)
        replace Xu := Lib.hid (Xu.out.below hb)
        replace Xh := Lib.hid (Xh.out.below hb)
        replace Xl := Lib.hid (Xl.out.below hb)
        replace Xv := Lib.hid (Xv.out.below hb)
        replace HB := Lib.hid (below_then HB.out hb)
        clear hb kv0 kv1 kd0 kd1
        have hszw14 := HB.out.size
        have kr0 : w14.cell? ⟨(w.heap.size + 1), 0, none⟩ = some (.int .i64 g1) := Xr.out.cell 0
        have kr1 : w14.cell? ⟨(w.heap.size + 1), 1, none⟩ = some (.int .i64 g2) := Xr.out.cell 1
        have kd0 : w14.cell? ⟨w5.heap.size, 0, none⟩ = some (.int .i64 dn) := Xd.out.cell 0
        have kd1 : w14.cell? ⟨w5.heap.size, 1, none⟩ = some (.int .i64 dd) := Xd.out.cell 1
        obtain ⟨⟨jn, jl⟩, ⟨ia, ib⟩, ⟨ic, ic2⟩, ig, ic0, ig0⟩ := HJ.out
        obtain ⟨q1, q2, q3, q4⟩ := HNB.out
        have hbz := HB.out
        rcases (by omega : g1 = 1 ∨ g1 = 2 ∨ g1 = 3 ∨ g1 = 4) with rfl | rfl | rfl | rfl
        · obtain ⟨p1, p2⟩ := q1 rfl
          have d1 : decide (0 ≤ dn) = true := decide_eq_true (by omega)
          have d2 : decide (ca < 0) = true := decide_eq_true (by omega)
          clear jn jl ia ib ic ic2 ig ic0 ig0 q1 q2 q3 q4
          go_wp2
          go_ret
          exact ⟨by first | rfl | (simp; done), (by repeat (first | (with_reducible exact Below.refl _ _) | (with_reducible assumption) | (with_reducible refine below_drewN ?_ _) | (with_reducible refine Below.drew ?_) | (with_reducible refine Below.alloc ?_ ?_ _) | (with_reducible refine Below.setCell ?_ ?_ _) | exact Below.refl _ _ | assumption | (solve | omega | simp | (simp; omega))))⟩
        · obtain ⟨p1, p2⟩ := q2 rfl
          have d1 : decide (dn ≤ 0) = true := decide_eq_true (by omega)
          have d2 : decide (cb < 0) = true := decide_eq_true (by omega)
          clear jn jl ia ib ic ic2 ig ic0 ig0 q1 q2 q3 q4
          go_wp2
          go_ret
          exact ⟨by first | rfl | (simp; done), (by repeat (first | (with_reducible exact Below.refl _ _) | (with_reducible assumption) | (with_reducible refine below_drewN ?_ _) | (with_reducible refine Below.drew ?_) | (with_reducible refine Below.alloc ?_ ?_ _) | (with_reducible refine Below.setCell ?_ ?_ _) | exact Below.refl _ _ | assumption | (solve | omega | simp | (simp; omega))))⟩
        · obtain ⟨p1, p2⟩ := q3 rfl
          have d1 : decide (cc < 0) = true := decide_eq_true (by omega)
          have d2 : decide (cg ≤ 0) = true := decide_eq_true (by omega)
          clear jn jl ia ib ic ic2 ig ic0 ig0 q1 q2 q3 q4
          go_wp2
          go_ret
          exact ⟨by first | rfl | (simp; done), (by repeat (first | (with_reducible exact Below.refl _ _) | (with_reducible assumption) | (with_reducible refine below_drewN ?_ _) | (with_reducible refine Below.drew ?_) | (with_reducible refine Below.alloc ?_ ?_ _) | (with_reducible refine Below.setCell ?_ ?_ _) | exact Below.refl _ _ | assumption | (solve | omega | simp | (simp; omega))))⟩
        · obtain ⟨p1, p2, p3⟩ := q4 rfl
          have d1 : decide (cc ≤ 0) = true := decide_eq_true (by omega)
          have d2 : decide (cg ≤ 0) = true := decide_eq_true (by omega)
          have hq : A.tdiv g2 = k := by rw [HAK.out]; exact Int.mul_tdiv_cancel k g2m
          have hkb : k.natAbs = A.natAbs / g2.natAbs := by rw [← hq, Int.natAbs_tdiv]; rfl
          have hkd := Nat.div_le_self A.natAbs g2.natAbs
          have hk1 : -1000000000000 ≤ k := by omega
          have hk2' : k ≤ 1000000000000 := by omega
          clear hkb hkd
          by_cases y1 : cc = 0
          · have d3 : (cc != 0) = false := bne_eq_false_iff_eq.2 y1
            have hk2 : k % 2 = 0 := p3 (by omega)
            have hr2 : k.tmod 2 = 0 := by have := Int.tmod_eq_zero_of_dvd (Int.dvd_of_emod_eq_zero hk2); exact this
            have d6 : (k.tmod 2 == 0) = true := by rw [hr2]; rfl
            clear p3 jn jl ia ib ic ic2 ig ic0 ig0 q1 q2 q3 q4
            go_wp2
            go_ret
            exact ⟨by first | rfl | (simp; done), (by repeat (first | (with_reducible exact Below.refl _ _) | (with_reducible assumption) | (with_reducible refine below_drewN ?_ _) | (with_reducible refine Below.drew ?_) | (with_reducible refine Below.alloc ?_ ?_ _) | (with_reducible refine Below.setCell ?_ ?_ _) | exact Below.refl _ _ | assumption | (solve | omega | simp | (simp; omega))))⟩
          · have d3 : (cc != 0) = true := bne_iff_ne.2 y1
            by_cases y2 : cg = 0
            · have d4 : (cg != 0) = false := bne_eq_false_iff_eq.2 y2
              have hk2 : k % 2 = 0 := p3 (by omega)
              have hr2 : k.tmod 2 = 0 := by have := Int.tmod_eq_zero_of_dvd (Int.dvd_of_emod_eq_zero hk2); exact this
              have d6 : (k.tmod 2 == 0) = true := by rw [hr2]; rfl
              clear p3 jn jl ia ib ic ic2 ig ic0 ig0 q1 q2 q3 q4
              go_wp2
              go_ret
              exact ⟨by first | rfl | (simp; done), (by repeat (first | (with_reducible exact Below.refl _ _) | (with_reducible assumption) | (with_reducible refine below_drewN ?_ _) | (with_reducible refine Below.drew ?_) | (with_reducible refine Below.alloc ?_ ?_ _) | (with_reducible refine Below.setCell ?_ ?_ _) | exact Below.refl _ _ | assumption | (solve | omega | simp | (simp; omega))))⟩
            · have d4 : (cg != 0) = true := bne_iff_ne.2 y2
              clear p3 jn jl ia ib ic ic2 ig ic0 ig0 q1 q2 q3 q4
              go_wp2
              go_ret
              exact ⟨by first | rfl | (simp; done), (by repeat (first | (with_reducible exact Below.refl _ _) | (with_reducible assumption) | (with_reducible refine below_drewN ?_ _) | (with_reducible refine Below.drew ?_) | (with_reducible refine Below.alloc ?_ ?_ _) | (with_reducible refine Below.setCell ?_ ?_ _) | exact Below.refl _ _ | assumption | (solve | omega | simp | (simp; omega))))⟩
      · have c0 : (code != 0) = true := bne_iff_ne.2 hC
        clear hC
        have hbz := HB.out
        go_wp2
        go_ret
        exact ⟨rfl, (by repeat (first | (with_reducible exact Below.refl _ _) | (with_reducible assumption) | (with_reducible refine below_drewN ?_ _) | (with_reducible refine Below.drew ?_) | (with_reducible refine Below.alloc ?_ ?_ _) | (with_reducible refine Below.setCell ?_ ?_ _) | exact Below.refl _ _ | assumption | (solve | omega | simp | (simp; omega))))⟩
    · have c0 : (E != 0) = true := bne_iff_ne.2 hE
      have hA0 := roundS_bad hAE hE
      subst hA0
      clear hAE hE
      go_wp2_with fail
      refine (law4_awake _).mono ?_
      rintro e w4 ⟨rfl, hb⟩
      have HBz := Lib.hid (below_then HB.out hb)
      clear hb
      have hbz := HBz.out
      go_wp2
      go_ret
      exact ⟨by first | rfl | (simp; done), (by repeat (first | (with_reducible exact Below.refl _ _) | (with_reducible assumption) | (with_reducible refine below_drewN ?_ _) | (with_reducible refine Below.drew ?_) | (with_reducible refine Below.alloc ?_ ?_ _) | (with_reducible refine Below.setCell ?_ ?_ _) | exact Below.refl _ _ | assumption | (solve | omega | simp | (simp; omega))))⟩
end Go.Proofs.Ytnhbidagnomkpaa
