/-
  The contract of the program's Deductions.
-/
import Derived.Test.YthpknbflmcoanaaDoorDed
import Derived.Maps.AppendAt
namespace Go.Proofs.YthpknbflmcoanaaDoor
open Go.RowKit Mny

/-- what Deductions returns -/
def dedR (l : List Gr) (rt : List Rt) (m : Int) : List Ded × Int := if dedB l rt m then (dedS l rt m, 0) else ([], 1)
section
variable {l : List Gr} {rt : List Rt} {m : Int}
theorem dedR_1 (h : valG l = false) : dedR l rt m = ([], 1) := by unfold dedR dedB; rw [h]; rfl
theorem dedR_2 (h : inB 0 2399 m = false) : dedR l rt m = ([], 1) := by unfold dedR dedB; rw [h, Bool.false_and, Bool.and_false]; rfl
theorem dedR_3 (h : ¬ chkS rt = 0) : dedR l rt m = ([], 1) := by unfold dedR dedB; rw [decide_eq_false h, Bool.and_false, Bool.and_false]; rfl
theorem dedR_ok (h1 : valG l = true) (h2 : inB 0 2399 m = true) (h3 : chkS rt = 0) : dedR l rt m = (dedS l rt m, 0) := by unfold dedR dedB; rw [h1, h2, decide_eq_true h3]; rfl
end
theorem NumTab.slice {w : World} {v : Value} {zs : List Int} (h : NumTab w v zs) : ∃ A c, v = .slice A zs.length c := by
  rcases h with ⟨A, c, rfl, rfl⟩ | ⟨b, off, n, c, rfl, _, rfl, _⟩
  · exact ⟨_, _, rfl⟩
  · exact ⟨_, _, rfl⟩
/-- the first k cells of this array are slices as long as the lists of reducers -/
def RedsTo (l : List Gr) (ar : Array Value) (k : Nat) : Prop := ∀ x, x < k → ∃ A c, ar[x]? = some (.slice A (redS l (x : Int)).length c)
theorem RedsTo.next {l : List Gr} {ar : Array Value} {k c : Nat} {A : Option Addr} (h : RedsTo l ar k) (hk : k < ar.size) : RedsTo l (ar.setIfInBounds k (.slice A (redS l (k : Int)).length c)) (k + 1) := fun x hx => by
  rw [Array.getElem?_setIfInBounds]
  by_cases e : k = x
  · subst e; rw [if_pos rfl, if_pos hk]; exact ⟨_, _, rfl⟩
  · rw [if_neg e]; exact h x (by omega)
/-- make([]T, n), at any size -/
theorem make_row {P : Program} (W : World) (t e : TypeId) (i : TypeInfo) (z : Value) (ht : P.underlying t = some (.slice e)) (hi : P.info? e = some i) (hz : i.zero = some z) (n : Nat) (hb : i.bytes * n ≤ 281474976710656) (hn : n ≤ 9223372036854775807) :
    (Instr.makeSlice t (.int .i64 (n : Int)) (.int .i64 (n : Int))).run P W = .ok (.slice (some ⟨W.heap.size, 0, none⟩) n n) (W.alloc (.cells (madeCells z.cells (n * i.size)) e)) := by
  have hr := run_make (P := P) W t e i z ht hi hz .i64 .i64 n n (by omega) (by omega) (by rw [← Int.natCast_mul]; omega) (by omega)
  simpa only [Int.toNat_natCast] using hr
theorem cv_bd {rt : List Rt} {m x : Int} {g f : Gr} (h : cvS rt m g f = (x, 0)) : -1000000000000 ≤ x ∧ x ≤ 1000000000000 := by
  unfold cvS at h
  obtain ⟨_, h2⟩ := conv_ok h
  unfold convV at h2
  split at h2
  · exact rnd_bd (by omega) h2
  · split at h2
    · exact rnd_bd (by omega) h2
    · have := congrArg Prod.snd h2
      simp at this
theorem tdiv_bd {x M : Int} (q : Nat) (h : -M ≤ x ∧ x ≤ M) : -M ≤ x.tdiv (q : Int) ∧ x.tdiv (q : Int) ≤ M := by
  have h1 : (x.tdiv (q : Int)).natAbs = x.natAbs / q := by rw [Int.natAbs_tdiv, Int.natAbs_natCast]; rfl
  have h2 := Nat.div_le_self x.natAbs q
  omega
/-- the row of v does not lie in block H -/
def Aside (v : Value) (H : Nat) : Prop := ∀ q, v.ownBlock = some q → q ≠ H
theorem Aside.none {c : Nat} (H : Nat) : Aside (.slice none 0 c) H := fun q h => by simp [Value.ownBlock] at h
theorem Aside.fresh {w : World} {base n size : Nat} {e : TypeId} {v : Value} {xs : List Value} (h : w.ownsRow base e size v n xs) {H : Nat} (hH : w.heap.size ≤ H) : Aside v H := fun q hq => by
  rcases h.2 with ⟨rfl, _⟩ | ⟨g, cap, cur, rfl, _, hh, _⟩
  · simp [Value.ownBlock] at hq
  · simp [Value.ownBlock] at hq
    have := Bx.lt hh
    omega
theorem Aside.at {v v' : Value} {H s : Nat} (h : Aside v H) (hs : H < s) (ha : v'.ownBlock = v.ownBlock ∨ v'.ownBlock = some s) : Aside v' H := fun q hq => by
  rcases ha with ha | ha
  · exact h q (ha ▸ hq)
  · rw [ha] at hq; injection hq with hq; omega
theorem Bx.grown {w w' : World} {H : Nat} {t : TypeId} {cs : Array Value} {v : Value} (h : Bx w H t cs) (hg : w.grownBy w' v.ownBlock) (ha : Aside v H) : Bx w' H t cs :=
  (hg.block H h.lt (fun e => ha H e.symm rfl)).trans h

set_option maxRecDepth 100000 in
set_option maxHeartbeats 16000000 in
theorem red_Deductions1 (l : List Gr) (rt : List Rt) (n b off cc : Nat) (v : Value) (m : Int) (w : World) (hn : l.length = n) (hr : GrossAt w b off l) (hb : b < w.heap.size) (hl : n ≤ cc) (hT : Tab w v rt) (hD : DownAt w) :
    Calls Tryd.prog 29 #[.slice (some ⟨b, off, none⟩) n cc, v, .int .i64 m] w (DedOut w (dedR l rt m).1 (dedR l rt m).2) := by
  have HV := Lib.hid (red_Valid1 l n b off cc w hn hr hb hl)
  have HN := Lib.hid hn
  have HR := Lib.hid hr
  have HT := Lib.hid hT
  have HD := Lib.hid hD
  clear hn hr hT hD
  cases hv : valG l
  · have HF := Lib.hid (dedR_1 (rt := rt) (m := m) hv)
    rw [hv] at HV
    clear hv
    go_enter Tryd.func29, Tryd.ntmps29
    go_wp2_with fail
    refine (HV.out).mono ?_
    rintro e w1 ⟨rfl, hb1⟩
    have HB1 := Lib.hid hb1
    clear hb1
    have hb1 := HB1.out
    go_wp2
    refine bodyPost_ret (v := .tuple #[.slice none 0 0, .int .i64 1]) (by simp [results, Tryd.results29, go_sem]) rfl ⟨.slice none 0 0, by rw [HF.out], .inl ⟨_, _, rfl, by rw [HF.out]⟩, ?_⟩
    exact (by repeat (first | (with_reducible exact Below.refl _ _) | (with_reducible assumption) | (with_reducible refine below_drewN ?_ _) | (with_reducible refine Below.drew ?_) | (with_reducible refine Below.alloc ?_ ?_ _) | (with_reducible refine Below.setCell ?_ ?_ _) | exact Below.refl _ _ | assumption | (solve | omega | simp | (simp; omega))))
  · have HVG := Lib.hid hv
    rw [hv] at HV
    clear hv
    by_cases hm0 : m < 0
    · have m0 : decide (m < 0) = true := decide_eq_true hm0
      have HF := Lib.hid (dedR_2 (l := l) (rt := rt) (show inB 0 2399 m = false by unfold inB; simp; omega))
      clear HVG
      go_enter Tryd.func29, Tryd.ntmps29
      go_wp2_with fail
      refine (HV.out).mono ?_
      rintro e w1 ⟨rfl, hb1⟩
      have HB1 := Lib.hid hb1
      go_wp2
      refine bodyPost_ret (v := .tuple #[.slice none 0 0, .int .i64 1]) (by simp [results, Tryd.results29, go_sem]) rfl ⟨.slice none 0 0, by rw [HF.out], .inl ⟨_, _, rfl, by rw [HF.out]⟩, ?_⟩
      exact (by repeat (first | (with_reducible exact Below.refl _ _) | (with_reducible assumption) | (with_reducible refine below_drewN ?_ _) | (with_reducible refine Below.drew ?_) | (with_reducible refine Below.alloc ?_ ?_ _) | (with_reducible refine Below.setCell ?_ ?_ _) | exact Below.refl _ _ | assumption | (solve | omega | simp | (simp; omega))))
    · have m0 : decide (m < 0) = false := decide_eq_false hm0
      by_cases hm1 : 2399 < m
      · have m1 : decide (2399 < m) = true := decide_eq_true hm1
        have HF := Lib.hid (dedR_2 (l := l) (rt := rt) (show inB 0 2399 m = false by unfold inB; simp; omega))
        clear HVG
        go_enter Tryd.func29, Tryd.ntmps29
        go_wp2_with fail
        refine (HV.out).mono ?_
        rintro e w1 ⟨rfl, hb1⟩
        have HB1 := Lib.hid hb1
        go_wp2
        refine bodyPost_ret (v := .tuple #[.slice none 0 0, .int .i64 1]) (by simp [results, Tryd.results29, go_sem]) rfl ⟨.slice none 0 0, by rw [HF.out], .inl ⟨_, _, rfl, by rw [HF.out]⟩, ?_⟩
        exact (by repeat (first | (with_reducible exact Below.refl _ _) | (with_reducible assumption) | (with_reducible refine below_drewN ?_ _) | (with_reducible refine Below.drew ?_) | (with_reducible refine Below.alloc ?_ ?_ _) | (with_reducible refine Below.setCell ?_ ?_ _) | exact Below.refl _ _ | assumption | (solve | omega | simp | (simp; omega))))
      · have m1 : decide (2399 < m) = false := decide_eq_false hm1
        by_cases hc : chkS rt = 0
        · have HF := Lib.hid (dedR_ok HVG.out (show inB 0 2399 m = true by unfold inB; simp; omega) hc)
          have HC := Lib.hid hc
          have hn18 : n ≤ 18 := by rw [← HN.out]; exact (valG_iff.1 HVG.out).1
          obtain ⟨i0, hi, hz0, hz1, hz2⟩ := info_parts info_nums
          obtain ⟨j0, hj, hy0, hy1, hy2⟩ := info_parts info_ded
          have hmk := fun W => make_row (P := Tryd.prog) W 70 35 i0 (.slice none 0 0) Tryd.underlying70 hi hz0 n (by rw [hz2]; omega) (by omega)
          rw [hz1, Nat.mul_one] at hmk
          obtain ⟨M0, hM0⟩ : ∃ M0, madeCells (Value.slice none 0 0).cells n = M0 := ⟨_, rfl⟩
          have HMS : Hid (M0.size = n) := Lib.hid (by rw [← hM0]; exact size_madeCells _ _)
          rw [hM0] at hmk
          clear hM0
          have hcz : (chkS rt != 0) = false := bne_eq_false_iff_eq.2 hc
          have hcr := fun (W : World) (h : Below w.heap.size w W) => money_CheckRates (HT.out.below h)
          rw [hc] at hcr
          have HCR := Lib.hid hcr
          clear hcr hc hcz
          go_enter Tryd.func29, Tryd.ntmps29
          go_wp2_with fail
          refine (HV.out).mono ?_
          rintro e w1 ⟨rfl, hb1⟩
          have HB1 := Lib.hid hb1
          clear hb1
          go_wp2_with fail
          refine (HCR.out _ HB1.out).mono ?_
          rintro e w2 ⟨rfl, hb2⟩
          have HB2 := Lib.hid (below_then HB1.out hb2)
          clear hb2
          have hs2 := HB2.out.size
          go_wp2
          have X0 := Lib.hid (Bx.made w2 35 M0 rfl)
          go_loopw [39] (fun i wr => ∃ (k : Nat) (ar : Array Value), k ≤ n ∧ i = .int .i64 k ∧ ar.size = n ∧ RedsTo l ar k ∧ Bx wr w2.heap.size 35 ar ∧ Below w.heap.size w wr) (fun i _ => n - (intOf i).toNat)
          case atStart =>
            have hb2 := HB2.out
            exact ⟨0, M0, Nat.zero_le _, rfl, HMS.out, fun x h => absurd h (Nat.not_lt_zero _), X0.out, (by repeat (first | (with_reducible exact Below.refl _ _) | (with_reducible assumption) | (with_reducible refine below_drewN ?_ _) | (with_reducible refine Below.drew ?_) | (with_reducible refine Below.alloc ?_ ?_ _) | (with_reducible refine Below.setCell ?_ ?_ _) | exact Below.refl _ _ | assumption | (solve | omega | simp | (simp; omega))))⟩
          case round =>
            obtain ⟨k, ar, hk, rfl, has, hall, hbx, hbl⟩ := hrel
            have HA := Lib.hid has
            have HRT := Lib.hid hall
            have HBX := Lib.hid hbx
            have HB := Lib.hid hbl
            clear has hall hbx hbl
            have hsz := HB.out.size
            have hG := HBX.out.lt
            by_cases hlt : k < n
            · go_wp2_with fail
              refine (red_Reducers1 l n b off cc (k : Int) _ HN.out (HR.out.below hb HB.out) (by omega) (by omega)).mono ?_
              rintro e w3 ⟨v3, rfl, hnt, hb3⟩
              obtain ⟨A3, c3, rfl⟩ := hnt.slice
              clear hnt
              have HB3 := Lib.hid (below_then HB.out hb3)
              have BX3 := Lib.hid (HBX.out.below hb3)
              clear hb3
              obtain ⟨u, hu⟩ : ∃ u, ar[k]? = some u := ⟨ar[k]'(by rw [HA.out]; exact hlt), Array.getElem?_eq_getElem _⟩
              have k3 : w3.cell? ⟨w2.heap.size, k, none⟩ = some u := (BX3.out.cell k).trans hu
              have f3 := BX3.out.free k
              clear hu
              have hs3 := HB3.out.size
              have hG3 := BX3.out.lt
              go_wp2
              go_roundw
              case rel =>
                have hb3 := HB3.out
                exact ⟨k + 1, _, by omega, by go_num, by rw [Array.size_setIfInBounds]; exact HA.out, HRT.out.next (by rw [HA.out]; exact hlt), BX3.out.put k _, (by repeat (first | (with_reducible exact Below.refl _ _) | (with_reducible assumption) | (with_reducible refine below_drewN ?_ _) | (with_reducible refine Below.drew ?_) | (with_reducible refine Below.alloc ?_ ?_ _) | (with_reducible refine Below.setCell ?_ ?_ _) | exact Below.refl _ _ | assumption | (solve | omega | simp | (simp; omega))))⟩
              case measure => simp [intOf]; omega
            · obtain rfl : n = k := by omega
              obtain ⟨w4, e4⟩ : ∃ q, q = wr := ⟨_, rfl⟩
              subst e4
              have HR4 := Lib.hid (HR.out.below hb HB.out)
              have HT4 := Lib.hid (HT.out.below HB.out)
              have HD4 := Lib.hid (HD.out.below HB.out)
              have hb4 : b < w4.heap.size := Nat.lt_of_lt_of_le hb hsz
              clear hmk X0
              go_wp2
              go_loopw [10, 51] (fun s i wr => ∃ (k : Nat) (xs : List Ded) (A : Option Addr) (c9 : Nat), k ≤ n ∧ i = .int .i64 k ∧ s = .slice A xs.length c9 ∧ dedK l rt m k = xs ∧ xs.length ≤ k * 18 ∧ wr.ownsRow w4.heap.size 47 3 (.slice A xs.length c9) xs.length (dedCells xs) ∧ Below w4.heap.size w4 wr) (fun _ i _ => n - (intOf i).toNat)
              case atStart => exact ⟨0, [], none, 0, Nat.zero_le _, rfl, rfl, rfl, Nat.zero_le _, ⟨rfl, .inl ⟨rfl, rfl⟩⟩, Below.refl _ _⟩
              case round =>
                obtain ⟨k, xs, A, c9, hk, rfl, rfl, hxs, hxl, hown, hbl⟩ := hrel
                have HXS := Lib.hid hxs
                have HO := Lib.hid hown
                have HBo := Lib.hid hbl
                clear hxs hown hbl
                have HRo := Lib.hid (HR4.out.below hb4 HBo.out)
                have hso := HBo.out.size
                have hbo : b < wr.heap.size := by omega
                by_cases hlt : k < n
                · obtain ⟨r, hr⟩ : ∃ r, l[k]? = some r := ⟨l[k]'(by rw [HN.out]; exact hlt), List.getElem?_eq_getElem _⟩
                  have HK := Lib.hid hr
                  obtain ⟨gs, gb, gc, gi, gp, gn, gd⟩ := r
                  clear hr
                  obtain ⟨k0, k1, k2, k3, k4, k5, k6⟩ := HRo.out k _ HK.out
                  simp only at k0 k1 k2 k3 k4 k5 k6
                  go_wp2_with fail
                  have X1 := Lib.hid (Bx.made wr 27 #[.int .i64 gs, .int .i64 gb, .int .i64 gc, .int .i64 gi, .int .i64 gp, .int .i64 gn, .int .i64 gd] rfl)
                  have HA1 := Lib.hid ((Below.refl wr.heap.size wr).alloc (Nat.le_refl _) (.cells #[.int .i64 gs, .int .i64 gb, .int .i64 gc, .int .i64 gi, .int .i64 gp, .int .i64 gn, .int .i64 gd] 27))
                  clear k0 k1 k2 k3 k4 k5 k6
                  refine (red_reduces gs gb gc gi gp gn gd _).mono ?_
                  rintro e w5 ⟨rfl, hb5⟩
                  have HBX1 := Lib.hid (X1.out.below hb5)
                  have HB5 := Lib.hid (below_then HA1.out hb5)
                  have HO5 := Lib.hid (own_below HO.out HB5.out)
                  have HAS := Lib.hid (Aside.fresh HO.out (Nat.le_refl wr.heap.size))
                  have hs5 := HB5.out.size
                  have hg5 := HBX1.out.lt
                  clear hb5 X1 HA1
                  rcases Bool.eq_false_or_eq_true (redB ⟨gs, gb, gc, gi, gp, gn, gd⟩) with hrb | hrb
                  · have HNX := Lib.hid (dedK_yes (rt := rt) (m := m) HK.out hrb)
                    have HRB := Lib.hid hrb
                    rw [hrb]
                    clear hrb
                    obtain ⟨wo, eo⟩ : ∃ q, q = wr := ⟨_, rfl⟩
                    subst eo
                    go_wp2
                    go_loopw [10, 61] (fun s i wr => ∃ (j : Nat) (ys : List Ded) (A : Option Addr) (c9 : Nat), j ≤ n ∧ i = .int .i64 j ∧ s = .slice A ys.length c9 ∧ dedRow l rt m ⟨gs, gb, gc, gi, gp, gn, gd⟩ k xs j = ys ∧ ys.length ≤ xs.length + j ∧ wr.ownsRow w4.heap.size 47 3 (.slice A ys.length c9) ys.length (dedCells ys) ∧ Aside (.slice A ys.length c9) wo.heap.size ∧ Bx wr wo.heap.size 27 #[.int .i64 gs, .int .i64 gb, .int .i64 gc, .int .i64 gi, .int .i64 gp, .int .i64 gn, .int .i64 gd] ∧ Below w4.heap.size w4 wr) (fun _ i _ => n - (intOf i).toNat)
                    case atStart => exact ⟨0, xs, A, c9, Nat.zero_le _, rfl, rfl, rfl, Nat.le_refl _, HO5.out, HAS.out, HBX1.out, HBo.out.trans (HB5.out.mono hso)⟩
                    case round =>
                      obtain ⟨j, ys, A', c', hj', rfl, rfl, hys, hyl, hown, has, hbx, hbl⟩ := hrel
                      have HYS := Lib.hid hys
                      have HOi := Lib.hid hown
                      have HASi := Lib.hid has
                      have HBXi := Lib.hid hbx
                      have HBi := Lib.hid hbl
                      clear hys hown has hbx hbl
                      have HRi := Lib.hid (HR4.out.below hb4 HBi.out)
                      have hsi := HBi.out.size
                      have hGi := HBXi.out.lt
                      have hbi : b < wr.heap.size := by omega
                      by_cases hlt2 : j < n
                      · obtain ⟨r, hr⟩ : ∃ r, l[j]? = some r := ⟨l[j]'(by rw [HN.out]; exact hlt2), List.getElem?_eq_getElem _⟩
                        have HJ := Lib.hid hr
                        obtain ⟨fs, fb, fc, fi, fp, fn, fd⟩ := r
                        clear hr
                        obtain ⟨k0, k1, k2, k3, k4, k5, k6⟩ := HRi.out j _ HJ.out
                        simp only at k0 k1 k2 k3 k4 k5 k6
                        go_wp2_with fail
                        have X2 := Lib.hid (Bx.made wr 27 #[.int .i64 fs, .int .i64 fb, .int .i64 fc, .int .i64 fi, .int .i64 fp, .int .i64 fn, .int .i64 fd] rfl)
                        have HA2 := Lib.hid ((Below.refl wr.heap.size wr).alloc (Nat.le_refl _) (.cells #[.int .i64 fs, .int .i64 fb, .int .i64 fc, .int .i64 fi, .int .i64 fp, .int .i64 fn, .int .i64 fd] 27))
                        clear k0 k1 k2 k3 k4 k5 k6
                        refine (red_Amount fs fb fc fi fp fn fd _).mono ?_
                        rintro e w6 ⟨rfl, hb6⟩
                        have BXf := Lib.hid (X2.out.below hb6)
                        have HB6 := Lib.hid (below_then HA2.out hb6)
                        have BXg := Lib.hid (HBXi.out.below HB6.out)
                        have HO6 := Lib.hid (own_below HOi.out HB6.out)
                        have HBB := Lib.hid (HBi.out.trans (HB6.out.mono hsi))
                        clear hb6 X2 HA2
                        have hs6 := HB6.out.size
                        have hg6 := BXg.out.lt
                        have hf6 := BXf.out.lt
                        have kf0 : w6.cell? ⟨wr.heap.size, 0, none⟩ = some (.int .i64 fs) := BXf.out.cell 0
                        have kf2 : w6.cell? ⟨wr.heap.size, 2, none⟩ = some (.int .i64 fc) := BXf.out.cell 2
                        have kg0 : w6.cell? ⟨wo.heap.size, 0, none⟩ = some (.int .i64 gs) := BXg.out.cell 0
                        have kg2 : w6.cell? ⟨wo.heap.size, 2, none⟩ = some (.int .i64 gc) := BXg.out.cell 2
                        have HPA := Lib.hid (partS_at (rt := rt) (m := m) (g := ⟨gs, gb, gc, gi, gp, gn, gd⟩) HJ.out)
                        by_cases e1 : fs = gs
                        · have c1 : (fs == gs) = true := beq_iff_eq.2 e1
                          have HNX := Lib.hid ((dedRow_no (i := k) (xs := xs) (by rw [HPA.out, partB_1 e1]; simp)).trans HYS.out)
                          clear e1
                          go_wp2
                          go_roundw
                          case rel => exact ⟨j + 1, ys, A', c', by omega, by go_num, rfl, HNX.out, by omega, HO6.out, HASi.out, BXg.out, HBB.out⟩
                          case measure => simp [intOf]; omega
                        · have c1 : (fs == gs) = false := beq_eq_false_iff_ne.2 e1
                          obtain ⟨gv, hgv⟩ : ∃ q, grossV ⟨fs, fb, fc, fi, fp, fn, fd⟩ = q := ⟨_, rfl⟩
                          have HGV := Lib.hid hgv
                          rw [hgv]
                          clear hgv
                          by_cases e2 : gv = 0
                          · have c2 : (gv == 0) = true := beq_iff_eq.2 e2
                            have HNX := Lib.hid ((dedRow_no (i := k) (xs := xs) (by rw [HPA.out, partB_2 (HGV.out.trans e2)]; simp)).trans HYS.out)
                            clear e2
                            go_wp2
                            go_roundw
                            case rel => exact ⟨j + 1, ys, A', c', by omega, by go_num, rfl, HNX.out, by omega, HO6.out, HASi.out, BXg.out, HBB.out⟩
                            case measure => simp [intOf]; omega
                          · have c2 : (gv == 0) = false := beq_eq_false_iff_ne.2 e2
                            have HPB := Lib.hid (partB_yes (g := ⟨gs, gb, gc, gi, gp, gn, gd⟩) (f := ⟨fs, fb, fc, fi, fp, fn, fd⟩) e1 (by rw [HGV.out]; exact e2))
                            have HPV := Lib.hid (show partS l rt m ⟨gs, gb, gc, gi, gp, gn, gd⟩ j = partV rt m ⟨gs, gb, gc, gi, gp, gn, gd⟩ ⟨fs, fb, fc, fi, fp, fn, fd⟩ (redK l fs l.length).length by rw [HPA.out, HPB.out]; rfl)
                            have HQ1 := Lib.hid (red_some (f := ⟨fs, fb, fc, fi, fp, fn, fd⟩) HK.out HRB.out e1)
                            obtain ⟨x, er, hcv⟩ : ∃ x er, cvS rt m ⟨gs, gb, gc, gi, gp, gn, gd⟩ ⟨fs, fb, fc, fi, fp, fn, fd⟩ = (x, er) := ⟨_, _, rfl⟩
                            have HCV := Lib.hid hcv
                            have hcc := fun (W : World) (h : Below w4.heap.size w4 W) => money_Convert gv fc gc m 1 1 v rt W (HT4.out.below h)
                            rw [show convS gv fc gc m rt 1 1 = (x, er) by rw [← hcv, ← HGV.out]; rfl] at hcc
                            simp only [IE] at hcc
                            have HCC := Lib.hid hcc
                            clear hcc hcv e1 e2
                            obtain ⟨d0, d1⟩ := HD4.out.below HBB.out
                            go_wp2_with fail
                            refine (HCC.out _ HBB.out).mono ?_
                            rintro e w7 ⟨rfl, hb7⟩
                            have BXh := Lib.hid (BXg.out.below hb7)
                            have HO7 := Lib.hid (own_below HO6.out hb7)
                            have HBB7 := Lib.hid (below_then HBB.out hb7)
                            clear hb7 kf0 kf2 kg0 kg2 d0 d1
                            have hs7 := HBB7.out.size
                            have hg7 := BXh.out.lt
                            by_cases e3 : er = 0
                            · have c3 : (er != 0) = false := bne_eq_false_iff_eq.2 e3
                              subst e3
                              obtain ⟨A8, c8, h8⟩ := HRT.out j hlt2
                              rw [redS_in HJ.out] at h8
                              simp only at h8
                              obtain ⟨q, hq⟩ : ∃ q, (redK l fs l.length).length = q := ⟨_, rfl⟩
                              rw [hq] at h8
                              rw [hq] at HQ1
                              rw [hq] at HPV
                              clear hq
                              have BXr := Lib.hid (HBX.out.below HBB7.out)
                              have rj : ∀ z : BW w7, z.val.cell? ⟨w2.heap.size, j, none⟩ = some (.slice A8 q c8) := fun z => (BW.cells BXr.out j z).trans h8
                              have r5 : ∀ z : BW w7, z.val.cell? ⟨wo.heap.size, 5, none⟩ = some (.int .i64 gn) := BW.cells BXh.out 5
                              have r6 : ∀ z : BW w7, z.val.cell? ⟨wo.heap.size, 6, none⟩ = some (.int .i64 gd) := BW.cells BXh.out 6
                              have HD7 := Lib.hid (HD4.out.below HBB7.out)
                              have rd0 : ∀ z : BW w7, z.val.cell? ⟨0, 0, none⟩ = some (.int .i64 1) := fun z => (HD7.out.below z.ok).1
                              have rd1 : ∀ z : BW w7, z.val.cell? ⟨0, 1, none⟩ = some (.int .i64 1) := fun z => (HD7.out.below z.ok).2
                              have i1 : (j : Int) < (n : Int) := by omega
                              have hx1 := cv_bd HCV.out
                              have hy1' := tdiv_bd q hx1
                              obtain ⟨sh, es, hsv⟩ : ∃ sh es, shS ⟨gs, gb, gc, gi, gp, gn, gd⟩ x q = (sh, es) := ⟨_, _, rfl⟩
                              have HSV := Lib.hid hsv
                              obtain ⟨y, hy⟩ : ∃ y, x.tdiv (q : Int) = y := ⟨_, rfl⟩
                              rw [hy] at hy1'
                              have hsc := fun W => money_Scale y gn gd 1 1 W
                              rw [show scaleS y gn gd 1 1 = (sh, es) by rw [← hsv, ← hy]; rfl] at hsc
                              simp only [IE] at hsc
                              have HSC := Lib.hid hsc
                              clear hsc hsv
                              have hq1 := HQ1.out
                              have hq0 : (q : Int) ≠ 0 := by omega
                              have hq2 : ((q : Int) == 0) = false := beq_eq_false_iff_ne.2 hq0
                              have hq3 : (q == 0) = false := beq_eq_false_iff_ne.2 (by omega)
                              clear h8
                              go_wp2
                              refine wp_region_below (by kernel_rfl) (by kernel_rfl) ?_
                              repeat (go_big_quiet_step (((go_at_call 47; exact bq_below (HSC.out _)))))
                              refine wpQuiet_nil ?_
                              intro w8 hw'
                              obtain ⟨⟨_, hb8⟩, rfl⟩ := hw'
                              have HO8 := Lib.hid (own_below HO7.out hb8)
                              have HBB8 := Lib.hid (below_then HBB7.out hb8)
                              have BX8 := Lib.hid (BXh.out.below hb8)
                              clear hb8 rj r5 r6 rd0 rd1
                              have hs8 := HBB8.out.size
                              have hg8 := BX8.out.lt
                              by_cases e4 : es = 0
                              · have c4 : (es == 0) = true := beq_iff_eq.2 e4
                                subst e4
                                have HPS := Lib.hid (HPV.out.trans (partV_3 HCV.out HSV.out))
                                by_cases e5 : 0 < sh
                                · have c5 : decide (0 < sh) = true := decide_eq_true e5
                                  have HNX := Lib.hid (dedRow_yes (i := k) (xs := xs) (by rw [HPS.out]; exact e5))
                                  rw [HPS.out, HYS.out] at HNX
                                  clear e5
                                  go_wp2_with (at_builtin; go_loud (refine wpList_append_own_at _ rfl _ _ 41 rfl w4.heap.size 47 j0 (.agg #[.int .i64 0, .int .i64 0, .int .i64 0]) 3 24 Tryd.underlying41 hj hy0 hy1 hy2 rfl (by decide) _ _ _ rfl (HO8.out.alloc _) ⟨w8.heap.size, 0, none⟩ 1 1 [.int .i64 (k : Int), .int .i64 (j : Int), .int .i64 sh] rfl rfl ?c1 ?c2 ?c3 ?c4 ?c5 ?_))
                                  case c1 =>
                                    intro t u ht
                                    match t, ht with
                                    | 0, ht => simp at ht; subst ht; simp [Addr.add]
                                    | 1, ht => simp at ht; subst ht; simp [Addr.add]
                                    | 2, ht => simp at ht; subst ht; simp [Addr.add]
                                    | t + 3, ht => simp at ht
                                  case c2 =>
                                    intro u hu
                                    simp at hu
                                    rcases hu with rfl | rfl | rfl <;> rfl
                                  case c3 => unfold maxLen; omega
                                  case c4 => omega
                                  case c5 => simp; omega
                                  intro v' w9 hown' hgrow _ hat
                                  obtain ⟨A9, c9', rfl⟩ := own_slice hown'
                                  have HO9 : Hid (w9.ownsRow w4.heap.size 47 3 (.slice A9 (ys.length + 1) c9') (ys.length + 1) (dedCells (ys ++ [⟨(k : Int), (j : Int), sh⟩]))) := Lib.hid (by rw [dedCells_snoc]; exact hown')
                                  have BX9 : Hid (Bx w9 wo.heap.size 27 #[.int .i64 gs, .int .i64 gb, .int .i64 gc, .int .i64 gi, .int .i64 gp, .int .i64 gn, .int .i64 gd]) := Lib.hid ((BX8.out.alloc _).grown hgrow HASi.out)
                                  have HAS9 : Hid (Aside (.slice A9 (ys.length + 1) c9') wo.heap.size) := Lib.hid (HASi.out.at (s := w8.heap.size + 1) (by omega) hat)
                                  have HB9 : Hid (Below w4.heap.size w4 w9) := Lib.hid ((HBB8.out.alloc HBB8.out.size _).grown hgrow (by simp; omega) (fun g hg => by
                                    rcases HO8.out.2 with ⟨h1, _⟩ | ⟨g', cap, cur, h1, hg', _⟩
                                    · rw [h1] at hg; simp [Value.ownBlock] at hg
                                    · rw [h1] at hg; simp [Value.ownBlock] at hg; omega))
                                  clear hown' hgrow hat
                                  go_wp2
                                  go_roundw
                                  case rel => exact ⟨j + 1, ys ++ [⟨(k : Int), (j : Int), sh⟩], A9, c9', by omega, by go_num, by simp, HNX.out, by simp; omega, (by rw [List.length_append]; exact HO9.out), (by rw [List.length_append]; exact HAS9.out), BX9.out, HB9.out⟩
                                  case measure => simp [intOf]; omega
                                · have c5 : decide (0 < sh) = false := decide_eq_false e5
                                  have HNX := Lib.hid ((dedRow_no (i := k) (xs := xs) (by rw [HPS.out]; exact e5)).trans HYS.out)
                                  clear e5
                                  go_wp2
                                  go_roundw
                                  case rel => exact ⟨j + 1, ys, A', c', by omega, by go_num, rfl, HNX.out, by omega, HO8.out, HASi.out, BX8.out, HBB8.out⟩
                                  case measure => simp [intOf]; omega
                              · have c4 : (es == 0) = false := beq_eq_false_iff_ne.2 e4
                                have HNX := Lib.hid ((dedRow_no (i := k) (xs := xs) (by rw [HPV.out, partV_2 HCV.out (by rw [HSV.out]; exact e4)]; omega)).trans HYS.out)
                                clear e4
                                go_wp2
                                go_roundw
                                case rel => exact ⟨j + 1, ys, A', c', by omega, by go_num, rfl, HNX.out, by omega, HO8.out, HASi.out, BX8.out, HBB8.out⟩
                                case measure => simp [intOf]; omega
                            · have c3 : (er != 0) = true := bne_iff_ne.2 e3
                              have HNX := Lib.hid ((dedRow_no (i := k) (xs := xs) (by rw [HPV.out, partV_1 (by rw [HCV.out]; exact e3)]; omega)).trans HYS.out)
                              clear e3
                              go_wp2
                              go_roundw
                              case rel => exact ⟨j + 1, ys, A', c', by omega, by go_num, rfl, HNX.out, by omega, HO7.out, HASi.out, BXh.out, HBB7.out⟩
                              case measure => simp [intOf]; omega
                      · obtain rfl : n = j := by omega
                        have HNY := Lib.hid (HNX.out.trans (show dedRow l rt m ⟨gs, gb, gc, gi, gp, gn, gd⟩ k (dedK l rt m k) l.length = ys by rw [HN.out, HXS.out]; exact HYS.out))
                        go_wp2
                        go_roundw
                        case rel => exact ⟨k + 1, ys, A', c', by omega, by go_num, rfl, HNY.out, by omega, HOi.out, HBi.out⟩
                        case measure => simp [intOf]; omega
                  · have HNX := Lib.hid ((dedK_no (rt := rt) (m := m) HK.out hrb).trans HXS.out)
                    rw [hrb]
                    clear hrb
                    go_wp2
                    go_roundw
                    case rel => exact ⟨k + 1, xs, A, c9, by omega, by go_num, rfl, HNX.out, by omega, HO5.out, HBo.out.trans (HB5.out.mono hso)⟩
                    case measure => simp [intOf]; omega
                · obtain rfl : n = k := by omega
                  go_wp2
                  refine bodyPost_ret (v := .tuple #[.slice A xs.length c9, .int .i64 0]) (by simp [results, Tryd.results29, go_sem]) rfl ⟨.slice A xs.length c9, by rw [HF.out], ?_, ?_⟩
                  · rw [HF.out]; exact DedTab.own (by rw [show dedS l rt m = xs by unfold dedS; rw [HN.out]; exact HXS.out]; exact HO.out) (by unfold dedS; rw [HN.out, HXS.out])
                  · exact HB.out.trans (HBo.out.mono hsz)
        · have hcn : (chkS rt != 0) = true := bne_iff_ne.2 hc
          have HF := Lib.hid (dedR_3 (l := l) (m := m) hc)
          clear HVG
          go_enter Tryd.func29, Tryd.ntmps29
          go_wp2_with fail
          refine (HV.out).mono ?_
          rintro e w1 ⟨rfl, hb1⟩
          have HB1 := Lib.hid hb1
          clear hb1
          go_wp2_with fail
          refine (money_CheckRates (HT.out.below HB1.out)).mono ?_
          rintro e w2 ⟨rfl, hb2⟩
          have HB2 := Lib.hid (below_then HB1.out hb2)
          clear hb2
          have hb2 := HB2.out
          go_wp2
          refine bodyPost_ret (v := .tuple #[.slice none 0 0, .int .i64 1]) (by simp [results, Tryd.results29, go_sem]) rfl ⟨.slice none 0 0, by rw [HF.out], .inl ⟨_, _, rfl, by rw [HF.out]⟩, ?_⟩
          exact (by repeat (first | (with_reducible exact Below.refl _ _) | (with_reducible assumption) | (with_reducible refine below_drewN ?_ _) | (with_reducible refine Below.drew ?_) | (with_reducible refine Below.alloc ?_ ?_ _) | (with_reducible refine Below.setCell ?_ ?_ _) | exact Below.refl _ _ | assumption | (solve | omega | simp | (simp; omega))))
end Go.Proofs.YthpknbflmcoanaaDoor
