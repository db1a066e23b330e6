/-
  The contract of recovery.Offsets.
-/
import Derived.Test.YtaifacnpnhcdcaaTrs
import Derived.Laws.OwnMore
namespace Go.Proofs.Ytaifacnpnhcdcaa
open Go.RowKit Mny

theorem giveT_take {p : St} {rt : List Rt} {m left : Int} {xs : List St} {k : Nat} {x : St} {out : List Tr} (h : xs[k]? = some x) (ha : offA p rt m (xs.take k) = (left, out)) (hg : giveT p rt m left x = none) : offA p rt m (xs.take (k + 1)) = (left, out) := by
  rw [offA_take h, ha, offF_none hg]
theorem giveT_take2 {p : St} {rt : List Rt} {m left : Int} {xs : List St} {k : Nat} {x : St} {out : List Tr} {r : Tr} (h : xs[k]? = some x) (ha : offA p rt m (xs.take k) = (left, out)) (hg : giveT p rt m left x = some r) : offA p rt m (xs.take (k + 1)) = (left - r.s, out ++ [r]) := by
  rw [offA_take h, ha, offF_some hg]
/-- the first k are valid, and no two neighbours among them are of one state -/
def PreS (ys : List St) (k : Nat) : Prop := (∀ j r, j < k → ys[j]? = some r → okS r = true) ∧ ∀ j r q, j + 1 < k → ys[j]? = some r → ys[j + 1]? = some q → r.s ≠ q.s
theorem PreS.zero (ys : List St) : PreS ys 0 := ⟨fun j r h => absurd h (by omega), fun j r q h => absurd h (by omega)⟩
theorem PreS.next {ys : List St} {k : Nat} {x : St} (h : PreS ys k) (hk : ys[k]? = some x) (ho : okS x = true) (hq : ∀ q, 0 < k → ys[k - 1]? = some q → q.s ≠ x.s) : PreS ys (k + 1) := by
  refine ⟨fun j r hj hr => ?_, fun j r q hj hr hq2 => ?_⟩
  · by_cases e : j = k
    · subst e
      rw [hk] at hr
      injection hr with hr
      subst hr
      exact ho
    · exact h.1 j r (by omega) hr
  · by_cases e : j + 1 = k
    · subst e
      rw [hk] at hq2
      injection hq2 with hq2
      subst hq2
      exact hq r (by omega) (by simpa using hr)
    · exact h.2 j r q (by omega) hr hq2
/-- all are valid and of different states, when they are in order -/
theorem PreS.good {xs ys : List St} (h : PreS ys ys.length) (hp : ys.Perm xs) (ho : ys.Pairwise fun a b => a.s ≤ b.s) : GoodS xs ∧ ys = srt xs := by
  have hg : GoodS ys := by
    refine ⟨fun x hx => ?_, ?_⟩
    · obtain ⟨j, hj, e⟩ := List.getElem_of_mem hx
      exact h.1 j x hj (by rw [List.getElem?_eq_getElem hj, e])
    · rw [List.pairwise_iff_getElem] at ho ⊢
      intro i j hi hj hij e
      have h1 : ∀ d, i + 1 + d < ys.length → ys[i]!.s < ys[i + 1 + d]!.s := by
        intro d
        induction d with
        | zero =>
          intro hd
          have a := h.2 i ys[i] ys[i + 1] (by omega) (List.getElem?_eq_getElem hi) (List.getElem?_eq_getElem (by omega))
          have b := ho i (i + 1) hi (by omega) (by omega)
          rw [getElem!_pos ys i hi, getElem!_pos ys (i + 1 + 0) (by omega)]
          simp only [Nat.add_zero]
          omega
        | succ d ih =>
          intro hd
          have a := ih (by omega)
          have b := ho (i + 1 + d) (i + 1 + (d + 1)) (by omega) hd (by omega)
          rw [getElem!_pos ys (i + 1 + (d + 1)) hd]
          rw [getElem!_pos ys (i + 1 + d) (by omega)] at a
          omega
      have a := h1 (j - i - 1) (by omega)
      rw [getElem!_pos ys i hi, getElem!_pos ys (i + 1 + (j - i - 1)) (by omega)] at a
      have e2 : i + 1 + (j - i - 1) = j := by omega
      simp only [e2] at a
      omega
  have hgx := hg.perm hp
  exact ⟨hgx, srt_eq hgx hp.symm ho⟩
theorem not_good_ok {xs ys : List St} {k : Nat} {x : St} (hp : ys.Perm xs) (hk : ys[k]? = some x) (h : okS x = false) : ¬ GoodS xs := fun hg => by
  have := hg.1 x (hp.mem_iff.1 (List.mem_of_getElem? hk))
  rw [h] at this
  cases this
theorem not_good_eq {xs ys : List St} {j k : Nat} {x y : St} (hp : ys.Perm xs) (hjk : j < k) (hj : ys[j]? = some y) (hk : ys[k]? = some x) (h : y.s = x.s) : ¬ GoodS xs := fun hg => by
  have h2 := (hg.perm hp.symm).2
  rw [List.pairwise_iff_getElem] at h2
  obtain ⟨a1, b1⟩ := List.getElem?_eq_some_iff.1 hj
  obtain ⟨a2, b2⟩ := List.getElem?_eq_some_iff.1 hk
  exact h2 j k a1 a2 hjk (by rw [b1, b2, h])

set_option maxRecDepth 100000 in
set_option maxHeartbeats 16000000 in
theorem rec_Offsets (ps pc pa po : Int) (xs : List St) (n : Nat) (A : Option Addr) (cc : Nat) (tv : Value) (rt : List Rt) (m : Int) (w : World) (hn : xs.length = n) (h12 : n ≤ 12) (hX : StTab w.heap.size w (.slice A n cc) xs) (hT : Tab w tv rt) :
    Calls Try.prog 19 #[.agg #[.int .i64 ps, .int .i64 pc, .int .i64 pa, .int .i64 po], .slice A n cc, tv, .int .i64 m] w (OffOut w (offR ⟨ps, pc, pa, po⟩ xs rt m)) := by
  have HN := Lib.hid hn
  have HX := Lib.hid hX
  have HT := Lib.hid hT
  clear hn hX hT
  go_enter Try.func19, Try.ntmps19
  have hva := fun W => rec_valid ps pc pa po W
  rcases Bool.eq_false_or_eq_true (okS ⟨ps, pc, pa, po⟩) with hp | hp
  · rw [hp] at hva
    have HVA := Lib.hid hva
    clear hva
    go_wp2_with fail
    refine (HVA.out _).mono ?_
    rintro e w1 ⟨rfl, hb1⟩
    have HB1 := Lib.hid (below_then (w := w) (by repeat (first | (with_reducible exact Below.refl _ _) | (with_reducible assumption) | (with_reducible refine below_drewN ?_ _) | (with_reducible refine Below.drew ?_) | (with_reducible refine Below.alloc ?_ ?_ _) | (with_reducible refine Below.setCell ?_ ?_ _) | exact Below.refl _ _ | assumption | (solve | omega | simp | (simp; omega)))) hb1)
    have BP1 := Lib.hid ((Bx.made w 33 #[.int .i64 ps, .int .i64 pc, .int .i64 pa, .int .i64 po] rfl).below hb1)
    have HP := Lib.hid hp
    clear hb1 hp
    by_cases m0 : 0 ≤ m
    · have c0 : decide (m < 0) = false := decide_eq_false (by omega)
      by_cases m1 : m ≤ 2399
      · have c1 : decide (2399 < m) = false := decide_eq_false (by omega)
        have hck := money_CheckRates (HT.out.below HB1.out)
        by_cases ck : chkS rt = 0
        · rw [ck] at hck
          have HCK := Lib.hid hck
          have HCK0 := Lib.hid ck
          clear hck ck
          go_wp2_with fail
          refine (HCK.out).mono ?_
          rintro e w2 ⟨rfl, hb2⟩
          have HB2 := Lib.hid (below_then HB1.out hb2)
          have BP2 := Lib.hid (BP1.out.below hb2)
          clear hb2
          have HVS : Hid (∀ W, Calls Try.prog 30 #[.slice A n cc] W fun e w' => e = .returned (.func (.func 43) #[] #[.pointer (some ⟨W.heap.size, 0, none⟩)]) ∧ w' = W.alloc (.cells #[.slice A n cc] 34)) := Lib.hid (fun W => (callsIn_wide (n := 6)).1 (values_in Fence.wide 6 trivial rfl A n cc W))
          go_wp2_with fail
          refine (HVS.out _).mono ?_
          rintro e w' ⟨rfl, rfl⟩
          have hsf := sortedFunc w2.heap.size (.slice A n cc) xs (w2.alloc (.cells #[.slice A n cc] 34)) (by rw [HN.out]; exact h12) (by simp) ((Bx.made w2 34 #[.slice A n cc] rfl).cell 0) ((HX.out.later HB2.out).later ((Below.refl _ _).alloc (Nat.le_refl _) _))
          have HSF := Lib.hid hsf
          clear hsf
          go_wp2_with fail
          refine (HSF.out).mono ?_
          rintro e w3 ⟨A3, c3, ys, rfl, hpe, hso, hy3, hb3⟩
          have HPE := Lib.hid hpe
          have HSO := Lib.hid hso
          have HYN : Hid (ys.length = n) := Lib.hid (by rw [hpe.length_eq]; exact HN.out)
          rw [HN.out] at hy3 ⊢
          have HY3 := Lib.hid hy3
          have hw2a : Below w2.heap.size w2 (w2.alloc (.cells #[.slice A n cc] 34)) := (Below.refl _ _).alloc (Nat.le_refl _) _
          have HB3 := Lib.hid (below_then (below_then HB2.out hw2a) hb3)
          have BP3 := Lib.hid ((BP2.out.below hw2a).below hb3)
          clear hpe hso hy3 hb3 hw2a
          go_wp2
          go_loopw [41] (fun i wr => ∃ k : Nat, k ≤ n ∧ i = .int .i64 k ∧ PreS ys k ∧ Below w3.heap.size w3 wr) (fun i _ => n - (intOf i).toNat)
          case atStart => exact ⟨0, Nat.zero_le _, rfl, PreS.zero _, Below.refl _ _⟩
          case round =>
            obtain ⟨k, hk, rfl, hpr, hbl⟩ := hrel
            have HPR := Lib.hid hpr
            have HB := Lib.hid hbl
            have hsz := hbl.size
            clear hpr hbl
            by_cases hlt : k < n
            · obtain ⟨r, hr⟩ : ∃ r, ys[k]? = some r := ⟨ys[k]'(by rw [HYN.out]; exact hlt), List.getElem?_eq_getElem _⟩
              obtain ⟨b, off, rfl, hb, hat⟩ := HY3.out.rowAt hr
              have HAT := Lib.hid hat
              obtain ⟨k0, k1, k2, k3⟩ := hat.below hb HB.out k r hr
              have HR := Lib.hid hr
              obtain ⟨rs, rc, ra, ro⟩ := r
              simp only at k0 k1 k2 k3
              clear hr hat
              have X0 := Lib.hid (Bx.made wr 33 #[.int .i64 rs, .int .i64 rc, .int .i64 ra, .int .i64 ro] rfl)
              have HB0 := Lib.hid (HB.out.alloc HB.out.size (.cells #[.int .i64 rs, .int .i64 rc, .int .i64 ra, .int .i64 ro] 33))
              have hva := fun W => rec_valid rs rc ra ro W
              go_wp2
              clear k0 k1 k2 k3
              have hs0 := HB0.out.size
              have cx0 : ∀ x : BW (wr.alloc (.cells #[.int .i64 rs, .int .i64 rc, .int .i64 ra, .int .i64 ro] 33)), x.val.cell? ⟨wr.heap.size, 0, none⟩ = some (.int .i64 rs) := BW.cells X0.out 0
              have cx1 : ∀ x : BW (wr.alloc (.cells #[.int .i64 rs, .int .i64 rc, .int .i64 ra, .int .i64 ro] 33)), x.val.cell? ⟨wr.heap.size, 1, none⟩ = some (.int .i64 rc) := BW.cells X0.out 1
              have cx2 : ∀ x : BW (wr.alloc (.cells #[.int .i64 rs, .int .i64 rc, .int .i64 ra, .int .i64 ro] 33)), x.val.cell? ⟨wr.heap.size, 2, none⟩ = some (.int .i64 ra) := BW.cells X0.out 2
              have cx3 : ∀ x : BW (wr.alloc (.cells #[.int .i64 rs, .int .i64 rc, .int .i64 ra, .int .i64 ro] 33)), x.val.cell? ⟨wr.heap.size, 3, none⟩ = some (.int .i64 ro) := BW.cells X0.out 3
              rcases Bool.eq_false_or_eq_true (okS ⟨rs, rc, ra, ro⟩) with ho | ho
              · rw [ho] at hva
                have HVA := Lib.hid hva
                clear hva
                have HOK := Lib.hid ho
                clear ho
                by_cases hz : k = 0
                · have z1 : decide ((0 : Int) < (k : Int)) = false := decide_eq_false (by omega)
                  have z2 : decide (0 < k) = false := decide_eq_false (by omega)
                  have HNX := Lib.hid (HPR.out.next HR.out HOK.out (fun q h => absurd h (by omega)))
                  refine wp_region_below (by kernel_rfl) (by kernel_rfl) ?_
                  repeat (go_big_quiet_step (((go_at_call 27; exact bq_below (HVA.out _)))))
                  refine wpQuiet_nil ?_
                  intro w5 hw'
                  obtain ⟨⟨_, hb5⟩, rfl⟩ := hw'
                  have HB5 := Lib.hid (below_then HB0.out hb5)
                  have hbf := HB5.out
                  go_wp2
                  go_roundw
                  case rel => exact ⟨k + 1, by omega, by go_num, HNX.out, (by repeat (first | (with_reducible exact Below.refl _ _) | (with_reducible assumption) | (with_reducible refine below_drewN ?_ _) | (with_reducible refine Below.drew ?_) | (with_reducible refine Below.alloc ?_ ?_ _) | (with_reducible refine Below.setCell ?_ ?_ _) | exact Below.refl _ _ | assumption | (solve | omega | simp | (simp; omega))))⟩
                  case measure => simp [intOf]; omega
                · have z1 : decide ((0 : Int) < (k : Int)) = true := decide_eq_true (by omega)
                  have z2 : decide (0 < k) = true := decide_eq_true (by omega)
                  obtain ⟨t, ht⟩ : ∃ t, ys[k - 1]? = some t := ⟨ys[k - 1]'(by rw [HYN.out]; omega), List.getElem?_eq_getElem _⟩
                  have HS := Lib.hid ht
                  obtain ⟨j0, -, -, -⟩ := HAT.out.below hb HB0.out (k - 1) t ht
                  obtain ⟨qs, qc, qa, qo⟩ := t
                  simp only at j0
                  have cj : ∀ x : BW (wr.alloc (.cells #[.int .i64 rs, .int .i64 rc, .int .i64 ra, .int .i64 ro] 33)), x.val.cell? ⟨b, off + (k - 1) * 4, none⟩ = some (.int .i64 qs) := fun x => (x.ok.cell (p := ⟨b, off + (k - 1) * 4, none⟩) (by simp only; omega)).trans j0
                  have v1 : IntKind.i64.wrap ((k : Int) - 1) = (k : Int) - 1 := IntWalk.i64_in _ (by omega)
                  have v2 : (0 : Int) ≤ (k : Int) - 1 := by omega
                  have v3 : (k : Int) - 1 < (n : Int) := by omega
                  have v4 : ((k : Int) - 1).toNat = k - 1 := by omega
                  clear ht j0
                  by_cases dq : qs = rs
                  · have eq1 : (qs == rs) = true := beq_iff_eq.2 dq
                    have HF := Lib.hid (offR_no (p := ⟨ps, pc, pa, po⟩) (xs := xs) (l := rt) (m := m) (.inr (.inr (.inr (not_good_eq HPE.out (show k - 1 < k by omega) HS.out HR.out dq)))))
                    refine wp_region_below (by kernel_rfl) (by kernel_rfl) ?_
                    repeat (go_big_quiet_step (((go_at_call 27; exact bq_below (HVA.out _)))))
                    refine wpQuiet_nil ?_
                    intro w5 hw'
                    obtain ⟨⟨_, hb5⟩, rfl⟩ := hw'
                    have HB5 := Lib.hid (below_then HB0.out hb5)
                    have hbf := HB5.out
                    go_wp2
                    go_ret2
                    exact ⟨_, by rw [HF.out]; rfl, by rw [HF.out]; exact .inl ⟨_, _, rfl, rfl⟩, below_then HB3.out (by exact (by repeat (first | (with_reducible exact Below.refl _ _) | (with_reducible assumption) | (with_reducible refine below_drewN ?_ _) | (with_reducible refine Below.drew ?_) | (with_reducible refine Below.alloc ?_ ?_ _) | (with_reducible refine Below.setCell ?_ ?_ _) | exact Below.refl _ _ | assumption | (solve | omega | simp | (simp; omega)))))⟩
                  · have eq1 : (qs == rs) = false := beq_eq_false_iff_ne.2 dq
                    have HNX := Lib.hid (HPR.out.next HR.out HOK.out (fun q _ h => by rw [HS.out] at h; injection h with h; subst h; exact dq))
                    refine wp_region_below (by kernel_rfl) (by kernel_rfl) ?_
                    repeat (go_big_quiet_step (((go_at_call 27; exact bq_below (HVA.out _)))))
                    refine wpQuiet_nil ?_
                    intro w5 hw'
                    obtain ⟨⟨_, hb5⟩, rfl⟩ := hw'
                    have HB5 := Lib.hid (below_then HB0.out hb5)
                    have hbf := HB5.out
                    go_wp2
                    go_roundw
                    case rel => exact ⟨k + 1, by omega, by go_num, HNX.out, (by repeat (first | (with_reducible exact Below.refl _ _) | (with_reducible assumption) | (with_reducible refine below_drewN ?_ _) | (with_reducible refine Below.drew ?_) | (with_reducible refine Below.alloc ?_ ?_ _) | (with_reducible refine Below.setCell ?_ ?_ _) | exact Below.refl _ _ | assumption | (solve | omega | simp | (simp; omega))))⟩
                    case measure => simp [intOf]; omega
              · rw [ho] at hva
                have HVA := Lib.hid hva
                clear hva
                have HF := Lib.hid (offR_no (p := ⟨ps, pc, pa, po⟩) (xs := xs) (l := rt) (m := m) (.inr (.inr (.inr (not_good_ok HPE.out HR.out ho)))))
                clear ho
                refine wp_region_below (by kernel_rfl) (by kernel_rfl) ?_
                repeat (go_big_quiet_step (((go_at_call 27; exact bq_below (HVA.out _)))))
                refine wpQuiet_nil ?_
                intro w5 hw'
                obtain ⟨⟨_, hb5⟩, rfl⟩ := hw'
                have HB5 := Lib.hid (below_then HB0.out hb5)
                have hbf := HB5.out
                go_wp2
                go_ret2
                exact ⟨_, by rw [HF.out]; rfl, by rw [HF.out]; exact .inl ⟨_, _, rfl, rfl⟩, below_then HB3.out (by exact (by repeat (first | (with_reducible exact Below.refl _ _) | (with_reducible assumption) | (with_reducible refine below_drewN ?_ _) | (with_reducible refine Below.drew ?_) | (with_reducible refine Below.alloc ?_ ?_ _) | (with_reducible refine Below.setCell ?_ ?_ _) | exact Below.refl _ _ | assumption | (solve | omega | simp | (simp; omega)))))⟩
            · obtain rfl : n = k := by omega
              have hgd := PreS.good (xs := xs) (ys := ys) (by rw [HYN.out]; exact HPR.out) HPE.out HSO.out
              have HGX := Lib.hid hgd.1
              have HSR := Lib.hid hgd.2
              have HGY := Lib.hid (hgd.1.perm HPE.out.symm)
              clear hgd
              obtain ⟨w4, hw4⟩ : ∃ w4, w4 = wr := ⟨_, rfl⟩
              subst hw4
              have HB4 := Lib.hid (below_then HB3.out HB.out)
              have BP4 := Lib.hid (BP3.out.below HB.out)
              have HT4 := Lib.hid (HT.out.below HB4.out)
              have HY4 := Lib.hid (HY3.out.later HB.out)
              obtain ⟨i0, hi, hz0, hz1, hz2⟩ := info_parts info_tr
              obtain ⟨cP, qP⟩ := BP4.out.of
              go_wp2
              clear cP qP
              go_loopw [13, 14, 69] (fun s13 s14 i wr => ∃ (k : Nat) (left : Int) (outl : List Tr) (A9 : Option Addr) (c9 : Nat), k ≤ n ∧ i = .int .i64 k ∧ s14 = .int .i64 left ∧ s13 = .slice A9 outl.length c9 ∧ offA ⟨ps, pc, pa, po⟩ rt m (ys.take k) = (left, outl) ∧ wr.ownsRow w4.heap.size 44 5 (.slice A9 outl.length c9) outl.length (trCells outl) ∧ Below w4.heap.size w4 wr) (fun _ _ i _ => n - (intOf i).toNat)
              case atStart => exact ⟨0, pa, [], none, 0, Nat.zero_le _, rfl, rfl, rfl, rfl, World.ownsRow_nil _ _ _ _, Below.refl _ _⟩
              case round =>
                obtain ⟨k, left, outl, A9, c9, hk, rfl, rfl, rfl, ha, hown, hbl⟩ := hrel
                have HA := Lib.hid ha
                have HO := Lib.hid hown
                have HB := Lib.hid hbl
                have hsz := hbl.size
                clear ha hown hbl
                by_cases hlt : k < n
                · obtain ⟨r, hr⟩ : ∃ r, ys[k]? = some r := ⟨ys[k]'(by rw [HYN.out]; exact hlt), List.getElem?_eq_getElem _⟩
                  obtain ⟨b, off, rfl, hb, hat⟩ := HY4.out.rowAt hr
                  obtain ⟨k0, k1, k2, k3⟩ := hat.below hb HB.out k r hr
                  have HOK : Hid (okS r = true) := Lib.hid (HGY.out.1 r (List.mem_of_getElem? hr))
                  have hro := (okS_all HOK.out).2.2.2
                  obtain ⟨⟨hl0, hl1⟩, hol⟩ := (by have := offA_bd (l := rt) (m := m) HP.out (xs := ys.take k) (fun x hx => HGY.out.1 x (List.mem_of_mem_take hx)); rw [HA.out] at this; exact this : (0 ≤ left ∧ left ≤ 1000000000000) ∧ outl.length ≤ (ys.take k).length)
                  have HOL : Hid (outl.length ≤ 12) := Lib.hid (by rw [List.length_take] at hol; omega)
                  have HR := Lib.hid hr
                  obtain ⟨rs, rc, ra, ro⟩ := r
                  simp only at k0 k1 k2 k3 hro
                  clear hr hat hol
                  have X0 := Lib.hid (Bx.made wr 33 #[.int .i64 rs, .int .i64 rc, .int .i64 ra, .int .i64 ro] rfl)
                  have HB0 := Lib.hid (HB.out.alloc HB.out.size (.cells #[.int .i64 rs, .int .i64 rc, .int .i64 ra, .int .i64 ro] 33))
                  have HC0 : Hid (Below wr.heap.size wr (wr.alloc (.cells #[.int .i64 rs, .int .i64 rc, .int .i64 ra, .int .i64 ro] 33))) := Lib.hid ((Below.refl _ _).alloc (Nat.le_refl _) _)
                  obtain ⟨cP, qP⟩ := (BP4.out.below HB.out).of
                  have hPl : w.heap.size < wr.heap.size := (BP4.out.below HB.out).lt
                  have hPn : ¬ w.heap.size = wr.heap.size := by omega
                  by_cases t0 : rs = ps
                  · have e0 : (rs == ps) = true := beq_iff_eq.2 t0
                    have HG := Lib.hid (giveT_take HR.out HA.out (giveT_skip (.inl t0)))
                    have hbf := HB.out
                    go_wp2
                    go_roundw
                    case rel => exact ⟨k + 1, left, outl, A9, c9, by omega, by go_num, rfl, rfl, HG.out, own_below HO.out ((Below.refl _ _).alloc (Nat.le_refl _) _), (by repeat (first | (with_reducible exact Below.refl _ _) | (with_reducible assumption) | (with_reducible refine below_drewN ?_ _) | (with_reducible refine Below.drew ?_) | (with_reducible refine Below.alloc ?_ ?_ _) | (with_reducible refine Below.setCell ?_ ?_ _) | exact Below.refl _ _ | assumption | (solve | omega | simp | (simp; omega))))⟩
                    case measure => simp [intOf]; omega
                  · have e0 : (rs == ps) = false := beq_eq_false_iff_ne.2 t0
                    by_cases t1 : ro = 0
                    · have e1 : (ro == 0) = true := beq_iff_eq.2 t1
                      have HG := Lib.hid (giveT_take HR.out HA.out (giveT_skip (.inr t1)))
                      have hbf := HB.out
                      go_wp2
                      go_roundw
                      case rel => exact ⟨k + 1, left, outl, A9, c9, by omega, by go_num, rfl, rfl, HG.out, own_below HO.out ((Below.refl _ _).alloc (Nat.le_refl _) _), (by repeat (first | (with_reducible exact Below.refl _ _) | (with_reducible assumption) | (with_reducible refine below_drewN ?_ _) | (with_reducible refine Below.drew ?_) | (with_reducible refine Below.alloc ?_ ?_ _) | (with_reducible refine Below.setCell ?_ ?_ _) | exact Below.refl _ _ | assumption | (solve | omega | simp | (simp; omega))))⟩
                      case measure => simp [intOf]; omega
                    · have e1 : (ro == 0) = false := beq_eq_false_iff_ne.2 t1
                      obtain ⟨A1, E1, h1⟩ : ∃ A1 E1, convS ro rc pc m rt 2 1 = (A1, E1) := ⟨_, _, rfl⟩
                      have HC1 : Hid (∀ W, Tab W tv rt → Calls Try.prog 33 #[.int .i64 ro, .int .i64 rc, .int .i64 pc, .int .i64 m, tv, .agg #[.int .i64 2, .int .i64 1]] W fun e w' => e = .returned (.tuple #[.int .i64 A1, .int .i64 E1]) ∧ Below W.heap.size W w') := Lib.hid (fun W hW => by have := money_Convert ro rc pc m 2 1 tv rt W hW; rw [h1] at this; exact this)
                      have HQ1 := Lib.hid h1
                      clear h1
                      go_wp2_with fail
                      refine (HC1.out _ (HT4.out.below HB0.out)).mono ?_
                      rintro e w5 ⟨rfl, hb5⟩
                      have HB5 := Lib.hid (below_then HB0.out hb5)
                      have HC5 := Lib.hid (below_then HC0.out hb5)
                      have X5 := Lib.hid (X0.out.below hb5)
                      clear hb5 k0 k1 k2 k3 cP qP
                      have hs5 := HB5.out.size
                      by_cases d1 : E1 = 0
                      · subst d1
                        obtain ⟨S, hS⟩ : ∃ S, min A1 left = S := ⟨_, rfl⟩
                        have HS := Lib.hid hS
                        obtain ⟨A2, E2, h2⟩ : ∃ A2 E2, convS S pc rc m rt 1 1 = (A2, E2) := ⟨_, _, rfl⟩
                        have HC2 : Hid (∀ W, Tab W tv rt → Calls Try.prog 33 #[.int .i64 S, .int .i64 pc, .int .i64 rc, .int .i64 m, tv, .agg #[.int .i64 1, .int .i64 1]] W fun e w' => e = .returned (.tuple #[.int .i64 A2, .int .i64 E2]) ∧ Below W.heap.size W w') := Lib.hid (fun W hW => by have := money_Convert S pc rc m 1 1 tv rt W hW; rw [h2] at this; exact this)
                        have HQ2 := Lib.hid h2
                        clear h2
                        obtain ⟨K, hK⟩ : ∃ K, min A2 ro = K := ⟨_, rfl⟩
                        obtain ⟨cX, qX⟩ := X5.out.of
                        obtain ⟨cP, qP⟩ := (BP4.out.below HB5.out).of
                        go_wp2_with fail
                        refine (HC2.out _ (HT4.out.below HB5.out)).mono ?_
                        rintro e w6 ⟨rfl, hb6⟩
                        have HB6 := Lib.hid (below_then HB5.out hb6)
                        have HC6 := Lib.hid (below_then HC5.out hb6)
                        have X6 := Lib.hid (X5.out.below hb6)
                        clear hb6 cX qX cP qP
                        have hs6 := HB6.out.size
                        obtain ⟨cX, qX⟩ := X6.out.of
                        obtain ⟨cP, qP⟩ := (BP4.out.below HB6.out).of
                        by_cases d2 : E2 = 0
                        · subst d2
                          by_cases d3 : K = 0
                          · have f3 : (K == 0) = true := beq_iff_eq.2 d3
                            subst d3
                            have HG := Lib.hid (giveT_take HR.out HA.out (giveT_bad2 HQ1.out (by rw [HS.out]; exact HQ2.out) (.inr hK)))
                            have hbf := HB6.out
                            go_wp2
                            go_roundw
                            case rel => exact ⟨k + 1, left, outl, A9, c9, by omega, by go_num, rfl, rfl, HG.out, own_below HO.out HC6.out, (by repeat (first | (with_reducible exact Below.refl _ _) | (with_reducible assumption) | (with_reducible refine below_drewN ?_ _) | (with_reducible refine Below.drew ?_) | (with_reducible refine Below.alloc ?_ ?_ _) | (with_reducible refine Below.setCell ?_ ?_ _) | exact Below.refl _ _ | assumption | (solve | omega | simp | (simp; omega))))⟩
                            case measure => simp [intOf]; omega
                          · have f3 : (K == 0) = false := beq_eq_false_iff_ne.2 d3
                            have HG : Hid (giveT ⟨ps, pc, pa, po⟩ rt m left ⟨rs, rc, ra, ro⟩ = some ⟨ps, rs, rc, S, K⟩) := Lib.hid (by have := giveT_yes (p := ⟨ps, pc, pa, po⟩) (x := ⟨rs, rc, ra, ro⟩) (fun h => h.elim (fun e => t0 e) (fun e => t1 e)) HQ1.out (by rw [HS.out]; exact HQ2.out) (by rw [hK]; exact d3); rw [HS.out, hK] at this; exact this)
                            have HNX : Hid (offA ⟨ps, pc, pa, po⟩ rt m (ys.take (k + 1)) = (left - S, outl ++ [⟨ps, rs, rc, S, K⟩])) := Lib.hid (giveT_take2 HR.out HA.out HG.out)
                            have hSb : 1 ≤ S ∧ S ≤ left := by
                              have := (giveT_bd (by rw [show (⟨rs, rc, ra, ro⟩ : St) = ⟨rs, rc, ra, ro⟩ from rfl]; exact HOK.out) hl0 HG.out).2.2.2.2.1
                              exact this
                            have HO2 := Lib.hid (own_below HO.out HC6.out)
                            go_wp2_with (at_builtin; go_loud (refine wpList_append_own _ rfl _ _ 38 rfl w4.heap.size 44 i0 (.agg #[.int .i64 0, .int .i64 0, .int .i64 0, .int .i64 0, .int .i64 0]) 5 40 Try.underlying38 hi hz0 hz1 hz2 rfl (by decide) _ _ _ rfl (HO2.out.alloc _) ⟨w6.heap.size, 0, none⟩ 1 1 [.int .i64 ps, .int .i64 rs, .int .i64 rc, .int .i64 S, .int .i64 K] rfl rfl ?c1 ?c2 ?c3 ?c4 ?c5 ?_))
                            case c1 =>
                              intro j u hj
                              match j, hj with
                              | 0, hj => simp at hj; subst hj; simp [Addr.add]
                              | 1, hj => simp at hj; subst hj; simp [Addr.add]
                              | 2, hj => simp at hj; subst hj; simp [Addr.add]
                              | 3, hj => simp at hj; subst hj; simp [Addr.add]
                              | 4, hj => simp at hj; subst hj; simp [Addr.add]
                              | j + 5, hj => simp at hj
                            case c2 => first | exact ⟨rfl, rfl, rfl, rfl, rfl⟩ | (intro u hu; simp at hu; rcases hu with rfl | rfl | rfl | rfl | rfl <;> rfl)
                            case c3 => (have := HOL.out); unfold maxLen; omega
                            case c4 => (have := HOL.out); omega
                            case c5 => first | omega | (simp; done) | (simp; omega)
                            intro v7 w7 hown' hgrow _
                            obtain ⟨A7, c7, rfl⟩ := own_slice hown'
                            have HO7 : Hid (w7.ownsRow w4.heap.size 44 5 (.slice A7 (outl.length + 1) c7) (outl.length + 1) (trCells (outl ++ [⟨ps, rs, rc, S, K⟩]))) := Lib.hid (by rw [trCells_snoc]; simpa using hown')
                            have HB7 : Hid (Below w4.heap.size w4 w7) := Lib.hid ((HB6.out.alloc HB6.out.size _).grown hgrow (by simp; omega) (fun g hg => by
                              rcases HO2.out.2 with ⟨h1, _⟩ | ⟨g', cap, cur, h1, hg', _⟩
                              · rw [h1] at hg; simp [Value.ownBlock] at hg
                              · rw [h1] at hg; simp [Value.ownBlock] at hg; omega))
                            clear hown' hgrow
                            have hs7 := HB7.out.size
                            have v9 : IntKind.i64.wrap (left - S) = left - S := IntWalk.i64_in _ (by omega)
                            have hbf := HB7.out
                            go_wp2
                            go_roundw
                            case rel => exact ⟨k + 1, left - S, outl ++ [⟨ps, rs, rc, S, K⟩], A7, c7, by omega, by go_num, rfl, by rw [List.length_append]; rfl, HNX.out, by rw [List.length_append]; exact HO7.out, (by repeat (first | (with_reducible exact Below.refl _ _) | (with_reducible assumption) | (with_reducible refine below_drewN ?_ _) | (with_reducible refine Below.drew ?_) | (with_reducible refine Below.alloc ?_ ?_ _) | (with_reducible refine Below.setCell ?_ ?_ _) | exact Below.refl _ _ | assumption | (solve | omega | simp | (simp; omega))))⟩
                            case measure => simp [intOf]; omega
                        · have f2 : (E2 != 0) = true := by simpa using d2
                          have f2b : (E2 == 0) = false := beq_eq_false_iff_ne.2 d2
                          have HG := Lib.hid (giveT_take HR.out HA.out (giveT_bad2 HQ1.out (by rw [HS.out]; exact HQ2.out) (.inl d2)))
                          have hbf := HB6.out
                          go_wp2
                          go_roundw
                          case rel => exact ⟨k + 1, left, outl, A9, c9, by omega, by go_num, rfl, rfl, HG.out, own_below HO.out HC6.out, (by repeat (first | (with_reducible exact Below.refl _ _) | (with_reducible assumption) | (with_reducible refine below_drewN ?_ _) | (with_reducible refine Below.drew ?_) | (with_reducible refine Below.alloc ?_ ?_ _) | (with_reducible refine Below.setCell ?_ ?_ _) | exact Below.refl _ _ | assumption | (solve | omega | simp | (simp; omega))))⟩
                          case measure => simp [intOf]; omega
                      · have f1 : (E1 != 0) = true := by simpa using d1
                        have HG := Lib.hid (giveT_take HR.out HA.out (giveT_bad HQ1.out d1))
                        have hbf := HB5.out
                        go_wp2
                        go_roundw
                        case rel => exact ⟨k + 1, left, outl, A9, c9, by omega, by go_num, rfl, rfl, HG.out, own_below HO.out HC5.out, (by repeat (first | (with_reducible exact Below.refl _ _) | (with_reducible assumption) | (with_reducible refine below_drewN ?_ _) | (with_reducible refine Below.drew ?_) | (with_reducible refine Below.alloc ?_ ?_ _) | (with_reducible refine Below.setCell ?_ ?_ _) | exact Below.refl _ _ | assumption | (solve | omega | simp | (simp; omega))))⟩
                        case measure => simp [intOf]; omega
                · obtain rfl : n = k := by omega
                  have hbf := HB.out
                  have HF := Lib.hid (offR_yes (p := ⟨ps, pc, pa, po⟩) (xs := xs) (l := rt) (m := m) HP.out (inB_iff.2 ⟨m0, m1⟩) HCK0.out HGX.out)
                  have HFA : Hid ((offA ⟨ps, pc, pa, po⟩ rt m (srt xs)).2 = outl) := Lib.hid (by rw [← HSR.out, ← List.take_of_length_le (Nat.le_of_eq HYN.out), HA.out])
                  go_wp2
                  go_ret2
                  exact ⟨_, by rw [HF.out]; rfl, by rw [HF.out]; simp only; rw [HFA.out]; exact TrTab.own HO.out rfl, below_then HB4.out (by exact (by repeat (first | (with_reducible exact Below.refl _ _) | (with_reducible assumption) | (with_reducible refine below_drewN ?_ _) | (with_reducible refine Below.drew ?_) | (with_reducible refine Below.alloc ?_ ?_ _) | (with_reducible refine Below.setCell ?_ ?_ _) | exact Below.refl _ _ | assumption | (solve | omega | simp | (simp; omega)))))⟩
        · have HCK := Lib.hid hck
          clear hck
          have d0 : (chkS rt != 0) = true := by simpa using ck
          go_wp2_with fail
          refine (HCK.out).mono ?_
          rintro e w2 ⟨rfl, hb2⟩
          have HB2 := Lib.hid (below_then HB1.out hb2)
          clear hb2
          have HF := Lib.hid (offR_no (p := ⟨ps, pc, pa, po⟩) (xs := xs) (l := rt) (m := m) (.inr (.inr (.inl ck))))
          have hbf := HB2.out
          go_wp2
          go_ret2
          exact ⟨_, by rw [HF.out]; rfl, by rw [HF.out]; exact .inl ⟨_, _, rfl, rfl⟩, (by repeat (first | (with_reducible exact Below.refl _ _) | (with_reducible assumption) | (with_reducible refine below_drewN ?_ _) | (with_reducible refine Below.drew ?_) | (with_reducible refine Below.alloc ?_ ?_ _) | (with_reducible refine Below.setCell ?_ ?_ _) | exact Below.refl _ _ | assumption | (solve | omega | simp | (simp; omega))))⟩
      · have c1 : decide (2399 < m) = true := decide_eq_true (by omega)
        have HF := Lib.hid (offR_no (p := ⟨ps, pc, pa, po⟩) (xs := xs) (l := rt) (m := m) (.inr (.inl (inB_out (.inr (by omega))))))
        have hbf := HB1.out
        go_wp2
        go_ret2
        exact ⟨_, by rw [HF.out]; rfl, by rw [HF.out]; exact .inl ⟨_, _, rfl, rfl⟩, (by repeat (first | (with_reducible exact Below.refl _ _) | (with_reducible assumption) | (with_reducible refine below_drewN ?_ _) | (with_reducible refine Below.drew ?_) | (with_reducible refine Below.alloc ?_ ?_ _) | (with_reducible refine Below.setCell ?_ ?_ _) | exact Below.refl _ _ | assumption | (solve | omega | simp | (simp; omega))))⟩
    · have c0 : decide (m < 0) = true := decide_eq_true (by omega)
      have HF := Lib.hid (offR_no (p := ⟨ps, pc, pa, po⟩) (xs := xs) (l := rt) (m := m) (.inr (.inl (inB_out (.inl (by omega))))))
      have hbf := HB1.out
      go_wp2
      go_ret2
      exact ⟨_, by rw [HF.out]; rfl, by rw [HF.out]; exact .inl ⟨_, _, rfl, rfl⟩, (by repeat (first | (with_reducible exact Below.refl _ _) | (with_reducible assumption) | (with_reducible refine below_drewN ?_ _) | (with_reducible refine Below.drew ?_) | (with_reducible refine Below.alloc ?_ ?_ _) | (with_reducible refine Below.setCell ?_ ?_ _) | exact Below.refl _ _ | assumption | (solve | omega | simp | (simp; omega))))⟩
  · rw [hp] at hva
    have HVA := Lib.hid hva
    clear hva
    go_wp2_with fail
    refine (HVA.out _).mono ?_
    rintro e w1 ⟨rfl, hb1⟩
    have HB1 := Lib.hid (below_then (w := w) (by repeat (first | (with_reducible exact Below.refl _ _) | (with_reducible assumption) | (with_reducible refine below_drewN ?_ _) | (with_reducible refine Below.drew ?_) | (with_reducible refine Below.alloc ?_ ?_ _) | (with_reducible refine Below.setCell ?_ ?_ _) | exact Below.refl _ _ | assumption | (solve | omega | simp | (simp; omega)))) hb1)
    have BP1 := Lib.hid ((Bx.made w 33 #[.int .i64 ps, .int .i64 pc, .int .i64 pa, .int .i64 po] rfl).below hb1)
    have HP := Lib.hid hp
    clear hb1 hp
    have HF := Lib.hid (offR_no (p := ⟨ps, pc, pa, po⟩) (xs := xs) (l := rt) (m := m) (.inl HP.out))
    have hbf := HB1.out
    go_wp2
    go_ret2
    exact ⟨_, by rw [HF.out]; rfl, by rw [HF.out]; exact .inl ⟨_, _, rfl, rfl⟩, (by repeat (first | (with_reducible exact Below.refl _ _) | (with_reducible assumption) | (with_reducible refine below_drewN ?_ _) | (with_reducible refine Below.drew ?_) | (with_reducible refine Below.alloc ?_ ?_ _) | (with_reducible refine Below.setCell ?_ ?_ _) | exact Below.refl _ _ | assumption | (solve | omega | simp | (simp; omega))))⟩
end Go.Proofs.Ytaifacnpnhcdcaa
