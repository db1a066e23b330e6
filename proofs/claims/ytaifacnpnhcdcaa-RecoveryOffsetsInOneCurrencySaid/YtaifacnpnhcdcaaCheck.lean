/-
  Valid tables of rates: the plain function, and the contracts of CheckRates of the program and of the reference.
-/
import Derived.Test.YtaifacnpnhcdcaaTable
namespace Go.Proofs.Ytaifacnpnhcdcaa
open Go.RowKit Mny

/-- is a row valid by itself -/
def okR (r : Rt) : Bool := inB 1 999 r.c && (inB 0 2399 r.m && (validF r.n r.d && (inB 1 1000000 r.n && inB 1 1000000 r.d)))
/-- may row r follow row s -/
def folR (s r : Rt) : Bool := !(decide (r.c < s.c) || ((s.c == r.c) && decide (r.m ≤ s.m)))
/-- is row k valid where it stands -/
def rowOk (l : List Rt) (k : Nat) : Bool :=
  match l[k]? with
  | some r => okR r && (decide (k = 0) || (match l[k - 1]? with | some s => folR s r | none => true))
  | none => true
/-- what CheckRates returns -/
def chkS (l : List Rt) : Int := if 40 < l.length then 7 else if (List.range l.length).all (rowOk l) then 0 else 1
/-- the first k rows are valid -/
def ChkP (l : List Rt) (k : Nat) : Prop := ∀ j, j < k → rowOk l j = true
theorem ChkP.zero (l : List Rt) : ChkP l 0 := fun j h => absurd h (by omega)
theorem ChkP.next {l : List Rt} {k : Nat} (h : ChkP l k) (hk : rowOk l k = true) : ChkP l (k + 1) := fun j hj => by
  by_cases e : j = k
  · subst e; exact hk
  · exact h j (by omega)
theorem chk_long {l : List Rt} (h : 40 < l.length) : chkS l = 7 := by unfold chkS; rw [if_pos h]
theorem chk_bad {l : List Rt} {k : Nat} (h : ¬ 40 < l.length) (hk : k < l.length) (hb : rowOk l k = false) : chkS l = 1 := by
  unfold chkS
  rw [if_neg h, if_neg]
  rw [List.all_eq_true]
  intro ha
  have := ha k (List.mem_range.2 hk)
  rw [hb] at this
  cases this
theorem chk_good {l : List Rt} (h : ¬ 40 < l.length) (hk : ChkP l l.length) : chkS l = 0 := by
  unfold chkS
  rw [if_neg h, if_pos]
  rw [List.all_eq_true]
  exact fun x hx => hk x (List.mem_range.1 hx)
section
variable {l : List Rt} {k : Nat} {r s : Rt}
theorem rowOk_bad (hr : l[k]? = some r) (h : okR r = false) : rowOk l k = false := by unfold rowOk; rw [hr]; simp only [h, Bool.false_and]
theorem rowOk_bad2 (hr : l[k]? = some r) (hk : 0 < k) (hs : l[k - 1]? = some s) (h : folR s r = false) : rowOk l k = false := by
  unfold rowOk; rw [hr, hs]; simp only [h, Bool.or_false]
  rw [decide_eq_false (by omega), Bool.and_false]
theorem rowOk_first (hr : l[k]? = some r) (h : okR r = true) (hk : k = 0) : rowOk l k = true := by unfold rowOk; rw [hr]; simp only [h, hk, decide_true, Bool.true_or, Bool.and_self]
theorem rowOk_next (hr : l[k]? = some r) (h : okR r = true) (hs : l[k - 1]? = some s) (hf : folR s r = true) : rowOk l k = true := by unfold rowOk; rw [hr, hs]; simp only [h, hf, Bool.or_true, Bool.and_self]
end
section
variable {c m n d : Int}
theorem okR_c (h : inB 1 999 c = false) : okR ⟨c, m, n, d⟩ = false := by unfold okR; simp only [h, Bool.false_and]
theorem okR_m (h : inB 0 2399 m = false) : okR ⟨c, m, n, d⟩ = false := by unfold okR; simp only [h, Bool.false_and, Bool.and_false]
theorem okR_v (h : validF n d = false) : okR ⟨c, m, n, d⟩ = false := by unfold okR; simp only [h, Bool.false_and, Bool.and_false]
theorem okR_n (h : inB 1 1000000 n = false) : okR ⟨c, m, n, d⟩ = false := by unfold okR; simp only [h, Bool.false_and, Bool.and_false]
theorem okR_d (h : inB 1 1000000 d = false) : okR ⟨c, m, n, d⟩ = false := by unfold okR; simp only [h, Bool.and_false]
theorem okR_all (h1 : inB 1 999 c = true) (h2 : inB 0 2399 m = true) (h3 : validF n d = true) (h4 : inB 1 1000000 n = true) (h5 : inB 1 1000000 d = true) : okR ⟨c, m, n, d⟩ = true := by
  unfold okR; simp only [h1, h2, h3, h4, h5, Bool.and_self]
theorem folR_1 {a e f g : Int} (h : c < a) : folR ⟨a, e, f, g⟩ ⟨c, m, n, d⟩ = false := by unfold folR; simp [h]
theorem folR_2 {a e f g : Int} (h : a = c) (h2 : m ≤ e) : folR ⟨a, e, f, g⟩ ⟨c, m, n, d⟩ = false := by unfold folR; simp [h, h2]
theorem folR_3 {a e f g : Int} (h0 : ¬ c < a) (h2 : ¬ m ≤ e) : folR ⟨a, e, f, g⟩ ⟨c, m, n, d⟩ = true := by unfold folR; simp [h0, h2]
theorem folR_4 {a e f g : Int} (h0 : ¬ c < a) (h : ¬ a = c) : folR ⟨a, e, f, g⟩ ⟨c, m, n, d⟩ = true := by unfold folR; simp [h0, h]
end

theorem money_CheckRates0 (A : Option Addr) (c : Nat) (w : World) : Calls Try.prog 28 #[.slice A 0 c] w fun e w' => e = .returned (.int .i64 0) ∧ Below w.heap.size w w' := by
  go_enter Try.func28, Try.ntmps28
  go_wp2
  refine wp_loop_rounds 1 ?_
  rw [rounds_succ]
  go_wp2
  go_ret
  exact ⟨rfl, (by repeat (first | (with_reducible exact Below.refl _ _) | (with_reducible assumption) | (with_reducible refine below_drewN ?_ _) | (with_reducible refine Below.drew ?_) | (with_reducible refine Below.alloc ?_ ?_ _) | (with_reducible refine Below.setCell ?_ ?_ _) | exact Below.refl _ _ | assumption | (solve | omega | simp | (simp; omega))))⟩
theorem ref_CheckRates0 (A : Option Addr) (c : Nat) (w : World) : Calls Try.prog 35 #[.slice A 0 c] w fun e w' => e = .returned (.int .i64 0) ∧ Below w.heap.size w w' := by
  go_enter Try.func35, Try.ntmps35
  go_wp2
  refine wp_loop_rounds 1 ?_
  rw [rounds_succ]
  go_wp2
  go_ret
  exact ⟨rfl, (by repeat (first | (with_reducible exact Below.refl _ _) | (with_reducible assumption) | (with_reducible refine below_drewN ?_ _) | (with_reducible refine Below.drew ?_) | (with_reducible refine Below.alloc ?_ ?_ _) | (with_reducible refine Below.setCell ?_ ?_ _) | exact Below.refl _ _ | assumption | (solve | omega | simp | (simp; omega))))⟩

set_option maxRecDepth 100000 in
set_option maxHeartbeats 4000000 in
theorem money_CheckRates1 (l : List Rt) (n b off cc : Nat) (w : World) (hn : l.length = n) (hr : RatesAt w b off l) (hb : b < w.heap.size) (hl : n ≤ 1000000000000000) :
    Calls Try.prog 28 #[.slice (some ⟨b, off, none⟩) n cc] w fun e w' => e = .returned (.int .i64 (chkS l)) ∧ Below w.heap.size w w' := by
  by_cases h40 : 40 < n
  · have HF := Lib.hid (chk_long (l := l) (by rw [hn]; exact h40))
    clear hn hr
    go_enter Try.func28, Try.ntmps28
    go_wp2
    go_ret
    exact ⟨ret_int HF.out.symm, (by repeat (first | (with_reducible exact Below.refl _ _) | (with_reducible assumption) | (with_reducible refine below_drewN ?_ _) | (with_reducible refine Below.drew ?_) | (with_reducible refine Below.alloc ?_ ?_ _) | (with_reducible refine Below.setCell ?_ ?_ _) | exact Below.refl _ _ | assumption | (solve | omega | simp | (simp; omega))))⟩
  · have HN := Lib.hid hn
    have HR := Lib.hid hr
    have H40 : Hid (¬ 40 < l.length) := Lib.hid (by rw [hn]; exact h40)
    clear hn hr
    go_enter Try.func28, Try.ntmps28
    go_wp2
    go_loopw [10] (fun i wr => ∃ k : Nat, k ≤ n ∧ i = .int .i64 k ∧ ChkP l k ∧ Below w.heap.size w wr) (fun i _ => n - (intOf i).toNat)
    case atStart => exact ⟨0, Nat.zero_le _, rfl, ChkP.zero l, (by repeat (first | (with_reducible exact Below.refl _ _) | (with_reducible assumption) | (with_reducible refine below_drewN ?_ _) | (with_reducible refine Below.drew ?_) | (with_reducible refine Below.alloc ?_ ?_ _) | (with_reducible refine Below.setCell ?_ ?_ _) | exact Below.refl _ _ | assumption | (solve | omega | simp | (simp; omega))))⟩
    case round =>
      obtain ⟨k, hk, rfl, hch, hbl⟩ := hrel
      have HC := Lib.hid hch
      have HB := Lib.hid hbl
      have HRW := Lib.hid (HR.out.below hb hbl)
      have hsz : b < wr.heap.size := Nat.lt_of_lt_of_le hb hbl.size
      have hsz0 : w.heap.size ≤ wr.heap.size := hbl.size
      clear hch hbl
      by_cases hlt : k < n
      · obtain ⟨r, hr⟩ : ∃ r, l[k]? = some r := ⟨l[k]'(by rw [HN.out]; exact hlt), List.getElem?_eq_getElem _⟩
        obtain ⟨k0, k1, k2, k3⟩ := HRW.out k r hr
        have HK := Lib.hid hr
        have HKL : Hid (k < l.length) := Lib.hid (by rw [HN.out]; exact hlt)
        obtain ⟨rc, rm, rn, rd⟩ := r
        simp only at k0 k1 k2 k3
        clear hr
        have hB := HB.out
        have hcu := fun W => money_currency rc W
        rcases Bool.eq_false_or_eq_true (inB 1 999 rc) with hc | hc
        · rw [hc] at hcu
          have HCU := Lib.hid hcu
          clear hcu
          go_wp2_with fail
          refine (HCU.out _).mono ?_
          rintro e _ ⟨rfl, rfl⟩
          have HOC := Lib.hid hc
          clear hc
          have hmo := fun W => money_month rm W
          rcases Bool.eq_false_or_eq_true (inB 0 2399 rm) with hm | hm
          · rw [hm] at hmo
            have HMO := Lib.hid hmo
            clear hmo
            go_wp2_with fail
            refine (HMO.out _).mono ?_
            rintro e w1 ⟨rfl, hb1⟩
            have HB1 := Lib.hid (below_then (w := w) (by repeat (first | (with_reducible exact Below.refl _ _) | (with_reducible assumption) | (with_reducible refine below_drewN ?_ _) | (with_reducible refine Below.drew ?_) | (with_reducible refine Below.alloc ?_ ?_ _) | (with_reducible refine Below.setCell ?_ ?_ _) | exact Below.refl _ _ | assumption | (solve | omega | simp | (simp; omega)))) hb1)
            have HOM := Lib.hid hm
            clear hm
            have B1 := Lib.hid ((Bx.made wr 54 #[.int .i64 rc, .int .i64 rm, .int .i64 rn, .int .i64 rd] rfl).below hb1)
            obtain ⟨c1, q1⟩ := B1.out.of
            clear hb1
            have hva := fun W => rat_Valid rn rd W
            rcases Bool.eq_false_or_eq_true (validF rn rd) with hv | hv
            · rw [hv] at hva
              have HVA := Lib.hid hva
              clear hva
              go_wp2_with fail
              refine (HVA.out _).mono ?_
              rintro e w2 ⟨rfl, hb2⟩
              have HB2 := Lib.hid (below_then HB1.out hb2)
              have HOV := Lib.hid hv
              clear hv
              have B2 := Lib.hid (B1.out.below hb2)
              obtain ⟨c2, q2⟩ := B2.out.of
              clear hb2 c1 q1
              have HRL := Lib.hid (HR.out.below hb HB2.out)
              have hsm := fun W => money_small rn W
              rcases Bool.eq_false_or_eq_true (inB 1 1000000 rn) with hx | hx
              · rw [hx] at hsm
                have HSM := Lib.hid hsm
                clear hsm
                go_wp2_with fail
                refine (HSM.out _).mono ?_
                rintro e _ ⟨rfl, rfl⟩
                have HOX := Lib.hid hx
                clear hx
                have hsd := fun W => money_small rd W
                rcases Bool.eq_false_or_eq_true (inB 1 1000000 rd) with hy | hy
                · rw [hy] at hsd
                  have HSD := Lib.hid hsd
                  clear hsd
                  go_wp2_with fail
                  refine (HSD.out _).mono ?_
                  rintro e _ ⟨rfl, rfl⟩
                  have HOK := Lib.hid (okR_all HOC.out HOM.out HOV.out HOX.out hy)
                  clear hy
                  by_cases hz : k = 0
                  · have z1 : decide ((0 : Int) < (k : Int)) = false := decide_eq_false (by omega)
                    have z2 : decide (0 < k) = false := decide_eq_false (by omega)
                    have HNX := Lib.hid (HC.out.next (rowOk_first HK.out HOK.out hz))
                    have hBf := HB2.out
                    go_wp2
                    go_quiet (fail)
                    go_wp2
                    go_roundw
                    case rel => exact ⟨k + 1, by omega, by go_num, HNX.out, (by repeat (first | (with_reducible exact Below.refl _ _) | (with_reducible assumption) | (with_reducible refine below_drewN ?_ _) | (with_reducible refine Below.drew ?_) | (with_reducible refine Below.alloc ?_ ?_ _) | (with_reducible refine Below.setCell ?_ ?_ _) | exact Below.refl _ _ | assumption | (solve | omega | simp | (simp; omega))))⟩
                    case measure => simp [intOf]; omega
                  · have z1 : decide ((0 : Int) < (k : Int)) = true := decide_eq_true (by omega)
                    have z2 : decide (0 < k) = true := decide_eq_true (by omega)
                    obtain ⟨t, ht⟩ : ∃ t, l[k - 1]? = some t := ⟨l[k - 1]'(by rw [HN.out]; omega), List.getElem?_eq_getElem _⟩
                    have HS := Lib.hid ht
                    obtain ⟨j0, j1, -, -⟩ := HRL.out (k - 1) t ht
                    obtain ⟨sc, sm, sn, sd⟩ := t
                    simp only at j0 j1
                    have v1 : IntKind.i64.wrap ((k : Int) - 1) = (k : Int) - 1 := IntWalk.i64_in _ (by omega)
                    have v2 : (0 : Int) ≤ (k : Int) - 1 := by omega
                    have v3 : (k : Int) - 1 < (n : Int) := by omega
                    have v4 : ((k : Int) - 1).toNat = k - 1 := by omega
                    clear ht
                    by_cases d1 : rc < sc
                    · have e1 : decide (rc < sc) = true := decide_eq_true d1
                      have HF := Lib.hid (chk_bad H40.out HKL.out (rowOk_bad2 HK.out (by omega) HS.out (folR_1 d1)))
                      have hBf := HB2.out
                      go_wp2
                      go_quiet (fail)
                      go_wp2
                      go_ret
                      exact ⟨ret_int HF.out.symm, (by repeat (first | (with_reducible exact Below.refl _ _) | (with_reducible assumption) | (with_reducible refine below_drewN ?_ _) | (with_reducible refine Below.drew ?_) | (with_reducible refine Below.alloc ?_ ?_ _) | (with_reducible refine Below.setCell ?_ ?_ _) | exact Below.refl _ _ | assumption | (solve | omega | simp | (simp; omega))))⟩
                    · have e1 : decide (rc < sc) = false := decide_eq_false d1
                      by_cases d2 : sc = rc
                      · have e2 : (sc == rc) = true := beq_iff_eq.2 d2
                        by_cases d3 : rm ≤ sm
                        · have e3 : decide (rm ≤ sm) = true := decide_eq_true d3
                          have HFO := Lib.hid (folR_2 (n := rn) (d := rd) (f := sn) (g := sd) d2 d3)
                          clear d2
                          have HF := Lib.hid (chk_bad H40.out HKL.out (rowOk_bad2 HK.out (by omega) HS.out (HFO.out)))
                          have hBf := HB2.out
                          go_wp2
                          go_quiet (fail)
                          go_wp2
                          go_ret
                          exact ⟨ret_int HF.out.symm, (by repeat (first | (with_reducible exact Below.refl _ _) | (with_reducible assumption) | (with_reducible refine below_drewN ?_ _) | (with_reducible refine Below.drew ?_) | (with_reducible refine Below.alloc ?_ ?_ _) | (with_reducible refine Below.setCell ?_ ?_ _) | exact Below.refl _ _ | assumption | (solve | omega | simp | (simp; omega))))⟩
                        · have e3 : decide (rm ≤ sm) = false := decide_eq_false d3
                          clear d2
                          have HNX := Lib.hid (HC.out.next (rowOk_next HK.out HOK.out HS.out (folR_3 d1 d3)))
                          have hBf := HB2.out
                          go_wp2
                          go_quiet (fail)
                          go_wp2
                          go_roundw
                          case rel => exact ⟨k + 1, by omega, by go_num, HNX.out, (by repeat (first | (with_reducible exact Below.refl _ _) | (with_reducible assumption) | (with_reducible refine below_drewN ?_ _) | (with_reducible refine Below.drew ?_) | (with_reducible refine Below.alloc ?_ ?_ _) | (with_reducible refine Below.setCell ?_ ?_ _) | exact Below.refl _ _ | assumption | (solve | omega | simp | (simp; omega))))⟩
                          case measure => simp [intOf]; omega
                      · have e2 : (sc == rc) = false := beq_eq_false_iff_ne.2 d2
                        have HFO := Lib.hid (folR_4 (m := rm) (n := rn) (d := rd) (e := sm) (f := sn) (g := sd) d1 d2)
                        clear d2
                        have HNX := Lib.hid (HC.out.next (rowOk_next HK.out HOK.out HS.out HFO.out))
                        have hBf := HB2.out
                        go_wp2
                        go_quiet (fail)
                        go_wp2
                        go_roundw
                        case rel => exact ⟨k + 1, by omega, by go_num, HNX.out, (by repeat (first | (with_reducible exact Below.refl _ _) | (with_reducible assumption) | (with_reducible refine below_drewN ?_ _) | (with_reducible refine Below.drew ?_) | (with_reducible refine Below.alloc ?_ ?_ _) | (with_reducible refine Below.setCell ?_ ?_ _) | exact Below.refl _ _ | assumption | (solve | omega | simp | (simp; omega))))⟩
                        case measure => simp [intOf]; omega
                · rw [hy] at hsd
                  have HSD := Lib.hid hsd
                  clear hsd
                  go_wp2_with fail
                  refine (HSD.out _).mono ?_
                  rintro e _ ⟨rfl, rfl⟩
                  have HF := Lib.hid (chk_bad H40.out HKL.out (rowOk_bad HK.out (okR_d hy)))
                  have hBf := HB2.out
                  go_wp2
                  go_ret
                  exact ⟨ret_int HF.out.symm, (by repeat (first | (with_reducible exact Below.refl _ _) | (with_reducible assumption) | (with_reducible refine below_drewN ?_ _) | (with_reducible refine Below.drew ?_) | (with_reducible refine Below.alloc ?_ ?_ _) | (with_reducible refine Below.setCell ?_ ?_ _) | exact Below.refl _ _ | assumption | (solve | omega | simp | (simp; omega))))⟩
              · rw [hx] at hsm
                have HSM := Lib.hid hsm
                clear hsm
                go_wp2_with fail
                refine (HSM.out _).mono ?_
                rintro e _ ⟨rfl, rfl⟩
                have HF := Lib.hid (chk_bad H40.out HKL.out (rowOk_bad HK.out (okR_n hx)))
                have hBf := HB2.out
                go_wp2
                go_ret
                exact ⟨ret_int HF.out.symm, (by repeat (first | (with_reducible exact Below.refl _ _) | (with_reducible assumption) | (with_reducible refine below_drewN ?_ _) | (with_reducible refine Below.drew ?_) | (with_reducible refine Below.alloc ?_ ?_ _) | (with_reducible refine Below.setCell ?_ ?_ _) | exact Below.refl _ _ | assumption | (solve | omega | simp | (simp; omega))))⟩
            · rw [hv] at hva
              have HVA := Lib.hid hva
              clear hva
              go_wp2_with fail
              refine (HVA.out _).mono ?_
              rintro e w2 ⟨rfl, hb2⟩
              have HB2 := Lib.hid (below_then HB1.out hb2)
              have HF := Lib.hid (chk_bad H40.out HKL.out (rowOk_bad HK.out (okR_v hv)))
              have hBf := HB2.out
              go_wp2
              go_ret
              exact ⟨ret_int HF.out.symm, (by repeat (first | (with_reducible exact Below.refl _ _) | (with_reducible assumption) | (with_reducible refine below_drewN ?_ _) | (with_reducible refine Below.drew ?_) | (with_reducible refine Below.alloc ?_ ?_ _) | (with_reducible refine Below.setCell ?_ ?_ _) | exact Below.refl _ _ | assumption | (solve | omega | simp | (simp; omega))))⟩
          · rw [hm] at hmo
            have HMO := Lib.hid hmo
            clear hmo
            go_wp2_with fail
            refine (HMO.out _).mono ?_
            rintro e w1 ⟨rfl, hb1⟩
            have HB1 := Lib.hid (below_then (w := w) (by repeat (first | (with_reducible exact Below.refl _ _) | (with_reducible assumption) | (with_reducible refine below_drewN ?_ _) | (with_reducible refine Below.drew ?_) | (with_reducible refine Below.alloc ?_ ?_ _) | (with_reducible refine Below.setCell ?_ ?_ _) | exact Below.refl _ _ | assumption | (solve | omega | simp | (simp; omega)))) hb1)
            have HF := Lib.hid (chk_bad H40.out HKL.out (rowOk_bad HK.out (okR_m hm)))
            have hBf := HB1.out
            go_wp2
            go_ret
            exact ⟨ret_int HF.out.symm, (by repeat (first | (with_reducible exact Below.refl _ _) | (with_reducible assumption) | (with_reducible refine below_drewN ?_ _) | (with_reducible refine Below.drew ?_) | (with_reducible refine Below.alloc ?_ ?_ _) | (with_reducible refine Below.setCell ?_ ?_ _) | exact Below.refl _ _ | assumption | (solve | omega | simp | (simp; omega))))⟩
        · rw [hc] at hcu
          have HCU := Lib.hid hcu
          clear hcu
          go_wp2_with fail
          refine (HCU.out _).mono ?_
          rintro e _ ⟨rfl, rfl⟩
          have HF := Lib.hid (chk_bad H40.out HKL.out (rowOk_bad HK.out (okR_c hc)))
          have hBf := HB.out
          go_wp2
          go_ret
          exact ⟨ret_int HF.out.symm, (by repeat (first | (with_reducible exact Below.refl _ _) | (with_reducible assumption) | (with_reducible refine below_drewN ?_ _) | (with_reducible refine Below.drew ?_) | (with_reducible refine Below.alloc ?_ ?_ _) | (with_reducible refine Below.setCell ?_ ?_ _) | exact Below.refl _ _ | assumption | (solve | omega | simp | (simp; omega))))⟩
      · obtain rfl : k = n := by omega
        have HF := Lib.hid (chk_good H40.out (by rw [HN.out]; exact HC.out))
        have hB := HB.out
        go_wp2
        go_ret
        exact ⟨ret_int HF.out.symm, (by repeat (first | (with_reducible exact Below.refl _ _) | (with_reducible assumption) | (with_reducible refine below_drewN ?_ _) | (with_reducible refine Below.drew ?_) | (with_reducible refine Below.alloc ?_ ?_ _) | (with_reducible refine Below.setCell ?_ ?_ _) | exact Below.refl _ _ | assumption | (solve | omega | simp | (simp; omega))))⟩

set_option maxRecDepth 100000 in
set_option maxHeartbeats 4000000 in
theorem ref_CheckRates1 (l : List Rt) (n b off cc : Nat) (w : World) (hn : l.length = n) (hr : RatesAt w b off l) (hb : b < w.heap.size) (hl : n ≤ 1000000000000000) :
    Calls Try.prog 35 #[.slice (some ⟨b, off, none⟩) n cc] w fun e w' => e = .returned (.int .i64 (chkS l)) ∧ Below w.heap.size w w' := by
  by_cases h40 : 40 < n
  · have HF := Lib.hid (chk_long (l := l) (by rw [hn]; exact h40))
    clear hn hr
    go_enter Try.func35, Try.ntmps35
    go_wp2
    go_ret
    exact ⟨ret_int HF.out.symm, (by repeat (first | (with_reducible exact Below.refl _ _) | (with_reducible assumption) | (with_reducible refine below_drewN ?_ _) | (with_reducible refine Below.drew ?_) | (with_reducible refine Below.alloc ?_ ?_ _) | (with_reducible refine Below.setCell ?_ ?_ _) | exact Below.refl _ _ | assumption | (solve | omega | simp | (simp; omega))))⟩
  · have HN := Lib.hid hn
    have HR := Lib.hid hr
    have H40 : Hid (¬ 40 < l.length) := Lib.hid (by rw [hn]; exact h40)
    clear hn hr
    go_enter Try.func35, Try.ntmps35
    go_wp2
    go_loopw [3] (fun i wr => ∃ k : Nat, k ≤ n ∧ i = .int .i64 k ∧ ChkP l k ∧ Below w.heap.size w wr) (fun i _ => n - (intOf i).toNat)
    case atStart => exact ⟨0, Nat.zero_le _, rfl, ChkP.zero l, (by repeat (first | (with_reducible exact Below.refl _ _) | (with_reducible assumption) | (with_reducible refine below_drewN ?_ _) | (with_reducible refine Below.drew ?_) | (with_reducible refine Below.alloc ?_ ?_ _) | (with_reducible refine Below.setCell ?_ ?_ _) | exact Below.refl _ _ | assumption | (solve | omega | simp | (simp; omega))))⟩
    case round =>
      obtain ⟨k, hk, rfl, hch, hbl⟩ := hrel
      have HC := Lib.hid hch
      have HB := Lib.hid hbl
      have HRW := Lib.hid (HR.out.below hb hbl)
      have hsz : b < wr.heap.size := Nat.lt_of_lt_of_le hb hbl.size
      have hsz0 : w.heap.size ≤ wr.heap.size := hbl.size
      clear hch hbl
      by_cases hlt : k < n
      · obtain ⟨r, hr⟩ : ∃ r, l[k]? = some r := ⟨l[k]'(by rw [HN.out]; exact hlt), List.getElem?_eq_getElem _⟩
        obtain ⟨k0, k1, k2, k3⟩ := HRW.out k r hr
        have HK := Lib.hid hr
        have HKL : Hid (k < l.length) := Lib.hid (by rw [HN.out]; exact hlt)
        obtain ⟨rc, rm, rn, rd⟩ := r
        simp only at k0 k1 k2 k3
        clear hr
        have hB := HB.out
        by_cases a1 : rc < 1
        · have g1 : decide (rc < 1) = true := decide_eq_true a1
          have HIN := Lib.hid (inB_out (lo := 1) (hi := 999) (.inl a1))
          have HF := Lib.hid (chk_bad H40.out HKL.out (rowOk_bad HK.out (okR_c HIN.out)))
          have hBf := HB.out
          go_wp2
          go_ret
          exact ⟨ret_int HF.out.symm, (by repeat (first | (with_reducible exact Below.refl _ _) | (with_reducible assumption) | (with_reducible refine below_drewN ?_ _) | (with_reducible refine Below.drew ?_) | (with_reducible refine Below.alloc ?_ ?_ _) | (with_reducible refine Below.setCell ?_ ?_ _) | exact Below.refl _ _ | assumption | (solve | omega | simp | (simp; omega))))⟩
        · have g1 : decide (rc < 1) = false := decide_eq_false a1
          by_cases a2 : 999 < rc
          · have g2 : decide (999 < rc) = true := decide_eq_true a2
            have HIN := Lib.hid (inB_out (lo := 1) (hi := 999) (.inr a2))
            have HF := Lib.hid (chk_bad H40.out HKL.out (rowOk_bad HK.out (okR_c HIN.out)))
            have hBf := HB.out
            go_wp2
            go_ret
            exact ⟨ret_int HF.out.symm, (by repeat (first | (with_reducible exact Below.refl _ _) | (with_reducible assumption) | (with_reducible refine below_drewN ?_ _) | (with_reducible refine Below.drew ?_) | (with_reducible refine Below.alloc ?_ ?_ _) | (with_reducible refine Below.setCell ?_ ?_ _) | exact Below.refl _ _ | assumption | (solve | omega | simp | (simp; omega))))⟩
          · have g2 : decide (999 < rc) = false := decide_eq_false a2
            have HOC : Hid (inB 1 999 rc = true) := Lib.hid (inB_iff.2 ⟨by omega, by omega⟩)
            have hmo := fun W => ref_ValidMonth rm W
            rcases Bool.eq_false_or_eq_true (inB 0 2399 rm) with hm | hm
            · rw [hm] at hmo
              have HMO := Lib.hid hmo
              clear hmo
              go_wp2_with fail
              refine (HMO.out _).mono ?_
              rintro e _ ⟨rfl, rfl⟩
              have HOM := Lib.hid hm
              clear hm
              have hva := fun W => ref_ValidFraction rn rd W
              rcases Bool.eq_false_or_eq_true (validF rn rd) with hv | hv
              · rw [hv] at hva
                have HVA := Lib.hid hva
                clear hva
                go_wp2_with fail
                refine (HVA.out _).mono ?_
                rintro e w2 ⟨rfl, hb2⟩
                have HB2 := Lib.hid (below_then (w := w) (by repeat (first | (with_reducible exact Below.refl _ _) | (with_reducible assumption) | (with_reducible refine below_drewN ?_ _) | (with_reducible refine Below.drew ?_) | (with_reducible refine Below.alloc ?_ ?_ _) | (with_reducible refine Below.setCell ?_ ?_ _) | exact Below.refl _ _ | assumption | (solve | omega | simp | (simp; omega)))) hb2)
                obtain ⟨x1, x2, x3, x4, _⟩ := validF_iff.1 hv
                have HOV := Lib.hid hv
                clear hv
                have B2 := Lib.hid ((Bx.made wr 51 #[.int .i64 rn, .int .i64 rd] rfl).below hb2)
                obtain ⟨c2, q2⟩ := B2.out.of
                have HRL := Lib.hid (HR.out.below hb HB2.out)
                obtain ⟨l0, l1, -, -⟩ := HRL.out k _ HK.out
                simp only at l0 l1
                clear hb2
                by_cases a3 : rn < 1
                · have g3 : decide (rn < 1) = true := decide_eq_true a3
                  have HIN := Lib.hid (inB_out (lo := 1) (hi := 1000000) (.inl a3))
                  have HF := Lib.hid (chk_bad H40.out HKL.out (rowOk_bad HK.out (okR_n HIN.out)))
                  have hBf := HB2.out
                  go_wp2
                  go_ret
                  exact ⟨ret_int HF.out.symm, (by repeat (first | (with_reducible exact Below.refl _ _) | (with_reducible assumption) | (with_reducible refine below_drewN ?_ _) | (with_reducible refine Below.drew ?_) | (with_reducible refine Below.alloc ?_ ?_ _) | (with_reducible refine Below.setCell ?_ ?_ _) | exact Below.refl _ _ | assumption | (solve | omega | simp | (simp; omega))))⟩
                · have g3 : decide (rn < 1) = false := decide_eq_false a3
                  by_cases a4 : 1000000 < rn
                  · have g4 : decide (1000000 < rn) = true := decide_eq_true a4
                    have HIN := Lib.hid (inB_out (lo := 1) (hi := 1000000) (.inr a4))
                    have HF := Lib.hid (chk_bad H40.out HKL.out (rowOk_bad HK.out (okR_n HIN.out)))
                    have hBf := HB2.out
                    go_wp2
                    go_ret
                    exact ⟨ret_int HF.out.symm, (by repeat (first | (with_reducible exact Below.refl _ _) | (with_reducible assumption) | (with_reducible refine below_drewN ?_ _) | (with_reducible refine Below.drew ?_) | (with_reducible refine Below.alloc ?_ ?_ _) | (with_reducible refine Below.setCell ?_ ?_ _) | exact Below.refl _ _ | assumption | (solve | omega | simp | (simp; omega))))⟩
                  · have g4 : decide (1000000 < rn) = false := decide_eq_false a4
                    have HOX : Hid (inB 1 1000000 rn = true) := Lib.hid (inB_iff.2 ⟨by omega, by omega⟩)
                    by_cases a5 : 1000000 < rd
                    · have g5 : decide (1000000 < rd) = true := decide_eq_true a5
                      have HIN := Lib.hid (inB_out (lo := 1) (hi := 1000000) (.inr a5))
                      have HF := Lib.hid (chk_bad H40.out HKL.out (rowOk_bad HK.out (okR_d HIN.out)))
                      have hBf := HB2.out
                      go_wp2
                      go_ret
                      exact ⟨ret_int HF.out.symm, (by repeat (first | (with_reducible exact Below.refl _ _) | (with_reducible assumption) | (with_reducible refine below_drewN ?_ _) | (with_reducible refine Below.drew ?_) | (with_reducible refine Below.alloc ?_ ?_ _) | (with_reducible refine Below.setCell ?_ ?_ _) | exact Below.refl _ _ | assumption | (solve | omega | simp | (simp; omega))))⟩
                    · have g5 : decide (1000000 < rd) = false := decide_eq_false a5
                      have HOK := Lib.hid (okR_all HOC.out HOM.out HOV.out HOX.out (inB_iff.2 ⟨by omega, by omega⟩))
                      by_cases hz : k = 0
                      · have z1 : decide ((0 : Int) < (k : Int)) = false := decide_eq_false (by omega)
                        have z2 : decide (0 < k) = false := decide_eq_false (by omega)
                        have HNX := Lib.hid (HC.out.next (rowOk_first HK.out HOK.out hz))
                        have hBf := HB2.out
                        go_wp2
                        go_quiet (fail)
                        go_wp2
                        go_roundw
                        case rel => exact ⟨k + 1, by omega, by go_num, HNX.out, (by repeat (first | (with_reducible exact Below.refl _ _) | (with_reducible assumption) | (with_reducible refine below_drewN ?_ _) | (with_reducible refine Below.drew ?_) | (with_reducible refine Below.alloc ?_ ?_ _) | (with_reducible refine Below.setCell ?_ ?_ _) | exact Below.refl _ _ | assumption | (solve | omega | simp | (simp; omega))))⟩
                        case measure => simp [intOf]; omega
                      · have z1 : decide ((0 : Int) < (k : Int)) = true := decide_eq_true (by omega)
                        have z2 : decide (0 < k) = true := decide_eq_true (by omega)
                        obtain ⟨t, ht⟩ : ∃ t, l[k - 1]? = some t := ⟨l[k - 1]'(by rw [HN.out]; omega), List.getElem?_eq_getElem _⟩
                        have HS := Lib.hid ht
                        obtain ⟨j0, j1, -, -⟩ := HRL.out (k - 1) t ht
                        obtain ⟨sc, sm, sn, sd⟩ := t
                        simp only at j0 j1
                        have v1 : IntKind.i64.wrap ((k : Int) - 1) = (k : Int) - 1 := IntWalk.i64_in _ (by omega)
                        have v2 : (0 : Int) ≤ (k : Int) - 1 := by omega
                        have v3 : (k : Int) - 1 < (n : Int) := by omega
                        have v4 : ((k : Int) - 1).toNat = k - 1 := by omega
                        clear ht
                        by_cases d1 : rc < sc
                        · have e1 : decide (rc < sc) = true := decide_eq_true d1
                          have HF := Lib.hid (chk_bad H40.out HKL.out (rowOk_bad2 HK.out (by omega) HS.out (folR_1 d1)))
                          have hBf := HB2.out
                          go_wp2
                          go_quiet (fail)
                          go_wp2
                          go_ret
                          exact ⟨ret_int HF.out.symm, (by repeat (first | (with_reducible exact Below.refl _ _) | (with_reducible assumption) | (with_reducible refine below_drewN ?_ _) | (with_reducible refine Below.drew ?_) | (with_reducible refine Below.alloc ?_ ?_ _) | (with_reducible refine Below.setCell ?_ ?_ _) | exact Below.refl _ _ | assumption | (solve | omega | simp | (simp; omega))))⟩
                        · have e1 : decide (rc < sc) = false := decide_eq_false d1
                          by_cases d2 : sc = rc
                          · have e2 : (sc == rc) = true := beq_iff_eq.2 d2
                            by_cases d3 : rm ≤ sm
                            · have e3 : decide (rm ≤ sm) = true := decide_eq_true d3
                              have HFO := Lib.hid (folR_2 (n := rn) (d := rd) (f := sn) (g := sd) d2 d3)
                              clear d2
                              have HF := Lib.hid (chk_bad H40.out HKL.out (rowOk_bad2 HK.out (by omega) HS.out (HFO.out)))
                              have hBf := HB2.out
                              go_wp2
                              go_quiet (fail)
                              go_wp2
                              go_ret
                              exact ⟨ret_int HF.out.symm, (by repeat (first | (with_reducible exact Below.refl _ _) | (with_reducible assumption) | (with_reducible refine below_drewN ?_ _) | (with_reducible refine Below.drew ?_) | (with_reducible refine Below.alloc ?_ ?_ _) | (with_reducible refine Below.setCell ?_ ?_ _) | exact Below.refl _ _ | assumption | (solve | omega | simp | (simp; omega))))⟩
                            · have e3 : decide (rm ≤ sm) = false := decide_eq_false d3
                              clear d2
                              have HNX := Lib.hid (HC.out.next (rowOk_next HK.out HOK.out HS.out (folR_3 d1 d3)))
                              have hBf := HB2.out
                              go_wp2
                              go_quiet (fail)
                              go_wp2
                              go_roundw
                              case rel => exact ⟨k + 1, by omega, by go_num, HNX.out, (by repeat (first | (with_reducible exact Below.refl _ _) | (with_reducible assumption) | (with_reducible refine below_drewN ?_ _) | (with_reducible refine Below.drew ?_) | (with_reducible refine Below.alloc ?_ ?_ _) | (with_reducible refine Below.setCell ?_ ?_ _) | exact Below.refl _ _ | assumption | (solve | omega | simp | (simp; omega))))⟩
                              case measure => simp [intOf]; omega
                          · have e2 : (sc == rc) = false := beq_eq_false_iff_ne.2 d2
                            have HFO := Lib.hid (folR_4 (m := rm) (n := rn) (d := rd) (e := sm) (f := sn) (g := sd) d1 d2)
                            clear d2
                            have HNX := Lib.hid (HC.out.next (rowOk_next HK.out HOK.out HS.out HFO.out))
                            have hBf := HB2.out
                            go_wp2
                            go_quiet (fail)
                            go_wp2
                            go_roundw
                            case rel => exact ⟨k + 1, by omega, by go_num, HNX.out, (by repeat (first | (with_reducible exact Below.refl _ _) | (with_reducible assumption) | (with_reducible refine below_drewN ?_ _) | (with_reducible refine Below.drew ?_) | (with_reducible refine Below.alloc ?_ ?_ _) | (with_reducible refine Below.setCell ?_ ?_ _) | exact Below.refl _ _ | assumption | (solve | omega | simp | (simp; omega))))⟩
                            case measure => simp [intOf]; omega
              · rw [hv] at hva
                have HVA := Lib.hid hva
                clear hva
                go_wp2_with fail
                refine (HVA.out _).mono ?_
                rintro e w2 ⟨rfl, hb2⟩
                have HB2 := Lib.hid (below_then (w := w) (by repeat (first | (with_reducible exact Below.refl _ _) | (with_reducible assumption) | (with_reducible refine below_drewN ?_ _) | (with_reducible refine Below.drew ?_) | (with_reducible refine Below.alloc ?_ ?_ _) | (with_reducible refine Below.setCell ?_ ?_ _) | exact Below.refl _ _ | assumption | (solve | omega | simp | (simp; omega)))) hb2)
                have HF := Lib.hid (chk_bad H40.out HKL.out (rowOk_bad HK.out (okR_v hv)))
                have hBf := HB2.out
                go_wp2
                go_ret
                exact ⟨ret_int HF.out.symm, (by repeat (first | (with_reducible exact Below.refl _ _) | (with_reducible assumption) | (with_reducible refine below_drewN ?_ _) | (with_reducible refine Below.drew ?_) | (with_reducible refine Below.alloc ?_ ?_ _) | (with_reducible refine Below.setCell ?_ ?_ _) | exact Below.refl _ _ | assumption | (solve | omega | simp | (simp; omega))))⟩
            · rw [hm] at hmo
              have HMO := Lib.hid hmo
              clear hmo
              go_wp2_with fail
              refine (HMO.out _).mono ?_
              rintro e _ ⟨rfl, rfl⟩
              have HF := Lib.hid (chk_bad H40.out HKL.out (rowOk_bad HK.out (okR_m hm)))
              have hBf := HB.out
              go_wp2
              go_ret
              exact ⟨ret_int HF.out.symm, (by repeat (first | (with_reducible exact Below.refl _ _) | (with_reducible assumption) | (with_reducible refine below_drewN ?_ _) | (with_reducible refine Below.drew ?_) | (with_reducible refine Below.alloc ?_ ?_ _) | (with_reducible refine Below.setCell ?_ ?_ _) | exact Below.refl _ _ | assumption | (solve | omega | simp | (simp; omega))))⟩
      · obtain rfl : k = n := by omega
        have HF := Lib.hid (chk_good H40.out (by rw [HN.out]; exact HC.out))
        have hB := HB.out
        go_wp2
        go_ret
        exact ⟨ret_int HF.out.symm, (by repeat (first | (with_reducible exact Below.refl _ _) | (with_reducible assumption) | (with_reducible refine below_drewN ?_ _) | (with_reducible refine Below.drew ?_) | (with_reducible refine Below.alloc ?_ ?_ _) | (with_reducible refine Below.setCell ?_ ?_ _) | exact Below.refl _ _ | assumption | (solve | omega | simp | (simp; omega))))⟩
end Go.Proofs.Ytaifacnpnhcdcaa
