/-
  The contract of the program's Apply.
-/
import Derived.Test.YthpknbflmcoanaaDoorNet
namespace Go.Proofs.YthpknbflmcoanaaDoor
open Go.RowKit Mny

/-- the first k rows of this array: the elements' fields, then D, then A -/
def NetsTo (l : List Gr) (D A : Nat → Gr → Int) (ar : Array Value) (k : Nat) : Prop := ∀ x g, x < k → l[x]? = some g →
  ar[x * 7]? = some (.int .i64 g.s) ∧ ar[x * 7 + 1]? = some (.int .i64 g.b) ∧ ar[x * 7 + 2]? = some (.int .i64 g.c) ∧ ar[x * 7 + 3]? = some (.int .i64 g.i) ∧ ar[x * 7 + 4]? = some (.int .i64 g.p) ∧ ar[x * 7 + 5]? = some (.int .i64 (D x g)) ∧ ar[x * 7 + 6]? = some (.int .i64 (A x g))
theorem put_far {ar : Array Value} {i j : Nat} {v : Value} (h : i ≠ j) : (ar.setIfInBounds i v)[j]? = ar[j]? := by rw [Array.getElem?_setIfInBounds, if_neg h]
theorem put_at {ar : Array Value} {i : Nat} {v : Value} (h : i < ar.size) : (ar.setIfInBounds i v)[i]? = some v := by rw [Array.getElem?_setIfInBounds, if_pos rfl, if_pos h]
theorem NetsTo.next {l : List Gr} {D A : Nat → Gr → Int} {ar : Array Value} {k : Nat} {g : Gr} (h : NetsTo l D A ar k) (hg : l[k]? = some g) (hs : k * 7 + 7 ≤ ar.size) :
    NetsTo l D A (((((((ar.setIfInBounds (k * 7) (.int .i64 g.s)).setIfInBounds (k * 7 + 1) (.int .i64 g.b)).setIfInBounds (k * 7 + 2) (.int .i64 g.c)).setIfInBounds (k * 7 + 3) (.int .i64 g.i)).setIfInBounds (k * 7 + 4) (.int .i64 g.p)).setIfInBounds (k * 7 + 5) (.int .i64 (D k g))).setIfInBounds (k * 7 + 6) (.int .i64 (A k g))) (k + 1) := fun x g' hx hg' => by
  by_cases e : x = k
  · subst e
    rw [hg] at hg'
    injection hg' with hg'
    subst hg'
    refine ⟨?_, ?_, ?_, ?_, ?_, ?_, ?_⟩ <;> (repeat (first | (rw [put_at (by (try simp only [Array.size_setIfInBounds]); omega)]; done) | rw [put_far (by omega)]))
  · obtain ⟨h0, h1, h2, h3, h4, h5, h6⟩ := h x g' (by omega) hg'
    refine ⟨?_, ?_, ?_, ?_, ?_, ?_, ?_⟩ <;> (repeat rw [put_far (by omega)]) <;> assumption
/-- only D of row y turns -/
theorem NetsTo.putD {l : List Gr} {D D' A : Nat → Gr → Int} {ar : Array Value} {k y : Nat} {z : Int} (h : NetsTo l D A ar k) (hs : k * 7 ≤ ar.size) (hy : y < k) (h1 : ∀ g, l[y]? = some g → D' y g = z) (h2 : ∀ x g, x ≠ y → l[x]? = some g → D' x g = D x g) :
    NetsTo l D' A (ar.setIfInBounds (y * 7 + 5) (.int .i64 z)) k := fun x g hx hg => by
  obtain ⟨a0, a1, a2, a3, a4, a5, a6⟩ := h x g hx hg
  refine ⟨?_, ?_, ?_, ?_, ?_, ?_, ?_⟩
  · rw [put_far (by omega)]; exact a0
  · rw [put_far (by omega)]; exact a1
  · rw [put_far (by omega)]; exact a2
  · rw [put_far (by omega)]; exact a3
  · rw [put_far (by omega)]; exact a4
  · by_cases e : x = y
    · subst e; rw [put_at (by omega), h1 g hg]
    · rw [put_far (by omega), h2 x g e hg]; exact a5
  · rw [put_far (by omega)]; exact a6
/-- only A of row y turns -/
theorem NetsTo.putA {l : List Gr} {D A A' : Nat → Gr → Int} {ar : Array Value} {k y : Nat} {z : Int} (h : NetsTo l D A ar k) (hs : k * 7 ≤ ar.size) (hy : y < k) (h1 : ∀ g, l[y]? = some g → A' y g = z) (h2 : ∀ x g, x ≠ y → l[x]? = some g → A' x g = A x g) :
    NetsTo l D A' (ar.setIfInBounds (y * 7 + 6) (.int .i64 z)) k := fun x g hx hg => by
  obtain ⟨a0, a1, a2, a3, a4, a5, a6⟩ := h x g hx hg
  refine ⟨?_, ?_, ?_, ?_, ?_, ?_, ?_⟩
  · rw [put_far (by omega)]; exact a0
  · rw [put_far (by omega)]; exact a1
  · rw [put_far (by omega)]; exact a2
  · rw [put_far (by omega)]; exact a3
  · rw [put_far (by omega)]; exact a4
  · rw [put_far (by omega)]; exact a5
  · by_cases e : x = y
    · subst e; rw [put_at (by omega), h1 g hg]
    · rw [put_far (by omega), h2 x g e hg]; exact a6
theorem DedTab.slice {w : World} {v : Value} {ds : List Ded} (h : DedTab w v ds) : ∃ A c, v = .slice A ds.length c := by
  rcases h with ⟨A, c, rfl, rfl⟩ | ⟨b, off, n, c, rfl, rfl, _⟩
  · exact ⟨_, _, rfl⟩
  · exact ⟨_, _, rfl⟩
theorem DedTab.row {w : World} {A : Option Addr} {n c k : Nat} {ds : List Ded} {r : Ded} (h : DedTab w (.slice A n c) ds) (hk : ds[k]? = some r) : ∃ b off, A = some ⟨b, off, none⟩ ∧ DedAt w b off ds ∧ b < w.heap.size := by
  rcases h with ⟨A', c', _, rfl⟩ | ⟨b, off, n', c', he, _, h1, h2⟩
  · cases hk
  · injection he with e1 e2 e3
    exact ⟨b, off, e1, h1, h2⟩
theorem ValG.bd {l : List Gr} (h : ValG l) {x : Nat} {g : Gr} (hx : l[x]? = some g) : (0 ≤ g.i ∧ g.i ≤ 1000000000000) ∧ 0 ≤ g.p ∧ g.p ≤ 1000000000000 := by
  have := (h.2 x g (List.getElem?_eq_some_iff.1 hx).1 hx).1
  obtain ⟨gs, gb, gc, gi, gp, gn, gd⟩ := g
  obtain ⟨_, _, _, h4, h5, _⟩ := okG_iff.1 this
  exact ⟨h4, h5⟩

set_option maxRecDepth 100000 in
set_option maxHeartbeats 16000000 in
theorem red_Apply1 (l : List Gr) (rt : List Rt) (n b off cc : Nat) (v : Value) (m : Int) (w : World) (hn : l.length = n) (hr : GrossAt w b off l) (hb : b < w.heap.size) (hl : n ≤ cc) (hl2 : n ≤ 2600000000000) (hT : Tab w v rt) (hD : DownAt w) :
    Calls Tryd.prog 34 #[.slice (some ⟨b, off, none⟩) n cc, v, .int .i64 m] w (NetOut w (appR l rt m).1 (appR l rt m).2) := by
  have HV := Lib.hid (red_Deductions1 l rt n b off cc v m w hn hr hb hl hT hD)
  have HN := Lib.hid hn
  have HR := Lib.hid hr
  clear hn hr hT hD
  cases hd : dedB l rt m
  · obtain ⟨ha, hde⟩ := appR_no hd
    rw [hde] at HV
    have HF := Lib.hid ha
    clear ha hde hd
    go_enter Tryd.func34, Tryd.ntmps34
    go_wp2_with fail
    refine (HV.out).mono ?_
    rintro e w1 ⟨v1, rfl, hdt, hb1⟩
    have HB1 := Lib.hid hb1
    clear hb1
    have hb1 := HB1.out
    clear hdt
    go_wp2
    refine bodyPost_ret (v := .tuple #[.slice none 0 0, .int .i64 1]) (by simp [results, Tryd.results34, go_sem]) rfl ⟨.slice none 0 0, by rw [HF.out], .inl ⟨_, _, rfl, by rw [HF.out]⟩, ?_⟩
    exact (by repeat (first | (with_reducible exact Below.refl _ _) | (with_reducible assumption) | (with_reducible refine below_drewN ?_ _) | (with_reducible refine Below.drew ?_) | (with_reducible refine Below.alloc ?_ ?_ _) | (with_reducible refine Below.setCell ?_ ?_ _) | exact Below.refl _ _ | assumption | (solve | omega | simp | (simp; omega))))
  · obtain ⟨ha, hde⟩ := appR_yes hd
    rw [hde] at HV
    have HF := Lib.hid ha
    have hn18 : n ≤ 18 := by
      unfold dedB at hd
      simp only [Bool.and_eq_true] at hd
      rw [← HN.out]; exact (valG_iff.1 hd.1).1
    have HVB : Hid (ValG l) := Lib.hid (by
      unfold dedB at hd
      simp only [Bool.and_eq_true] at hd
      exact valG_iff.1 hd.1)
    clear ha hde hd
    obtain ⟨ds, hds⟩ : ∃ ds, dedS l rt m = ds := ⟨_, rfl⟩
    rw [hds] at HV
    rw [hds] at HF
    have HOKD : Hid (∀ k r, ds[k]? = some r → OkD n r) := Lib.hid (by intro k r h; rw [← hds] at h; rw [← HN.out]; exact dedS_ok h)
    have hdl : ds.length ≤ 324 := by rw [← hds]; exact dedS_len (by rw [HN.out]; exact hn18)
    clear hds
    obtain ⟨i0, hi, hz0, hz1, hz2⟩ := info_parts info_net
    have hmk := fun W => make_row (P := Tryd.prog) W 51 60 i0 (.agg #[.int .i64 0, .int .i64 0, .int .i64 0, .int .i64 0, .int .i64 0, .int .i64 0, .int .i64 0]) Tryd.underlying51 hi hz0 n (by rw [hz2]; omega) (by omega)
    rw [hz1] at hmk
    obtain ⟨M0, hM0⟩ : ∃ M0, madeCells (Value.agg #[.int .i64 0, .int .i64 0, .int .i64 0, .int .i64 0, .int .i64 0, .int .i64 0, .int .i64 0]).cells (n * 7) = M0 := ⟨_, rfl⟩
    have HMS : Hid (M0.size = n * 7) := Lib.hid (by rw [← hM0]; exact size_madeCells _ _)
    rw [hM0] at hmk
    clear hM0
    go_enter Tryd.func34, Tryd.ntmps34
    go_wp2_with fail
    refine (HV.out).mono ?_
    rintro e w1 ⟨v1, rfl, hdt, hb1⟩
    have HB1 := Lib.hid hb1
    clear hb1
    have hs1 := HB1.out.size
    obtain ⟨A2, c2, rfl⟩ := hdt.slice
    obtain ⟨q, hq⟩ : ∃ q, ds.length = q := ⟨_, rfl⟩
    rw [hq] at hdt hdl
    rw [hq]
    have HQ := Lib.hid hq
    have HDT := Lib.hid hdt
    clear hdt hq
    go_wp2
    have X0 := Lib.hid (Bx.made w1 60 M0 rfl)
    go_loopw [33] (fun i wr => ∃ (k : Nat) (ar : Array Value), k ≤ n ∧ i = .int .i64 k ∧ ar.size = n * 7 ∧ NetsTo l (fun _ _ => 0) (fun _ _ => 0) ar k ∧ Bx wr w1.heap.size 60 ar ∧ Below w1.heap.size w1 wr) (fun i _ => n - (intOf i).toNat)
    case atStart =>
      exact ⟨0, M0, Nat.zero_le _, rfl, HMS.out, fun x g h => absurd h (Nat.not_lt_zero _), X0.out, (Below.refl _ _).alloc (Nat.le_refl _) _⟩
    case round =>
      obtain ⟨k, ar, hk, rfl, has, hall, hbx, hbl⟩ := hrel
      have HA := Lib.hid has
      have HNT := Lib.hid hall
      have HBX := Lib.hid hbx
      have HB := Lib.hid hbl
      clear has hall hbx hbl
      have hsz := HB.out.size
      have hG := HBX.out.lt
      have HRo := Lib.hid (HR.out.below hb (below_then HB1.out HB.out))
      have hbo : b < wr.heap.size := by omega
      by_cases hlt : k < n
      · obtain ⟨r, hr⟩ : ∃ r, l[k]? = some r := ⟨l[k]'(by rw [HN.out]; exact hlt), List.getElem?_eq_getElem _⟩
        have HK := Lib.hid hr
        obtain ⟨gs, gb, gc, gi, gp, gn, gd⟩ := r
        clear hr
        obtain ⟨k0, k1, k2, k3, k4, k5, k6⟩ := HRo.out k _ HK.out
        simp only at k0 k1 k2 k3 k4 k5 k6
        obtain ⟨u0, hu0⟩ : ∃ u, ar[k * 7]? = some u := ⟨ar[k * 7]'(by rw [HA.out]; omega), Array.getElem?_eq_getElem _⟩
        have j0 : wr.cell? ⟨w1.heap.size, k * 7, none⟩ = some u0 := (HBX.out.cell _).trans hu0
        have f0 : wr.frozen? ⟨w1.heap.size, k * 7, none⟩ = false := HBX.out.free _
        obtain ⟨u1, hu1⟩ : ∃ u, ar[k * 7 + 1]? = some u := ⟨ar[k * 7 + 1]'(by rw [HA.out]; omega), Array.getElem?_eq_getElem _⟩
        have j1 : wr.cell? ⟨w1.heap.size, k * 7 + 1, none⟩ = some u1 := (HBX.out.cell _).trans hu1
        have f1 : wr.frozen? ⟨w1.heap.size, k * 7 + 1, none⟩ = false := HBX.out.free _
        obtain ⟨u2, hu2⟩ : ∃ u, ar[k * 7 + 2]? = some u := ⟨ar[k * 7 + 2]'(by rw [HA.out]; omega), Array.getElem?_eq_getElem _⟩
        have j2 : wr.cell? ⟨w1.heap.size, k * 7 + 2, none⟩ = some u2 := (HBX.out.cell _).trans hu2
        have f2 : wr.frozen? ⟨w1.heap.size, k * 7 + 2, none⟩ = false := HBX.out.free _
        obtain ⟨u3, hu3⟩ : ∃ u, ar[k * 7 + 3]? = some u := ⟨ar[k * 7 + 3]'(by rw [HA.out]; omega), Array.getElem?_eq_getElem _⟩
        have j3 : wr.cell? ⟨w1.heap.size, k * 7 + 3, none⟩ = some u3 := (HBX.out.cell _).trans hu3
        have f3 : wr.frozen? ⟨w1.heap.size, k * 7 + 3, none⟩ = false := HBX.out.free _
        obtain ⟨u4, hu4⟩ : ∃ u, ar[k * 7 + 4]? = some u := ⟨ar[k * 7 + 4]'(by rw [HA.out]; omega), Array.getElem?_eq_getElem _⟩
        have j4 : wr.cell? ⟨w1.heap.size, k * 7 + 4, none⟩ = some u4 := (HBX.out.cell _).trans hu4
        have f4 : wr.frozen? ⟨w1.heap.size, k * 7 + 4, none⟩ = false := HBX.out.free _
        obtain ⟨u5, hu5⟩ : ∃ u, ar[k * 7 + 5]? = some u := ⟨ar[k * 7 + 5]'(by rw [HA.out]; omega), Array.getElem?_eq_getElem _⟩
        have j5 : wr.cell? ⟨w1.heap.size, k * 7 + 5, none⟩ = some u5 := (HBX.out.cell _).trans hu5
        have f5 : wr.frozen? ⟨w1.heap.size, k * 7 + 5, none⟩ = false := HBX.out.free _
        obtain ⟨u6, hu6⟩ : ∃ u, ar[k * 7 + 6]? = some u := ⟨ar[k * 7 + 6]'(by rw [HA.out]; omega), Array.getElem?_eq_getElem _⟩
        have j6 : wr.cell? ⟨w1.heap.size, k * 7 + 6, none⟩ = some u6 := (HBX.out.cell _).trans hu6
        have f6 : wr.frozen? ⟨w1.heap.size, k * 7 + 6, none⟩ = false := HBX.out.free _
        clear hu0 hu1 hu2 hu3 hu4 hu5 hu6
        go_wp2
        go_roundw
        case rel =>
          have hB := HB.out
          refine ⟨k + 1, _, by omega, by go_num, ?_, HNT.out.next HK.out (by rw [HA.out]; omega), ?_, ?_⟩
          · simp only [Array.size_setIfInBounds]; exact HA.out
          · repeat (first | (with_reducible exact HBX.out) | (with_reducible refine Bx.put ?_ _ _) | (with_reducible refine Bx.alloc ?_ _) | (with_reducible refine Bx.drew ?_) | (with_reducible refine Bx.drewN ?_ _))
          · exact (by repeat (first | (with_reducible assumption) | (with_reducible exact Below.refl _ _) | (with_reducible refine Below.setCell ?_ ?_ _) | (with_reducible refine Below.alloc ?_ ?_ _) | (with_reducible refine Below.drew ?_) | (with_reducible refine below_drewN ?_ _) | (with_reducible exact Nat.le_refl _) | omega | (simp; done) | (simp; omega)))
        case measure => simp [intOf]; omega
      · obtain rfl : n = k := by omega
        clear HRo hbo
        go_wp2
        go_loopw [55] (fun i wr => ∃ (k2 : Nat) (ar2 : Array Value), k2 ≤ q ∧ i = .int .i64 k2 ∧ ar2.size = n * 7 ∧ NetsTo l (fun x g => sumK ds x g.i k2) (fun _ _ => 0) ar2 n ∧ Bx wr w1.heap.size 60 ar2 ∧ Below w1.heap.size w1 wr) (fun i _ => q - (intOf i).toNat)
        case atStart => exact ⟨0, ar, Nat.zero_le _, rfl, HA.out, HNT.out, HBX.out, HB.out⟩
        case round =>
          obtain ⟨k2, ar2, hk2, rfl, has2, hall2, hbx2, hbl2⟩ := hrel
          have HA2 := Lib.hid has2
          have HNT2 := Lib.hid hall2
          have HBX2 := Lib.hid hbx2
          have HB2 := Lib.hid hbl2
          clear has2 hall2 hbx2 hbl2
          have hsz2 := HB2.out.size
          have hG2 := HBX2.out.lt
          by_cases hlt2 : k2 < q
          · obtain ⟨r, hr⟩ : ∃ r, ds[k2]? = some r := ⟨ds[k2]'(by rw [HQ.out]; exact hlt2), List.getElem?_eq_getElem _⟩
            obtain ⟨x, y, hx, hy, hri, hrj, hrv0, hrv1⟩ := HOKD.out k2 r hr
            obtain ⟨ri, rj, rv⟩ := r
            simp only at hri hrj hrv0 hrv1
            subst hri hrj
            have HR2 := Lib.hid hr
            obtain ⟨b2, off2, rfl, hat, hb2⟩ := HDT.out.row hr
            obtain ⟨d0, d1, d2⟩ := hat.below hb2 HB2.out k2 _ hr
            simp only at d0 d1 d2
            clear hr hat
            have hb2' : b2 < wr.heap.size := by omega
            obtain ⟨g, hg⟩ : ∃ g, l[x]? = some g := ⟨l[x]'(by rw [HN.out]; exact hx), List.getElem?_eq_getElem _⟩
            have HG := Lib.hid hg
            obtain ⟨gs, gb, gc, gi, gp, gn, gd⟩ := g
            obtain ⟨⟨i0b, i1b⟩, _⟩ := HVB.out.bd hg
            simp only at i0b i1b
            obtain ⟨_, _, _, a3, _, a5, _⟩ := HNT2.out x _ hx hg
            simp only at a3 a5
            have hsb := sumK_bd (ds := ds) (x := x) (k := k2) i0b (fun r hr => by
              obtain ⟨j, hj⟩ := List.getElem?_of_mem hr
              obtain ⟨_, _, _, _, _, _, h, _⟩ := HOKD.out j r hj
              exact h)
            obtain ⟨S, hS⟩ : ∃ S, sumK ds x gi k2 = S := ⟨_, rfl⟩
            rw [hS] at a5 hsb
            have HS := Lib.hid hS
            obtain ⟨s0, s1⟩ := hsb
            have j3 : wr.cell? ⟨w1.heap.size, x * 7 + 3, none⟩ = some (.int .i64 gi) := (HBX2.out.cell _).trans a3
            have j5 : wr.cell? ⟨w1.heap.size, x * 7 + 5, none⟩ = some (.int .i64 S) := (HBX2.out.cell _).trans a5
            have f5 : wr.frozen? ⟨w1.heap.size, x * 7 + 5, none⟩ = false := HBX2.out.free _
            clear a3 a5 hS hg
            go_wp2
            go_big_region
            go_wp2
            go_roundw
            case rel =>
              have hB2 := HB2.out
              refine ⟨k2 + 1, _, by omega, by go_num, ?_, HNT2.out.putD (z := min (S + rv) gi) (by rw [HA2.out]; omega) hx ?_ ?_, ?_, ?_⟩
              · simp only [Array.size_setIfInBounds]; exact HA2.out
              · intro g' hg'
                rw [HG.out] at hg'
                injection hg' with hg'
                subst hg'
                rw [sumK_hit HR2.out rfl]
                simp only
                rw [HS.out]
              · intro x' g' hne hg'
                rw [sumK_miss HR2.out (by simp only; omega)]
              · repeat (first | (with_reducible exact HBX2.out) | (with_reducible refine Bx.put ?_ _ _) | (with_reducible refine Bx.alloc ?_ _) | (with_reducible refine Bx.drew ?_) | (with_reducible refine Bx.drewN ?_ _))
              · exact (by repeat (first | (with_reducible assumption) | (with_reducible exact Below.refl _ _) | (with_reducible refine Below.setCell ?_ ?_ _) | (with_reducible refine Below.alloc ?_ ?_ _) | (with_reducible refine Below.drew ?_) | (with_reducible refine below_drewN ?_ _) | (with_reducible exact Nat.le_refl _) | omega | (simp; done) | (simp; omega)))
            case measure => simp [intOf]; omega
          · obtain rfl : q = k2 := by omega
            go_wp2
            go_loopw [81] (fun i wr => ∃ (k3 : Nat) (ar3 : Array Value), k3 ≤ n ∧ i = .int .i64 k3 ∧ ar3.size = n * 7 ∧ NetsTo l (fun x g => sumK ds x g.i q) (fun x g => if x < k3 then max (g.i - sumK ds x g.i q) g.p else 0) ar3 n ∧ Bx wr w1.heap.size 60 ar3 ∧ Below w1.heap.size w1 wr) (fun i _ => n - (intOf i).toNat)
            case atStart => exact ⟨0, ar2, Nat.zero_le _, rfl, HA2.out, HNT2.out, HBX2.out, HB2.out⟩
            case round =>
              obtain ⟨k3, ar3, hk3, rfl, has3, hall3, hbx3, hbl3⟩ := hrel
              have HA3 := Lib.hid has3
              have HNT3 := Lib.hid hall3
              have HBX3 := Lib.hid hbx3
              have HB3 := Lib.hid hbl3
              clear has3 hall3 hbx3 hbl3
              have hsz3 := HB3.out.size
              have hG3 := HBX3.out.lt
              by_cases hlt3 : k3 < n
              · obtain ⟨g, hg⟩ : ∃ g, l[k3]? = some g := ⟨l[k3]'(by rw [HN.out]; exact hlt3), List.getElem?_eq_getElem _⟩
                have HG := Lib.hid hg
                obtain ⟨gs, gb, gc, gi, gp, gn, gd⟩ := g
                obtain ⟨⟨i0b, i1b⟩, p0b, p1b⟩ := HVB.out.bd hg
                simp only at i0b i1b p0b p1b
                obtain ⟨_, _, _, a3, a4, a5, a6⟩ := HNT3.out k3 _ hlt3 hg
                simp only at a3 a4 a5
                have hsb := sumK_bd (ds := ds) (x := k3) (k := q) i0b (fun r hr => by
                  obtain ⟨j, hj⟩ := List.getElem?_of_mem hr
                  obtain ⟨_, _, _, _, _, _, h, _⟩ := HOKD.out j r hj
                  exact h)
                obtain ⟨S, hS⟩ : ∃ S, sumK ds k3 gi q = S := ⟨_, rfl⟩
                rw [hS] at a5 hsb
                have HS := Lib.hid hS
                obtain ⟨s0, s1⟩ := hsb
                have j3 : wr.cell? ⟨w1.heap.size, k3 * 7 + 3, none⟩ = some (.int .i64 gi) := (HBX3.out.cell _).trans a3
                have j4 : wr.cell? ⟨w1.heap.size, k3 * 7 + 4, none⟩ = some (.int .i64 gp) := (HBX3.out.cell _).trans a4
                have j5 : wr.cell? ⟨w1.heap.size, k3 * 7 + 5, none⟩ = some (.int .i64 S) := (HBX3.out.cell _).trans a5
                have j6 := (HBX3.out.cell _).trans a6
                have f6 : wr.frozen? ⟨w1.heap.size, k3 * 7 + 6, none⟩ = false := HBX3.out.free _
                clear a3 a4 a5 a6 hS hg
                go_wp2
                go_big_region
                go_wp2
                go_roundw
                case rel =>
                  have hB3 := HB3.out
                  refine ⟨k3 + 1, _, by omega, by go_num, ?_, HNT3.out.putA (z := max (gi - S) gp) (by rw [HA3.out]; omega) hlt3 ?_ ?_, ?_, ?_⟩
                  · simp only [Array.size_setIfInBounds]; exact HA3.out
                  · intro g' hg'
                    rw [HG.out] at hg'
                    injection hg' with hg'
                    subst hg'
                    rw [if_pos (Nat.lt_succ_self _)]
                    simp only
                    rw [HS.out]
                  · intro x' g' hne hg'
                    by_cases h : x' < k3
                    · rw [if_pos h, if_pos (by omega)]
                    · rw [if_neg h, if_neg (by omega)]
                  · repeat (first | (with_reducible exact HBX3.out) | (with_reducible refine Bx.put ?_ _ _) | (with_reducible refine Bx.alloc ?_ _) | (with_reducible refine Bx.drew ?_) | (with_reducible refine Bx.drewN ?_ _))
                  · exact (by repeat (first | (with_reducible assumption) | (with_reducible exact Below.refl _ _) | (with_reducible refine Below.setCell ?_ ?_ _) | (with_reducible refine Below.alloc ?_ ?_ _) | (with_reducible refine Below.drew ?_) | (with_reducible refine below_drewN ?_ _) | (with_reducible exact Nat.le_refl _) | omega | (simp; done) | (simp; omega)))
                case measure => simp [intOf]; omega
              · obtain rfl : n = k3 := by omega
                go_wp2
                refine bodyPost_ret (v := .tuple #[.slice (some ⟨w1.heap.size, 0, none⟩) n n, .int .i64 0]) (by simp [results, Tryd.results34, go_sem]) rfl ⟨.slice (some ⟨w1.heap.size, 0, none⟩) n n, by rw [HF.out], .inr ⟨_, _, _, _, rfl, ?_, ?_, hG3, Nat.le_refl _⟩, ?_⟩
                · rw [HF.out]; exact netS_len.trans HN.out
                · rw [HF.out]
                  intro x r hxr
                  have hx : x < n := by
                    have := (List.getElem?_eq_some_iff.1 hxr).1
                    rw [netS_len, HN.out] at this
                    exact this
                  obtain ⟨g, hg⟩ : ∃ g, l[x]? = some g := ⟨l[x]'(by rw [HN.out]; exact hx), List.getElem?_eq_getElem _⟩
                  rw [netS_at hg] at hxr
                  injection hxr with hxr
                  subst hxr
                  obtain ⟨a0, a1, a2, a3, a4, a5, a6⟩ := HNT3.out x g hx hg
                  simp only [if_pos hx] at a6
                  rw [← HQ.out] at a5 a6
                  refine ⟨?_, ?_, ?_, ?_, ?_, ?_, ?_⟩ <;> (rw [Nat.zero_add, HBX3.out.cell]; assumption)
                · have hB3 := HB3.out
                  have hb1 := HB1.out
                  exact HB1.out.trans (HB3.out.mono hs1)
end Go.Proofs.YthpknbflmcoanaaDoor
