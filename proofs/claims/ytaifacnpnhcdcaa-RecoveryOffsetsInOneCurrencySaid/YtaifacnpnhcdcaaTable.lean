/-
  Tables of rates in memory; the rate in force: the plain function, and the contracts of Value of the program and RateAt of the reference.
-/
import Derived.Test.YtaifacnpnhcdcaaCal
import Derived.Test.YtaifacnpnhcdcaaChain
namespace Go.Proofs.Ytaifacnpnhcdcaa
open Go.RowKit Mny

/-- a row of a table of rates -/
structure Rt where
  c : Int
  m : Int
  n : Int
  d : Int
/-- these cells are these rows -/
def RatesAt (w : World) (b off : Nat) (l : List Rt) : Prop := ∀ k r, l[k]? = some r →
  w.cell? ⟨b, off + k * 4, none⟩ = some (.int .i64 r.c) ∧ w.cell? ⟨b, off + k * 4 + 1, none⟩ = some (.int .i64 r.m) ∧ w.cell? ⟨b, off + k * 4 + 2, none⟩ = some (.int .i64 r.n) ∧ w.cell? ⟨b, off + k * 4 + 3, none⟩ = some (.int .i64 r.d)
theorem RatesAt.below {w w' : World} {b off : Nat} {l : List Rt} (h : RatesAt w b off l) (hb : b < w.heap.size) (hw : Below w.heap.size w w') : RatesAt w' b off l := fun k r hk => by
  obtain ⟨h0, h1, h2, h3⟩ := h k r hk
  exact ⟨(hw.cell (p := ⟨b, _, none⟩) hb).trans h0, (hw.cell (p := ⟨b, _, none⟩) hb).trans h1, (hw.cell (p := ⟨b, _, none⟩) hb).trans h2, (hw.cell (p := ⟨b, _, none⟩) hb).trans h3⟩

/-- the best row among the first k: its index, or -1 -/
def bestK (l : List Rt) (c m : Int) : Nat → Int
  | 0 => -1
  | k + 1 => match l[k]? with
    | some r => if r.c = c ∧ r.m ≤ m ∧ (bestK l c m k < 0 ∨ ∃ s, l[(bestK l c m k).toNat]? = some s ∧ s.m < r.m) then (k : Int) else bestK l c m k
    | none => bestK l c m k
theorem bestK_bd (l : List Rt) (c m : Int) (k : Nat) : -1 ≤ bestK l c m k ∧ bestK l c m k < k := by
  induction k with
  | zero => simp [bestK]
  | succ k ih =>
    rw [bestK]
    split
    · split <;> omega
    · omega
theorem bestK_yes {l : List Rt} {c m : Int} {k : Nat} {r : Rt} (hr : l[k]? = some r) (h1 : r.c = c) (h2 : r.m ≤ m) (h3 : bestK l c m k < 0 ∨ ∃ s, l[(bestK l c m k).toNat]? = some s ∧ s.m < r.m) : bestK l c m (k + 1) = k := by
  rw [bestK, hr]; simp only; rw [if_pos ⟨h1, h2, h3⟩]
theorem bestK_no {l : List Rt} {c m : Int} {k : Nat} {r : Rt} (hr : l[k]? = some r) (h : ¬ (r.c = c ∧ r.m ≤ m ∧ (bestK l c m k < 0 ∨ ∃ s, l[(bestK l c m k).toNat]? = some s ∧ s.m < r.m))) : bestK l c m (k + 1) = bestK l c m k := by
  rw [bestK, hr]; simp only; rw [if_neg h]
/-- the rate in force: its parts, and whether there is one -/
def valS (l : List Rt) (c m : Int) : Int × Int × Bool :=
  match l[(bestK l c m l.length).toNat]? with
  | some r => if bestK l c m l.length < 0 then (0, 0, false) else (r.n, r.d, true)
  | none => (0, 0, false)
theorem valS_none {l : List Rt} {c m : Int} (h : bestK l c m l.length < 0) : valS l c m = (0, 0, false) := by
  unfold valS; split
  · rw [if_pos h]
  · rfl
theorem valS_some {l : List Rt} {c m : Int} {r : Rt} (h : ¬ bestK l c m l.length < 0) (hr : l[(bestK l c m l.length).toNat]? = some r) : valS l c m = (r.n, r.d, true) := by
  unfold valS; rw [hr]; simp only; rw [if_neg h]
/-- a fraction and a flag -/
def FB (r : Int × Int × Bool) : Ending := .returned (.tuple #[.agg #[.int .i64 r.1, .int .i64 r.2.1], .bool r.2.2])

set_option maxRecDepth 100000 in
set_option maxHeartbeats 2000000 in
theorem money_Value (l : List Rt) (n b off cc : Nat) (c m : Int) (w : World) (hn : l.length = n) (hr : RatesAt w b off l) (hb : b < w.heap.size) (hl : n ≤ 1000000000000000) :
    Calls Try.prog 49 #[.slice (some ⟨b, off, none⟩) n cc, .int .i64 c, .int .i64 m] w fun e w' => e = FB (valS l c m) ∧ Below w.heap.size w w' := by
  have HN := Lib.hid hn
  have HR := Lib.hid hr
  clear hn hr
  go_enter Try.func49, Try.ntmps49
  go_wp2
  go_loopw [8, 13] (fun s i wr => ∃ (k : Nat) (bb : Int), k ≤ n ∧ i = .int .i64 k ∧ s = .int .i64 bb ∧ bestK l c m k = bb ∧ Below w.heap.size w wr ∧ Bx wr w.heap.size 51 #[.int .i64 0, .int .i64 0]) (fun _ i _ => n - (intOf i).toNat)
  case atStart => exact ⟨0, -1, Nat.zero_le _, rfl, rfl, rfl, (by repeat (first | (with_reducible exact Below.refl _ _) | (with_reducible assumption) | (with_reducible refine below_drewN ?_ _) | (with_reducible refine Below.drew ?_) | (with_reducible refine Below.alloc ?_ ?_ _) | (with_reducible refine Below.setCell ?_ ?_ _) | exact Below.refl _ _ | assumption | (solve | omega | simp | (simp; omega)))), (by (with_reducible refine BxP.out ?_); repeat (first | (with_reducible refine BxP.put ?_) | ((with_reducible refine BxP.far ?_ ?_); (focus first | omega | (simp; done) | (simp; omega))) | ((with_reducible refine BxP.made ?_ ?_); (focus first | (with_reducible rfl) | (simp; done)); rfl) | (with_reducible refine BxP.alloc ?_) | (with_reducible refine BxP.drew ?_) | (with_reducible refine BxP.drewN ?_) | exact BxP.of HB rfl))⟩
  case round =>
    obtain ⟨k, bb, hk, rfl, rfl, hbb, hbl, hbx⟩ := hrel
    have HBB := Lib.hid hbb
    have HB := Lib.hid hbl
    have HX := Lib.hid hbx
    have hbd := bestK_bd l c m k
    rw [hbb] at hbd
    obtain ⟨hb0, hb1⟩ := hbd
    have HRW := Lib.hid (HR.out.below hb hbl)
    have hsz : b < wr.heap.size := Nat.lt_of_lt_of_le hb hbl.size
    have hszw : w.heap.size < wr.heap.size := hbx.lt
    clear hbb hbl hbx
    by_cases hlt : k < n
    · obtain ⟨r, hr⟩ : ∃ r, l[k]? = some r := ⟨l[k]'(by rw [HN.out]; exact hlt), List.getElem?_eq_getElem _⟩
      obtain ⟨k0, k1, k2, k3⟩ := HRW.out k r hr
      have HK := Lib.hid hr
      obtain ⟨rc, rm, rn, rd⟩ := r
      simp only at k0 k1 k2 k3
      clear hr
      by_cases h1 : rc = c
      · have c1 : (rc == c) = true := beq_iff_eq.2 h1
        by_cases h2 : rm ≤ m
        · have c2 : decide (rm ≤ m) = true := decide_eq_true h2
          by_cases h3 : bb < 0
          · have c3 : decide (bb < 0) = true := decide_eq_true h3
            have HNX := Lib.hid (bestK_yes HK.out h1 h2 (by rw [HBB.out]; exact .inl h3))
            clear h1 h2
            have hB := HB.out
            go_wp2
            go_quiet (fail)
            go_wp2
            go_roundw
            case rel => exact ⟨k + 1, (k : Int), by omega, by go_num, rfl, HNX.out, (by repeat (first | (with_reducible exact Below.refl _ _) | (with_reducible assumption) | (with_reducible refine below_drewN ?_ _) | (with_reducible refine Below.drew ?_) | (with_reducible refine Below.alloc ?_ ?_ _) | (with_reducible refine Below.setCell ?_ ?_ _) | exact Below.refl _ _ | assumption | (solve | omega | simp | (simp; omega)))), (by (with_reducible refine BxP.out ?_); repeat (first | (with_reducible refine BxP.put ?_) | ((with_reducible refine BxP.far ?_ ?_); (focus first | omega | (simp; done) | (simp; omega))) | ((with_reducible refine BxP.made ?_ ?_); (focus first | (with_reducible rfl) | (simp; done)); rfl) | (with_reducible refine BxP.alloc ?_) | (with_reducible refine BxP.drew ?_) | (with_reducible refine BxP.drewN ?_) | exact BxP.of HX.out rfl))⟩
            case measure => simp [intOf]; omega
          · obtain ⟨j, rfl⟩ : ∃ j : Nat, bb = j := ⟨bb.toNat, by omega⟩
            have hjk : j < k := by omega
            obtain ⟨t, ht⟩ : ∃ t, l[j]? = some t := ⟨l[j]'(by rw [HN.out]; omega), List.getElem?_eq_getElem _⟩
            obtain ⟨-, j1, -, -⟩ := HRW.out j t ht
            have HS := Lib.hid ht
            obtain ⟨sc, sm, sn, sd⟩ := t
            simp only at j1
            clear ht h3
            have c3 : decide ((j : Int) < 0) = false := decide_eq_false (by omega)
            have i0 : (0 : Int) ≤ (j : Int) := by omega
            have i1 : (j : Int) < (n : Int) := by omega
            have i2 : j < n := by omega
            by_cases h4 : sm < rm
            · have c4 : decide (sm < rm) = true := decide_eq_true h4
              have HNX := Lib.hid (bestK_yes HK.out h1 h2 (by rw [HBB.out]; exact .inr ⟨_, HS.out, h4⟩))
              clear h1 h2
              have hB := HB.out
              go_wp2
              go_quiet (fail)
              go_wp2
              go_roundw
              case rel => exact ⟨k + 1, (k : Int), by omega, by go_num, rfl, HNX.out, (by repeat (first | (with_reducible exact Below.refl _ _) | (with_reducible assumption) | (with_reducible refine below_drewN ?_ _) | (with_reducible refine Below.drew ?_) | (with_reducible refine Below.alloc ?_ ?_ _) | (with_reducible refine Below.setCell ?_ ?_ _) | exact Below.refl _ _ | assumption | (solve | omega | simp | (simp; omega)))), (by (with_reducible refine BxP.out ?_); repeat (first | (with_reducible refine BxP.put ?_) | ((with_reducible refine BxP.far ?_ ?_); (focus first | omega | (simp; done) | (simp; omega))) | ((with_reducible refine BxP.made ?_ ?_); (focus first | (with_reducible rfl) | (simp; done)); rfl) | (with_reducible refine BxP.alloc ?_) | (with_reducible refine BxP.drew ?_) | (with_reducible refine BxP.drewN ?_) | exact BxP.of HX.out rfl))⟩
              case measure => simp [intOf]; omega
            · have c4 : decide (sm < rm) = false := decide_eq_false h4
              have HNX := Lib.hid ((bestK_no HK.out (fun h => by
                rw [HBB.out] at h
                rcases h.2.2 with h5 | ⟨t, h5, h6⟩
                · omega
                · rw [Int.toNat_natCast, HS.out] at h5
                  injection h5 with h5
                  subst h5
                  exact h4 h6)).trans HBB.out)
              clear h1 h2
              have hB := HB.out
              go_wp2
              go_quiet (fail)
              go_wp2
              go_roundw
              case rel => exact ⟨k + 1, _, by omega, by go_num, rfl, HNX.out, (by repeat (first | (with_reducible exact Below.refl _ _) | (with_reducible assumption) | (with_reducible refine below_drewN ?_ _) | (with_reducible refine Below.drew ?_) | (with_reducible refine Below.alloc ?_ ?_ _) | (with_reducible refine Below.setCell ?_ ?_ _) | exact Below.refl _ _ | assumption | (solve | omega | simp | (simp; omega)))), (by (with_reducible refine BxP.out ?_); repeat (first | (with_reducible refine BxP.put ?_) | ((with_reducible refine BxP.far ?_ ?_); (focus first | omega | (simp; done) | (simp; omega))) | ((with_reducible refine BxP.made ?_ ?_); (focus first | (with_reducible rfl) | (simp; done)); rfl) | (with_reducible refine BxP.alloc ?_) | (with_reducible refine BxP.drew ?_) | (with_reducible refine BxP.drewN ?_) | exact BxP.of HX.out rfl))⟩
              case measure => simp [intOf]; omega
        · have c2 : decide (rm ≤ m) = false := decide_eq_false h2
          have HNX := Lib.hid ((bestK_no HK.out (fun h => h2 h.2.1)).trans HBB.out)
          clear h1 h2
          have hB := HB.out
          go_wp2
          go_quiet (fail)
          go_wp2
          go_roundw
          case rel => exact ⟨k + 1, bb, by omega, by go_num, rfl, HNX.out, (by repeat (first | (with_reducible exact Below.refl _ _) | (with_reducible assumption) | (with_reducible refine below_drewN ?_ _) | (with_reducible refine Below.drew ?_) | (with_reducible refine Below.alloc ?_ ?_ _) | (with_reducible refine Below.setCell ?_ ?_ _) | exact Below.refl _ _ | assumption | (solve | omega | simp | (simp; omega)))), (by (with_reducible refine BxP.out ?_); repeat (first | (with_reducible refine BxP.put ?_) | ((with_reducible refine BxP.far ?_ ?_); (focus first | omega | (simp; done) | (simp; omega))) | ((with_reducible refine BxP.made ?_ ?_); (focus first | (with_reducible rfl) | (simp; done)); rfl) | (with_reducible refine BxP.alloc ?_) | (with_reducible refine BxP.drew ?_) | (with_reducible refine BxP.drewN ?_) | exact BxP.of HX.out rfl))⟩
          case measure => simp [intOf]; omega
      · have c1 : (rc == c) = false := beq_eq_false_iff_ne.2 h1
        have HNX := Lib.hid ((bestK_no HK.out (fun h => h1 h.1)).trans HBB.out)
        clear h1
        have hB := HB.out
        go_wp2
        go_quiet (fail)
        go_wp2
        go_roundw
        case rel => exact ⟨k + 1, bb, by omega, by go_num, rfl, HNX.out, (by repeat (first | (with_reducible exact Below.refl _ _) | (with_reducible assumption) | (with_reducible refine below_drewN ?_ _) | (with_reducible refine Below.drew ?_) | (with_reducible refine Below.alloc ?_ ?_ _) | (with_reducible refine Below.setCell ?_ ?_ _) | exact Below.refl _ _ | assumption | (solve | omega | simp | (simp; omega)))), (by (with_reducible refine BxP.out ?_); repeat (first | (with_reducible refine BxP.put ?_) | ((with_reducible refine BxP.far ?_ ?_); (focus first | omega | (simp; done) | (simp; omega))) | ((with_reducible refine BxP.made ?_ ?_); (focus first | (with_reducible rfl) | (simp; done)); rfl) | (with_reducible refine BxP.alloc ?_) | (with_reducible refine BxP.drew ?_) | (with_reducible refine BxP.drewN ?_) | exact BxP.of HX.out rfl))⟩
        case measure => simp [intOf]; omega
    · obtain rfl : k = n := by omega
      obtain ⟨kx, rx⟩ := HX.out.of
      by_cases h3 : bb < 0
      · have c3 : decide (bb < 0) = true := decide_eq_true h3
        have HF := Lib.hid (valS_none (l := l) (c := c) (m := m) (by rw [HN.out, HBB.out]; exact h3))
        have hB := HB.out
        go_wp2
        refine bodyPost_ret (v := .tuple #[.agg #[.int .i64 0, .int .i64 0], .bool false]) (by simp [results, Try.results49, go_sem, kx]) rfl ⟨by rw [HF.out]; rfl, ?_⟩
        exact (by repeat (first | (with_reducible exact Below.refl _ _) | (with_reducible assumption) | (with_reducible refine below_drewN ?_ _) | (with_reducible refine Below.drew ?_) | (with_reducible refine Below.alloc ?_ ?_ _) | (with_reducible refine Below.setCell ?_ ?_ _) | exact Below.refl _ _ | assumption | (solve | omega | simp | (simp; omega))))
      · obtain ⟨j, rfl⟩ : ∃ j : Nat, bb = j := ⟨bb.toNat, by omega⟩
        have hjk : j < k := by omega
        obtain ⟨t, ht⟩ : ∃ t, l[j]? = some t := ⟨l[j]'(by rw [HN.out]; omega), List.getElem?_eq_getElem _⟩
        obtain ⟨-, -, j2, j3⟩ := HRW.out j t ht
        have HF := Lib.hid (valS_some (l := l) (c := c) (m := m) (by rw [HN.out, HBB.out]; exact h3) (by rw [HN.out, HBB.out, Int.toNat_natCast]; exact ht))
        have hB := HB.out
        obtain ⟨sc, sm, sn, sd⟩ := t
        simp only at j2 j3
        clear ht h3
        go_wp2
        refine bodyPost_ret (v := .tuple #[.agg #[.int .i64 sn, .int .i64 sd], .bool true]) (by simp [results, Try.results49, go_sem, kx]) rfl ⟨by rw [HF.out]; rfl, ?_⟩
        exact (by repeat (first | (with_reducible exact Below.refl _ _) | (with_reducible assumption) | (with_reducible refine below_drewN ?_ _) | (with_reducible refine Below.drew ?_) | (with_reducible refine Below.alloc ?_ ?_ _) | (with_reducible refine Below.setCell ?_ ?_ _) | exact Below.refl _ _ | assumption | (solve | omega | simp | (simp; omega))))

set_option maxRecDepth 100000 in
set_option maxHeartbeats 2000000 in
theorem ref_RateAt (l : List Rt) (n b off cc : Nat) (c m : Int) (w : World) (hn : l.length = n) (hr : RatesAt w b off l) (hb : b < w.heap.size) (hl : n ≤ 1000000000000000) :
    Calls Try.prog 57 #[.slice (some ⟨b, off, none⟩) n cc, .int .i64 c, .int .i64 m] w fun e w' => e = FB (valS l c m) ∧ Below w.heap.size w w' := by
  have HN := Lib.hid hn
  have HR := Lib.hid hr
  clear hn hr
  go_enter Try.func57, Try.ntmps57
  go_wp2
  go_loopw [8, 9] (fun s i wr => ∃ (k : Nat) (bb : Int), k ≤ n ∧ i = .int .i64 k ∧ s = .int .i64 bb ∧ bestK l c m k = bb ∧ Below w.heap.size w wr ∧ Bx wr w.heap.size 51 #[.int .i64 0, .int .i64 0]) (fun _ i _ => n - (intOf i).toNat)
  case atStart => exact ⟨0, -1, Nat.zero_le _, rfl, rfl, rfl, (by repeat (first | (with_reducible exact Below.refl _ _) | (with_reducible assumption) | (with_reducible refine below_drewN ?_ _) | (with_reducible refine Below.drew ?_) | (with_reducible refine Below.alloc ?_ ?_ _) | (with_reducible refine Below.setCell ?_ ?_ _) | exact Below.refl _ _ | assumption | (solve | omega | simp | (simp; omega)))), (by (with_reducible refine BxP.out ?_); repeat (first | (with_reducible refine BxP.put ?_) | ((with_reducible refine BxP.far ?_ ?_); (focus first | omega | (simp; done) | (simp; omega))) | ((with_reducible refine BxP.made ?_ ?_); (focus first | (with_reducible rfl) | (simp; done)); rfl) | (with_reducible refine BxP.alloc ?_) | (with_reducible refine BxP.drew ?_) | (with_reducible refine BxP.drewN ?_) | exact BxP.of HB rfl))⟩
  case round =>
    obtain ⟨k, bb, hk, rfl, rfl, hbb, hbl, hbx⟩ := hrel
    have HBB := Lib.hid hbb
    have HB := Lib.hid hbl
    have HX := Lib.hid hbx
    have hbd := bestK_bd l c m k
    rw [hbb] at hbd
    obtain ⟨hb0, hb1⟩ := hbd
    have HRW := Lib.hid (HR.out.below hb hbl)
    have hsz : b < wr.heap.size := Nat.lt_of_lt_of_le hb hbl.size
    have hszw : w.heap.size < wr.heap.size := hbx.lt
    clear hbb hbl hbx
    by_cases hlt : k < n
    · obtain ⟨r, hr⟩ : ∃ r, l[k]? = some r := ⟨l[k]'(by rw [HN.out]; exact hlt), List.getElem?_eq_getElem _⟩
      obtain ⟨k0, k1, k2, k3⟩ := HRW.out k r hr
      have HK := Lib.hid hr
      obtain ⟨rc, rm, rn, rd⟩ := r
      simp only at k0 k1 k2 k3
      clear hr
      by_cases h1 : rc = c
      · have c1 : (rc == c) = true := beq_iff_eq.2 h1
        by_cases h2 : rm ≤ m
        · have c2 : decide (rm ≤ m) = true := decide_eq_true h2
          by_cases h3 : bb < 0
          · have c3 : decide (bb < 0) = true := decide_eq_true h3
            have HNX := Lib.hid (bestK_yes HK.out h1 h2 (by rw [HBB.out]; exact .inl h3))
            clear h1 h2
            have hB := HB.out
            go_wp2
            go_quiet (fail)
            go_wp2
            go_roundw
            case rel => exact ⟨k + 1, (k : Int), by omega, by go_num, rfl, HNX.out, (by repeat (first | (with_reducible exact Below.refl _ _) | (with_reducible assumption) | (with_reducible refine below_drewN ?_ _) | (with_reducible refine Below.drew ?_) | (with_reducible refine Below.alloc ?_ ?_ _) | (with_reducible refine Below.setCell ?_ ?_ _) | exact Below.refl _ _ | assumption | (solve | omega | simp | (simp; omega)))), (by (with_reducible refine BxP.out ?_); repeat (first | (with_reducible refine BxP.put ?_) | ((with_reducible refine BxP.far ?_ ?_); (focus first | omega | (simp; done) | (simp; omega))) | ((with_reducible refine BxP.made ?_ ?_); (focus first | (with_reducible rfl) | (simp; done)); rfl) | (with_reducible refine BxP.alloc ?_) | (with_reducible refine BxP.drew ?_) | (with_reducible refine BxP.drewN ?_) | exact BxP.of HX.out rfl))⟩
            case measure => simp [intOf]; omega
          · obtain ⟨j, rfl⟩ : ∃ j : Nat, bb = j := ⟨bb.toNat, by omega⟩
            have hjk : j < k := by omega
            obtain ⟨t, ht⟩ : ∃ t, l[j]? = some t := ⟨l[j]'(by rw [HN.out]; omega), List.getElem?_eq_getElem _⟩
            obtain ⟨-, j1, -, -⟩ := HRW.out j t ht
            have HS := Lib.hid ht
            obtain ⟨sc, sm, sn, sd⟩ := t
            simp only at j1
            clear ht h3
            have c3 : decide ((j : Int) < 0) = false := decide_eq_false (by omega)
            have i0 : (0 : Int) ≤ (j : Int) := by omega
            have i1 : (j : Int) < (n : Int) := by omega
            have i2 : j < n := by omega
            by_cases h4 : sm < rm
            · have c4 : decide (sm < rm) = true := decide_eq_true h4
              have HNX := Lib.hid (bestK_yes HK.out h1 h2 (by rw [HBB.out]; exact .inr ⟨_, HS.out, h4⟩))
              clear h1 h2
              have hB := HB.out
              go_wp2
              go_quiet (fail)
              go_wp2
              go_roundw
              case rel => exact ⟨k + 1, (k : Int), by omega, by go_num, rfl, HNX.out, (by repeat (first | (with_reducible exact Below.refl _ _) | (with_reducible assumption) | (with_reducible refine below_drewN ?_ _) | (with_reducible refine Below.drew ?_) | (with_reducible refine Below.alloc ?_ ?_ _) | (with_reducible refine Below.setCell ?_ ?_ _) | exact Below.refl _ _ | assumption | (solve | omega | simp | (simp; omega)))), (by (with_reducible refine BxP.out ?_); repeat (first | (with_reducible refine BxP.put ?_) | ((with_reducible refine BxP.far ?_ ?_); (focus first | omega | (simp; done) | (simp; omega))) | ((with_reducible refine BxP.made ?_ ?_); (focus first | (with_reducible rfl) | (simp; done)); rfl) | (with_reducible refine BxP.alloc ?_) | (with_reducible refine BxP.drew ?_) | (with_reducible refine BxP.drewN ?_) | exact BxP.of HX.out rfl))⟩
              case measure => simp [intOf]; omega
            · have c4 : decide (sm < rm) = false := decide_eq_false h4
              have HNX := Lib.hid ((bestK_no HK.out (fun h => by
                rw [HBB.out] at h
                rcases h.2.2 with h5 | ⟨t, h5, h6⟩
                · omega
                · rw [Int.toNat_natCast, HS.out] at h5
                  injection h5 with h5
                  subst h5
                  exact h4 h6)).trans HBB.out)
              clear h1 h2
              have hB := HB.out
              go_wp2
              go_quiet (fail)
              go_wp2
              go_roundw
              case rel => exact ⟨k + 1, _, by omega, by go_num, rfl, HNX.out, (by repeat (first | (with_reducible exact Below.refl _ _) | (with_reducible assumption) | (with_reducible refine below_drewN ?_ _) | (with_reducible refine Below.drew ?_) | (with_reducible refine Below.alloc ?_ ?_ _) | (with_reducible refine Below.setCell ?_ ?_ _) | exact Below.refl _ _ | assumption | (solve | omega | simp | (simp; omega)))), (by (with_reducible refine BxP.out ?_); repeat (first | (with_reducible refine BxP.put ?_) | ((with_reducible refine BxP.far ?_ ?_); (focus first | omega | (simp; done) | (simp; omega))) | ((with_reducible refine BxP.made ?_ ?_); (focus first | (with_reducible rfl) | (simp; done)); rfl) | (with_reducible refine BxP.alloc ?_) | (with_reducible refine BxP.drew ?_) | (with_reducible refine BxP.drewN ?_) | exact BxP.of HX.out rfl))⟩
              case measure => simp [intOf]; omega
        · have c2 : decide (rm ≤ m) = false := decide_eq_false h2
          have HNX := Lib.hid ((bestK_no HK.out (fun h => h2 h.2.1)).trans HBB.out)
          clear h1 h2
          have hB := HB.out
          go_wp2
          go_quiet (fail)
          go_wp2
          go_roundw
          case rel => exact ⟨k + 1, bb, by omega, by go_num, rfl, HNX.out, (by repeat (first | (with_reducible exact Below.refl _ _) | (with_reducible assumption) | (with_reducible refine below_drewN ?_ _) | (with_reducible refine Below.drew ?_) | (with_reducible refine Below.alloc ?_ ?_ _) | (with_reducible refine Below.setCell ?_ ?_ _) | exact Below.refl _ _ | assumption | (solve | omega | simp | (simp; omega)))), (by (with_reducible refine BxP.out ?_); repeat (first | (with_reducible refine BxP.put ?_) | ((with_reducible refine BxP.far ?_ ?_); (focus first | omega | (simp; done) | (simp; omega))) | ((with_reducible refine BxP.made ?_ ?_); (focus first | (with_reducible rfl) | (simp; done)); rfl) | (with_reducible refine BxP.alloc ?_) | (with_reducible refine BxP.drew ?_) | (with_reducible refine BxP.drewN ?_) | exact BxP.of HX.out rfl))⟩
          case measure => simp [intOf]; omega
      · have c1 : (rc == c) = false := beq_eq_false_iff_ne.2 h1
        have HNX := Lib.hid ((bestK_no HK.out (fun h => h1 h.1)).trans HBB.out)
        clear h1
        have hB := HB.out
        go_wp2
        go_quiet (fail)
        go_wp2
        go_roundw
        case rel => exact ⟨k + 1, bb, by omega, by go_num, rfl, HNX.out, (by repeat (first | (with_reducible exact Below.refl _ _) | (with_reducible assumption) | (with_reducible refine below_drewN ?_ _) | (with_reducible refine Below.drew ?_) | (with_reducible refine Below.alloc ?_ ?_ _) | (with_reducible refine Below.setCell ?_ ?_ _) | exact Below.refl _ _ | assumption | (solve | omega | simp | (simp; omega)))), (by (with_reducible refine BxP.out ?_); repeat (first | (with_reducible refine BxP.put ?_) | ((with_reducible refine BxP.far ?_ ?_); (focus first | omega | (simp; done) | (simp; omega))) | ((with_reducible refine BxP.made ?_ ?_); (focus first | (with_reducible rfl) | (simp; done)); rfl) | (with_reducible refine BxP.alloc ?_) | (with_reducible refine BxP.drew ?_) | (with_reducible refine BxP.drewN ?_) | exact BxP.of HX.out rfl))⟩
        case measure => simp [intOf]; omega
    · obtain rfl : k = n := by omega
      obtain ⟨kx, rx⟩ := HX.out.of
      by_cases h3 : bb < 0
      · have c3 : decide (bb < 0) = true := decide_eq_true h3
        have HF := Lib.hid (valS_none (l := l) (c := c) (m := m) (by rw [HN.out, HBB.out]; exact h3))
        have hB := HB.out
        go_wp2
        refine bodyPost_ret (v := .tuple #[.agg #[.int .i64 0, .int .i64 0], .bool false]) (by simp [results, Try.results57, go_sem, kx]) rfl ⟨by rw [HF.out]; rfl, ?_⟩
        exact (by repeat (first | (with_reducible exact Below.refl _ _) | (with_reducible assumption) | (with_reducible refine below_drewN ?_ _) | (with_reducible refine Below.drew ?_) | (with_reducible refine Below.alloc ?_ ?_ _) | (with_reducible refine Below.setCell ?_ ?_ _) | exact Below.refl _ _ | assumption | (solve | omega | simp | (simp; omega))))
      · obtain ⟨j, rfl⟩ : ∃ j : Nat, bb = j := ⟨bb.toNat, by omega⟩
        have hjk : j < k := by omega
        obtain ⟨t, ht⟩ : ∃ t, l[j]? = some t := ⟨l[j]'(by rw [HN.out]; omega), List.getElem?_eq_getElem _⟩
        obtain ⟨-, -, j2, j3⟩ := HRW.out j t ht
        have HF := Lib.hid (valS_some (l := l) (c := c) (m := m) (by rw [HN.out, HBB.out]; exact h3) (by rw [HN.out, HBB.out, Int.toNat_natCast]; exact ht))
        have hB := HB.out
        obtain ⟨sc, sm, sn, sd⟩ := t
        simp only at j2 j3
        clear ht h3
        go_wp2
        refine bodyPost_ret (v := .tuple #[.agg #[.int .i64 sn, .int .i64 sd], .bool true]) (by simp [results, Try.results57, go_sem, kx]) rfl ⟨by rw [HF.out]; rfl, ?_⟩
        exact (by repeat (first | (with_reducible exact Below.refl _ _) | (with_reducible assumption) | (with_reducible refine below_drewN ?_ _) | (with_reducible refine Below.drew ?_) | (with_reducible refine Below.alloc ?_ ?_ _) | (with_reducible refine Below.setCell ?_ ?_ _) | exact Below.refl _ _ | assumption | (solve | omega | simp | (simp; omega))))
end Go.Proofs.Ytaifacnpnhcdcaa
