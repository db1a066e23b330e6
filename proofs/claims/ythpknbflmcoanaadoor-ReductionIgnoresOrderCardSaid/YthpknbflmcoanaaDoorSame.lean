/-
  Comparing two tables: Ints and Same answer true where both hold one list.
-/
import Derived.Test.YthpknbflmcoanaaDoorNet
import Derived.BigQuiet
namespace Go.Proofs.YthpknbflmcoanaaDoor
open Go.RowKit Mny

theorem DedTab.cut {w : World} {v : Value} {ds : List Ded} (h : DedTab w v ds) : ∃ A c, v = .slice A ds.length c := by
  rcases h with ⟨A, c, rfl, rfl⟩ | ⟨b, off, n, c, rfl, rfl, _⟩
  · exact ⟨_, _, rfl⟩
  · exact ⟨_, _, rfl⟩
theorem DedTab.rowAt {w : World} {A : Option Addr} {n c k : Nat} {ds : List Ded} {r : Ded} (h : DedTab w (.slice A n c) ds) (hk : ds[k]? = some r) : ∃ b off, A = some ⟨b, off, none⟩ ∧ DedAt w b off ds ∧ b < w.heap.size := by
  rcases h with ⟨A', c', _, rfl⟩ | ⟨b, off, n', c', he, _, h1, h2⟩
  · cases hk
  · injection he with e1 e2 e3
    exact ⟨b, off, e1, h1, h2⟩
theorem NetTab.cut {w : World} {v : Value} {ds : List Nt} (h : NetTab w v ds) : ∃ A c, v = .slice A ds.length c := by
  rcases h with ⟨A, c, rfl, rfl⟩ | ⟨b, off, n, c, rfl, rfl, _⟩
  · exact ⟨_, _, rfl⟩
  · exact ⟨_, _, rfl⟩
theorem NetTab.rowAt {w : World} {A : Option Addr} {n c k : Nat} {ds : List Nt} {r : Nt} (h : NetTab w (.slice A n c) ds) (hk : ds[k]? = some r) : ∃ b off, A = some ⟨b, off, none⟩ ∧ NetAt w b off ds ∧ b < w.heap.size := by
  rcases h with ⟨A', c', _, rfl⟩ | ⟨b, off, n', c', he, _, h1, h2, _⟩
  · cases hk
  · injection he with e1 e2 e3
    exact ⟨b, off, e1, h1, h2⟩
theorem NumTab.cut {w : World} {v : Value} {ds : List Int} (h : NumTab w v ds) : ∃ A c, v = .slice A ds.length c := by
  rcases h with ⟨A, c, rfl, rfl⟩ | ⟨b, off, n, c, rfl, _, rfl, _⟩
  · exact ⟨_, _, rfl⟩
  · exact ⟨_, _, rfl⟩
theorem NumTab.rowAt {w : World} {A : Option Addr} {n c k : Nat} {ds : List Int} {r : Int} (h : NumTab w (.slice A n c) ds) (hk : ds[k]? = some r) : ∃ b off, A = some ⟨b, off, none⟩ ∧ (∀ k r, ds[k]? = some r → w.cell? ⟨b, off + k, none⟩ = some (.int .i64 r)) ∧ b < w.heap.size := by
  rcases h with ⟨A', c', _, rfl⟩ | ⟨b, off, n', c', he, h0, h1, h2, h3, h4⟩
  · cases hk
  · injection he with e1 e2 e3
    exact ⟨b, off, e1, h2, h3⟩

set_option maxRecDepth 100000 in
set_option maxHeartbeats 4000000 in
theorem plain_Ints (xs : List Int) (v1 v2 : Value) (w : World) (h1 : NumTab w v1 xs) (h2 : NumTab w v2 xs) (hn : xs.length ≤ 9000000000000000) :
    Calls Tryd.prog 25 #[v1, v2] w fun e w' => e = .returned (.bool true) ∧ Below w.heap.size w w' := by
  obtain ⟨A1, c1, rfl⟩ := h1.cut
  obtain ⟨A2, c2, rfl⟩ := h2.cut
  obtain ⟨n, hxn⟩ : ∃ n, xs.length = n := ⟨_, rfl⟩
  rw [hxn] at h1 h2 hn ⊢
  have HX := Lib.hid hxn
  have H1 := Lib.hid h1
  have H2 := Lib.hid h2
  clear h1 h2 hxn
  go_enter Tryd.func25, Tryd.ntmps25
  go_wp2
  go_loopw [5] (fun i wr => ∃ k : Nat, k ≤ n ∧ i = .int .i64 k ∧ Below w.heap.size w wr) (fun i _ => n - (intOf i).toNat)
  case atStart => exact ⟨0, Nat.zero_le _, rfl, Below.refl _ _⟩
  case round =>
    obtain ⟨k, hk, rfl, hbl⟩ := hrel
    have HB := Lib.hid hbl
    clear hbl
    by_cases hlt : k < n
    · obtain ⟨r, hr⟩ : ∃ r, xs[k]? = some r := ⟨xs[k]'(by rw [HX.out]; exact hlt), List.getElem?_eq_getElem _⟩
      obtain ⟨b1, o1, rfl, g1, l1⟩ := H1.out.rowAt hr
      obtain ⟨b2, o2, rfl, g2, l2⟩ := H2.out.rowAt hr
      have p0 := (HB.out.cell (p := ⟨b1, _, none⟩) l1).trans (g1 k r hr)
      have q0 := (HB.out.cell (p := ⟨b2, _, none⟩) l2).trans (g2 k r hr)
      clear g1 g2 hr
      have c0 : decide ((k : Int) < (n : Int)) = true := decide_eq_true (by omega)
      have hb := HB.out
      go_wp2
      go_quiet (fail)
      go_wp2
      go_roundw
      case rel => exact ⟨k + 1, by omega, by go_num, (by repeat (first | (with_reducible exact Below.refl _ _) | (with_reducible assumption) | (with_reducible refine below_drewN ?_ _) | (with_reducible refine Below.drew ?_) | (with_reducible refine Below.alloc ?_ ?_ _) | (with_reducible refine Below.setCell ?_ ?_ _) | exact Below.refl _ _ | assumption | (solve | omega | simp | (simp; omega))))⟩
      case measure => simp [intOf]; omega
    · obtain rfl : n = k := by omega
      have hb := HB.out
      go_wp2
      go_ret
      exact ⟨rfl, (by repeat (first | (with_reducible exact Below.refl _ _) | (with_reducible assumption) | (with_reducible refine below_drewN ?_ _) | (with_reducible refine Below.drew ?_) | (with_reducible refine Below.alloc ?_ ?_ _) | (with_reducible refine Below.setCell ?_ ?_ _) | exact Below.refl _ _ | assumption | (solve | omega | simp | (simp; omega))))⟩

set_option maxRecDepth 100000 in
set_option maxHeartbeats 4000000 in
theorem plain_SameD (xs : List Ded) (v1 v2 : Value) (w : World) (h1 : DedTab w v1 xs) (h2 : DedTab w v2 xs) (hn : xs.length ≤ 9000000000000000) :
    Calls Tryd.prog 31 #[v1, v2] w fun e w' => e = .returned (.bool true) ∧ Below w.heap.size w w' := by
  obtain ⟨A1, c1, rfl⟩ := h1.cut
  obtain ⟨A2, c2, rfl⟩ := h2.cut
  obtain ⟨n, hxn⟩ : ∃ n, xs.length = n := ⟨_, rfl⟩
  rw [hxn] at h1 h2 hn ⊢
  have HX := Lib.hid hxn
  have H1 := Lib.hid h1
  have H2 := Lib.hid h2
  clear h1 h2 hxn
  go_enter Tryd.func31, Tryd.ntmps31
  go_wp2
  go_loopw [5] (fun i wr => ∃ k : Nat, k ≤ n ∧ i = .int .i64 k ∧ Below w.heap.size w wr) (fun i _ => n - (intOf i).toNat)
  case atStart => exact ⟨0, Nat.zero_le _, rfl, Below.refl _ _⟩
  case round =>
    obtain ⟨k, hk, rfl, hbl⟩ := hrel
    have HB := Lib.hid hbl
    clear hbl
    by_cases hlt : k < n
    · obtain ⟨r, hr⟩ : ∃ r, xs[k]? = some r := ⟨xs[k]'(by rw [HX.out]; exact hlt), List.getElem?_eq_getElem _⟩
      obtain ⟨b1, o1, rfl, g1, l1⟩ := H1.out.rowAt hr
      obtain ⟨b2, o2, rfl, g2, l2⟩ := H2.out.rowAt hr
      obtain ⟨p0, p1, p2⟩ := g1.below l1 HB.out k r hr
      obtain ⟨q0, q1, q2⟩ := g2.below l2 HB.out k r hr
      clear g1 g2 hr
      have c0 : decide ((k : Int) < (n : Int)) = true := decide_eq_true (by omega)
      have hb := HB.out
      go_wp2
      go_quiet (fail)
      go_wp2
      go_roundw
      case rel => exact ⟨k + 1, by omega, by go_num, (by repeat (first | (with_reducible exact Below.refl _ _) | (with_reducible assumption) | (with_reducible refine below_drewN ?_ _) | (with_reducible refine Below.drew ?_) | (with_reducible refine Below.alloc ?_ ?_ _) | (with_reducible refine Below.setCell ?_ ?_ _) | exact Below.refl _ _ | assumption | (solve | omega | simp | (simp; omega))))⟩
      case measure => simp [intOf]; omega
    · obtain rfl : n = k := by omega
      have hb := HB.out
      go_wp2
      go_ret
      exact ⟨rfl, (by repeat (first | (with_reducible exact Below.refl _ _) | (with_reducible assumption) | (with_reducible refine below_drewN ?_ _) | (with_reducible refine Below.drew ?_) | (with_reducible refine Below.alloc ?_ ?_ _) | (with_reducible refine Below.setCell ?_ ?_ _) | exact Below.refl _ _ | assumption | (solve | omega | simp | (simp; omega))))⟩

set_option maxRecDepth 100000 in
set_option maxHeartbeats 4000000 in
theorem plain_SameN (xs : List Nt) (v1 v2 : Value) (w : World) (h1 : NetTab w v1 xs) (h2 : NetTab w v2 xs) (hn : xs.length ≤ 9000000000000000) :
    Calls Tryd.prog 36 #[v1, v2] w fun e w' => e = .returned (.bool true) ∧ Below w.heap.size w w' := by
  obtain ⟨A1, c1, rfl⟩ := h1.cut
  obtain ⟨A2, c2, rfl⟩ := h2.cut
  obtain ⟨n, hxn⟩ : ∃ n, xs.length = n := ⟨_, rfl⟩
  rw [hxn] at h1 h2 hn ⊢
  have HX := Lib.hid hxn
  have H1 := Lib.hid h1
  have H2 := Lib.hid h2
  clear h1 h2 hxn
  go_enter Tryd.func36, Tryd.ntmps36
  go_wp2
  go_loopw [5] (fun i wr => ∃ k : Nat, k ≤ n ∧ i = .int .i64 k ∧ Below w.heap.size w wr) (fun i _ => n - (intOf i).toNat)
  case atStart => exact ⟨0, Nat.zero_le _, rfl, Below.refl _ _⟩
  case round =>
    obtain ⟨k, hk, rfl, hbl⟩ := hrel
    have HB := Lib.hid hbl
    clear hbl
    by_cases hlt : k < n
    · obtain ⟨r, hr⟩ : ∃ r, xs[k]? = some r := ⟨xs[k]'(by rw [HX.out]; exact hlt), List.getElem?_eq_getElem _⟩
      obtain ⟨b1, o1, rfl, g1, l1⟩ := H1.out.rowAt hr
      obtain ⟨b2, o2, rfl, g2, l2⟩ := H2.out.rowAt hr
      obtain ⟨p0, p1, p2, p3, p4, p5, p6⟩ := g1.below l1 HB.out k r hr
      obtain ⟨q0, q1, q2, q3, q4, q5, q6⟩ := g2.below l2 HB.out k r hr
      clear g1 g2 hr
      have c0 : decide ((k : Int) < (n : Int)) = true := decide_eq_true (by omega)
      have hb := HB.out
      go_wp2
      go_quiet (fail)
      go_wp2
      go_roundw
      case rel => exact ⟨k + 1, by omega, by go_num, (by repeat (first | (with_reducible exact Below.refl _ _) | (with_reducible assumption) | (with_reducible refine below_drewN ?_ _) | (with_reducible refine Below.drew ?_) | (with_reducible refine Below.alloc ?_ ?_ _) | (with_reducible refine Below.setCell ?_ ?_ _) | exact Below.refl _ _ | assumption | (solve | omega | simp | (simp; omega))))⟩
      case measure => simp [intOf]; omega
    · obtain rfl : n = k := by omega
      have hb := HB.out
      go_wp2
      go_ret
      exact ⟨rfl, (by repeat (first | (with_reducible exact Below.refl _ _) | (with_reducible assumption) | (with_reducible refine below_drewN ?_ _) | (with_reducible refine Below.drew ?_) | (with_reducible refine Below.alloc ?_ ?_ _) | (with_reducible refine Below.setCell ?_ ?_ _) | exact Below.refl _ _ | assumption | (solve | omega | simp | (simp; omega))))⟩
end Go.Proofs.YthpknbflmcoanaaDoor
