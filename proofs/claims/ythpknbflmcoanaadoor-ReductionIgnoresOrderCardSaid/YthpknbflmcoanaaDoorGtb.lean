/-
  Reducers of both and the program's Apply, for any slice of elements.
-/
import Derived.Test.YthpknbflmcoanaaDoorApply
import Derived.Test.YthpknbflmcoanaaDoorDedT
namespace Go.Proofs.YthpknbflmcoanaaDoor
open Go.RowKit Mny

theorem GTb.cut {w : World} {v : Value} {l : List Gr} (h : GTb w v l) : ∃ A c, v = .slice A l.length c := by
  rcases h with ⟨A, c, rfl, rfl⟩ | ⟨b, off, n, c, rfl, rfl, _⟩
  · exact ⟨_, _, rfl⟩
  · exact ⟨_, _, rfl⟩
theorem GTb.rowAt {w : World} {A : Option Addr} {n c k : Nat} {l : List Gr} {r : Gr} (h : GTb w (.slice A n c) l) (hk : l[k]? = some r) : ∃ b off, A = some ⟨b, off, none⟩ ∧ GrossAt w b off l ∧ b < w.heap.size ∧ n ≤ c := by
  rcases h with ⟨A', c', _, rfl⟩ | ⟨b, off, n', c', he, _, h1, h2, h3, _⟩
  · cases hk
  · injection he with e1 e2 e3
    subst e2 e3
    exact ⟨b, off, e1, h1, h2, h3⟩
theorem GTb.len {w : World} {v : Value} {l : List Gr} (h : GTb w v l) : l.length ≤ 2600000000000 := by
  rcases h with ⟨A, c, rfl, rfl⟩ | ⟨b, off, n, c, rfl, h1, h2, h3, h4, h5⟩
  · exact Nat.zero_le _
  · omega
theorem redS_nil (j : Int) : redS [] j = [] := by
  unfold redS
  split <;> simp
theorem redS_len {l : List Gr} {j : Int} : (redS l j).length ≤ l.length := by
  unfold redS
  split
  · split
    · exact redK_len _ _ _
    · exact Nat.zero_le _
  · exact Nat.zero_le _

set_option maxRecDepth 100000 in
set_option maxHeartbeats 4000000 in
theorem red_Reducers0 (A : Option Addr) (cc : Nat) (j : Int) (w : World) :
    Calls Tryd.prog 26 #[.slice A 0 cc, .int .i64 j] w (NumsOut w []) := by
  by_cases hj0 : j < 0
  · have g0 : decide (j < 0) = true := decide_eq_true hj0
    go_enter Tryd.func26, Tryd.ntmps26
    go_wp2
    go_ret
    exact ⟨_, rfl, .inl ⟨_, _, rfl, rfl⟩, (by repeat (first | (with_reducible exact Below.refl _ _) | (with_reducible assumption) | (with_reducible refine below_drewN ?_ _) | (with_reducible refine Below.drew ?_) | (with_reducible refine Below.alloc ?_ ?_ _) | (with_reducible refine Below.setCell ?_ ?_ _) | exact Below.refl _ _ | assumption | (solve | omega | simp | (simp; omega))))⟩
  · have g0 : decide (j < 0) = false := decide_eq_false hj0
    have g1 : decide (0 ≤ j) = true := decide_eq_true (by omega)
    have g2 : 0 ≤ j := by omega
    go_enter Tryd.func26, Tryd.ntmps26
    go_wp2
    go_ret
    exact ⟨_, rfl, .inl ⟨_, _, rfl, rfl⟩, (by repeat (first | (with_reducible exact Below.refl _ _) | (with_reducible assumption) | (with_reducible refine below_drewN ?_ _) | (with_reducible refine Below.drew ?_) | (with_reducible refine Below.alloc ?_ ?_ _) | (with_reducible refine Below.setCell ?_ ?_ _) | exact Below.refl _ _ | assumption | (solve | omega | simp | (simp; omega))))⟩
set_option maxRecDepth 100000 in
set_option maxHeartbeats 4000000 in
theorem ref_Reducers0 (A : Option Addr) (cc : Nat) (j : Int) (w : World) :
    Calls Tryd.prog 27 #[.slice A 0 cc, .int .i64 j] w (NumsOut w []) := by
  by_cases hj0 : j < 0
  · have g0 : decide (j < 0) = true := decide_eq_true hj0
    have g00 : decide (0 ≤ j) = false := decide_eq_false (by omega)
    go_enter Tryd.func27, Tryd.ntmps27
    go_wp2
    refine wp_loop_rounds 1 ?_
    rw [rounds_succ]
    go_wp2
    go_ret
    exact ⟨_, rfl, .inl ⟨_, _, rfl, rfl⟩, (by repeat (first | (with_reducible exact Below.refl _ _) | (with_reducible assumption) | (with_reducible refine below_drewN ?_ _) | (with_reducible refine Below.drew ?_) | (with_reducible refine Below.alloc ?_ ?_ _) | (with_reducible refine Below.setCell ?_ ?_ _) | exact Below.refl _ _ | assumption | (solve | omega | simp | (simp; omega))))⟩
  · have g0 : decide (j < 0) = false := decide_eq_false hj0
    have g1 : decide (0 ≤ j) = true := decide_eq_true (by omega)
    have g2 : 0 ≤ j := by omega
    go_enter Tryd.func27, Tryd.ntmps27
    go_wp2
    refine wp_loop_rounds 1 ?_
    rw [rounds_succ]
    go_wp2
    go_ret
    exact ⟨_, rfl, .inl ⟨_, _, rfl, rfl⟩, (by repeat (first | (with_reducible exact Below.refl _ _) | (with_reducible assumption) | (with_reducible refine below_drewN ?_ _) | (with_reducible refine Below.drew ?_) | (with_reducible refine Below.alloc ?_ ?_ _) | (with_reducible refine Below.setCell ?_ ?_ _) | exact Below.refl _ _ | assumption | (solve | omega | simp | (simp; omega))))⟩
theorem red_Reducers {w : World} {v : Value} {l : List Gr} (h : GTb w v l) (j : Int) : Calls Tryd.prog 26 #[v, .int .i64 j] w (NumsOut w (redS l j)) := by
  rcases h with ⟨A, c, rfl, rfl⟩ | ⟨b, off, n, c, rfl, h2, h3, h4, h5, h6⟩
  · rw [redS_nil]; exact red_Reducers0 A c j w
  · exact red_Reducers1 l n b off c j w h2 h3 h4 h6
theorem ref_Reducers {w : World} {v : Value} {l : List Gr} (h : GTb w v l) (j : Int) : Calls Tryd.prog 27 #[v, .int .i64 j] w (NumsOut w (redS l j)) := by
  rcases h with ⟨A, c, rfl, rfl⟩ | ⟨b, off, n, c, rfl, h2, h3, h4, h5, h6⟩
  · rw [redS_nil]; exact ref_Reducers0 A c j w
  · exact ref_Reducers1 l n b off c j w h2 h3 h4 h6

theorem dedS_nil (rt : List Rt) (m : Int) : dedS [] rt m = [] := rfl
set_option maxRecDepth 100000 in
set_option maxHeartbeats 4000000 in
theorem red_Apply0 (rt : List Rt) (A : Option Addr) (cc : Nat) (v : Value) (m : Int) (w : World) (hT : Tab w v rt) :
    Calls Tryd.prog 34 #[.slice A 0 cc, v, .int .i64 m] w (NetOut w (appR [] rt m).1 (appR [] rt m).2) := by
  have HV := Lib.hid (red_Deductions0 rt A cc v m w hT)
  clear hT
  cases hd : dedB [] rt m
  · obtain ⟨ha, hde⟩ := appR_no hd
    rw [hde] at HV
    have HF := Lib.hid ha
    clear ha hde hd
    go_enter Tryd.func34, Tryd.ntmps34
    go_wp2_with fail
    refine (HV.out).mono ?_
    rintro e w1 ⟨v1, rfl, hdt, hb1⟩
    have HB1 := Lib.hid hb1
    clear hb1 hdt
    have hb1 := HB1.out
    go_wp2
    refine bodyPost_ret (v := .tuple #[.slice none 0 0, .int .i64 1]) (by simp [results, Tryd.results34, go_sem]) rfl ⟨.slice none 0 0, by rw [HF.out], .inl ⟨_, _, rfl, by rw [HF.out]⟩, ?_⟩
    exact (by repeat (first | (with_reducible exact Below.refl _ _) | (with_reducible assumption) | (with_reducible refine below_drewN ?_ _) | (with_reducible refine Below.drew ?_) | (with_reducible refine Below.alloc ?_ ?_ _) | (with_reducible refine Below.setCell ?_ ?_ _) | exact Below.refl _ _ | assumption | (solve | omega | simp | (simp; omega))))
  · obtain ⟨ha, hde⟩ := appR_yes hd
    rw [hde, dedS_nil] at HV
    have HF := Lib.hid (show appR [] rt m = ([], 0) from ha)
    clear ha hde hd
    obtain ⟨i0, hi, hz0, hz1, hz2⟩ := info_parts info_net
    have hmk := fun W => make_row (P := Tryd.prog) W 51 60 i0 (.agg #[.int .i64 0, .int .i64 0, .int .i64 0, .int .i64 0, .int .i64 0, .int .i64 0, .int .i64 0]) Tryd.underlying51 hi hz0 0 (by rw [hz2]; omega) (by omega)
    rw [hz1] at hmk
    rw [show ((0 : Nat) : Int) = 0 from rfl] at hmk
    go_enter Tryd.func34, Tryd.ntmps34
    go_wp2_with fail
    refine (HV.out).mono ?_
    rintro e w1 ⟨v1, rfl, hdt, hb1⟩
    obtain ⟨A1, c1, rfl⟩ := hdt.slice
    have HB1 := Lib.hid hb1
    clear hb1 hdt
    have hb1 := HB1.out
    have hs1 := hb1.size
    simp only [List.length_nil]
    go_wp2
    refine wp_loop_rounds 1 ?_
    rw [rounds_succ]
    go_wp2
    refine wp_loop_rounds 1 ?_
    rw [rounds_succ]
    go_wp2
    refine wp_loop_rounds 1 ?_
    rw [rounds_succ]
    go_wp2
    refine bodyPost_ret (v := .tuple #[.slice (some ⟨w1.heap.size, 0, none⟩) 0 0, .int .i64 0]) (by simp [results, Tryd.results34, go_sem]) rfl ⟨.slice (some ⟨w1.heap.size, 0, none⟩) 0 0, by rw [HF.out], .inl ⟨_, _, rfl, by rw [HF.out]⟩, ?_⟩
    exact (by repeat (first | (with_reducible exact Below.refl _ _) | (with_reducible assumption) | (with_reducible refine below_drewN ?_ _) | (with_reducible refine Below.drew ?_) | (with_reducible refine Below.alloc ?_ ?_ _) | (with_reducible refine Below.setCell ?_ ?_ _) | exact Below.refl _ _ | assumption | (solve | omega | simp | (simp; omega))))
theorem red_Apply {w : World} {v tv : Value} {l : List Gr} {rt : List Rt} (h : GTb w v l) (hT : Tab w tv rt) (hD : DownAt w) (m : Int) : Calls Tryd.prog 34 #[v, tv, .int .i64 m] w (NetOut w (appR l rt m).1 (appR l rt m).2) := by
  rcases h with ⟨A, c, rfl, rfl⟩ | ⟨b, off, n, c, rfl, h2, h3, h4, h5, h6⟩
  · exact red_Apply0 rt A c tv m w hT
  · exact red_Apply1 l rt n b off c tv m w h2 h3 h4 h5 h6 hT hD
end Go.Proofs.YthpknbflmcoanaaDoor
