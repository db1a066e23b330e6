/-
  Valid, Reducers and Deductions of both, for any slice of elements.
-/
import Derived.Test.YthpknbflmcoanaaDoorRefDed
import Derived.Test.YthpknbflmcoanaaDoorDedR0
namespace Go.Proofs.YthpknbflmcoanaaDoor
open Go.RowKit Mny

set_option maxRecDepth 100000 in
set_option maxHeartbeats 4000000 in
theorem ref_Deductions0 (rt : List Rt) (A : Option Addr) (cc : Nat) (v : Value) (m : Int) (w : World) (hT : Tab w v rt) :
    Calls Tryd.prog 30 #[.slice A 0 cc, v, .int .i64 m] w (DedOut w (dedR [] rt m).1 (dedR [] rt m).2) := by
  have HT := Lib.hid hT
  clear hT
  have hok := fun (W : World) (h : Below w.heap.size w W) => ref_okRates v rt m W (HT.out.below h)
  cases ho : (inB 0 2399 m && decide (chkS rt = 0))
  · have HF := Lib.hid (show dedR [] rt m = ([], 1) by unfold dedR dedB; rw [ho, Bool.and_false]; rfl)
    rw [ho] at hok
    have HOK := Lib.hid hok
    clear hok ho
    go_enter Tryd.func30, Tryd.ntmps30
    go_wp2_with fail
    refine (ref_ValidGross0 A cc w).mono ?_
    rintro e w1 ⟨rfl, hb1⟩
    have HB1 := Lib.hid hb1
    clear hb1
    go_wp2_with fail
    refine (HOK.out _ HB1.out).mono ?_
    rintro e w2 ⟨rfl, hb2⟩
    have HB2 := Lib.hid (below_then HB1.out hb2)
    clear hb2
    have hb2 := HB2.out
    go_wp2
    refine bodyPost_ret (v := .tuple #[.slice none 0 0, .int .i64 1]) (by simp [results, Tryd.results30, go_sem]) rfl ⟨.slice none 0 0, by rw [HF.out], .inl ⟨_, _, rfl, by rw [HF.out]⟩, ?_⟩
    exact (by repeat (first | (with_reducible exact Below.refl _ _) | (with_reducible assumption) | (with_reducible refine below_drewN ?_ _) | (with_reducible refine Below.drew ?_) | (with_reducible refine Below.alloc ?_ ?_ _) | (with_reducible refine Below.setCell ?_ ?_ _) | exact Below.refl _ _ | assumption | (solve | omega | simp | (simp; omega))))
  · have HF := Lib.hid (show dedR [] rt m = ([], 0) by unfold dedR dedB; rw [ho, valG_nil]; rfl)
    rw [ho] at hok
    have HOK := Lib.hid hok
    clear hok ho
    go_enter Tryd.func30, Tryd.ntmps30
    go_wp2_with fail
    refine (ref_ValidGross0 A cc w).mono ?_
    rintro e w1 ⟨rfl, hb1⟩
    have HB1 := Lib.hid hb1
    clear hb1
    go_wp2_with fail
    refine (HOK.out _ HB1.out).mono ?_
    rintro e w2 ⟨rfl, hb2⟩
    have HB2 := Lib.hid (below_then HB1.out hb2)
    clear hb2
    have hb2 := HB2.out
    go_wp2
    refine wp_loop_rounds 1 ?_
    rw [rounds_succ]
    go_wp2
    refine bodyPost_ret (v := .tuple #[.slice none 0 0, .int .i64 0]) (by simp [results, Tryd.results30, go_sem]) rfl ⟨.slice none 0 0, by rw [HF.out], .inl ⟨_, _, rfl, by rw [HF.out]⟩, ?_⟩
    exact (by repeat (first | (with_reducible exact Below.refl _ _) | (with_reducible assumption) | (with_reducible refine below_drewN ?_ _) | (with_reducible refine Below.drew ?_) | (with_reducible refine Below.alloc ?_ ?_ _) | (with_reducible refine Below.setCell ?_ ?_ _) | exact Below.refl _ _ | assumption | (solve | omega | simp | (simp; omega))))

/-- this value is a slice of these elements -/
def GTb (w : World) (v : Value) (l : List Gr) : Prop :=
  (∃ A c, v = .slice A 0 c ∧ l = []) ∨ ∃ b off n c, v = .slice (some ⟨b, off, none⟩) n c ∧ l.length = n ∧ GrossAt w b off l ∧ b < w.heap.size ∧ n ≤ c ∧ n ≤ 2600000000000
theorem GTb.below {w w' : World} {v : Value} {l : List Gr} (h : GTb w v l) (hw : Below w.heap.size w w') : GTb w' v l := by
  rcases h with h | ⟨b, off, n, c, h1, h2, h3, h4, h5⟩
  · exact .inl h
  · exact .inr ⟨b, off, n, c, h1, h2, h3.below h4 hw, Nat.lt_of_lt_of_le h4 hw.size, h5⟩
section
variable {w : World} {v tv : Value} {l : List Gr} {rt : List Rt}
theorem red_Valid (h : GTb w v l) : Calls Tryd.prog 21 #[v] w fun e w' => e = .returned (.bool (valG l)) ∧ Below w.heap.size w w' := by
  rcases h with ⟨A, c, rfl, rfl⟩ | ⟨b, off, n, c, rfl, h2, h3, h4, h5, _⟩
  · rw [valG_nil]; exact red_Valid0 A c w
  · exact red_Valid1 l n b off c w h2 h3 h4 h5
theorem ref_ValidGross (h : GTb w v l) : Calls Tryd.prog 22 #[v] w fun e w' => e = .returned (.bool (valG l)) ∧ Below w.heap.size w w' := by
  rcases h with ⟨A, c, rfl, rfl⟩ | ⟨b, off, n, c, rfl, h2, h3, h4, h5, _⟩
  · rw [valG_nil]; exact ref_ValidGross0 A c w
  · exact ref_ValidGross1 l n b off c w h2 h3 h4 h5
theorem red_Deductions (h : GTb w v l) (hT : Tab w tv rt) (hD : DownAt w) (m : Int) : Calls Tryd.prog 29 #[v, tv, .int .i64 m] w (DedOut w (dedR l rt m).1 (dedR l rt m).2) := by
  rcases h with ⟨A, c, rfl, rfl⟩ | ⟨b, off, n, c, rfl, h2, h3, h4, h5, _⟩
  · exact red_Deductions0 rt A c tv m w hT
  · exact red_Deductions1 l rt n b off c tv m w h2 h3 h4 h5 hT hD
theorem ref_Deductions (h : GTb w v l) (hT : Tab w tv rt) (m : Int) : Calls Tryd.prog 30 #[v, tv, .int .i64 m] w (DedOut w (dedR l rt m).1 (dedR l rt m).2) := by
  rcases h with ⟨A, c, rfl, rfl⟩ | ⟨b, off, n, c, rfl, h2, h3, h4, h5, h6⟩
  · exact ref_Deductions0 rt A c tv m w hT
  · exact ref_Deductions1 l rt n b off c tv m w h2 h3 h4 h5 h6 hT
end
end Go.Proofs.YthpknbflmcoanaaDoor
