/-
  Closed facts of the program that every row asks: proved once.
-/
import Derived.Test.YthpknbflmcoanaaDoorRows
import Derived.JoinedOf
import Derived.RowKit
namespace Go.Proofs.YthpknbflmcoanaaDoor
open Go.RowKit
set_option maxRecDepth 100000
set_option maxHeartbeats 4000000
theorem fact_enter : Tryd.pinned.checked.prog.mayEnter = true := by kernel_rfl
theorem fact_lifts : (Rows.reductionReducersAgreeRow.lifted == Tryd.pinned.checked.prog.liftsFinal) = true := by kernel_rfl
theorem fact_make : (Tryd.pinned.checked.prog.make == some Rows.reductionReducersAgreeRow.make) = true := by kernel_rfl
theorem lifts_of (x : Bool) (h : x = Rows.reductionReducersAgreeRow.lifted) : (x == Tryd.pinned.checked.prog.liftsFinal) = true := by rw [h]; exact fact_lifts
theorem make_of (x : Make) (h : x = Rows.reductionReducersAgreeRow.make) : (Tryd.pinned.checked.prog.make == some x) = true := by rw [h]; exact fact_make
end Go.Proofs.YthpknbflmcoanaaDoor
