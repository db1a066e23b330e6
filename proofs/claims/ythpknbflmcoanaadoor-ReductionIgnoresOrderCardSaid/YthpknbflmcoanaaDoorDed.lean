/-
  What the elements deduct because of one another: the plain functions, and how a table of deductions reads.
-/
import Derived.Test.YthpknbflmcoanaaDoorReduc
import Derived.Test.YthpknbflmcoanaaDoorConvert
import Derived.Test.YthpknbflmcoanaaDoorConvP
import Derived.Test.YthpknbflmcoanaaDoorScale
import Derived.Laws.MakeOwn
namespace Go.Proofs.YthpknbflmcoanaaDoor
open Go.RowKit Mny

structure Ded where
  i : Int
  j : Int
  v : Int
deriving DecidableEq

/-- the currency's step of g's part because of f -/
def cvS (rt : List Rt) (m : Int) (g f : Gr) : Int × Int := convS (grossV f) f.c g.c m rt 1 1
/-- the share's step, among q reducers -/
def shS (g : Gr) (x : Int) (q : Nat) : Int × Int := scaleS (x.tdiv q) g.n g.d 1 1
/-- g's part because of f, among q reducers -/
def partV (rt : List Rt) (m : Int) (g f : Gr) (q : Nat) : Int :=
  if (cvS rt m g f).2 = 0 then (if (shS g (cvS rt m g f).1 q).2 = 0 then (shS g (cvS rt m g f).1 q).1 else 0) else 0
/-- does g deduct because of f at all -/
def partB (g f : Gr) : Bool := (f.s != g.s) && (grossV f != 0)
/-- what g deducts because of element j -/
def partS (l : List Gr) (rt : List Rt) (m : Int) (g : Gr) (j : Nat) : Int := match l[j]? with
  | some f => if partB g f then partV rt m g f (redK l f.s l.length).length else 0
  | none => 0
def addD (xs : List Ded) (i j : Nat) (v : Int) : List Ded := if 0 < v then xs ++ [⟨i, j, v⟩] else xs
/-- element i's row behind xs, over the first k -/
def dedRow (l : List Gr) (rt : List Rt) (m : Int) (g : Gr) (i : Nat) (xs : List Ded) : Nat → List Ded
  | 0 => xs
  | k + 1 => addD (dedRow l rt m g i xs k) i k (partS l rt m g k)
/-- the rows of the first k elements -/
def dedK (l : List Gr) (rt : List Rt) (m : Int) : Nat → List Ded
  | 0 => []
  | k + 1 => match l[k]? with
    | some g => if redB g then dedRow l rt m g k (dedK l rt m k) l.length else dedK l rt m k
    | none => dedK l rt m k
/-- what Deductions returns for valid arguments -/
def dedS (l : List Gr) (rt : List Rt) (m : Int) : List Ded := dedK l rt m l.length
/-- are Deductions' arguments valid -/
def dedB (l : List Gr) (rt : List Rt) (m : Int) : Bool := valG l && (inB 0 2399 m && decide (chkS rt = 0))

section
variable {l : List Gr} {rt : List Rt} {m : Int} {g f : Gr} {i k : Nat} {xs : List Ded}
theorem partS_at (h : l[k]? = some f) : partS l rt m g k = if partB g f then partV rt m g f (redK l f.s l.length).length else 0 := by unfold partS; rw [h]
theorem partB_1 (h : f.s = g.s) : partB g f = false := by unfold partB; simp [h]
theorem partB_2 (h : grossV f = 0) : partB g f = false := by unfold partB; simp [h]
theorem partB_yes (h : f.s ≠ g.s) (h2 : grossV f ≠ 0) : partB g f = true := by unfold partB; simp [h, h2]
theorem partV_1 {q : Nat} (h : (cvS rt m g f).2 ≠ 0) : partV rt m g f q = 0 := by unfold partV; rw [if_neg h]
theorem partV_2 {q : Nat} {x : Int} (h : cvS rt m g f = (x, 0)) (h2 : (shS g x q).2 ≠ 0) : partV rt m g f q = 0 := by unfold partV; rw [h]; simp [h2]
theorem partV_3 {q : Nat} {x y : Int} (h : cvS rt m g f = (x, 0)) (h2 : shS g x q = (y, 0)) : partV rt m g f q = y := by unfold partV; rw [h]; simp [h2]
theorem dedRow_no (h : ¬ 0 < partS l rt m g k) : dedRow l rt m g i xs (k + 1) = dedRow l rt m g i xs k := by rw [dedRow, addD, if_neg h]
theorem dedRow_yes (h : 0 < partS l rt m g k) : dedRow l rt m g i xs (k + 1) = dedRow l rt m g i xs k ++ [⟨i, k, partS l rt m g k⟩] := by rw [dedRow, addD, if_pos h]
theorem dedRow_len : (dedRow l rt m g i xs k).length ≤ xs.length + k := by
  induction k with
  | zero => exact Nat.le_refl _
  | succ k ih =>
    rw [dedRow, addD]
    split
    · simp; omega
    · omega
theorem dedK_no (h : l[k]? = some g) (h2 : redB g = false) : dedK l rt m (k + 1) = dedK l rt m k := by rw [dedK, h]; simp [h2]
theorem dedK_yes (h : l[k]? = some g) (h2 : redB g = true) : dedK l rt m (k + 1) = dedRow l rt m g k (dedK l rt m k) l.length := by rw [dedK, h]; simp [h2]
theorem dedK_len : (dedK l rt m k).length ≤ k * l.length := by
  induction k with
  | zero => simp [dedK]
  | succ k ih =>
    rw [Nat.succ_mul, dedK]
    split
    · split
      · exact Nat.le_trans dedRow_len (by omega)
      · omega
    · omega
theorem redK_pos {s : Int} (h : redI l s i = true) : i < k → 1 ≤ (redK l s k).length := by
  induction k with
  | zero => intro hk; omega
  | succ k ih =>
    intro hk
    rw [redK, List.length_append]
    by_cases e : i = k
    · subst e; rw [if_pos h]; simp
    · have := ih (by omega); omega
/-- where g reduces and f is another state's, somebody reduces because of f -/
theorem red_some (h : l[i]? = some g) (hr : redB g = true) (hs : f.s ≠ g.s) : 1 ≤ (redK l f.s l.length).length := by
  refine redK_pos (i := i) ?_ (List.getElem?_eq_some_iff.1 h).1
  rw [redI_at h, hr]; simp [Ne.symm hs]
theorem rnd_bd {mo u n d A : Int} (hu : 1 ≤ u) (h : rnd mo u n d = (A, 0)) : -1000000000000 ≤ A ∧ A ≤ 1000000000000 := by
  obtain ⟨h1, rfl⟩ := rnd_ok h
  unfold okU at h1
  simp only [Bool.and_eq_true, decide_eq_true_eq] at h1
  have hb := Int.ediv_mul_le 1000000000000 (b := u) (by omega)
  have a1 := Int.mul_le_mul_of_nonneg_right h1.1 (show 0 ≤ u by omega)
  have a2 := Int.mul_le_mul_of_nonneg_right h1.2 (show 0 ≤ u by omega)
  rw [Int.neg_mul] at *
  constructor <;> omega
end

/-- the cells of deductions -/
def dedCells (l : List Ded) : List Value := l.flatMap fun r => [.int .i64 r.i, .int .i64 r.j, .int .i64 r.v]
theorem dedCells_len (l : List Ded) : (dedCells l).length = l.length * 3 := by
  induction l with
  | nil => rfl
  | cons r l ih => simp only [dedCells, List.flatMap_cons, List.length_append, List.length_cons, List.length_nil] at *; omega
theorem dedCells_snoc (l : List Ded) (r : Ded) : dedCells (l ++ [r]) = dedCells l ++ [.int .i64 r.i, .int .i64 r.j, .int .i64 r.v] := by simp [dedCells]
theorem dedCells_at {l : List Ded} : ∀ {k : Nat} {r : Ded}, l[k]? = some r → (dedCells l)[k * 3]? = some (.int .i64 r.i) ∧ (dedCells l)[k * 3 + 1]? = some (.int .i64 r.j) ∧ (dedCells l)[k * 3 + 2]? = some (.int .i64 r.v) := by
  induction l with
  | nil => intro k r h; cases h
  | cons s l ih =>
    intro k r h
    cases k with
    | zero => injection h with h; subst h; exact ⟨rfl, rfl, rfl⟩
    | succ k =>
      obtain ⟨a, b, c⟩ := ih (k := k) (r := r) (by simpa using h)
      have e : ∀ j, (dedCells (s :: l))[(k + 1) * 3 + j]? = (dedCells l)[k * 3 + j]? := fun j => by
        show ([.int .i64 s.i, .int .i64 s.j, .int .i64 s.v] ++ dedCells l)[(k + 1) * 3 + j]? = _
        rw [List.getElem?_append_right (by simp; omega)]
        congr 1
        simp
        omega
      exact ⟨by rw [← Nat.add_zero ((k + 1) * 3), e]; exact a, by rw [e]; exact b, by rw [e]; exact c⟩
/-- these cells are these deductions -/
def DedAt (w : World) (b off : Nat) (l : List Ded) : Prop := ∀ k r, l[k]? = some r →
  w.cell? ⟨b, off + k * 3, none⟩ = some (.int .i64 r.i) ∧ w.cell? ⟨b, off + k * 3 + 1, none⟩ = some (.int .i64 r.j) ∧ w.cell? ⟨b, off + k * 3 + 2, none⟩ = some (.int .i64 r.v)
theorem DedAt.below {w w' : World} {b off : Nat} {l : List Ded} (h : DedAt w b off l) (hb : b < w.heap.size) (hw : Below w.heap.size w w') : DedAt w' b off l := fun k r hk => by
  obtain ⟨h0, h1, h2⟩ := h k r hk
  exact ⟨(hw.cell (p := ⟨b, _, none⟩) hb).trans h0, (hw.cell (p := ⟨b, _, none⟩) hb).trans h1, (hw.cell (p := ⟨b, _, none⟩) hb).trans h2⟩
/-- this value is a table of these deductions -/
def DedTab (w : World) (v : Value) (l : List Ded) : Prop :=
  (∃ A c, v = .slice A 0 c ∧ l = []) ∨ ∃ b off n c, v = .slice (some ⟨b, off, none⟩) n c ∧ l.length = n ∧ DedAt w b off l ∧ b < w.heap.size
theorem DedTab.below {w w' : World} {v : Value} {l : List Ded} (h : DedTab w v l) (hw : Below w.heap.size w w') : DedTab w' v l := by
  rcases h with h | ⟨b, off, n, c, h1, h2, h3, h4⟩
  · exact .inl h
  · exact .inr ⟨b, off, n, c, h1, h2, h3.below h4 hw, Nat.lt_of_lt_of_le h4 hw.size⟩
theorem DedTab.own {w : World} {base n : Nat} {v : Value} {l : List Ded} (h : w.ownsRow base 47 3 v n (dedCells l)) (hl : l.length = n) : DedTab w v l := by
  rcases h.2 with ⟨rfl, h0⟩ | ⟨g, cap, cur, rfl, _, hh, _, _, _, ht⟩
  · exact .inl ⟨_, _, rfl, List.length_eq_zero_iff.1 (by omega)⟩
  · refine .inr ⟨g, 0, n, cap, rfl, hl, fun k r hk => ?_, Bx.lt hh⟩
    have hk2 : k < l.length := (List.getElem?_eq_some_iff.1 hk).1
    obtain ⟨a, b, c⟩ := dedCells_at hk
    have e : ∀ j u, (dedCells l)[j]? = some u → w.cell? ⟨g, 0 + j, none⟩ = some u := fun j u hj => by
      have hj2 := (List.getElem?_eq_some_iff.1 hj).1
      rw [dedCells_len] at hj2
      rw [Nat.zero_add, Bx.cell hh, ← hj, ← ht, List.getElem?_take, if_pos (by omega), Array.getElem?_toList]
    exact ⟨e _ _ a, e (k * 3 + 1) _ b, e (k * 3 + 2) _ c⟩
/-- a table of these deductions came out, with this code -/
def DedOut (w : World) (l : List Ded) (er : Int) (e : Ending) (w' : World) : Prop := ∃ v, e = .returned (.tuple #[v, .int .i64 er]) ∧ DedTab w' v l ∧ Below w.heap.size w w'
/-- the laid rounding: down to whole units -/
def DownAt (w : World) : Prop := w.cell? ⟨0, 0, none⟩ = some (.int .i64 1) ∧ w.cell? ⟨0, 1, none⟩ = some (.int .i64 1)
theorem cell_lt {w : World} {p : Addr} {v : Value} (h : w.cell? p = some v) : p.block < w.heap.size := World.block_lt_of_cell? w p h
theorem DownAt.below {w w' : World} (h : DownAt w) (hw : Below w.heap.size w w') : DownAt w' :=
  ⟨(hw.cell (p := ⟨0, 0, none⟩) (cell_lt h.1)).trans h.1, (hw.cell (p := ⟨0, 1, none⟩) (cell_lt h.2)).trans h.2⟩
theorem info_ded : (Tryd.prog.info? 47).map (fun i => (i.zero, i.size, i.bytes)) = some (some (.agg #[.int .i64 0, .int .i64 0, .int .i64 0]), 3, 24) := by kernel_rfl
theorem info_nums : (Tryd.prog.info? 35).map (fun i => (i.zero, i.size, i.bytes)) = some (some (.slice none 0 0), 1, 24) := by kernel_rfl
end Go.Proofs.YthpknbflmcoanaaDoor
