/-
  The benefits after reduction: the plain functions, and how a table of net benefits reads.
-/
import Derived.Test.YthpknbflmcoanaaDoorDedT
namespace Go.Proofs.YthpknbflmcoanaaDoor
open Go.RowKit Mny

structure Nt where
  s : Int
  b : Int
  c : Int
  i : Int
  p : Int
  d : Int
  a : Int
deriving DecidableEq

/-- what element x has deducted after the first k deductions -/
def sumK (ds : List Ded) (x : Nat) (cap : Int) : Nat → Int
  | 0 => 0
  | k + 1 => match ds[k]? with
    | some r => if r.i = (x : Int) then min (sumK ds x cap k + r.v) cap else sumK ds x cap k
    | none => sumK ds x cap k
/-- element x after reduction -/
def netV (ds : List Ded) (x : Nat) (g : Gr) : Nt := ⟨g.s, g.b, g.c, g.i, g.p, sumK ds x g.i ds.length, max (g.i - sumK ds x g.i ds.length) g.p⟩
/-- the first k elements after reduction -/
def netK (l : List Gr) (ds : List Ded) : Nat → List Nt
  | 0 => []
  | k + 1 => netK l ds k ++ (match l[k]? with
    | some g => [netV ds k g]
    | none => [])
def netS (l : List Gr) (ds : List Ded) : List Nt := netK l ds l.length
/-- what Apply returns -/
def appR (l : List Gr) (rt : List Rt) (m : Int) : List Nt × Int := if dedB l rt m then (netS l (dedS l rt m), 0) else ([], 1)

section
variable {l : List Gr} {rt : List Rt} {m : Int} {g : Gr} {i k x : Nat} {xs ds : List Ded} {cap : Int}
theorem appR_no (h : dedB l rt m = false) : appR l rt m = ([], 1) ∧ dedR l rt m = ([], 1) := by unfold appR dedR; rw [h]; exact ⟨rfl, rfl⟩
theorem appR_yes (h : dedB l rt m = true) : appR l rt m = (netS l (dedS l rt m), 0) ∧ dedR l rt m = (dedS l rt m, 0) := by unfold appR dedR; rw [h]; exact ⟨rfl, rfl⟩
theorem sumK_hit {r : Ded} (h : ds[k]? = some r) (he : r.i = (x : Int)) : sumK ds x cap (k + 1) = min (sumK ds x cap k + r.v) cap := by rw [sumK, h]; simp [he]
theorem sumK_miss {r : Ded} (h : ds[k]? = some r) (he : ¬ r.i = (x : Int)) : sumK ds x cap (k + 1) = sumK ds x cap k := by rw [sumK, h]; simp [he]
theorem netK_snoc (h : l[k]? = some g) : netK l ds (k + 1) = netK l ds k ++ [netV ds k g] := by rw [netK, h]
theorem netK_len (h : k ≤ l.length) : (netK l ds k).length = k := by
  induction k with
  | zero => rfl
  | succ k ih =>
    rw [netK_snoc (List.getElem?_eq_getElem (show k < l.length by omega)), List.length_append, ih (by omega)]
    rfl
theorem netK_at (h : k ≤ l.length) (hx : x < k) (hg : l[x]? = some g) : (netK l ds k)[x]? = some (netV ds x g) := by
  induction k with
  | zero => omega
  | succ k ih =>
    rw [netK_snoc (List.getElem?_eq_getElem (show k < l.length by omega))]
    by_cases e : x = k
    · subst e
      rw [List.getElem?_append_right (by rw [netK_len (by omega)]; exact Nat.le_refl _), netK_len (by omega)]
      rw [List.getElem?_eq_getElem (show x < l.length by omega)] at hg
      injection hg with hg
      simp [hg]
    · rw [List.getElem?_append_left (by rw [netK_len (by omega)]; omega)]
      exact ih (by omega) (by omega)
theorem netS_len : (netS l ds).length = l.length := netK_len (Nat.le_refl _)
theorem netS_at (hg : l[x]? = some g) : (netS l ds)[x]? = some (netV ds x g) := netK_at (Nat.le_refl _) (List.getElem?_eq_some_iff.1 hg).1 hg
/-- every deduction is one of the elements', and of a number of the kind -/
def OkD (n : Nat) (r : Ded) : Prop := ∃ x y : Nat, x < n ∧ y < n ∧ r.i = x ∧ r.j = y ∧ 0 < r.v ∧ r.v ≤ 1000000000000
theorem partV_bd {f : Gr} {q : Nat} : partV rt m g f q ≤ 1000000000000 := by
  unfold partV
  split
  · split
    · rename_i h
      obtain ⟨A, E, hs⟩ : ∃ A E, shS g (cvS rt m g f).1 q = (A, E) := ⟨_, _, rfl⟩
      rw [hs] at h ⊢
      simp only at h ⊢
      subst h
      unfold shS scaleS at hs
      split at hs
      · exact (rnd_bd (by omega) hs).2
      · have := congrArg Prod.snd hs
        simp at this
    · omega
  · omega
theorem partS_bd : partS l rt m g k ≤ 1000000000000 := by
  unfold partS
  split
  · split
    · exact partV_bd
    · omega
  · omega
theorem dedRow_ok {n : Nat} (hx : ∀ r ∈ xs, OkD n r) (hi : i < n) : k ≤ n → ∀ r ∈ dedRow l rt m g i xs k, OkD n r := by
  induction k with
  | zero => intro _; exact hx
  | succ k ih =>
    intro hk r hr
    rw [dedRow, addD] at hr
    split at hr
    · rename_i hp
      rw [List.mem_append] at hr
      rcases hr with hr | hr
      · exact ih (by omega) r hr
      · simp at hr
        subst hr
        exact ⟨i, k, hi, by omega, rfl, rfl, hp, partS_bd⟩
    · exact ih (by omega) r hr
theorem dedK_ok : k ≤ l.length → ∀ r ∈ dedK l rt m k, OkD l.length r := by
  induction k with
  | zero => intro _ r hr; simp [dedK] at hr
  | succ k ih =>
    intro hk r hr
    rw [dedK] at hr
    split at hr
    · split at hr
      · exact dedRow_ok (ih (by omega)) (by omega) (Nat.le_refl _) r hr
      · exact ih (by omega) r hr
    · exact ih (by omega) r hr
theorem dedS_ok {r : Ded} (h : (dedS l rt m)[k]? = some r) : OkD l.length r := dedK_ok (Nat.le_refl _) r (List.mem_of_getElem? h)
theorem dedS_len (h : l.length ≤ 18) : (dedS l rt m).length ≤ 324 := by
  have h1 := dedK_len (l := l) (rt := rt) (m := m) (k := l.length)
  have h2 : l.length * l.length ≤ 18 * 18 := Nat.mul_le_mul h h
  unfold dedS
  omega
theorem sumK_bd (hc : 0 ≤ cap) (h : ∀ r ∈ ds, 0 < r.v) : 0 ≤ sumK ds x cap k ∧ sumK ds x cap k ≤ cap := by
  induction k with
  | zero => exact ⟨Int.le_refl _, hc⟩
  | succ k ih =>
    rw [sumK]
    split
    · rename_i r hr
      have := h r (List.mem_of_getElem? hr)
      split <;> omega
    · exact ih
end

/-- the cells of one net benefit -/
def ntCells (r : Nt) : List Value := [.int .i64 r.s, .int .i64 r.b, .int .i64 r.c, .int .i64 r.i, .int .i64 r.p, .int .i64 r.d, .int .i64 r.a]
/-- these cells are these net benefits -/
def NetAt (w : World) (b off : Nat) (l : List Nt) : Prop := ∀ k r, l[k]? = some r →
  w.cell? ⟨b, off + k * 7, none⟩ = some (.int .i64 r.s) ∧ w.cell? ⟨b, off + k * 7 + 1, none⟩ = some (.int .i64 r.b) ∧ w.cell? ⟨b, off + k * 7 + 2, none⟩ = some (.int .i64 r.c) ∧ w.cell? ⟨b, off + k * 7 + 3, none⟩ = some (.int .i64 r.i) ∧ w.cell? ⟨b, off + k * 7 + 4, none⟩ = some (.int .i64 r.p) ∧ w.cell? ⟨b, off + k * 7 + 5, none⟩ = some (.int .i64 r.d) ∧ w.cell? ⟨b, off + k * 7 + 6, none⟩ = some (.int .i64 r.a)
theorem NetAt.below {w w' : World} {b off : Nat} {l : List Nt} (h : NetAt w b off l) (hb : b < w.heap.size) (hw : Below w.heap.size w w') : NetAt w' b off l := fun k r hk => by
  obtain ⟨h0, h1, h2, h3, h4, h5, h6⟩ := h k r hk
  exact ⟨(hw.cell (p := ⟨b, _, none⟩) hb).trans h0, (hw.cell (p := ⟨b, _, none⟩) hb).trans h1, (hw.cell (p := ⟨b, _, none⟩) hb).trans h2, (hw.cell (p := ⟨b, _, none⟩) hb).trans h3, (hw.cell (p := ⟨b, _, none⟩) hb).trans h4, (hw.cell (p := ⟨b, _, none⟩) hb).trans h5, (hw.cell (p := ⟨b, _, none⟩) hb).trans h6⟩
/-- this value is a table of these net benefits -/
def NetTab (w : World) (v : Value) (l : List Nt) : Prop :=
  (∃ A c, v = .slice A 0 c ∧ l = []) ∨ ∃ b off n c, v = .slice (some ⟨b, off, none⟩) n c ∧ l.length = n ∧ NetAt w b off l ∧ b < w.heap.size ∧ n ≤ c
theorem NetTab.below {w w' : World} {v : Value} {l : List Nt} (h : NetTab w v l) (hw : Below w.heap.size w w') : NetTab w' v l := by
  rcases h with h | ⟨b, off, n, c, h1, h2, h3, h4, h5⟩
  · exact .inl h
  · exact .inr ⟨b, off, n, c, h1, h2, h3.below h4 hw, Nat.lt_of_lt_of_le h4 hw.size, h5⟩
/-- a table of these net benefits came out, with this code -/
def NetOut (w : World) (l : List Nt) (er : Int) (e : Ending) (w' : World) : Prop := ∃ v, e = .returned (.tuple #[v, .int .i64 er]) ∧ NetTab w' v l ∧ Below w.heap.size w w'
theorem info_net : (Tryd.prog.info? 60).map (fun i => (i.zero, i.size, i.bytes)) = some (some (.agg #[.int .i64 0, .int .i64 0, .int .i64 0, .int .i64 0, .int .i64 0, .int .i64 0, .int .i64 0]), 7, 56) := by kernel_rfl
end Go.Proofs.YthpknbflmcoanaaDoor
