/-
  A block of memory that is known whole, carried over what calls and stores elsewhere do.
-/
import Derived.Test.YtaifacnpnhcdcaaRounded
import Derived.Deep.RegionWith
import Derived.Laws.Rows
import Derived.StillTailTactics
import Derived.BigQuiet
namespace Go.Proofs.Ytaifacnpnhcdcaa
open Go.RowKit

theorem still_of {f : FuncId} {args : Array Value} {w : World} {v : Value} (h : Calls Try.prog f args w fun e w' => e = .returned v ∧ w = w') :
    Calls Try.prog f args w fun e w' => e = .returned v ∧ w' = w := h.mono fun _ _ ⟨he, hm⟩ => ⟨he, hm.symm⟩

/-- block g holds just these cells, none of them frozen -/
def Bx (w : World) (g : Nat) (t : TypeId) (cs : Array Value) : Prop := w.heap[g]? = some (.cells cs t (0, 0))
section
variable {w w' : World} {g : Nat} {t : TypeId} {cs : Array Value}
theorem Bx.lt (h : Bx w g t cs) : g < w.heap.size := by
  apply Nat.lt_of_not_le
  intro hge
  unfold Bx at h
  rw [Array.getElem?_eq_none hge] at h
  cases h
theorem Bx.cell (h : Bx w g t cs) (i : Nat) : w.cell? ⟨g, i, none⟩ = cs[i]? := cell_of_row w g i cs t (0, 0) h
theorem Bx.free (h : Bx w g t cs) (i : Nat) : w.frozen? ⟨g, i, none⟩ = false := by
  unfold Bx at h
  simp [World.frozen?, h]
theorem Bx.made (w : World) (t : TypeId) (cs : Array Value) (hg : w.heap.size = g) : Bx (w.alloc (.cells cs t)) g t cs := by subst hg; exact heap_alloc_new w _
theorem Bx.alloc (h : Bx w g t cs) (o : Obj) : Bx (w.alloc o) g t cs := (Below.heap_alloc w o g h.lt).trans h
theorem Bx.drewN (h : Bx w g t cs) (n : Nat) : Bx (w.drewN n) g t cs := h
theorem Bx.drew (h : Bx w g t cs) : Bx w.drew g t cs := h
theorem Bx.below (h : Bx w g t cs) (hb : Below w.heap.size w w') : Bx w' g t cs := (hb.block g h.lt).trans h
theorem Bx.put (h : Bx w g t cs) (i : Nat) (u : Value) : Bx (w.setCell ⟨g, i, none⟩ u) g t (cs.setIfInBounds i u) := by
  unfold Bx at h ⊢
  simp [World.setCell, Array.getElem?_modify, h]
theorem Bx.far (h : Bx w g t cs) {p : Addr} (hp : g ≠ p.block) (u : Value) : Bx (w.setCell p u) g t cs := (Below.heap_setCell w p u g hp).trans h
end

/-- a world that has grown out of w: below w's blocks nothing has turned -/
structure BW (w : World) where
  val : World
  ok : Below w.heap.size w val
instance (w : World) : Nonempty (BW w) := ⟨⟨w, Below.refl _ _⟩⟩
theorem BW.cells {w : World} {g : Nat} {t : TypeId} {cs : Array Value} (h : Bx w g t cs) (i : Nat) (x : BW w) : x.val.cell? ⟨g, i, none⟩ = cs[i]? := (h.below x.ok).cell i

/-- a region that draws its order, whose operations only read and whose callees leave what was there alone: one walk in the order of the text -/
theorem wp_region_below {id : Nat} {Q : Exit → Act → World → Prop} {a : Act} {w : World} {l : List Oper} (hm : Try.prog.follows .mixedOrders = true) (hB : Region.lexB .any l.toArray = true)
    (h : wpQuiet Try.prog l.toArray (fun w' => ∃ x : BW w, w' = x.val) (fun a' => ∀ w', (∃ x : BW w, w' = x.val) → Q .normal a' w') l a) : (Code.region id l.toArray true).wp Try.prog Q a w :=
  wp_region_quiet (C := fun w' => ∃ x : BW w, w' = x.val) hm hB ⟨⟨_, (Below.refl _ _).drew⟩, rfl⟩ (by simpa using h)
theorem bq_below {f : FuncId} {args : Array Value} {w : World} {x : BW w} {v : Value}
    (h : Calls Try.prog f args x.val fun e w' => e = .returned v ∧ Below x.val.heap.size x.val w') : Calls Try.prog f args x.val fun e w' => e = .returned v ∧ ∃ y : BW w, w' = y.val :=
  h.mono fun _ w' ⟨he, hb⟩ => ⟨he, ⟨w', x.ok.trans (hb.mono x.ok.size)⟩, rfl⟩
theorem bq_same {f : FuncId} {args : Array Value} {w : World} {x : BW w} {v : Value}
    (h : Calls Try.prog f args x.val fun e w' => e = .returned v ∧ x.val = w') : Calls Try.prog f args x.val fun e w' => e = .returned v ∧ ∃ y : BW w, w' = y.val :=
  h.mono fun _ _ ⟨he, hb⟩ => ⟨he, x, hb.symm⟩
theorem bq_draws {f : FuncId} {args : Array Value} {w : World} {x : BW w} {v : Value}
    (h : Calls Try.prog f args x.val fun e w' => e = .returned v ∧ ∃ n, w' = x.val.drewN n) : Calls Try.prog f args x.val fun e w' => e = .returned v ∧ ∃ y : BW w, w' = y.val :=
  h.mono fun _ w' ⟨he, n, hb⟩ => ⟨he, ⟨w', by rw [hb]; exact below_drewN x.ok n⟩, rfl⟩
end Go.Proofs.Ytaifacnpnhcdcaa
