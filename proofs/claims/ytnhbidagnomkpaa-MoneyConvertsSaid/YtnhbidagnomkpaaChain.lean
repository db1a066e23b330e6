/-
  A block that is known whole, carried back through stores, new blocks and calls.
-/
import Derived.Test.YtnhbidagnomkpaaMem
namespace Go.Proofs.Ytnhbidagnomkpaa
open Go.RowKit

/-- block g, its cells behind f, are these -/
def BxP (w : World) (g : Nat) (t : TypeId) (f : Array Value → Array Value) (cs' : Array Value) : Prop := ∃ cs, Bx w g t cs ∧ f cs = cs'
section
variable {w w' : World} {g : Nat} {t : TypeId} {f : Array Value → Array Value} {cs cs' : Array Value}
theorem BxP.out (h : BxP w g t id cs') : Bx w g t cs' := by
  obtain ⟨_, h, rfl⟩ := h
  exact h
theorem BxP.of (h : Bx w g t cs) (e : f cs = cs') : BxP w g t f cs' := ⟨cs, h, e⟩
theorem BxP.put {i : Nat} {u : Value} (h : BxP w g t (fun cs => f (cs.setIfInBounds i u)) cs') : BxP (w.setCell ⟨g, i, none⟩ u) g t f cs' := by
  obtain ⟨cs, h, e⟩ := h
  exact ⟨_, h.put i u, e⟩
theorem BxP.far {p : Addr} {u : Value} (hp : g ≠ p.block) (h : BxP w g t f cs') : BxP (w.setCell p u) g t f cs' := by
  obtain ⟨cs, h, e⟩ := h
  exact ⟨_, h.far hp u, e⟩
theorem BxP.made (hg : w.heap.size = g) (e : f cs = cs') : BxP (w.alloc (.cells cs t)) g t f cs' := ⟨cs, Bx.made w t cs hg, e⟩
theorem BxP.alloc {o : Obj} (h : BxP w g t f cs') : BxP (w.alloc o) g t f cs' := by
  obtain ⟨cs, h, e⟩ := h
  exact ⟨_, h.alloc o, e⟩
theorem BxP.drew (h : BxP w g t f cs') : BxP w.drew g t f cs' := h
theorem BxP.drewN {n : Nat} (h : BxP w g t f cs') : BxP (w.drewN n) g t f cs' := h
theorem BxP.below (hb : Below w.heap.size w w') (h : BxP w g t f cs') : BxP w' g t f cs' := by
  obtain ⟨cs, h, e⟩ := h
  exact ⟨_, h.below hb, e⟩
end

end Go.Proofs.Ytnhbidagnomkpaa
