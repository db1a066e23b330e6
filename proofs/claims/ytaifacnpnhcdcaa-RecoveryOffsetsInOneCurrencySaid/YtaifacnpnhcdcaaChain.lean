/-
  A block that is known whole, carried back through stores, new blocks and calls; small lemmas on numbers.
-/
import Derived.Test.YtaifacnpnhcdcaaMem
namespace Go.Proofs.Ytaifacnpnhcdcaa
open Go.RowKit Mny

/-- block g, its cells behind f, are these -/
def BxP (w : World) (g : Nat) (t : TypeId) (f : Array Value → Array Value) (cs' : Array Value) : Prop := ∃ cs, Bx w g t cs ∧ f cs = cs'
section
variable {w w' : World} {g : Nat} {t : TypeId} {f : Array Value → Array Value} {cs cs' : Array Value}
theorem BxP.out (h : BxP w g t id cs') : Bx w g t cs' := by
  obtain ⟨_, h, rfl⟩ := h
  exact h
theorem BxP.of (h : Bx w g t cs) (e : f cs = cs') : BxP w g t f cs' := ⟨cs, h, e⟩
theorem BxP.put {i : Nat} {u : Value} (h : BxP w g t (fun cs => f (cs.setIfInBounds i u)) cs') : BxP (w.setCell ⟨g, i, none⟩ u) g t f cs' := by
  obtain ⟨cs, h, e⟩ := h
  exact ⟨_, h.put i u, e⟩
theorem BxP.far {p : Addr} {u : Value} (hp : g ≠ p.block) (h : BxP w g t f cs') : BxP (w.setCell p u) g t f cs' := by
  obtain ⟨cs, h, e⟩ := h
  exact ⟨_, h.far hp u, e⟩
theorem BxP.made (hg : w.heap.size = g) (e : f cs = cs') : BxP (w.alloc (.cells cs t)) g t f cs' := ⟨cs, Bx.made w t cs hg, e⟩
theorem BxP.alloc {o : Obj} (h : BxP w g t f cs') : BxP (w.alloc o) g t f cs' := by
  obtain ⟨cs, h, e⟩ := h
  exact ⟨_, h.alloc o, e⟩
theorem BxP.drew (h : BxP w g t f cs') : BxP w.drew g t f cs' := h
theorem BxP.drewN {n : Nat} (h : BxP w g t f cs') : BxP (w.drewN n) g t f cs' := h
theorem BxP.below (hb : Below w.heap.size w w') (h : BxP w g t f cs') : BxP w' g t f cs' := by
  obtain ⟨cs, h, e⟩ := h
  exact ⟨_, h.below hb, e⟩
end

theorem Bx.of {w : World} {g : Nat} {t : TypeId} {cs : Array Value} (h : Bx w g t cs) : (∀ i, w.cell? ⟨g, i, none⟩ = cs[i]?) ∧ (∀ i, w.frozen? ⟨g, i, none⟩ = false) := ⟨h.cell, h.free⟩

theorem inB_out {lo hi z : Int} (h : z < lo ∨ hi < z) : inB lo hi z = false := by
  rw [Bool.eq_false_iff]
  intro hx
  have := inB_iff.1 hx
  omega

theorem sgn_mul (n : Int) (K : Nat) : sgnN (decide (n < 0)) (n.natAbs * K) = n * (K : Int) := by
  unfold sgnN
  by_cases h : n < 0
  · rw [if_pos (by simpa using h), Int.natCast_mul, ← Int.neg_mul]; congr 1; omega
  · rw [if_neg (by simpa using h), Int.natCast_mul]; congr 1; omega

theorem sgn_nat (n : Int) : sgnN (decide (n < 0)) (wideN 0 n.natAbs) = n := by
  unfold sgnN wideN
  by_cases h : n < 0
  · rw [if_pos (by simpa using h)]; omega
  · rw [if_neg (by simpa using h)]; omega

theorem below_of_drew (w : World) : Below w.heap.size w w.drew := (Below.refl _ _).drew
end Go.Proofs.Ytaifacnpnhcdcaa
