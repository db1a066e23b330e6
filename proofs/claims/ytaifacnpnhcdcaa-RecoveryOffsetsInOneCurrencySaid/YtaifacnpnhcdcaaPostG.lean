/-
  The last step of a law whatever its parameters' types: below the arguments' blocks nothing has turned, so each argument reads as it did; and slices of numbers, opened.
-/
import Derived.Test.YtaifacnpnhcdcaaPost
import Derived.Carry
import Derived.ChangeSlices
import Derived.OpenShut
set_option maxRecDepth 100000
namespace Go.Proofs.Ytaifacnpnhcdcaa
open Go.RowKit Go.WideShapes Go.ChangeShapes Go.Joins Go.WideElems

theorem laid_out : laidOutB Try.prog = true := by kernel_rfl

section
variable {H : Type} {enc : TypeId × Value → H}
/-- the arguments read behind the call as they did -/
theorem trodAll_keep {P : Program} (hl : laidOutB P = true) {W W' : World} (hb : Below W.heap.size W W') {sp : Nat → Bool} :
    ∀ (ts : List TypeId) {vs : List Value} {ds : List (DataW H)} {ps : List MemPlace}, (ts.all fun t => P.readableRec t && decide (t < P.types.size)) = true →
      DataW.TrodAll enc P W 0 (fun _ => true) true ts vs ds ps → (∀ x ∈ ps, x.block < W.heap.size) → (∀ x ∈ ps, sp x.block = true) → DataW.TrodAll enc P W' 0 sp true ts vs ds ps
  | [], vs, ds, ps, _, h, _, _ => by
    obtain ⟨rfl, rfl, rfl⟩ := trodAll_nil h
    exact trodAll_mk0
  | t :: ts, vs, ds, ps, ht, h, hlt, hsp => by
    obtain ⟨v, vs', d, ds', p, q, rfl, rfl, rfl, h0, h1⟩ := trodAll_cons h
    simp only [List.all_cons, Bool.and_eq_true, decide_eq_true_eq] at ht
    have ha : DataW.Trod enc P W' 0 sp true t v d p :=
      Trod_stays hl ht.1.1 ht.1.2 h0 (fun x hx => hb.same (hlt x (by simp [hx]))) (fun x hx => hsp x (by simp [hx]))
    exact trodAll_cons_mk ha (trodAll_keep hl hb ts ht.2 h1 (fun x hx => hlt x (by simp [hx])) (fun x hx => hsp x (by simp [hx])))

/-- a law's post: it returned true, and below the old blocks nothing has turned -/
theorem post_law {f : Func} {s : ChangeSpec} {apart fresh handsOn again : Bool} {W W' : World} {args : Array Value} {ds gs : List (DataW H)} {before : List MemPlace}
    (hW : DataW.Whole enc Try.prog f.params.toList s.vars apart W args.toList ds gs before) (hb : Below W.heap.size W W')
    (hv : s.vars = []) (hr : f.resultTypes = #[4])
    (hts : (f.params.toList.all fun t => Try.prog.readableRec t && decide (t < Try.prog.types.size)) = true)
    (h1 : (s.fn H (ds ++ gs)).results = [.lit (.bool true)]) (h2 : (s.fn H (ds ++ gs)).args = ds) (h3 : (s.fn H (ds ++ gs)).vars = []) :
    s.post enc Try.prog f apart fresh handsOn again W args (.bool true) W' := by
  have hW' := hW
  obtain ⟨p, q, hA, hV, rfl, hfz, hnd⟩ := hW
  rw [hv] at hV
  obtain ⟨rfl, rfl⟩ := trodVars_none hV
  have hlt : ∀ x ∈ p, x.block < W.heap.size := fun x hx => hW'.lt x (by simp [hx])
  refine post_below (pa := p) (pv := []) hW' (fun b sp hd => ?_) (fun sp hsp => ?_) (fun sp _ => ?_) rfl hb (ok_one hr rfl (okWide_bool_mk Try.underlying4 _))
  · rw [hr, h1]
    exact trodAll_cons_mk (shut_bool Try.underlying4 _) trodAll_mk0
  · rw [h2]
    exact trodAll_keep laid_out hb _ hts hA hlt (fun x hx => hsp x (by simp [hx]))
  · rw [h3, hv]
    rfl

/-- these cells are these numbers -/
def RowAt (w : World) (b off : Nat) (zs : List Int) : Prop := ∀ k z, zs[k]? = some z → w.cell? ⟨b, off + k, none⟩ = some (.int .i64 z)

/-- a slice of numbers that came in -/
theorem open_nums {w : World} {r : Reach} {b0 base : Nat} {spare : Nat → Bool} {held : Bool} {v : Value} {d : DataW H} {p : List MemPlace} (hv : Value.okWide Try.prog w r b0 31 v) (h : DataW.Trod enc Try.prog w base spare held 31 v d p) :
    (∃ A c, v = .slice A 0 c) ∨ ∃ b off n c zs, v = .slice (some ⟨b, off, none⟩) n c ∧ 0 < n ∧ zs.length = n ∧ RowAt w b off zs ∧ b < w.heap.size ∧ n ≤ maxLen ∧ ∀ z ∈ zs, (Lit.int .i64 z).wf = true := by
  obtain ⟨a0, n, c, rfl⟩ := okWide_slice Try.underlying31 hv
  obtain ⟨fuel, hf⟩ := h
  rcases open_ints Try.underlying31 Try.underlying3 (by kernel_rfl) hf with ⟨hcs, _⟩ | ⟨a, len, cap, zs, hcs, _, hl, hm, hz, _, hcell, hwf⟩
  · simp [Value.cells] at hcs
    obtain ⟨rfl, rfl, rfl⟩ := hcs
    exact .inl ⟨_, _, rfl⟩
  · simp [Value.cells] at hcs
    obtain ⟨rfl, rfl, rfl⟩ := hcs
    rcases Nat.eq_zero_or_pos n with h0 | h0
    · subst h0
      exact .inl ⟨_, _, rfl⟩
    · have hlz : n ≤ zs.length := by rw [hz]; split <;> omega
      obtain ⟨b, off, rfl, hc⟩ := ints_at hcell (by omega)
      refine .inr ⟨b, off, n, c, zs.take n, rfl, h0, by rw [List.length_take]; omega, fun k z hk => ?_, ?_, by omega, fun z hmem => hwf z (List.mem_of_mem_take hmem)⟩
      · rw [List.getElem?_take] at hk
        split at hk
        · rw [hc k (by omega), List.getD_eq_getElem?_getD, hk]; rfl
        · cases hk
      · have := hc 0 (by omega)
        exact World.block_lt_of_cell? w ⟨b, off + 0, none⟩ this
end
end Go.Proofs.Ytaifacnpnhcdcaa
