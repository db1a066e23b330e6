/-
  The library's collecting of standings: slices.AppendSeq onto nil, slices.Collect.
-/
import Derived.Test.YtaifacnpnhcdcaaSeqV
namespace Go.Proofs.Ytaifacnpnhcdcaa
open Go.RowKit Go.Shelf

attribute [local go_sem] Oper.semAt_some

/-- the cells of standings -/
def stCells (l : List St) : List Value := l.flatMap stC
theorem stCells_snoc (l : List St) (r : St) : stCells (l ++ [r]) = stCells l ++ [.int .i64 r.s, .int .i64 r.c, .int .i64 r.a, .int .i64 r.o] := by simp [stCells, stC]
theorem info_std : (Try.prog.info? 33).map (fun i => (i.zero, i.size, i.bytes)) = some (some (.agg #[.int .i64 0, .int .i64 0, .int .i64 0, .int .i64 0]), 4, 32) := by kernel_rfl
/-- block b is a standing's box -/
def SBox (W : World) (B : Nat) (x : St) : Prop := W.heap[B]? = some (.cells #[.int .i64 x.s, .int .i64 x.c, .int .i64 x.a, .int .i64 x.o] 33 (0, 0))
theorem SBox.cells {W : World} {B : Nat} {x : St} (h : SBox W B x) : W.cell? ⟨B, 0, none⟩ = some (.int .i64 x.s) ∧ W.cell? ⟨B, 1, none⟩ = some (.int .i64 x.c) ∧ W.cell? ⟨B, 2, none⟩ = some (.int .i64 x.a) ∧ W.cell? ⟨B, 3, none⟩ = some (.int .i64 x.o) := by
  refine ⟨?_, ?_, ?_, ?_⟩ <;> simp [World.cell?, show W.heap[B]? = _ from h]
theorem sbox_own (B : Nat) (x : St) : Own (fun (_ : Unit) W => SBox W B x) := by
  intro s X Y row h hg hrow
  refine (hg.block B (Array.getElem?_eq_some_iff.1 h).1 ?_).trans h
  intro e
  obtain ⟨o, ho, hc⟩ := hrow B e.symm
  rw [show X.heap[B]? = _ from h] at ho; cases ho; cases hc

set_option maxRecDepth 100000 in
set_option maxHeartbeats 4000000 in
theorem appendSeq_in (F : Fence) (n : Nat) (hf : F.fn 62) (hfc : F.fn 43) (hro : F.round = none) (hn : 3 ≤ n) (Bs : Nat) (sv : Value) (xs : List St) (hlen : xs.length ≤ 1000000) (w : World) (hBs : Bs < w.heap.size) (hc : w.cell? ⟨Bs, 0, none⟩ = some sv) (hI : StTab w.heap.size w sv xs) :
    CallsIn F n Try.prog 62 #[.slice none 0 0, .func (.func 43) #[] #[.pointer (some ⟨Bs, 0, none⟩)]] w fun e W' => ∃ v, e = .returned v ∧ W'.ownsRow w.heap.size 33 4 v xs.length (stCells xs) ∧ Below w.heap.size w W' := by
  have h1 : 1 ≤ n := by omega
  obtain ⟨i0, hi, hz0, hz1, hz2⟩ := info_parts info_std
  refine callsIn_of_wp_marks Try.func62 rfl hf ?_ hro
  simp only [Try.ntmps62, List.size_toArray, List.length_cons, List.length_nil, Nat.reduceAdd, Nat.reduceSub, Array.replicate_succ, Array.replicate_zero, List.push_toArray, List.append_toArray, List.nil_append, List.cons_append]
  gi_wp2
  have bO := Boxed.new w 34 (.slice none 0 0)
  have hB0 : Below w.heap.size w (w.alloc (.cells #[.slice none 0 0] 34)) := (Below.refl _ w).alloc (Nat.le_refl _) _
  refine wpIn_rangeFunc_ownH hro h1 (gf := 43) (lb := #[.pointer (some ⟨Bs, 0, none⟩)]) rfl hfc (enters_of Try.func43 (by kernel_rfl) rfl)
    (values_stops F (n - 1) hfc hro (by omega) Bs w.heap.size sv xs (by omega) _ (by simp; omega) (by simp) ((hB0.cell (p := ⟨Bs, 0, none⟩) hBs).trans hc) (hI.below hB0)) belowK_t (belowK_b (by simp)) (Below.refl _ _) (fun _ => rfl)
    (fun pre W => (∃ v, Boxed W w.heap.size 34 v ∧ W.ownsRow w.heap.size 33 4 v pre.length (stCells pre) ∧ True) ∧ Below w.heap.size w W)
    (fun _ _ _ => False)
    (OwnFrom.and (Own.from (holdsRow_own w.heap.size w.heap.size 34 33 4 (fun pre => pre.length) stCells (fun _ _ => True)) _) (ownFrom_below (Nat.le_refl _) (by simp)))
    (fun _ _ _ _ _ hs _ _ => hs)
    ⟨⟨_, bO, World.ownsRow_nil _ _ _ _, trivial⟩, hB0⟩
    (fun x a' W => ∃ Bx, w.heap.size < Bx ∧ SBox W Bx x ∧ a' = { tmps := #[.slice none 0 0, .func (.func 43) #[] #[.pointer (some ⟨Bs, 0, none⟩)], .pointer (some ⟨w.heap.size, 0, none⟩), undef, .slice none 0 0, .pointer (some ⟨Bx, 0, none⟩), .func (.func 43) #[] #[.pointer (some ⟨Bs, 0, none⟩)], .agg (stC x).toArray, undef, undef, undef, undef, undef], defers := [] })
    (fun x a' _ X Y row hs hg hr => by obtain ⟨Bx, h1, h2, h3⟩ := hs; exact ⟨Bx, h1, sbox_own Bx x () X Y row h2 hg (fun r e => (hr r e).2), h3⟩)
    ?assign ?body ?done ?stop
  case assign =>
    rintro l pre x W K ⟨⟨v, hv, hrow, _⟩, hB⟩ hK
    simp only [stC] at hK ⊢
    gi_wp2
    exact hK _ _ ((KeepsOthers.alloc _ _).from _) ((Below.refl _ W).alloc hB.size _) ⟨⟨v, hv.alloc _, hrow.alloc _, trivial⟩, hB.alloc hB.size _⟩ ⟨W.heap.size, hv.lt, World.alloc_heap_new W _, rfl⟩
  case body =>
    rintro l pre x a' W _ _ ⟨⟨v, hv, hrow, _⟩, hB⟩ ⟨Bx, hBx, hX, rfl⟩ hlt
    have hc0 := hv.cell
    obtain ⟨x0, x1, x2, x3⟩ := hX.cells
    have hbs := hB.size
    gi_wp2_with (gi_at_builtin; go_loud (refine wpListIn_append_own _ rfl _ _ 34 rfl w.heap.size 33 i0 (.agg #[.int .i64 0, .int .i64 0, .int .i64 0, .int .i64 0]) 4 32 Try.underlying34 hi hz0 hz1 hz2 rfl (by decide) _ _ _ rfl (hrow.alloc _) ⟨W.heap.size, 0, none⟩ 1 1 [.int .i64 x.s, .int .i64 x.c, .int .i64 x.a, .int .i64 x.o] rfl rfl ?c1 ?c2 ?c3 ?c4 ?c5 ?_))
    case c1 =>
      intro j u hj
      match j, hj with
      | 0, hj => simp at hj; subst hj; simp [Addr.add]
      | 1, hj => simp at hj; subst hj; simp [Addr.add]
      | 2, hj => simp at hj; subst hj; simp [Addr.add]
      | 3, hj => simp at hj; subst hj; simp [Addr.add]
      | j + 4, hj => simp at hj
    case c2 => first | exact ⟨rfl, rfl, rfl, rfl⟩ | (intro u hu; simp at hu; rcases hu with rfl | rfl | rfl | rfl <;> rfl)
    case c3 => unfold maxLen; omega
    case c4 => omega
    case c5 => first | omega | (simp; done) | (simp; omega)
    intro v' w1 hown' hgrow _
    obtain ⟨g', cap', rfl⟩ := ownsRow_succ hown'
    obtain ⟨hv1, hv2, hr2, hk2, hb2⟩ := hv.appended (by decide) hrow hB.size (Nat.le_refl _) hown' hgrow
    have hc1 := hv1.cell
    have hf1 := hv1.frozen
    gi_wp2
    exact ⟨hk2.from _, hb2, ⟨_, hv2, by rw [stCells_snoc]; simpa using hr2, trivial⟩, hB.trans hb2⟩
  case done =>
    rintro D ys W hD rfl ⟨⟨v, hv, hrow, _⟩, hB⟩ hK
    have hc0 := hv.cell
    gi_wp2
    refine ⟨by simp, .inl ⟨_, _, rfl, run_takeDeferred hK, ?_⟩⟩
    exact ⟨_, results_tmp rfl _ _ _, v, rfl, ownsRow_putObj hrow _ hK rfl, hB.trans (belowK_b (w := w) (Nat.le_refl _) W D _ _ (by simp at hD; omega) hK rfl rfl)⟩
  case stop =>
    rintro D c pre W _ _ h _
    exact h.elim

set_option maxRecDepth 100000 in
set_option maxHeartbeats 1000000 in
theorem collect_in (F : Fence) (n : Nat) (hf0 : F.fn 41) (hf : F.fn 62) (hfc : F.fn 43) (hro : F.round = none) (hn : 4 ≤ n) (Bs : Nat) (sv : Value) (xs : List St) (hlen : xs.length ≤ 1000000) (w : World) (hBs : Bs < w.heap.size) (hc : w.cell? ⟨Bs, 0, none⟩ = some sv) (hI : StTab w.heap.size w sv xs) :
    CallsIn F n Try.prog 41 #[.func (.func 43) #[] #[.pointer (some ⟨Bs, 0, none⟩)]] w fun e W' => ∃ v, e = .returned v ∧ W'.ownsRow w.heap.size 33 4 v xs.length (stCells xs) ∧ Below w.heap.size w W' := by
  have h1 : 1 ≤ n := by omega
  have HC := Lib.hid hc
  have HI := Lib.hid hI
  clear hc hI
  refine callsIn_of_wp Try.func41 rfl hf0 ?_ hro
  simp only [Try.ntmps41, List.size_toArray, List.length_cons, List.length_nil, Nat.reduceAdd, Nat.reduceSub, Array.replicate_succ, Array.replicate_zero, List.push_toArray, List.append_toArray, List.nil_append, List.cons_append]
  gi_wp2_with (gi_at_call 62; refine (appendSeq_in F (n - 1) hf hfc hro (by omega) Bs sv xs hlen w hBs HC.out HI.out).mono ?_; rintro e w' ⟨v, rfl, hrow, hb⟩)
  go_ret
  exact ⟨v, rfl, hrow, hb⟩
end Go.Proofs.Ytaifacnpnhcdcaa
