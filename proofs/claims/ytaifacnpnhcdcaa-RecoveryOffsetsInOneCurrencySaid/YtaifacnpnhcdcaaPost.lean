/-
  The last step of a law: it returned true, below the arguments' blocks nothing has turned; and a struct of two numbers, opened and shut.
-/
import Derived.Test.YtaifacnpnhcdcaaRows
import Derived.Test.YtaifacnpnhcdcaaMem
import Derived.ProofKit
import Derived.OpenShut
import Derived.ChangeSame
import Derived.Lib.SmallJoins
namespace Go.Proofs.Ytaifacnpnhcdcaa
open Go.RowKit Go.WideShapes Go.ChangeShapes Go.Joins

set_option maxRecDepth 100000
theorem own_knob : ownKnob Try.prog.godebug = none := by kernel_rfl

theorem and_mk {a b : Bool} (h : a = true) (k : b = true) : (a && b) = true := by rw [h, k]; rfl

/-- the row's last step where only 'below the old blocks nothing has turned' is known -/
theorem post_below {H : Type} {enc : TypeId × Value → H} {f : Func} {s : ChangeSpec} {apart fresh handsOn again : Bool} {W W' : World} {args : Array Value} {v : Value} {ds gs : List (DataW H)} {before pa pv : List MemPlace}
    (hW : DataW.Whole enc Try.prog f.params.toList s.vars apart W args.toList ds gs before)
    (hres : ∀ (b : Nat) (sp : Nat → Bool) (hd : Bool), DataW.TrodAll enc Try.prog W' b sp hd f.resultTypes.toList (v.resultList f.resultTypes.size) (s.fn H (ds ++ gs)).results [])
    (hargs : ∀ sp : Nat → Bool, (∀ p ∈ before, sp p.block = true) → DataW.TrodAll enc Try.prog W' 0 sp true f.params.toList args.toList (s.fn H (ds ++ gs)).args pa)
    (hvars : ∀ sp : Nat → Bool, (∀ p ∈ before, sp p.block = true) → DataW.TrodVars enc Try.prog W' sp s.vars (s.fn H (ds ++ gs)).vars pv)
    (hps : before = pa ++ pv) (hb : Below W.heap.size W W')
    (hok : ∀ (j : Nat) (t : TypeId) (r : Value), f.resultTypes[j]? = some t → (v.resultList f.resultTypes.size)[j]? = some r → Value.okWide Try.prog W' .any 0 t r) :
    s.post enc Try.prog f apart fresh handsOn again W args v W' := by
  have hlt : ∀ p ∈ before, p.block < W.heap.size := fun p hp => hW.lt p hp
  have hold : ∀ p ∈ before, (fun b => decide (b < W.heap.size)) p.block = true := fun p hp => by simpa using hlt p hp
  refine ⟨ds, gs, before, [], pa, pv, hW, hres _ _ _, hargs _ hold, hvars _ hold, World.keptBut_mono (fun p hp => ⟨hp, ?_⟩) (hb.frame (· ∈ before)), fun _ => ?_⟩
  · rw [hps, List.mem_append] at hp
    exact Or.inr hp
  · obtain ⟨_, _, _, _, _, hz, hn⟩ := hW
    refine ⟨hok, _, _, ([] ++ pa) ++ pv, ⟨[] ++ pa, pv, trodAll_append (hargs _ (fun _ _ => rfl)) (hres _ _ _), hvars _ (fun _ _ => rfl), rfl, ?_, ?_⟩, ?_⟩
    · intro b off hp
      have hin : MemPlace.cell b off ∈ before := by rw [hps]; simpa using hp
      rw [hb.frozen (hlt _ hin)]
      exact hz b off hin
    · intro ha
      have := hn ha
      rw [hps] at this
      simpa using this
    · intro p hp _
      rw [hps]
      simpa using hp

section
variable {H : Type} {enc : TypeId × Value → H} {w : World} {base : Nat} {spare : Nat → Bool} {held : Bool}
theorem cellsFrac : Try.prog.cellsOf 51 = 2 := by kernel_rfl
theorem cellsRound : Try.prog.cellsOf 65 = 2 := by kernel_rfl
theorem open_frac {r : Reach} {b0 : Nat} {v : Value} {d : DataW H} {p : List MemPlace} (hv : Value.okWide Try.prog w r b0 51 v) (h : DataW.Trod enc Try.prog w base spare held 51 v d p) :
    ∃ a b : Int, v = .agg #[.int .i64 a, .int .i64 b] ∧ d = .agg [.lit (.int .i64 a), .lit (.int .i64 b)] ∧ p = [] ∧ (Lit.int .i64 a).wf = true ∧ (Lit.int .i64 b).wf = true := by
  obtain ⟨c0, c1, y0, y1, m, rfl, rfl, rfl, hy0, hy1⟩ := open_agg2 Try.underlying51 (by kernel_rfl) cellsFrac hv h
  obtain ⟨a, e0, rfl, wa⟩ := DataW.trod_int Try.underlying3 hy0
  obtain ⟨b, e1, rfl, wb⟩ := DataW.trod_int Try.underlying3 hy1
  simp at e0 e1
  subst e0 e1
  exact ⟨a, b, rfl, rfl, rfl, wa, wb⟩
theorem shut_frac {a b : Int} (wa : (Lit.int .i64 a).wf = true) (wb : (Lit.int .i64 b).wf = true) : DataW.Trod enc Try.prog w base spare held 51 (.agg #[.int .i64 a, .int .i64 b]) (.agg [.lit (.int .i64 a), .lit (.int .i64 b)]) [] :=
  shut_agg2 (y0 := (.lit (.int .i64 a), [])) (y1 := (.lit (.int .i64 b), [])) Try.underlying51 (by kernel_rfl) cellsFrac ⟨1, by simp [DataW.trod, Try.underlying3, wa]⟩ ⟨1, by simp [DataW.trod, Try.underlying3, wb]⟩
theorem open_round {r : Reach} {b0 : Nat} {v : Value} {d : DataW H} {p : List MemPlace} (hv : Value.okWide Try.prog w r b0 65 v) (h : DataW.Trod enc Try.prog w base spare held 65 v d p) :
    ∃ a b : Int, v = .agg #[.int .i64 a, .int .i64 b] ∧ d = .agg [.lit (.int .i64 a), .lit (.int .i64 b)] ∧ p = [] ∧ (Lit.int .i64 a).wf = true ∧ (Lit.int .i64 b).wf = true := by
  obtain ⟨c0, c1, y0, y1, m, rfl, rfl, rfl, hy0, hy1⟩ := open_agg2 Try.underlying65 (by kernel_rfl) cellsRound hv h
  obtain ⟨a, e0, rfl, wa⟩ := DataW.trod_int Try.underlying3 hy0
  obtain ⟨b, e1, rfl, wb⟩ := DataW.trod_int Try.underlying3 hy1
  simp at e0 e1
  subst e0 e1
  exact ⟨a, b, rfl, rfl, rfl, wa, wb⟩
theorem shut_round {a b : Int} (wa : (Lit.int .i64 a).wf = true) (wb : (Lit.int .i64 b).wf = true) : DataW.Trod enc Try.prog w base spare held 65 (.agg #[.int .i64 a, .int .i64 b]) (.agg [.lit (.int .i64 a), .lit (.int .i64 b)]) [] :=
  shut_agg2 (y0 := (.lit (.int .i64 a), [])) (y1 := (.lit (.int .i64 b), [])) Try.underlying65 (by kernel_rfl) cellsRound ⟨1, by simp [DataW.trod, Try.underlying3, wa]⟩ ⟨1, by simp [DataW.trod, Try.underlying3, wb]⟩
end
end Go.Proofs.Ytaifacnpnhcdcaa
