/-
  ReductionIgnoresOrder: for every input the law returns true; the condition is that the listed variable pension/reduction.down holds what the program's text lays.
-/
import Derived.Test.YthpknbflmcoanaaDoorReductionIgnoresOrder
import Derived.Test.YthpknbflmcoanaaDoorFacts
import Derived.Test.YthpknbflmcoanaaDoorOpen21
import Derived.Test.YthpknbflmcoanaaDoorLaid
import Derived.Test.YthpknbflmcoanaaDoorCards
import Derived.Test.YthpknbflmcoanaaDoorTie
import Derived.SevenTiedAt
namespace Go.Proofs.YthpknbflmcoanaaDoor
open Go.RowKit Mny Go.WideShapes Go.ChangeShapes Go.ChangeAt

set_option maxRecDepth 100000 in
theorem lifted_ReductionIgnoresOrder (os : Os) (started : os.Started) (H : Type) (enc : TypeId × Value → H) :
    ReturnsInHanded {} Tryd.checked os 13 .any (fun w args => (Rows.reductionIgnoresOrderSpec.pre enc Tryd.prog Tryd.f13 [] false w args ∧ laidMet Tryd.prog laidL w) ∧ sizedMet enc Tryd.prog Tryd.f13 (OpenSpec.ofChange Rows.reductionIgnoresOrderSpec) false w args)
      (Rows.reductionIgnoresOrderSpec.post enc Tryd.prog Tryd.f13 false true false false) := by
  refine returnsInHanded_of_change_and (C := Tryd.checked) (X := fun w _ => laidMet Tryd.prog laidL w) (fun _ _ _ hh h => h.of_heap hh) own_knob started (by kernel_rfl) Tryd.func13
    (ChangeSpec.witness_at (enc := enc) (C := Tryd.checked) (os := os) (X := fun w _ => laidMet Tryd.prog laidL w) false (laidWorld os) #[.slice none 0 0, .slice none 0 0, .int .i64 0, .int .i64 0] 8 rfl (by kernel_rfl) (by kernel_rfl) (by kernel_rfl) (by kernel_rfl) (by kernel_rfl) (laidWorld_met os _)) ?_
  intro W base args ds gs before hval0 hW hcnd hsz0 hL _
  have hval : ∀ (j : Nat) t v, Tryd.f13.params[j]? = some t → args[j]? = some v → Value.okWide Tryd.prog W .any base t v := hval0
  have hsz : (DataW.weightsEach Tryd.prog (Tryd.f13.params.toList ++ Rows.reductionIgnoresOrderSpec.plain.varTypes Tryd.prog) (ds ++ gs)).all (· ≤ reachBytes) = true := hsz0
  have hW' := hW
  obtain ⟨p, q, hA0, hV, rfl, hfz, hnd⟩ := hW
  have hA : DataW.TrodAll enc Tryd.prog W 0 (fun _ => true) true Tryd.f13.params.toList args.toList ds p := hA0
  rw [Tryd.params13] at hA hval hsz
  obtain ⟨v0, vs0, d0, ds0, p0, q0, hargs, rfl, rfl, h0, r0⟩ := trodAll_cons hA
  obtain ⟨v1, vs1, d1, ds1, p1, q1, rfl, rfl, rfl, h1, r1⟩ := trodAll_cons r0
  obtain ⟨v2, vs2, d2, ds2, p2, q2, rfl, rfl, rfl, h2, r2⟩ := trodAll_cons r1
  obtain ⟨v3, vs3, d3, ds3, p3, q3, rfl, rfl, rfl, h3, r3⟩ := trodAll_cons r2
  obtain ⟨rfl, rfl, rfl⟩ := trodAll_nil r3
  obtain rfl : args = #[v0, v1, v2, v3] := by cases args; simp_all
  obtain ⟨rfl, rfl⟩ := trodVars_none hV
  have g0 := open_raw (hval 0 30 v0 rfl rfl) h0
  have g1 : IntsIn W v1 := by
    rcases open_nums (hval 1 35 v1 rfl rfl) h1 with h | ⟨b, off, n, c, zs, e1, _, e2, e3, e4, e5, _⟩
    · exact .inl h
    · exact .inr ⟨b, off, n, c, zs, e1, e2, e3, e4, e5⟩
  obtain ⟨a2, rfl, rfl, rfl, w2⟩ := open_int Tryd.underlying3 (hval 2 3 v2 rfl rfl) h2
  obtain ⟨a3, rfl, rfl, rfl, w3⟩ := open_int Tryd.underlying3 (hval 3 3 v3 rfl rfl) h3
  clear hA0 hval0
  refine (walk_ReductionIgnoresOrder v0 v1 a2 a3 W g0 g1 (down_of_laid hL)).mono fun e W' ⟨he, hg⟩ => ?_
  subst he
  exact ⟨_, rfl, post_law hW' hg rfl (by kernel_rfl) (by kernel_rfl) rfl rfl rfl⟩

set_option maxHeartbeats 1000000 in
theorem facts_ReductionIgnoresOrder : joinedFacts Tryd.pinned.checked.prog 13 Tryd.f13 Rows.reductionIgnoresOrderSpec Rows.reductionIgnoresOrderRow = true := by
  unfold joinedFacts
  repeat (with_reducible refine and_mk ?_ ?_)
  all_goals (first | (with_reducible exact fact_enter) | ((with_reducible refine lifts_of _ ?_); rfl) | ((with_reducible refine make_of _ ?_); rfl) | (as_aux_lemma => kernel_rfl))

theorem reductionIgnoresOrder_row : Rows.ReductionIgnoresOrderSaid :=
  OpenClaim.holds_of_wide 13 Tryd.f13 rfl rfl rfl rfl rfl rfl rfl ⟨rfl, rfl, rfl, rfl, rfl⟩ rfl rfl rfl rfl rfl (by as_aux_lemma => kernel_rfl) Tryd.func13 facts_ReductionIgnoresOrder
    (of_decide_eq_true (by as_aux_lemma => kernel_rfl)) (by as_aux_lemma => (unfold Func.isWrapper; first | (rw [if_pos (by decide +kernel)]; kernel_rfl) | (rw [if_neg (by decide +kernel)]; exact ⟨rfl, rfl⟩)))
    (fun os started H enc _ => lifted_ReductionIgnoresOrder os started H enc)

set_option maxHeartbeats 16000000 in
theorem reductionIgnoresOrder_holds : Rows.ReductionIgnoresOrderCardSaid :=
  Claim7.holds_tied_plain_at .later [] [.data] true (true, "f03ffc7306dc8b8a4b7c72d8cf63ad08cf0c74adf4f1d4894e689d9cbc415603") false
    reductionIgnoresOrder_row (fun _ h => by cases h) (by as_aux_lemma => kernel_rfl) (fun _ h => by cases h) reductionIgnoresOrder_row_tie rfl ⟨rfl, rfl⟩ (by as_aux_lemma => kernel_rfl) rfl
    (fun f fn hf hfn => by
      obtain rfl : f = 13 := Option.some.inj ((show Tryd.prog.funcNamed "pension/pensionlaw21.ReductionIgnoresOrder" = some 13 by kernel_rfl).symm.trans hf) |>.symm
      obtain rfl : fn = Tryd.f13 := (Option.some.inj (Tryd.func13.symm.trans hfn)).symm
      exact ⟨by kernel_rfl, fun j t ht => by
        have hall : (Tryd.f13.params.toList.all fun t => !(Tryd.prog.wantsStandIn t)) = true := by kernel_rfl
        have hm : t ∈ Tryd.f13.params.toList := by rw [Array.mem_toList_iff]; exact Array.mem_of_getElem? ht
        show Tryd.prog.wantsStandIn t = false
        simpa using List.all_eq_true.1 hall t hm⟩)
    (by as_aux_lemma => kernel_rfl)
#print axioms reductionIgnoresOrder_holds
end Go.Proofs.YthpknbflmcoanaaDoor
