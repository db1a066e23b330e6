/-
  RecoveryTakesMonths: for every input the law returns true; there is no condition.
-/
import Derived.Test.YtaifacnpnhcdcaaRecoveryTakesMonths
import Derived.Test.YtaifacnpnhcdcaaPostG
namespace Go.Proofs.Ytaifacnpnhcdcaa
open Go.RowKit Mny Go.WideShapes Go.ChangeShapes Go.ChangeAt

set_option maxRecDepth 100000 in
theorem lifted_RecoveryTakesMonths (os : Os) (started : os.Started) (H : Type) (enc : TypeId × Value → H) :
    ReturnsInHanded {} Try.checked os 5 .any (Rows.recoveryTakesMonthsSpec.pre6 enc Try.prog Try.f5 Rows.recoveryTakesMonthsRow.domain false) (Rows.recoveryTakesMonthsSpec.post enc Try.prog Try.f5 false true false false) := by
  refine returnsInHanded_of_change (C := Try.checked) own_knob started (by kernel_rfl) Try.func5
    (ChangeSpec.witness6 (enc := enc) (C := Try.checked) false ⟨#[], #[.int .i64 0, .int .i64 0], []⟩ 8 (by kernel_rfl) (by kernel_rfl) (by kernel_rfl) (by kernel_rfl)) ?_
  intro W base args ds gs before hval0 hW hcnd _
  have hval : ∀ (j : Nat) t v, Try.f5.params[j]? = some t → args[j]? = some v → Value.okWide Try.prog W .any base t v := hval0
  have hW' := hW
  obtain ⟨p, q, hA0, hV, rfl, hfz, hnd⟩ := hW
  have hA : DataW.TrodAll enc Try.prog W 0 (fun _ => true) true Try.f5.params.toList args.toList ds p := hA0
  rw [Try.params5] at hA hval
  obtain ⟨v0, vs0, d0, ds0, p0, q0, hargs, rfl, rfl, h0, r0⟩ := trodAll_cons hA
  obtain ⟨v1, vs1, d1, ds1, p1, q1, rfl, rfl, rfl, h1, r1⟩ := trodAll_cons r0
  obtain ⟨rfl, rfl, rfl⟩ := trodAll_nil r1
  obtain rfl : args = #[v0, v1] := by cases args; simp_all
  obtain ⟨rfl, rfl⟩ := trodVars_none hV
  obtain ⟨a0, rfl, rfl, rfl, w0⟩ := open_int Try.underlying3 (hval 0 3 v0 rfl rfl) h0
  obtain ⟨a1, rfl, rfl, rfl, w1⟩ := open_int Try.underlying3 (hval 1 3 v1 rfl rfl) h1
  clear hA0 hval0
  refine (walk_RecoveryTakesMonths a0 a1 W).mono fun e W' ⟨he, hg⟩ => ?_
  subst he
  exact ⟨_, rfl, post_law hW' hg rfl (by kernel_rfl) (by kernel_rfl) rfl rfl rfl⟩

set_option maxHeartbeats 1000000 in
theorem facts_RecoveryTakesMonths : joinedFacts Try.pinned.checked.prog 5 Try.f5 Rows.recoveryTakesMonthsSpec Rows.recoveryTakesMonthsRow = true := by
  unfold joinedFacts
  repeat (with_reducible refine and_mk ?_ ?_; rotate_left)
  all_goals (as_aux_lemma => kernel_rfl)

theorem recoveryTakesMonths_holds : Rows.RecoveryTakesMonthsSaid :=
  OpenClaim.holds_of_wide 5 Try.f5 rfl rfl rfl rfl rfl rfl rfl ⟨rfl, rfl, rfl, rfl, rfl⟩ rfl rfl rfl rfl rfl (by as_aux_lemma => kernel_rfl) Try.func5 facts_RecoveryTakesMonths
    (of_decide_eq_true (by as_aux_lemma => kernel_rfl)) (by as_aux_lemma => (unfold Func.isWrapper; first | (rw [if_pos (by decide +kernel)]; kernel_rfl) | (rw [if_neg (by decide +kernel)]; exact ⟨rfl, rfl⟩)))
    (fun os started H enc _ => lifted_RecoveryTakesMonths os started H enc)
#print axioms recoveryTakesMonths_holds
end Go.Proofs.Ytaifacnpnhcdcaa
