/-
  RecoveryOffsetsIgnoreOrder: for every input the law returns true; there is no condition.
-/
import Derived.Test.YtaifacnpnhcdcaaRecoveryOffsetsIgnoreOrder
import Derived.Test.YtaifacnpnhcdcaaRopen
import Derived.Test.YtaifacnpnhcdcaaPostG
namespace Go.Proofs.Ytaifacnpnhcdcaa
open Go.RowKit Mny Go.WideShapes Go.ChangeShapes Go.ChangeAt

set_option maxRecDepth 100000 in
theorem lifted_RecoveryOffsetsIgnoreOrder (os : Os) (started : os.Started) (H : Type) (enc : TypeId × Value → H) :
    ReturnsInHanded {} Try.checked os 10 .any (Rows.recoveryOffsetsIgnoreOrderSpec.pre6 enc Try.prog Try.f10 Rows.recoveryOffsetsIgnoreOrderRow.domain false) (Rows.recoveryOffsetsIgnoreOrderSpec.post enc Try.prog Try.f10 false true false false) := by
  refine returnsInHanded_of_change (C := Try.checked) own_knob started (by kernel_rfl) Try.func10
    (ChangeSpec.witness6 (enc := enc) (C := Try.checked) false ⟨#[], #[.agg #[.int .i64 0, .int .i64 0, .int .i64 0], .slice none 0 0, .slice none 0 0, .int .i64 0, .int .i64 0], []⟩ 8 (by kernel_rfl) (by kernel_rfl) (by kernel_rfl) (by kernel_rfl)) ?_
  intro W base args ds gs before hval0 hW hcnd _
  have hval : ∀ (j : Nat) t v, Try.f10.params[j]? = some t → args[j]? = some v → Value.okWide Try.prog W .any base t v := hval0
  have hW' := hW
  obtain ⟨p, q, hA0, hV, rfl, hfz, hnd⟩ := hW
  have hA : DataW.TrodAll enc Try.prog W 0 (fun _ => true) true Try.f10.params.toList args.toList ds p := hA0
  rw [Try.params10] at hA hval
  obtain ⟨v0, vs0, d0, ds0, p0, q0, hargs, rfl, rfl, h0, r0⟩ := trodAll_cons hA
  obtain ⟨v1, vs1, d1, ds1, p1, q1, rfl, rfl, rfl, h1, r1⟩ := trodAll_cons r0
  obtain ⟨v2, vs2, d2, ds2, p2, q2, rfl, rfl, rfl, h2, r2⟩ := trodAll_cons r1
  obtain ⟨v3, vs3, d3, ds3, p3, q3, rfl, rfl, rfl, h3, r3⟩ := trodAll_cons r2
  obtain ⟨v4, vs4, d4, ds4, p4, q4, rfl, rfl, rfl, h4, r4⟩ := trodAll_cons r3
  obtain ⟨rfl, rfl, rfl⟩ := trodAll_nil r4
  obtain rfl : args = #[v0, v1, v2, v3, v4] := by cases args; simp_all
  obtain ⟨rfl, rfl⟩ := trodVars_none hV
  obtain ⟨x0, y0, z0, rfl⟩ := open_rawv (hval 0 29 v0 rfl rfl) h0
  have g1 := open_raw (hval 1 30 v1 rfl rfl) h1
  have g2 := open_ints (hval 2 31 v2 rfl rfl) h2
  obtain ⟨a3, rfl, rfl, rfl, w3⟩ := open_int Try.underlying3 (hval 3 3 v3 rfl rfl) h3
  obtain ⟨a4, rfl, rfl, rfl, w4⟩ := open_int Try.underlying3 (hval 4 3 v4 rfl rfl) h4
  clear hA0 hval0
  refine (walk_RecoveryOffsetsIgnoreOrder x0 y0 z0 a3 a4 v1 v2 W g1 g2).mono fun e W' ⟨he, hg⟩ => ?_
  subst he
  exact ⟨_, rfl, post_law hW' hg rfl (by kernel_rfl) (by kernel_rfl) rfl rfl rfl⟩

set_option maxHeartbeats 1000000 in
theorem facts_RecoveryOffsetsIgnoreOrder : joinedFacts Try.pinned.checked.prog 10 Try.f10 Rows.recoveryOffsetsIgnoreOrderSpec Rows.recoveryOffsetsIgnoreOrderRow = true := by
  unfold joinedFacts
  repeat (with_reducible refine and_mk ?_ ?_; rotate_left)
  all_goals (as_aux_lemma => kernel_rfl)

theorem recoveryOffsetsIgnoreOrder_holds : Rows.RecoveryOffsetsIgnoreOrderSaid :=
  OpenClaim.holds_of_wide 10 Try.f10 rfl rfl rfl rfl rfl rfl rfl ⟨rfl, rfl, rfl, rfl, rfl⟩ rfl rfl rfl rfl rfl (by as_aux_lemma => kernel_rfl) Try.func10 facts_RecoveryOffsetsIgnoreOrder
    (of_decide_eq_true (by as_aux_lemma => kernel_rfl)) (by as_aux_lemma => (unfold Func.isWrapper; first | (rw [if_pos (by decide +kernel)]; kernel_rfl) | (rw [if_neg (by decide +kernel)]; exact ⟨rfl, rfl⟩)))
    (fun os started H enc _ => lifted_RecoveryOffsetsIgnoreOrder os started H enc)
#print axioms recoveryOffsetsIgnoreOrder_holds
end Go.Proofs.Ytaifacnpnhcdcaa
