/-
  RecoveryOffsetsReject: for every input the law returns true; there is no condition.
-/
import Derived.Test.YtaifacnpnhcdcaaRecoveryOffsetsReject
import Derived.Test.YtaifacnpnhcdcaaRopen
import Derived.Test.YtaifacnpnhcdcaaPostG
namespace Go.Proofs.Ytaifacnpnhcdcaa
open Go.RowKit Mny Go.WideShapes Go.ChangeShapes Go.ChangeAt

set_option maxRecDepth 100000 in
theorem lifted0_RecoveryOffsetsReject (os : Os) (started : os.Started) (H : Type) (enc : TypeId × Value → H) :
    ReturnsInHanded {} Try.checked os 7 .any (fun w args => (Rows.recoveryOffsetsRejectSpec.pre enc Try.prog Try.f7 Rows.recoveryOffsetsRejectRow.domain false w args ∧ True) ∧ sizedMet enc Try.prog Try.f7 (OpenSpec.ofChange Rows.recoveryOffsetsRejectSpec) false w args) (Rows.recoveryOffsetsRejectSpec.post enc Try.prog Try.f7 false true false false) := by
  refine returnsInHanded_of_change_and (C := Try.checked) (X := fun _ _ => True) (fun _ _ _ _ _ => trivial) own_knob started (by kernel_rfl) Try.func7
    (by
      obtain ⟨W0, tape, i, h1, h2, h3, h4, h5, h6⟩ := ChangeSpec.witness6 (enc := enc) (os := os) (s := Rows.recoveryOffsetsRejectSpec) (conds := Rows.recoveryOffsetsRejectRow.domain) (C := Try.checked) (fn := Try.f7) (f := 7) false ⟨#[], #[.agg #[.int .i64 0, .int .i64 0, .int .i64 0, .int .i64 0], .slice none 0 0, .slice none 0 0, .int .i64 0], []⟩ 8 (by kernel_rfl) (by kernel_rfl) (by kernel_rfl) (by kernel_rfl)
      exact ⟨W0, tape, i, h1, h2, h3, h4, ⟨⟨h5.1, trivial⟩, h5.2⟩, h6⟩) ?_
  intro W base args ds gs before hval0 hW hcnd hsz0 _ _
  have hval : ∀ (j : Nat) t v, Try.f7.params[j]? = some t → args[j]? = some v → Value.okWide Try.prog W .any base t v := hval0
  have hsz : (DataW.weightsEach Try.prog (Try.f7.params.toList ++ Rows.recoveryOffsetsRejectSpec.plain.varTypes Try.prog) (ds ++ gs)).all (· ≤ reachBytes) = true := hsz0
  have hW' := hW
  obtain ⟨p, q, hA0, hV, rfl, hfz, hnd⟩ := hW
  have hA : DataW.TrodAll enc Try.prog W 0 (fun _ => true) true Try.f7.params.toList args.toList ds p := hA0
  rw [Try.params7] at hA hval hsz
  obtain ⟨v0, vs0, d0, ds0, p0, q0, hargs, rfl, rfl, h0, r0⟩ := trodAll_cons hA
  obtain ⟨v1, vs1, d1, ds1, p1, q1, rfl, rfl, rfl, h1, r1⟩ := trodAll_cons r0
  obtain ⟨v2, vs2, d2, ds2, p2, q2, rfl, rfl, rfl, h2, r2⟩ := trodAll_cons r1
  obtain ⟨v3, vs3, d3, ds3, p3, q3, rfl, rfl, rfl, h3, r3⟩ := trodAll_cons r2
  obtain ⟨rfl, rfl, rfl⟩ := trodAll_nil r3
  obtain rfl : args = #[v0, v1, v2, v3] := by cases args; simp_all
  obtain ⟨rfl, rfl⟩ := trodVars_none hV
  obtain ⟨x0, y0, z0, u0, rfl⟩ := open_stv (hval 0 33 v0 rfl rfl) h0
  obtain ⟨l1, g1⟩ := open_std (hval 1 34 v1 rfl rfl) h1
  obtain ⟨l2, g2⟩ := open_tab (hval 2 36 v2 rfl rfl) h2 (fun elems sp e => sized_slice (j := 2) hsz (by rfl) (by rw [e]; rfl) Try.underlying36)
  obtain ⟨a3, rfl, rfl, rfl, w3⟩ := open_int Try.underlying3 (hval 3 3 v3 rfl rfl) h3
  clear hA0 hval0
  refine (walk_RecoveryOffsetsReject x0 y0 z0 u0 l1 l2 a3 v1 v2 W g1 g2).mono fun e W' ⟨he, hg⟩ => ?_
  subst he
  exact ⟨_, rfl, post_law hW' hg rfl (by kernel_rfl) (by kernel_rfl) rfl rfl rfl⟩

set_option maxRecDepth 100000 in
theorem lifted_RecoveryOffsetsReject (os : Os) (started : os.Started) (H : Type) (enc : TypeId × Value → H) :
    ReturnsInHanded {} Try.checked os 7 .any (Rows.recoveryOffsetsRejectSpec.pre6 enc Try.prog Try.f7 Rows.recoveryOffsetsRejectRow.domain false) (Rows.recoveryOffsetsRejectSpec.post enc Try.prog Try.f7 false true false false) := by
  have e : (fun (w : World) (args : Array Value) => (Rows.recoveryOffsetsRejectSpec.pre enc Try.prog Try.f7 Rows.recoveryOffsetsRejectRow.domain false w args ∧ True) ∧ sizedMet enc Try.prog Try.f7 (OpenSpec.ofChange Rows.recoveryOffsetsRejectSpec) false w args) = Rows.recoveryOffsetsRejectSpec.pre6 enc Try.prog Try.f7 Rows.recoveryOffsetsRejectRow.domain false := by
    funext w args
    exact propext ⟨fun h => ⟨h.1.1, h.2⟩, fun h => ⟨⟨h.1, trivial⟩, h.2⟩⟩
  exact e ▸ lifted0_RecoveryOffsetsReject os started H enc

set_option maxHeartbeats 1000000 in
theorem facts_RecoveryOffsetsReject : joinedFacts Try.pinned.checked.prog 7 Try.f7 Rows.recoveryOffsetsRejectSpec Rows.recoveryOffsetsRejectRow = true := by
  unfold joinedFacts
  repeat (with_reducible refine and_mk ?_ ?_; rotate_left)
  all_goals (as_aux_lemma => kernel_rfl)

theorem recoveryOffsetsReject_holds : Rows.RecoveryOffsetsRejectSaid :=
  OpenClaim.holds_of_wide 7 Try.f7 rfl rfl rfl rfl rfl rfl rfl ⟨rfl, rfl, rfl, rfl, rfl⟩ rfl rfl rfl rfl rfl (by as_aux_lemma => kernel_rfl) Try.func7 facts_RecoveryOffsetsReject
    (of_decide_eq_true (by as_aux_lemma => kernel_rfl)) (by as_aux_lemma => (unfold Func.isWrapper; first | (rw [if_pos (by decide +kernel)]; kernel_rfl) | (rw [if_neg (by decide +kernel)]; exact ⟨rfl, rfl⟩)))
    (fun os started H enc _ => lifted_RecoveryOffsetsReject os started H enc)
#print axioms recoveryOffsetsReject_holds
end Go.Proofs.Ytaifacnpnhcdcaa
