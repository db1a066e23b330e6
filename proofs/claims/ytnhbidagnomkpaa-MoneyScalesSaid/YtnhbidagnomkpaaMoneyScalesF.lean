/-
  MoneyScales: for every amount, fraction, rounding and mood the law returns true; there is no condition.
-/
import Derived.Test.YtnhbidagnomkpaaMoneyScales
namespace Go.Proofs.Ytnhbidagnomkpaa
open Go.RowKit Mny Go.WideShapes Go.ChangeShapes Go.ChangeAt

set_option maxRecDepth 100000 in
theorem lifted_MoneyScales (os : Os) (started : os.Started) (H : Type) (enc : TypeId × Value → H) :
    ReturnsInHanded {} Try.checked os 8 .any (Rows.moneyScalesSpec.pre6 enc Try.prog Try.f8 Rows.moneyScalesRow.domain false) (Rows.moneyScalesSpec.post enc Try.prog Try.f8 false true false false) := by
  refine returnsInHanded_of_change (C := Try.checked) own_knob started (by kernel_rfl) Try.func8
    (ChangeSpec.witness6 (enc := enc) (C := Try.checked) false ⟨#[], #[.int .i64 0, .agg #[.int .i64 0, .int .i64 0], .agg #[.int .i64 0, .int .i64 0], .int .i64 0], []⟩ 8 (by kernel_rfl) (by kernel_rfl) (by kernel_rfl) (by kernel_rfl)) ?_
  intro W base args ds gs before hval0 hW hcnd _
  have hval : ∀ (j : Nat) t v, Try.f8.params[j]? = some t → args[j]? = some v → Value.okWide Try.prog W .any base t v := hval0
  have hW' := hW
  obtain ⟨p, q, hA0, hV, rfl, hfz, hnd⟩ := hW
  have hA : DataW.TrodAll enc Try.prog W 0 (fun _ => true) true Try.f8.params.toList args.toList ds p := hA0
  rw [Try.params8] at hA hval
  obtain ⟨v0, vs0, d0, ds0, p0, q0, hargs, rfl, rfl, h0, r0⟩ := trodAll_cons hA
  obtain ⟨v1, vs1, d1, ds1, p1, q1, rfl, rfl, rfl, h1, r1⟩ := trodAll_cons r0
  obtain ⟨v2, vs2, d2, ds2, p2, q2, rfl, rfl, rfl, h2, r2⟩ := trodAll_cons r1
  obtain ⟨v3, vs3, d3, ds3, p3, q3, rfl, rfl, rfl, h3, r3⟩ := trodAll_cons r2
  obtain ⟨rfl, rfl, rfl⟩ := trodAll_nil r3
  obtain rfl : args = #[v0, v1, v2, v3] := by cases args; simp_all
  obtain ⟨rfl, rfl⟩ := trodVars_none hV
  obtain ⟨a0, rfl, rfl, rfl, w0⟩ := open_int Try.underlying3 (hval 0 3 v0 rfl rfl) h0
  obtain ⟨a1, b1, rfl, rfl, rfl, w1, x1⟩ := open_frac (hval 1 23 v1 rfl rfl) h1
  obtain ⟨a2, b2, rfl, rfl, rfl, w2, x2⟩ := open_round (hval 2 25 v2 rfl rfl) h2
  obtain ⟨a3, rfl, rfl, rfl, w3⟩ := open_int Try.underlying3 (hval 3 3 v3 rfl rfl) h3
  clear hA0 hval0
  simp only [List.append_nil] at hW'
  refine (walk_MoneyScales a0 a1 b1 a2 b2 a3 W).mono fun e W' ⟨he, hg⟩ => ?_
  subst he
  have hres : ∀ (b : Nat) (sp : Nat → Bool) (hd : Bool), DataW.TrodAll enc Try.prog W' b sp hd [4] [.bool true] [.lit (.bool true)] [] := fun _ _ _ => trodAll_cons_mk (shut_bool Try.underlying4 _) trodAll_mk0
  have hargs : ∀ sp : Nat → Bool, DataW.TrodAll enc Try.prog W' 0 sp true [3, 23, 25, 3] [.int .i64 a0, .agg #[.int .i64 a1, .int .i64 b1], .agg #[.int .i64 a2, .int .i64 b2], .int .i64 a3] [.lit (.int .i64 a0), .agg [.lit (.int .i64 a1), .lit (.int .i64 b1)], .agg [.lit (.int .i64 a2), .lit (.int .i64 b2)], .lit (.int .i64 a3)] [] := fun sp => (trodAll_cons_mk (shut_int Try.underlying3 w0) (trodAll_cons_mk (shut_frac w1 x1) (trodAll_cons_mk (shut_round w2 x2) (trodAll_cons_mk (shut_int Try.underlying3 w3) trodAll_mk0))))
  exact ⟨_, rfl, post_below (pa := []) (pv := []) hW' hres (fun sp _ => hargs sp) (fun _ _ => rfl) rfl hg (ok_one (by kernel_rfl) rfl (okWide_bool_mk Try.underlying4 _))⟩

set_option maxHeartbeats 1000000 in
theorem facts_MoneyScales : joinedFacts Try.pinned.checked.prog 8 Try.f8 Rows.moneyScalesSpec Rows.moneyScalesRow = true := by
  unfold joinedFacts
  repeat (with_reducible refine and_mk ?_ ?_; rotate_left)
  all_goals (as_aux_lemma => kernel_rfl)

theorem moneyScales_holds : Rows.MoneyScalesSaid :=
  OpenClaim.holds_of_wide 8 Try.f8 rfl rfl rfl rfl rfl rfl rfl ⟨rfl, rfl, rfl, rfl, rfl⟩ rfl rfl rfl rfl rfl (by as_aux_lemma => kernel_rfl) Try.func8 facts_MoneyScales
    (of_decide_eq_true (by as_aux_lemma => kernel_rfl)) (by as_aux_lemma => (unfold Func.isWrapper; first | (rw [if_pos (by decide +kernel)]; kernel_rfl) | (rw [if_neg (by decide +kernel)]; exact ⟨rfl, rfl⟩)))
    (fun os started H enc _ => lifted_MoneyScales os started H enc)
#print axioms moneyScales_holds
end Go.Proofs.Ytnhbidagnomkpaa
