/-
  MoneyShares: for every fraction, numbers, rounding and mood the law returns true; there is no condition.
-/
import Derived.Test.YtnhbidagnomkpaaMoneyShares
namespace Go.Proofs.Ytnhbidagnomkpaa
open Go.RowKit Mny Go.WideShapes Go.ChangeShapes Go.ChangeAt

set_option maxRecDepth 100000 in
theorem lifted_MoneyShares (os : Os) (started : os.Started) (H : Type) (enc : TypeId × Value → H) :
    ReturnsInHanded {} Try.checked os 6 .any (Rows.moneySharesSpec.pre6 enc Try.prog Try.f6 Rows.moneySharesRow.domain false) (Rows.moneySharesSpec.post enc Try.prog Try.f6 false true false false) := by
  refine returnsInHanded_of_change (C := Try.checked) own_knob started (by kernel_rfl) Try.func6
    (ChangeSpec.witness6 (enc := enc) (C := Try.checked) false ⟨#[], #[.agg #[.int .i64 0, .int .i64 0], .int .i64 0, .int .i64 0, .agg #[.int .i64 0, .int .i64 0], .int .i64 0], []⟩ 8 (by kernel_rfl) (by kernel_rfl) (by kernel_rfl) (by kernel_rfl)) ?_
  intro W base args ds gs before hval0 hW hcnd _
  have hval : ∀ (j : Nat) t v, Try.f6.params[j]? = some t → args[j]? = some v → Value.okWide Try.prog W .any base t v := hval0
  have hW' := hW
  obtain ⟨p, q, hA0, hV, rfl, hfz, hnd⟩ := hW
  have hA : DataW.TrodAll enc Try.prog W 0 (fun _ => true) true Try.f6.params.toList args.toList ds p := hA0
  rw [Try.params6] at hA hval
  obtain ⟨v0, vs0, d0, ds0, p0, q0, hargs, rfl, rfl, h0, r0⟩ := trodAll_cons hA
  obtain ⟨v1, vs1, d1, ds1, p1, q1, rfl, rfl, rfl, h1, r1⟩ := trodAll_cons r0
  obtain ⟨v2, vs2, d2, ds2, p2, q2, rfl, rfl, rfl, h2, r2⟩ := trodAll_cons r1
  obtain ⟨v3, vs3, d3, ds3, p3, q3, rfl, rfl, rfl, h3, r3⟩ := trodAll_cons r2
  obtain ⟨v4, vs4, d4, ds4, p4, q4, rfl, rfl, rfl, h4, r4⟩ := trodAll_cons r3
  obtain ⟨rfl, rfl, rfl⟩ := trodAll_nil r4
  obtain rfl : args = #[v0, v1, v2, v3, v4] := by cases args; simp_all
  obtain ⟨rfl, rfl⟩ := trodVars_none hV
  obtain ⟨a0, b0, rfl, rfl, rfl, w0, x0⟩ := open_frac (hval 0 23 v0 rfl rfl) h0
  obtain ⟨a1, rfl, rfl, rfl, w1⟩ := open_int Try.underlying3 (hval 1 3 v1 rfl rfl) h1
  obtain ⟨a2, rfl, rfl, rfl, w2⟩ := open_int Try.underlying3 (hval 2 3 v2 rfl rfl) h2
  obtain ⟨a3, b3, rfl, rfl, rfl, w3, x3⟩ := open_round (hval 3 25 v3 rfl rfl) h3
  obtain ⟨a4, rfl, rfl, rfl, w4⟩ := open_int Try.underlying3 (hval 4 3 v4 rfl rfl) h4
  clear hA0 hval0
  simp only [List.append_nil] at hW'
  refine (walk_MoneyShares a0 b0 a1 a2 a3 b3 a4 W).mono fun e W' ⟨he, hg⟩ => ?_
  subst he
  have hres : ∀ (b : Nat) (sp : Nat → Bool) (hd : Bool), DataW.TrodAll enc Try.prog W' b sp hd [4] [.bool true] [.lit (.bool true)] [] := fun _ _ _ => trodAll_cons_mk (shut_bool Try.underlying4 _) trodAll_mk0
  have hargs : ∀ sp : Nat → Bool, DataW.TrodAll enc Try.prog W' 0 sp true [23, 3, 3, 25, 3] [.agg #[.int .i64 a0, .int .i64 b0], .int .i64 a1, .int .i64 a2, .agg #[.int .i64 a3, .int .i64 b3], .int .i64 a4] [.agg [.lit (.int .i64 a0), .lit (.int .i64 b0)], .lit (.int .i64 a1), .lit (.int .i64 a2), .agg [.lit (.int .i64 a3), .lit (.int .i64 b3)], .lit (.int .i64 a4)] [] := fun sp => (trodAll_cons_mk (shut_frac w0 x0) (trodAll_cons_mk (shut_int Try.underlying3 w1) (trodAll_cons_mk (shut_int Try.underlying3 w2) (trodAll_cons_mk (shut_round w3 x3) (trodAll_cons_mk (shut_int Try.underlying3 w4) trodAll_mk0)))))
  exact ⟨_, rfl, post_below (pa := []) (pv := []) hW' hres (fun sp _ => hargs sp) (fun _ _ => rfl) rfl hg (ok_one (by kernel_rfl) rfl (okWide_bool_mk Try.underlying4 _))⟩

set_option maxHeartbeats 1000000 in
theorem facts_MoneyShares : joinedFacts Try.pinned.checked.prog 6 Try.f6 Rows.moneySharesSpec Rows.moneySharesRow = true := by
  unfold joinedFacts
  repeat (with_reducible refine and_mk ?_ ?_; rotate_left)
  all_goals (as_aux_lemma => kernel_rfl)

theorem moneyShares_holds : Rows.MoneySharesSaid :=
  OpenClaim.holds_of_wide 6 Try.f6 rfl rfl rfl rfl rfl rfl rfl ⟨rfl, rfl, rfl, rfl, rfl⟩ rfl rfl rfl rfl rfl (by as_aux_lemma => kernel_rfl) Try.func6 facts_MoneyShares
    (of_decide_eq_true (by as_aux_lemma => kernel_rfl)) (by as_aux_lemma => (unfold Func.isWrapper; first | (rw [if_pos (by decide +kernel)]; kernel_rfl) | (rw [if_neg (by decide +kernel)]; exact ⟨rfl, rfl⟩)))
    (fun os started H enc _ => lifted_MoneyShares os started H enc)
#print axioms moneyShares_holds
end Go.Proofs.Ytnhbidagnomkpaa
