/-
  Contracts of rule, amount and awake in the statements of chapter 4.
-/
import Derived.Test.YtnhbidagnomkpaaOf
namespace Go.Proofs.Ytnhbidagnomkpaa
open Go.RowKit Mny

/-- the units of the statements -/
def unitAt (b : Nat) : Int := if b = 0 then 1 else if b = 1 then 1 else if b = 2 then 10 else if b = 3 then 5 else if b = 4 then 100 else if b = 5 then 7 else 100000
/-- what rule returns -/
def ruleV (n d mood : Int) : Int × Int := if wrap64 (mood.tdiv 8) % 8 = 0 then (n, d) else (n % 4 + 1, unitAt (d % 7).toNat)
theorem unitAt_bd (b : Nat) : 1 ≤ unitAt b ∧ unitAt b ≤ 100000 := by unfold unitAt; repeat (split <;> try decide)
theorem ruleV_bd {n d : Int} (mood : Int) (n0 : -9223372036854775808 ≤ n) (n1 : n ≤ 9223372036854775807) (d0 : -9223372036854775808 ≤ d) (d1 : d ≤ 9223372036854775807) :
    -9223372036854775808 ≤ (ruleV n d mood).1 ∧ (ruleV n d mood).1 ≤ 9223372036854775807 ∧ -9223372036854775808 ≤ (ruleV n d mood).2 ∧ (ruleV n d mood).2 ≤ 9223372036854775807 := by
  have := unitAt_bd (d % 7).toNat
  unfold ruleV
  split
  · exact ⟨n0, n1, d0, d1⟩
  · dsimp only; omega
theorem rule_at {b : Nat} (h : b < 7) : (#[Value.int .i64 1, Value.int .i64 1, Value.int .i64 10, Value.int .i64 5, Value.int .i64 100, Value.int .i64 7, Value.int .i64 100000] : Array Value)[b]? = some (Value.int .i64 (unitAt b)) := by
  rcases (by omega : b = 0 ∨ b = 1 ∨ b = 2 ∨ b = 3 ∨ b = 4 ∨ b = 5 ∨ b = 6) with rfl | rfl | rfl | rfl | rfl | rfl | rfl <;> rfl
theorem idiv64 (m : Int) : ∃ q, wrap64 (m.tdiv 8) = q := ⟨_, rfl⟩

set_option maxRecDepth 100000 in
set_option maxHeartbeats 40000000 in
theorem law_rule (n d mood : Int) (w : World) :
    Calls Try.prog 15 #[.agg #[.int .i64 n, .int .i64 d], .int .i64 mood] w fun e w' => e = .returned (.agg #[.int .i64 (ruleV n d mood).1, .int .i64 (ruleV n d mood).2]) ∧ Below w.heap.size w w' := by
  have hV : ruleV n d mood = if wrap64 (mood.tdiv 8) % 8 = 0 then (n, d) else (n % 4 + 1, unitAt (d % 7).toNat) := rfl
  obtain ⟨q, hq⟩ := idiv64 mood
  have hp := made_Pick q 8
  obtain ⟨p, hpe⟩ : ∃ p, q % 8 = p := ⟨_, rfl⟩
  rw [hq, hpe] at hV
  rw [hpe] at hp
  have HP := Lib.hid hp
  clear hp hpe
  by_cases h0 : p = 0
  · subst h0
    have HV := Lib.hid (hV.trans rfl : ruleV n d mood = (n, d))
    clear hV
    go_enter Try.func15, Try.ntmps15
    go_wp2_with fail
    refine (HP.out _ (by omega) (by omega)).mono ?_
    rintro e w' ⟨rfl, rfl⟩
    go_wp2
    refine bodyPost_ret (v := .agg #[.int .i64 n, .int .i64 d]) (by simp [results, Try.results15, go_sem]) rfl ⟨by rw [HV.out], ?_⟩
    exact (by repeat (first | (with_reducible exact Below.refl _ _) | (with_reducible assumption) | (with_reducible refine below_drewN ?_ _) | (with_reducible refine Below.drew ?_) | (with_reducible refine Below.alloc ?_ ?_ _) | (with_reducible refine Below.setCell ?_ ?_ _) | exact Below.refl _ _ | assumption | (solve | omega | simp | (simp; omega))))
  · have b0 : (p == 0) = false := beq_eq_false_iff_ne.2 h0
    have m4 := made_Pick n 4
    have m7 := made_Pick d 7
    obtain ⟨a, ha⟩ : ∃ a, n % 4 = a := ⟨_, rfl⟩
    obtain ⟨b, hb⟩ : ∃ b : Nat, d % 7 = (b : Int) := ⟨(d % 7).toNat, by omega⟩
    have hab : 0 ≤ a ∧ a < 4 := by omega
    have hbb : b < 7 := by omega
    rw [if_neg h0, ha, hb, Int.toNat_natCast] at hV
    rw [ha] at m4
    rw [hb] at m7
    have HV := Lib.hid hV
    clear hV
    have hws : IntKind.i64.wrap (a + 1) = a + 1 := IntWalk.i64_in _ (by omega)
    have H4 := Lib.hid m4
    have H7 := Lib.hid m7
    have hv := rule_at hbb
    obtain ⟨v, hve⟩ : ∃ v, unitAt b = v := ⟨_, rfl⟩
    rw [hve] at hv HV
    clear hve
    have hcell : (((w.alloc (.cells #[.int .i64 n, .int .i64 d] 25)).alloc (.cells #[.int .i64 0, .int .i64 0] 25)).alloc (.cells #[.int .i64 1, .int .i64 1, .int .i64 10, .int .i64 5, .int .i64 100, .int .i64 7, .int .i64 100000] 3)).cell? ⟨w.heap.size + 1 + 1, b, none⟩ = some (.int .i64 v) :=
      ((Bx.made ((w.alloc (.cells #[.int .i64 n, .int .i64 d] 25)).alloc (.cells #[.int .i64 0, .int .i64 0] 25)) 3 #[.int .i64 1, .int .i64 1, .int .i64 10, .int .i64 5, .int .i64 100, .int .i64 7, .int .i64 100000] (g := w.heap.size + 1 + 1) (by simp)).cell b).trans hv
    clear m4 m7 ha hb
    go_enter Try.func15, Try.ntmps15
    go_wp2_with fail
    refine (HP.out _ (by omega) (by omega)).mono ?_
    rintro e w' ⟨rfl, rfl⟩
    go_wp2
    go_region_with
        (first
          | (go_at_call_of 25 (Value.int IntKind.i64 4); refine (H4.out _ ?_ ?_).mono ?_; omega; omega; rintro e w' ⟨rfl, rfl⟩)
          | (go_at_call_of 25 (Value.int IntKind.i64 7); refine (H7.out _ ?_ ?_).mono ?_; omega; omega; rintro e w' ⟨rfl, rfl⟩))
    all_goals
      go_wp2
      refine bodyPost_ret (v := .agg #[.int .i64 (a + 1), .int .i64 v]) (by simp [results, Try.results15, go_sem]) rfl ⟨by rw [HV.out], ?_⟩
      exact (by repeat (first | (with_reducible exact Below.refl _ _) | (with_reducible assumption) | (with_reducible refine below_drewN ?_ _) | (with_reducible refine Below.drew ?_) | (with_reducible refine Below.alloc ?_ ?_ _) | (with_reducible refine Below.setCell ?_ ?_ _) | exact Below.refl _ _ | assumption | (solve | omega | simp | (simp; omega))))
end Go.Proofs.Ytnhbidagnomkpaa
