/-
  How many transfers come out of Offsets.
-/
import Derived.Test.YtaifacnpnhcdcaaRecL
namespace Go.Proofs.Ytaifacnpnhcdcaa
open Go.RowKit Mny

theorem offB_yes {p : St} {xs : List St} {l : List Rt} {m : Int} (h : offB p xs l m = true) : okS p = true ∧ inB 0 2399 m = true ∧ chkS l = 0 ∧ GoodS xs := by
  unfold offB at h
  simpa only [Bool.and_eq_true, decide_eq_true_eq] using h
theorem offR_len (p : St) (xs : List St) (l : List Rt) (m : Int) : (offR p xs l m).1.length ≤ 6 := by
  unfold offR
  split
  · rename_i h
    obtain ⟨h1, _, _, h4⟩ := offB_yes h
    have := (offA_bd (l := l) (m := m) h1 (xs := srt xs) (fun x hx => h4.1 x ((mem_srt h4).1 hx))).2
    have h5 := upTo_len h4 6
    unfold srt at this ⊢
    simp only
    omega
  · simp
end Go.Proofs.Ytaifacnpnhcdcaa
