/-
  The contract of chapter 29's List: valid standings of different states come out.
-/
import Derived.Test.YtaifacnpnhcdcaaRecL
import Derived.Test.YtaifacnpnhcdcaaMakeV
import Derived.Maps.AppendAt
import Derived.Deep.RegionHeld3
namespace Go.Proofs.Ytaifacnpnhcdcaa
open Go.RowKit Mny

/-- valid standings of different states came out, in a row of the call's own -/
def RlistOut (w : World) (e : Ending) (w' : World) : Prop := ∃ v xs, e = .returned v ∧ GoodS xs ∧ (∀ x ∈ xs, Plain3 x) ∧ w'.ownsRow w.heap.size 33 4 v xs.length (stCells xs) ∧ Below w.heap.size w w'

set_option maxRecDepth 100000 in
set_option maxHeartbeats 16000000 in
theorem law_List (v : Value) (w : World) (hr : R3Tb w v) : Calls Try.prog 17 #[v] w (RlistOut w) := by
  obtain ⟨A0, n, c0, rfl, hn⟩ := hr.cut
  have hn2 : n ≤ 9223372036854775807 := hn
  have HR := Lib.hid hr
  clear hr hn
  obtain ⟨j0, hj, hy0, hy1, hy2⟩ := info_parts info_std
  go_enter Try.func17, Try.ntmps17
  go_wp2
  go_loopw [3, 4] (fun s i wr => ∃ (k : Nat) (xs : List St) (A : Option Addr) (c9 : Nat), k ≤ n ∧ i = .int .i64 k ∧ s = .slice A xs.length c9 ∧ GoodS xs ∧ (∀ x ∈ xs, Plain3 x) ∧ wr.ownsRow w.heap.size 33 4 (.slice A xs.length c9) xs.length (stCells xs) ∧ Below w.heap.size w wr) (fun _ i _ => n - (intOf i).toNat)
  case atStart => exact ⟨0, [], none, 0, Nat.zero_le _, rfl, rfl, GoodS.nil, (fun x h => by simp at h), World.ownsRow_nil _ _ _ _, Below.refl _ _⟩
  case round =>
    obtain ⟨k, xs, A, c9, hk, rfl, rfl, hgt, hp3, hown, hbl⟩ := hrel
    have hx6 : xs.length ≤ 6 := good_len hgt
    have HGT := Lib.hid hgt
    have HP3 := Lib.hid hp3
    have HO := Lib.hid hown
    have HB := Lib.hid hbl
    clear hgt hp3 hown hbl
    have hsz := HB.out.size
    by_cases hlt : k < n
    · have c0 : decide ((k : Int) < (n : Int)) = true := decide_eq_true (by omega)
      obtain ⟨b, off, l, r, rfl, hat, hlr, hbw⟩ := HR.out.rowAt hlt
      obtain ⟨r0, r1, r2⟩ := r
      obtain ⟨k0, k1, k2⟩ := hat.below hbw HB.out k _ hlr
      simp only at k0 k1 k2
      clear hat hlr
      have hbr : b < wr.heap.size := by omega
      have hm0 := fun W => plain_Mod r0 6 W (by decide) (by decide)
      obtain ⟨gs, hgs⟩ : ∃ q, r0 % 6 = q := ⟨_, rfl⟩
      have gs0 : 0 ≤ gs := by rw [← hgs]; exact Int.emod_nonneg _ (by decide)
      have gs1 : gs < 6 := by rw [← hgs]; exact Int.emod_lt_of_pos _ (by decide)
      rw [hgs] at hm0
      have HM0 := Lib.hid hm0
      clear hm0 hgs
      have hm1 := fun W => plain_Mod r1 3 W (by decide) (by decide)
      obtain ⟨gc, hgc⟩ : ∃ q, r1 % 3 = q := ⟨_, rfl⟩
      have gc0 : 0 ≤ gc := by rw [← hgc]; exact Int.emod_nonneg _ (by decide)
      have gc1 : gc < 3 := by rw [← hgc]; exact Int.emod_lt_of_pos _ (by decide)
      rw [hgc] at hm1
      have HM1 := Lib.hid hm1
      clear hm1 hgc
      obtain ⟨wo, eo⟩ : ∃ q, q = wr := ⟨_, rfl⟩
      subst eo
      go_upto_region 5 with (fail)
      go_cut [5] (fun p wx => p = .pointer (some ⟨wo.heap.size, 0, none⟩) ∧ (∃ go : Int, Bx wx wo.heap.size 33 #[.int .i64 gs, .int .i64 (1 + gc), .int .i64 0, .int .i64 go] ∧ 0 ≤ go ∧ go ≤ 1000000000000) ∧ Below wo.heap.size wo wx)
      case first =>
        have V2 : IntKind.i64.wrap (1 + gc) = 1 + gc := IntWalk.i64_in _ (by omega)
        have S0 : Below wo.heap.size wo wo.drew := (Below.refl _ _).drew
        have N1 : ¬ b = wo.heap.size := by omega
        have N2 : ¬ wo.heap.size = b := by omega
        go_region_held3 (fun w' => Below wo.heap.size wo w' ∧ w'.cell? ⟨b, off + k * 3, none⟩ = some (.int .i64 r0) ∧ w'.cell? ⟨b, off + k * 3 + 1, none⟩ = some (.int .i64 r1) ∧ w'.cell? ⟨b, off + k * 3 + 2, none⟩ = some (.int .i64 r2)) (first | exact ⟨by assumption, by assumption, by assumption, by assumption⟩ | (refine ⟨(by repeat (first | (with_reducible exact Below.refl _ _) | (with_reducible assumption) | (with_reducible refine below_drewN ?_ _) | (with_reducible refine Below.drew ?_) | (with_reducible refine Below.alloc ?_ ?_ _) | (with_reducible refine Below.setCell ?_ ?_ _) | exact Below.refl _ _ | assumption | (solve | omega | simp | (simp; omega)))), ?_⟩; go_keep) | go_keep)
          (first
            | (go_at_call_of 11 (Value.int IntKind.i64 r0); refine (HM0.out _).mono ?_; rintro e w' ⟨rfl, rfl⟩)
            | (go_at_call_of 11 (Value.int IntKind.i64 r1); refine (HM1.out _).mono ?_; rintro e w' ⟨rfl, rfl⟩)
            | (go_at_call 12; refine (plain_Amount _ _).mono ?_; rintro e w' ⟨x, rfl, hx, rfl⟩))
        all_goals
          go_wp2_with fail
          go_meet
          exact ⟨rfl, ⟨_, (by (try rw [V2]); first | exact Bx.made _ _ _ rfl | exact Bx.drew (Bx.made _ _ _ rfl) | exact Bx.drewN (Bx.made _ _ _ rfl) _ | trace_state), by omega, by omega⟩, (by repeat (first | (with_reducible exact Below.refl _ _) | (with_reducible assumption) | (with_reducible refine below_drewN ?_ _) | (with_reducible refine Below.drew ?_) | (with_reducible refine Below.alloc ?_ ?_ _) | (with_reducible refine Below.setCell ?_ ?_ _) | exact Below.refl _ _ | assumption | (solve | omega | simp | (simp; omega))))⟩
      case rest =>
        obtain ⟨rfl, ⟨go, hbx, go0, go1⟩, hbw6⟩ := hcut
        have HX6 := Lib.hid hbx
        have HB6 := Lib.hid (HB.out.trans (hbw6.mono hsz))
        have HW6 := Lib.hid hbw6
        have HOK : Hid (okS ⟨gs, 1 + gc, 0, go⟩ = true) := Lib.hid (okS_mk ⟨⟨gs0, by omega⟩, ⟨by omega, by omega⟩, ⟨by omega, by omega⟩, ⟨go0, go1⟩⟩)
        have HO6 := Lib.hid (own_below HO.out HW6.out)
        have HT6 := Lib.hid (StTab.own HO6.out rfl)
        clear hbx hbw6 k0 k1 k2
        have hs6 := HW6.out.size
        have hl6 := HX6.out.lt
        obtain ⟨w7, e7⟩ : ∃ q, q = wc := ⟨_, rfl⟩
        subst e7
        go_wp2
        go_loopw [6, 7] (fun t j wr => ∃ (q : Nat) (tw : Bool), q ≤ xs.length ∧ j = .int .i64 q ∧ t = .bool tw ∧ (tw = false → ∀ i y, i < q → xs[i]? = some y → y.s ≠ gs) ∧ Below w7.heap.size w7 wr) (fun _ j _ => xs.length - (intOf j).toNat)
        case atStart => exact ⟨0, false, Nat.zero_le _, rfl, rfl, fun _ i y h => absurd h (by omega), Below.refl _ _⟩
        case round =>
          obtain ⟨q, tw, hq, rfl, rfl, hnt, hbl⟩ := hrel
          have HNT := Lib.hid hnt
          have HBi := Lib.hid hbl
          clear hnt hbl
          have hsi := HBi.out.size
          by_cases hqx : q < xs.length
          · obtain ⟨h, hh⟩ : ∃ h, xs[q]? = some h := ⟨_, List.getElem?_eq_getElem hqx⟩
            obtain ⟨b3, o3, rfl, hb3, hat3⟩ := HT6.out.rowAt hh
            have HH := Lib.hid hh
            obtain ⟨fs, fc, fa, fo⟩ := h
            obtain ⟨u0, _⟩ := hat3.below hb3 HBi.out q _ hh
            simp only at u0
            clear hat3 hh
            have HXi := HX6.out.below HBi.out
            have x0 : wr.cell? ⟨wo.heap.size, 0, none⟩ = some (.int .i64 gs) := HXi.cell 0
            clear HXi
            have d0 : decide ((q : Int) < (xs.length : Int)) = true := decide_eq_true (by omega)
            have i1 : (q : Int) < (xs.length : Int) := by omega
            have hbi := HBi.out
            cases tw
            · by_cases e1 : fs = gs
              · have c3 : (fs == gs) = true := beq_iff_eq.2 e1
                clear e1
                go_wp2
                go_quiet (fail)
                go_wp2
                go_roundw
                case rel => exact ⟨q + 1, true, by omega, by go_num, rfl, (fun h => by cases h), (by repeat (first | (with_reducible exact Below.refl _ _) | (with_reducible assumption) | (with_reducible refine below_drewN ?_ _) | (with_reducible refine Below.drew ?_) | (with_reducible refine Below.alloc ?_ ?_ _) | (with_reducible refine Below.setCell ?_ ?_ _) | exact Below.refl _ _ | assumption | (solve | omega | simp | (simp; omega))))⟩
                case measure => simp [intOf]; omega
              · have c3 : (fs == gs) = false := beq_eq_false_iff_ne.2 e1
                have HN2 : Hid (∀ i y, i < q + 1 → xs[i]? = some y → y.s ≠ gs) := Lib.hid (by
                  intro i y hi hy
                  rcases Nat.lt_or_eq_of_le (Nat.le_of_lt_succ hi) with h | h
                  · exact HNT.out rfl i y h hy
                  · subst h
                    rw [HH.out] at hy
                    injection hy with hy
                    subst hy
                    exact e1)
                clear e1
                go_wp2
                go_quiet (fail)
                go_wp2
                go_roundw
                case rel => exact ⟨q + 1, false, by omega, by go_num, rfl, (fun _ => HN2.out), (by repeat (first | (with_reducible exact Below.refl _ _) | (with_reducible assumption) | (with_reducible refine below_drewN ?_ _) | (with_reducible refine Below.drew ?_) | (with_reducible refine Below.alloc ?_ ?_ _) | (with_reducible refine Below.setCell ?_ ?_ _) | exact Below.refl _ _ | assumption | (solve | omega | simp | (simp; omega))))⟩
                case measure => simp [intOf]; omega
            · go_wp2
              go_quiet (fail)
              go_wp2
              go_roundw
              case rel => exact ⟨q + 1, true, by omega, by go_num, rfl, (fun h => by cases h), (by repeat (first | (with_reducible exact Below.refl _ _) | (with_reducible assumption) | (with_reducible refine below_drewN ?_ _) | (with_reducible refine Below.drew ?_) | (with_reducible refine Below.alloc ?_ ?_ _) | (with_reducible refine Below.setCell ?_ ?_ _) | exact Below.refl _ _ | assumption | (solve | omega | simp | (simp; omega))))⟩
              case measure => simp [intOf]; omega
          · have hqe : q = xs.length := by omega
            subst hqe
            have d0 : decide ((xs.length : Int) < (xs.length : Int)) = false := decide_eq_false (by omega)
            have HBj := Lib.hid (HB6.out.trans (HBi.out.mono (Nat.le_trans hsz hs6)))
            have HOj := Lib.hid (own_below HO6.out HBi.out)
            cases tw
            · have HN2 := Lib.hid (HGT.out.snoc HOK.out (fun y hy => by obtain ⟨i, hi, e⟩ := List.getElem_of_mem hy; exact HNT.out rfl i y hi (by rw [List.getElem?_eq_getElem hi, e])))
              have HP9 : Hid (∀ x ∈ xs ++ [⟨gs, 1 + gc, 0, go⟩], Plain3 x) := Lib.hid (fun x hx => by
                rcases List.mem_append.1 hx with h | h
                · exact HP3.out x h
                · rw [List.mem_singleton] at h
                  subst h
                  exact ⟨rfl, by show 1 ≤ 1 + gc; omega, by show 1 + gc ≤ 3; omega⟩)
              have HXi := HX6.out.below HBi.out
              have x0 : wr.cell? ⟨wo.heap.size, 0, none⟩ = some (.int .i64 gs) := HXi.cell 0
              have x1 : wr.cell? ⟨wo.heap.size, 1, none⟩ = some (.int .i64 (1 + gc)) := HXi.cell 1
              have x2 : wr.cell? ⟨wo.heap.size, 2, none⟩ = some (.int .i64 0) := HXi.cell 2
              have x3 : wr.cell? ⟨wo.heap.size, 3, none⟩ = some (.int .i64 go) := HXi.cell 3
              clear HXi
              go_wp2_with (at_builtin; go_loud (refine wpList_append_own _ rfl _ _ 34 rfl w.heap.size 33 j0 (.agg #[.int .i64 0, .int .i64 0, .int .i64 0, .int .i64 0]) 4 32 Try.underlying34 hj hy0 hy1 hy2 rfl (by decide) _ _ _ rfl (HOj.out.alloc _) ⟨wr.heap.size, 0, none⟩ 1 1 [.int .i64 gs, .int .i64 (1 + gc), .int .i64 0, .int .i64 go] rfl rfl ?c1 ?c2 ?c3 ?c4 ?c5 ?_))
              case c2 => first | exact ⟨rfl, rfl, rfl, rfl⟩ | (intro u hu; simp at hu; rcases hu with rfl | rfl | rfl | rfl <;> rfl)
              case c3 => unfold maxLen; omega
              case c4 => omega
              case c5 => first | omega | (simp; done) | (simp; omega)
              intro v' w9 hown' hgrow _
              obtain ⟨A9, c9', rfl⟩ := own_slice hown'
              have HO9 : Hid (w9.ownsRow w.heap.size 33 4 (.slice A9 (xs.length + 1) c9') (xs.length + 1) (stCells (xs ++ [⟨gs, 1 + gc, 0, go⟩]))) := Lib.hid (by rw [stCells_snoc]; simpa using hown')
              have HB9 : Hid (Below w.heap.size w w9) := Lib.hid ((HBj.out.alloc HBj.out.size _).grown hgrow (by simp; omega) (fun g hg => by
                rcases HOj.out.2 with ⟨h1, _⟩ | ⟨g', cap, cur, h1, hg', _⟩
                · rw [h1] at hg; simp [Value.ownBlock] at hg
                · rw [h1] at hg; simp [Value.ownBlock] at hg; omega))
              clear hown' hgrow
              go_wp2
              go_roundw
              case rel => exact ⟨k + 1, xs ++ [⟨gs, 1 + gc, 0, go⟩], A9, c9', by omega, by go_num, by simp, HN2.out, HP9.out, (by rw [List.length_append]; exact HO9.out), HB9.out⟩
              case measure => simp [intOf]; omega
            · have hbj := HBj.out
              go_wp2
              go_roundw
              case rel => exact ⟨k + 1, xs, A, c9, by omega, by go_num, rfl, HGT.out, HP3.out, HOj.out, (by repeat (first | (with_reducible exact Below.refl _ _) | (with_reducible assumption) | (with_reducible refine below_drewN ?_ _) | (with_reducible refine Below.drew ?_) | (with_reducible refine Below.alloc ?_ ?_ _) | (with_reducible refine Below.setCell ?_ ?_ _) | exact Below.refl _ _ | assumption | (solve | omega | simp | (simp; omega))))⟩
              case measure => simp [intOf]; omega
    · have c0 : decide ((k : Int) < (n : Int)) = false := decide_eq_false (by omega)
      have hb := HB.out
      go_wp2
      go_ret
      exact ⟨_, _, rfl, HGT.out, HP3.out, HO.out, (by repeat (first | (with_reducible exact Below.refl _ _) | (with_reducible assumption) | (with_reducible refine below_drewN ?_ _) | (with_reducible refine Below.drew ?_) | (with_reducible refine Below.alloc ?_ ?_ _) | (with_reducible refine Below.setCell ?_ ?_ _) | exact Below.refl _ _ | assumption | (solve | omega | simp | (simp; omega))))⟩
end Go.Proofs.Ytaifacnpnhcdcaa
