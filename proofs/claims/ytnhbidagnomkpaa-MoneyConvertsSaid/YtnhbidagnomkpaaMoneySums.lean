/-
  MoneySums: for every list of numbers the law returns true; there is no condition.
-/
import Derived.Test.YtnhbidagnomkpaaSums
import Derived.Test.YtnhbidagnomkpaaPostG
import Derived.Laws.OwnMore
namespace Go.Proofs.Ytnhbidagnomkpaa
open Go.RowKit Mny Go.WideShapes Go.ChangeShapes Go.ChangeAt

theorem info_int : (Try.prog.info? 3).map (fun i => (i.zero, i.size, i.bytes)) = some (some (.int .i64 0), 1, 8) := by kernel_rfl

theorem own_shape {w : World} {base n : Nat} {e : TypeId} {v : Value} {xs : List Value} (h : w.ownsRow base e 1 v n xs) : ∃ A c, v = .slice A n c ∧ (0 < n → ∃ g, A = some ⟨g, 0, none⟩ ∧ g < w.heap.size ∧ ∀ j u, xs[j]? = some u → w.cell? ⟨g, 0 + j, none⟩ = some u) := by
  rcases Nat.eq_zero_or_pos n with h0 | h0
  · subst h0
    rcases h.2 with ⟨rfl, _⟩ | ⟨g, cap, cur, rfl, _⟩
    · exact ⟨_, _, rfl, fun h => absurd h (by omega)⟩
    · exact ⟨_, _, rfl, fun h => absurd h (by omega)⟩
  · rcases h.2 with ⟨_, rfl⟩ | ⟨g, cap, cur, rfl, _, hh, _, _, _, ht⟩
    · omega
    · refine ⟨_, _, rfl, fun _ => ⟨g, rfl, Bx.lt hh, fun j u hj => ?_⟩⟩
      rw [Nat.zero_add, Bx.cell hh, ← hj, ← ht, List.getElem?_take, if_pos, Array.getElem?_toList]
      have := (List.getElem?_eq_some_iff.1 hj).1
      have := h.1
      omega

theorem law4_amountX (n : Int) (w : World) : Calls Try.prog 22 #[.int .i64 n] w fun e w' => ∃ x : Int, e = .returned (.int .i64 x) ∧ w = w' :=
  (law4_amount n w).mono fun _ _ ⟨h1, h2⟩ => ⟨_, h1, h2⟩

/-- the sums of an empty list -/
theorem money_Sum0 (A : Option Addr) (c : Nat) (w : World) : Calls Try.prog 23 #[.slice A 0 c] w fun e w' => e = .returned (.tuple #[.int .i64 0, .int .i64 0]) ∧ w = w' := by
  have hAM := fun W => money_amount 0 W
  rw [show inB (-1000000000000) 1000000000000 0 = true from rfl] at hAM
  have HAM := Lib.hid hAM
  clear hAM
  go_enter Try.func23, Try.ntmps23
  go_wp2
  refine wp_loop_rounds 1 ?_
  rw [rounds_succ]
  go_wp2_with fail
  refine (HAM.out _).mono ?_
  rintro e _ ⟨rfl, rfl⟩
  go_wp2
  go_ret2
  exact ⟨rfl, rfl⟩
theorem ref_Sum0 (A : Option Addr) (c : Nat) (w : World) : Calls Try.prog 24 #[.slice A 0 c] w fun e w' => e = .returned (.tuple #[.int .i64 0, .int .i64 0]) ∧ w = w' := by
  go_enter Try.func24, Try.ntmps24
  go_wp2
  refine wp_loop_rounds 1 ?_
  rw [rounds_succ]
  go_wp2
  refine wp_loop_rounds 1 ?_
  rw [rounds_succ]
  go_wp2
  go_ret2
  exact ⟨rfl, rfl⟩

set_option maxRecDepth 100000 in
theorem walk_MoneySums0 (A : Option Addr) (c : Nat) (raw : Bool) (w : World) :
    Calls Try.prog 5 #[.slice A 0 c, .bool raw] w fun e w' => e = .returned (.bool true) ∧ Below w.heap.size w w' := by
  go_enter Try.func5, Try.ntmps5
  go_wp2
  refine wp_loop_rounds 1 ?_
  rw [rounds_succ]
  go_wp2_with fail
  refine (money_Sum0 _ _ _).mono ?_
  rintro e _ ⟨rfl, rfl⟩
  go_wp2_with fail
  refine (ref_Sum0 _ _ _).mono ?_
  rintro e _ ⟨rfl, rfl⟩
  go_wp2_with fail
  refine (law4_awake _).mono ?_
  rintro e w9 ⟨rfl, hb9⟩
  have HB9 := Lib.hid hb9
  clear hb9
  go_wp2
  go_ret
  exact ⟨ret_bool (by simp), HB9.out⟩

set_option maxRecDepth 100000 in
set_option maxHeartbeats 4000000 in
theorem walk_MoneySums1 (zs : List Int) (n b off c : Nat) (raw : Bool) (w : World) (hn : zs.length = n) (hr : RowAt w b off zs) (hb : b < w.heap.size) (hpos : 0 < n) :
    Calls Try.prog 5 #[.slice (some ⟨b, off, none⟩) n c, .bool raw] w fun e w' => e = .returned (.bool true) ∧ Below w.heap.size w w' := by
  by_cases h200 : 200 < n
  · clear hn hr
    go_enter Try.func5, Try.ntmps5
    go_wp2
    go_ret
    exact ⟨rfl, (by repeat (first | exact Below.refl _ _ | assumption | (with_reducible refine below_drewN ?_ _) | (with_reducible refine Below.drew ?_) | (with_reducible refine Below.alloc ?_ ?_ _) | (with_reducible refine Below.setCell ?_ ?_ _) | (solve | omega | simp | (simp; omega))))⟩
  · obtain ⟨i0, hi, hz0, hz1, hz2⟩ := info_parts info_int
    have HN := Lib.hid hn
    have HR := Lib.hid hr
    clear hn hr
    cases raw
    · go_enter Try.func5, Try.ntmps5
      go_wp2
      go_loopw [5, 6] (fun m i wr => ∃ (k : Nat) (xs : List Int) (A : Option Addr) (cc : Nat), k ≤ n ∧ i = .int .i64 k ∧ m = .slice A k cc ∧ xs.length = k ∧ wr.ownsRow w.heap.size 3 1 (.slice A k cc) k (xs.map (Value.int .i64)) ∧ Below w.heap.size w wr) (fun _ i _ => n - (intOf i).toNat)
      case atStart => exact ⟨0, [], none, 0, Nat.zero_le _, rfl, rfl, rfl, ⟨rfl, .inl ⟨rfl, rfl⟩⟩, Below.refl _ _⟩
      case round =>
        obtain ⟨k, xs, A, cc, hk, rfl, rfl, hxl, hown, hbl⟩ := hrel
        have HX := Lib.hid hxl
        have HB := Lib.hid hbl
        clear hxl
        by_cases hlt : k < n
        · obtain ⟨z, hz⟩ : ∃ z, zs[k]? = some z := ⟨zs[k]'(by rw [HN.out]; exact hlt), List.getElem?_eq_getElem _⟩
          have hcell : wr.cell? ⟨b, off + k, none⟩ = some (.int .i64 z) := (hbl.cell (p := ⟨b, off + k, none⟩) hb).trans (HR.out k z hz)
          clear hz hbl
          go_wp2_with fail
          refine (law4_amountX _ _).mono ?_
          rintro e _ ⟨x, rfl, rfl⟩
          go_wp2_with (at_builtin; go_loud (refine wpList_append_own _ rfl _ _ 36 rfl w.heap.size 3 i0 (.int .i64 0) 1 8 Try.underlying36 hi hz0 hz1 hz2 rfl (by decide) _ _ _ rfl (hown.alloc _) ⟨wr.heap.size, 0, none⟩ 1 1 [.int .i64 x] rfl rfl ?c1 ?c2 ?c3 ?c4 ?c5 ?_))
          case c1 =>
            intro j u hj
            match j, hj with
            | 0, hj => simp at hj; subst hj; simp [Addr.add]
          case c2 => intro u hu; simp at hu; subst hu; rfl
          case c3 => unfold maxLen; omega
          case c4 => omega
          case c5 => have := HB.out.size; simp; omega
          intro v' w1 hown' hgrow _
          obtain ⟨A', cc', rfl, -⟩ := own_shape hown'
          have HO : Hid (w1.ownsRow w.heap.size 3 1 (.slice A' (k + 1) cc') (k + 1) ((xs ++ [x]).map (Value.int .i64))) := Lib.hid (by simpa using hown')
          have HB1 : Hid (Below w.heap.size w w1) := Lib.hid ((HB.out.alloc HB.out.size _).grown hgrow (by have := HB.out.size; simp; omega) (fun g hg => by
            rcases hown.2 with ⟨h1, _⟩ | ⟨g', cap, cur, h1, hg', _⟩
            · rw [h1] at hg; simp [Value.ownBlock] at hg
            · rw [h1] at hg; simp [Value.ownBlock] at hg; omega))
          clear hown hown' hgrow hcell
          go_wp2
          go_roundw
          case rel => exact ⟨k + 1, xs ++ [x], A', cc', by omega, by go_num, rfl, by simp [HX.out], HO.out, HB1.out⟩
          case measure => simp [intOf]; omega
        · obtain rfl : k = n := by omega
          clear hbl
          obtain ⟨A', cc', hs, hg⟩ := own_shape hown
          obtain ⟨g, hA, -, hcells⟩ := hg hpos
          have hAg : A = some ⟨g, 0, none⟩ := by injection hs with e1; exact e1.trans hA
          subst hAg
          have hrow : RowAt wr g 0 xs := fun j y hy => hcells j _ (by rw [List.getElem?_map, hy]; rfl)
          obtain ⟨A1, E1, hAE⟩ : ∃ A1 E1, sumS xs = (A1, E1) := ⟨_, _, rfl⟩
          have hm := money_Sum xs k g 0 cc wr HX.out hrow (by omega)
          have hr := ref_Sum xs k g 0 cc wr HX.out hrow (by omega)
          rw [hAE] at hm hr
          have HM : Hid (Calls Try.prog 23 #[.slice (some ⟨g, 0, none⟩) k cc] wr fun e w' => e = .returned (.tuple #[.int .i64 A1, .int .i64 E1]) ∧ wr = w') := Lib.hid hm
          have HRR : Hid (Calls Try.prog 24 #[.slice (some ⟨g, 0, none⟩) k cc] wr fun e w' => e = .returned (.tuple #[.int .i64 A1, .int .i64 E1]) ∧ wr = w') := Lib.hid hr
          clear hm hr hAE hrow hcells hA hs hg hown
          go_wp2_with fail
          refine HM.out.mono ?_
          rintro e _ ⟨rfl, rfl⟩
          go_wp2_with fail
          refine HRR.out.mono ?_
          rintro e _ ⟨rfl, rfl⟩
          go_wp2_with fail
          refine (law4_awake _).mono ?_
          rintro e w9 ⟨rfl, hb9⟩
          have HB9 := Lib.hid (below_then HB.out hb9)
          clear hb9
          go_wp2
          go_ret
          exact ⟨ret_bool (by simp), HB9.out⟩
    · go_enter Try.func5, Try.ntmps5
      go_wp2
      go_loopw [5, 6] (fun m i wr => ∃ (k : Nat) (xs : List Int) (A : Option Addr) (cc : Nat), k ≤ n ∧ i = .int .i64 k ∧ m = .slice A k cc ∧ xs.length = k ∧ wr.ownsRow w.heap.size 3 1 (.slice A k cc) k (xs.map (Value.int .i64)) ∧ Below w.heap.size w wr) (fun _ i _ => n - (intOf i).toNat)
      case atStart => exact ⟨0, [], none, 0, Nat.zero_le _, rfl, rfl, rfl, ⟨rfl, .inl ⟨rfl, rfl⟩⟩, Below.refl _ _⟩
      case round =>
        obtain ⟨k, xs, A, cc, hk, rfl, rfl, hxl, hown, hbl⟩ := hrel
        have HX := Lib.hid hxl
        have HB := Lib.hid hbl
        clear hxl
        by_cases hlt : k < n
        · obtain ⟨z, hz⟩ : ∃ z, zs[k]? = some z := ⟨zs[k]'(by rw [HN.out]; exact hlt), List.getElem?_eq_getElem _⟩
          have hcell : wr.cell? ⟨b, off + k, none⟩ = some (.int .i64 z) := (hbl.cell (p := ⟨b, off + k, none⟩) hb).trans (HR.out k z hz)
          clear hz hbl
          go_wp2_with (at_builtin; go_loud (refine wpList_append_own _ rfl _ _ 36 rfl w.heap.size 3 i0 (.int .i64 0) 1 8 Try.underlying36 hi hz0 hz1 hz2 rfl (by decide) _ _ _ rfl (hown.alloc _) ⟨wr.heap.size, 0, none⟩ 1 1 [.int .i64 z] rfl rfl ?c1 ?c2 ?c3 ?c4 ?c5 ?_))
          case c1 =>
            intro j u hj
            match j, hj with
            | 0, hj => simp at hj; subst hj; simp [Addr.add]
          case c2 => intro u hu; simp at hu; subst hu; rfl
          case c3 => unfold maxLen; omega
          case c4 => omega
          case c5 => have := HB.out.size; simp; omega
          intro v' w1 hown' hgrow _
          obtain ⟨A', cc', rfl, -⟩ := own_shape hown'
          have HO : Hid (w1.ownsRow w.heap.size 3 1 (.slice A' (k + 1) cc') (k + 1) ((xs ++ [z]).map (Value.int .i64))) := Lib.hid (by simpa using hown')
          have HB1 : Hid (Below w.heap.size w w1) := Lib.hid ((HB.out.alloc HB.out.size _).grown hgrow (by have := HB.out.size; simp; omega) (fun g hg => by
            rcases hown.2 with ⟨h1, _⟩ | ⟨g', cap, cur, h1, hg', _⟩
            · rw [h1] at hg; simp [Value.ownBlock] at hg
            · rw [h1] at hg; simp [Value.ownBlock] at hg; omega))
          clear hown hown' hgrow hcell
          go_wp2
          go_roundw
          case rel => exact ⟨k + 1, xs ++ [z], A', cc', by omega, by go_num, rfl, by simp [HX.out], HO.out, HB1.out⟩
          case measure => simp [intOf]; omega
        · obtain rfl : k = n := by omega
          clear hbl
          obtain ⟨A', cc', hs, hg⟩ := own_shape hown
          obtain ⟨g, hA, -, hcells⟩ := hg hpos
          have hAg : A = some ⟨g, 0, none⟩ := by injection hs with e1; exact e1.trans hA
          subst hAg
          have hrow : RowAt wr g 0 xs := fun j y hy => hcells j _ (by rw [List.getElem?_map, hy]; rfl)
          obtain ⟨A1, E1, hAE⟩ : ∃ A1 E1, sumS xs = (A1, E1) := ⟨_, _, rfl⟩
          have hm := money_Sum xs k g 0 cc wr HX.out hrow (by omega)
          have hr := ref_Sum xs k g 0 cc wr HX.out hrow (by omega)
          rw [hAE] at hm hr
          have HM : Hid (Calls Try.prog 23 #[.slice (some ⟨g, 0, none⟩) k cc] wr fun e w' => e = .returned (.tuple #[.int .i64 A1, .int .i64 E1]) ∧ wr = w') := Lib.hid hm
          have HRR : Hid (Calls Try.prog 24 #[.slice (some ⟨g, 0, none⟩) k cc] wr fun e w' => e = .returned (.tuple #[.int .i64 A1, .int .i64 E1]) ∧ wr = w') := Lib.hid hr
          clear hm hr hAE hrow hcells hA hs hg hown
          go_wp2_with fail
          refine HM.out.mono ?_
          rintro e _ ⟨rfl, rfl⟩
          go_wp2_with fail
          refine HRR.out.mono ?_
          rintro e _ ⟨rfl, rfl⟩
          go_wp2_with fail
          refine (law4_awake _).mono ?_
          rintro e w9 ⟨rfl, hb9⟩
          have HB9 := Lib.hid (below_then HB.out hb9)
          clear hb9
          go_wp2
          go_ret
          exact ⟨ret_bool (by simp), HB9.out⟩

theorem walk_MoneySums (v : Value) {w0 : World} (h : (∃ A c, v = .slice A 0 c) ∨ ∃ b off n c zs, v = .slice (some ⟨b, off, none⟩) n c ∧ 0 < n ∧ zs.length = n ∧ RowAt w0 b off zs ∧ b < w0.heap.size ∧ n ≤ maxLen ∧ ∀ z ∈ zs, (Lit.int .i64 z).wf = true) (raw : Bool) (w : World) (hw : w0 = w := by rfl) :
    Calls Try.prog 5 #[v, .bool raw] w fun e w' => e = .returned (.bool true) ∧ Below w.heap.size w w' := by
  subst hw
  rcases h with ⟨A, c, rfl⟩ | ⟨b, off, n, c, zs, rfl, hpos, hn, hr, hb, _, _⟩
  · exact walk_MoneySums0 A c raw w0
  · exact walk_MoneySums1 zs n b off c raw w0 hn hr hb hpos
end Go.Proofs.Ytnhbidagnomkpaa
