/-
  The library's sort at standings, at most twelve: slices.SortFunc, slices.SortedFunc over slices.Values.
-/
import Derived.Shelf.SlSortCmp.SmallK
import Derived.Shelf.SlicesG.Cmp
import Derived.Ground.SlsfProg
import Derived.Ground.SlgcProg
import Derived.Test.YtaifacnpnhcdcaaSeqA
import Derived.Test.YtaifacnpnhcdcaaChain
namespace Go.Proofs.Ytaifacnpnhcdcaa
open Go.RowKit Go.Shelf

def stSort_ren : Go.Shelf.Ren := ⟨fun | 6 => 42 | 15 => 64 | 14 => 63 | 28 => 78 | 29 => 79 | 20 => 70 | 21 => 71 | 22 => 72 | 23 => 73 | 24 => 74 | 25 => 75 | 26 => 76 | 27 => 77 | 46 => 82 | 47 => 83 | 48 => 84 | 49 => 85 | 50 => 86 | 57 => 87 | n => n, fun | 22 => 34 | 24 => 33 | 25 => 61 | 3 => 3 | 39 => 85 | 0 => 0 | 53 => 98 | 55 => 71 | 4 => 4 | 46 => 91 | 45 => 90 | 50 => 95 | 5 => 5 | 9 => 9 | 66 => 103 | 70 => 107 | 76 => 109 | 77 => 24 | n => n, fun | n => n⟩
theorem stSort : Go.Proofs.SlLaysF0.n6 Try.prog stSort_ren := {
  mixed := by kernel_rfl
  f6 := ⟨Try.f42.name, by decide, Try.func42.trans (congrArg some (by kernel_rfl))⟩
  f14 := ⟨Try.f63.name, by decide, Try.func63.trans (congrArg some (by kernel_rfl))⟩
  f15 := Try.func64.trans (congrArg some (by kernel_rfl))
  f20 := ⟨Try.f70.name, by decide, Try.func70.trans (congrArg some (by kernel_rfl))⟩
  f21 := ⟨Try.f71.name, by decide, Try.func71.trans (congrArg some (by kernel_rfl))⟩
  f22 := ⟨Try.f72.name, by decide, Try.func72.trans (congrArg some (by kernel_rfl))⟩
  f23 := ⟨Try.f73.name, by decide, Try.func73.trans (congrArg some (by kernel_rfl))⟩
  f24 := ⟨Try.f74.name, by decide, Try.func74.trans (congrArg some (by kernel_rfl))⟩
  f25 := ⟨Try.f75.name, by decide, Try.func75.trans (congrArg some (by kernel_rfl))⟩
  f26 := ⟨Try.f76.name, by decide, Try.func76.trans (congrArg some (by kernel_rfl))⟩
  f27 := ⟨Try.f77.name, by decide, Try.func77.trans (congrArg some (by kernel_rfl))⟩
  f28 := Try.func78.trans (congrArg some (by kernel_rfl))
  f29 := Try.func79.trans (congrArg some (by kernel_rfl))
  f46 := ⟨Try.f82.name, by decide, Try.func82.trans (congrArg some (by kernel_rfl))⟩
  f47 := Try.func83.trans (congrArg some (by kernel_rfl))
  f48 := Try.func84.trans (congrArg some (by kernel_rfl))
  f49 := ⟨Try.f85.name, by decide, Try.func85.trans (congrArg some (by kernel_rfl))⟩
  f50 := ⟨Try.f86.name, by decide, Try.func86.trans (congrArg some (by kernel_rfl))⟩
  f57 := ⟨Try.f87.name, by decide, Try.func87.trans (congrArg some (by kernel_rfl))⟩
  t0 := Try.underlying0
  a0 := Try.isAgg0
  z0 := Try.sizeOf0
  v0 := Try.zeroValue0
  t3 := Try.underlying3
  a3 := Try.isAgg3
  z3 := Try.sizeOf3
  v3 := Try.zeroValue3
  t4 := Try.underlying4
  a4 := Try.isAgg4
  z4 := Try.sizeOf4
  v4 := Try.zeroValue4
  t5 := Try.underlying5
  a5 := Try.isAgg5
  z5 := Try.sizeOf5
  v5 := Try.zeroValue5
  t9 := Try.underlying9
  a9 := Try.isAgg9
  z9 := Try.sizeOf9
  v9 := Try.zeroValue9
  t22 := Try.underlying34
  a22 := Try.isAgg34
  z22 := Try.sizeOf34
  v22 := Try.zeroValue34
  t25 := Try.underlying61
  a25 := Try.isAgg61
  z25 := Try.sizeOf61
  v25 := Try.zeroValue61
  t39 := Try.underlying85
  a39 := Try.isAgg85
  z39 := Try.sizeOf85
  v39 := Try.zeroValue85
  t45 := Try.underlying90
  a45 := Try.isAgg90
  z45 := Try.sizeOf90
  v45 := Try.zeroValue90
  t46 := Try.underlying91
  a46 := Try.isAgg91
  z46 := Try.sizeOf91
  v46 := Try.zeroValue91
  t50 := Try.underlying95
  a50 := Try.isAgg95
  z50 := Try.sizeOf95
  v50 := Try.zeroValue95
  t53 := Try.underlying98
  a53 := Try.isAgg98
  z53 := Try.sizeOf98
  v53 := Try.zeroValue98
  t55 := Try.underlying71
  a55 := Try.isAgg71
  z55 := Try.sizeOf71
  v55 := Try.zeroValue71
  t66 := Try.underlying103
  a66 := Try.isAgg103
  z66 := Try.sizeOf103
  v66 := Try.zeroValue103
  t70 := Try.underlying107
  a70 := Try.isAgg107
  z70 := Try.sizeOf107
  v70 := Try.zeroValue107
  t76 := Try.underlying109
  a76 := Try.isAgg109
  z76 := Try.sizeOf109
  v76 := Try.zeroValue109
  t77 := Try.underlying24
  a77 := Try.isAgg24
  z77 := Try.sizeOf24
  v77 := Try.zeroValue24 }
def stCmp_ren : Go.Shelf.Ren := ⟨fun | 5 => 32 | 7 => 44 | n => n, fun | 22 => 3 | 3 => 3 | 4 => 4 | n => n, fun | n => n⟩
theorem stCmp : Go.Proofs.SlLaysC2.n5 Try.prog stCmp_ren := {
  mixed := by kernel_rfl
  f5 := ⟨Try.f32.name, by decide, Try.func32.trans (congrArg some (by kernel_rfl))⟩
  f7 := ⟨Try.f44.name, by decide, Try.func44.trans (congrArg some (by kernel_rfl))⟩
  t3 := Try.underlying3
  a3 := Try.isAgg3
  z3 := Try.sizeOf3
  v3 := Try.zeroValue3
  t4 := Try.underlying4
  a4 := Try.isAgg4
  z4 := Try.sizeOf4
  v4 := Try.zeroValue4
  t22 := Try.underlying3
  a22 := Try.isAgg3
  z22 := Try.sizeOf3
  v22 := Try.zeroValue3 }

set_option maxHeartbeats 1000000 in
/-- the order of the sort: by the state -/
theorem cmpS (x y : St) (W : World) : Calls Try.prog 31 #[.agg (stC x).toArray, .agg (stC y).toArray] W fun e w' => e = .returned (.int .i64 (Lib.compareInt x.s y.s)) ∧ ∃ q os', w' = Sort.grow (W.drewN q) os' := by
  have hcon := fun W' => AnyG.cmp_Compare_int stCmp x.s y.s W'
  change ∀ W', Calls Try.prog 32 _ _ _ at hcon
  generalize Lib.compareInt x.s y.s = r at hcon ⊢
  simp only [stC]
  go_enter Try.func31, Try.ntmps31
  go_wp2_with (go_at_call 32; refine (hcon _).mono ?_; rintro e w' ⟨rfl, rfl⟩)
  go_ret
  exact ⟨rfl, 0, _, by rw [Sort.alloc_eq_grow, Sort.alloc_eq_grow, Sort.grow_grow]; rfl⟩
theorem bitsLen12 (n : Nat) (W : World) (h : n ≤ 12) : Calls Try.prog 64 #[.int .u64 n] W fun e w' => (∃ l : Int, e = .returned (.int .i64 l)) ∧ w' = W := by
  have h2 := len64 (n : Int) W (by omega) (by omega)
  have H2 := Lib.hid h2
  clear h2
  go_enter Try.func64, Try.ntmps64
  go_wp2_with fail
  refine (H2.out).mono ?_
  rintro e w' ⟨rfl, rfl⟩
  go_wp2
  go_ret
  exact ⟨⟨_, rfl⟩, rfl⟩
theorem ltS (x y : St) : ltOf (fun x y : St => Lib.compareInt x.s y.s) x y = decide (x.s < y.s) := by
  unfold ltOf Lib.compareInt
  by_cases h1 : x.s < y.s
  · simp [h1]
  · by_cases h2 : y.s < x.s <;> simp [h1, h2]
theorem swoS : Sort.SWO (ltOf fun x y : St => Lib.compareInt x.s y.s) where
  irrefl x := by rw [ltS]; simp
  trans x y z h1 h2 := by rw [ltS] at *; simp at *; omega
  ntrans x y z h1 h2 := by rw [ltS] at *; simp at *; omega

theorem holds_cells {w : World} {b off : Nat} {d : Array St} (h : Sort.HoldsK stC 4 w b off d) : StAt w b off d.toList := fun k r hk => by
  rw [Array.getElem?_toList] at hk
  obtain ⟨hlt, e⟩ := Array.getElem?_eq_some_iff.1 hk
  have e2 : d[k]! = r := by rw [getElem!_pos d k hlt]; exact e
  have a := fun c (hc : c < 4) => (h.cell hlt hc).1
  rw [e2] at a
  exact ⟨a 0 (by omega), a 1 (by omega), a 2 (by omega), a 3 (by omega)⟩
theorem sort_below {w : World} {base blk off n : Nat} {d : Array St} {os : Array Obj} (h : base ≤ blk) (hb : blk < w.heap.size) : Below base w (sortWorldK stC 4 w blk off n d os) := by
  refine ⟨rfl, rfl, rfl, size_sortWorldK_c stC 4 w blk off n d os, fun k hk => ?_⟩
  have hs : k < (Sort.putRowK stC 4 (Sort.ahead w n) blk off d).heap.size := by rw [Sort.size_putRowK]; show k < w.heap.size; omega
  show ((Sort.putRowK stC 4 (Sort.ahead w n) blk off d).heap ++ os)[k]? = _
  rw [Array.getElem?_append_left hs]
  unfold Sort.putRowK Sort.putRow Sort.mapBlock
  simp only [Sort.heap_ahead]
  rw [Array.getElem?_modify, if_neg (by omega)]

/-- the row of standings, ordered by their states -/
theorem sortFunc (blk off cap : Nat) (d : Array St) (w : World) (hH : Sort.HoldsK stC 4 w blk off d) (hblk : blk < w.heap.size) (h12 : d.size ≤ 12) (base : Nat) (hbase : base ≤ blk) :
    Calls Try.prog 42 #[.slice (some ⟨blk, off, none⟩) d.size cap, .func (.func 31) #[] #[]] w fun e w' => e = .returned (.tuple #[]) ∧ ∃ ys : List St, ys.Perm d.toList ∧ ys.Pairwise (fun a b => a.s ≤ b.s) ∧ StAt w' blk off ys ∧ Below base w w' := by
  have eg : ∀ args w, (callFunc 31 args).run Try.prog w = .ok (.enter 31 args) w := enters_of Try.func31 (by kernel_rfl) rfl
  have hcon := AnyQ.slices_SortFunc_small_sorted stSort 4 Try.isAgg33 Try.sizeOf33 stC (fun _ => rfl) (fun x v hv => by simp [stC] at hv; rcases hv with rfl | rfl | rfl | rfl <;> rfl) (fun x y => Lib.compareInt x.s y.s) 31 #[] swoS blk off cap d w eg (fun _ _ _ _ x y => cmpS x y _) hH hblk h12 bitsLen12
  change Calls Try.prog 42 _ _ _ at hcon
  refine hcon.mono ?_
  rintro e w' ⟨rfl, d', n, os, hp, hs, rfl⟩
  obtain ⟨p1, _, p3⟩ := hp
  refine ⟨rfl, d'.toList, ?_, ?_, holds_cells (holdsK_sortWorldK_c stC 4 w blk off d d' n os hH hblk p1), sort_below hbase hblk⟩
  · rw [← p1] at p3
    rw [Array.extract_size] at p3
    rw [p1, Array.extract_size] at p3
    exact p3
  · rw [List.pairwise_iff_getElem]
    intro i j hi hj hij
    have hi' : i < d'.size := by simpa using hi
    have hj' : j < d'.size := by simpa using hj
    have h := hs i j (Nat.zero_le _) hij (by omega)
    rw [ltS, decide_eq_false_iff_not, getElem!_pos d' i hi', getElem!_pos d' j hj'] at h
    simp only [Array.getElem_toList]
    omega

theorem ins0 (w : World) : Calls Try.prog 70 #[.slice none 0 0, .int .i64 0, .int .i64 0, .func (.func 31) #[] #[]] w fun e w' => e = .returned (.tuple #[]) ∧ Below w.heap.size w w' := by
  go_enter Try.func70, Try.ntmps70
  go_wp2
  refine wp_loop_rounds 1 ?_
  rw [rounds_succ]
  go_wp2
  go_end0
  exact ⟨rfl, (by repeat (first | (with_reducible exact Below.refl _ _) | (with_reducible assumption) | (with_reducible refine below_drewN ?_ _) | (with_reducible refine Below.drew ?_) | (with_reducible refine Below.alloc ?_ ?_ _) | (with_reducible refine Below.setCell ?_ ?_ _) | exact Below.refl _ _ | assumption | (solve | omega | simp | (simp; omega))))⟩
theorem pdq0 (l : Int) (w : World) : Calls Try.prog 63 #[.slice none 0 0, .int .i64 0, .int .i64 0, .int .i64 l, .func (.func 31) #[] #[]] w fun e w' => e = .returned (.tuple #[]) ∧ Below w.heap.size w w' := by
  go_enter Try.func63, Try.ntmps63
  go_wp2
  refine wp_loop_rounds 1 ?_
  rw [rounds_succ]
  go_wp2_with fail
  refine (ins0 _).mono ?_
  rintro e w' ⟨rfl, hb⟩
  go_wp2
  refine bodyPost_ret (results_none rfl _ _ _) rfl ?_
  exact ⟨rfl, hb.mono (by first | exact Nat.le_refl _ | (simp; done) | (simp; omega))⟩
theorem sort0 (w : World) : Calls Try.prog 42 #[.slice none 0 0, .func (.func 31) #[] #[]] w fun e w' => e = .returned (.tuple #[]) ∧ Below w.heap.size w w' := by
  have h2 := fun W => bitsLen12 0 W (by omega)
  have H2 := Lib.hid h2
  clear h2
  go_enter Try.func42, Try.ntmps42
  go_wp2_with fail
  refine (H2.out _).mono ?_
  rintro e w' ⟨⟨l, rfl⟩, rfl⟩
  go_wp2_with fail
  refine (pdq0 _ _).mono ?_
  rintro e w' ⟨rfl, hb⟩
  go_wp2
  go_end0
  exact ⟨rfl, hb⟩

theorem stCells_at : ∀ {l : List St} {k : Nat} {r : St}, l[k]? = some r → ∀ t, t < 4 → (stCells l)[k * 4 + t]? = (stC r)[t]? := by
  intro l
  induction l with
  | nil => intro k r h; cases h
  | cons s l ih =>
    intro k r h t ht
    have e : stCells (s :: l) = stC s ++ stCells l := by simp [stCells]
    rw [e]
    cases k with
    | zero =>
      injection h with h
      subst h
      rw [List.getElem?_append_left (by simp [stC]; omega), Nat.zero_mul, Nat.zero_add]
    | succ k =>
      have := ih (k := k) (r := r) (by simpa using h) t ht
      rw [List.getElem?_append_right (by simp [stC]; omega), ← this]
      congr 1
      simp [stC]
      omega
theorem stCells_len (l : List St) : (stCells l).length = l.length * 4 := by
  induction l with
  | nil => rfl
  | cons r l ih => simp only [stCells, stC, List.flatMap_cons, List.length_append, List.length_cons, List.length_nil] at *; omega
/-- a row of the call's own, as the sort wants it -/
theorem holds_own {w : World} {base n : Nat} {xs : List St} {g c : Nat} (h : w.ownsRow base 33 4 (.slice (some ⟨g, 0, none⟩) n c) n (stCells xs)) (hn : xs.length = n) : Sort.HoldsK stC 4 w g 0 xs.toArray := by
  rcases h.2 with ⟨h0, _⟩ | ⟨g', cap, cur, he, _, hh, _, _, _, ht⟩
  · cases h0
  · injection he with e1 e2 e3
    injection e1 with e1
    injection e1 with e1 _
    subst e1
    intro j hj
    rw [Sort.size_flatK, List.size_toArray] at hj
    have hk : j / 4 < xs.length := by omega
    obtain ⟨r, hr⟩ : ∃ r, xs[j / 4]? = some r := ⟨_, List.getElem?_eq_getElem hk⟩
    have ha := stCells_at hr (j % 4) (Nat.mod_lt _ (by omega))
    rw [show j / 4 * 4 + j % 4 = j by omega] at ha
    refine ⟨?_, ?_⟩
    · rw [Sort.get_flatK _ _ _ _ (by rw [List.size_toArray]; exact hj)]
      have e5 : xs.toArray[j / 4]! = r := by
        rw [getElem!_pos xs.toArray (j / 4) (by simpa using hk)]
        simp only [List.getElem_toArray]
        have := List.getElem?_eq_getElem hk
        rw [hr] at this
        exact (Option.some.inj this).symm
      rw [e5, Nat.zero_add, Bx.cell hh]
      have e6 : (stC r)[j % 4]? = some ((stC r)[j % 4]!) := by
        have hl : j % 4 < (stC r).length := by show j % 4 < 4; omega
        rw [getElem!_pos (stC r) (j % 4) hl]
        exact List.getElem?_eq_getElem hl
      show cur[j]? = some ((stC r)[j % 4]!)
      rw [← e6, ← ha, ← ht, List.getElem?_take, if_pos (by omega), Array.getElem?_toList]
    · simp [World.frozen?, hh]
theorem sortFunc2 (g cap n : Nat) (xs : List St) (w : World) (base : Nat) (hrow : w.ownsRow base 33 4 (.slice (some ⟨g, 0, none⟩) n cap) n (stCells xs)) (hn : xs.length = n) (h12 : n ≤ 12) :
    Calls Try.prog 42 #[.slice (some ⟨g, 0, none⟩) n cap, .func (.func 31) #[] #[]] w fun e w' => e = .returned (.tuple #[]) ∧ ∃ ys : List St, ys.Perm xs ∧ ys.Pairwise (fun a b => a.s ≤ b.s) ∧ StAt w' g 0 ys ∧ Below base w w' ∧ g < w.heap.size := by
  have hh := holds_own hrow hn
  have hg : base ≤ g ∧ g < w.heap.size := by
    rcases hrow.2 with ⟨h0, _⟩ | ⟨g', _, cur, he, hb, h3, _⟩
    · cases h0
    · injection he with e1
      injection e1 with e1
      injection e1 with e1 _
      subst e1
      exact ⟨hb, Bx.lt h3⟩
  subst hn
  exact (sortFunc g 0 cap xs.toArray w hh hg.2 (by simpa using h12) base hg.1).mono fun e w' ⟨a, ys, b, c, d, f⟩ => ⟨a, ys, b, c, d, f, hg.2⟩
/-- the standings came out, ordered by their states -/
def SortOut (w : World) (xs : List St) (e : Ending) (w' : World) : Prop := ∃ A c ys, e = .returned (.slice A xs.length c) ∧ ys.Perm xs ∧ ys.Pairwise (fun a b : St => a.s ≤ b.s) ∧ StTab w'.heap.size w' (.slice A xs.length c) ys ∧ Below w.heap.size w w'
set_option maxRecDepth 100000 in
set_option maxHeartbeats 1000000 in
theorem sortedFunc (Bs : Nat) (sv : Value) (xs : List St) (w : World) (h12 : xs.length ≤ 12) (hBs : Bs < w.heap.size) (hc : w.cell? ⟨Bs, 0, none⟩ = some sv) (hI : StTab w.heap.size w sv xs) :
    Calls Try.prog 29 #[.func (.func 43) #[] #[.pointer (some ⟨Bs, 0, none⟩)], .func (.func 31) #[] #[]] w (SortOut w xs) := by
  have hcon := (callsIn_wide (n := 6)).1 (collect_in Fence.wide 6 trivial trivial trivial rfl (by decide) Bs sv xs (by omega) w hBs hc hI)
  have HC := Lib.hid hcon
  clear hcon hc hI
  go_enter Try.func29, Try.ntmps29
  go_wp2_with fail
  refine (HC.out).mono ?_
  rintro e w2 ⟨v, rfl, hrow, hb⟩
  obtain ⟨n, hn⟩ : ∃ n, xs.length = n := ⟨_, rfl⟩
  rw [hn] at hrow h12
  rcases hrow.2 with ⟨rfl, hz⟩ | ⟨g, cap, cur, rfl, _⟩
  · subst hz
    have hx := List.length_eq_zero_iff.1 hn
    subst hx
    have HB := Lib.hid hb
    clear hrow hb
    go_wp2_with fail
    refine (sort0 _).mono ?_
    rintro e w3 ⟨rfl, hb3⟩
    have HB3 := Lib.hid hb3
    clear hb3
    go_wp2
    go_ret
    exact ⟨_, _, [], rfl, List.Perm.refl _, List.Pairwise.nil, .inl ⟨_, _, rfl, rfl⟩, HB.out.trans (HB3.out.mono HB.out.size)⟩
  · have hs := sortFunc2 g cap n xs w2 _ hrow hn h12
    have HS := Lib.hid hs
    have HB := Lib.hid hb
    have HN := Lib.hid hn
    clear hrow hs hb hn
    go_wp2_with fail
    refine (HS.out).mono ?_
    rintro e w3 ⟨rfl, ys, hp, ho, hat, hb3, hg⟩
    have HB3 := Lib.hid hb3
    clear hb3
    go_wp2
    go_ret
    have e9 : ys.length = n := by rw [hp.length_eq, HN.out]
    exact ⟨some ⟨g, 0, none⟩, cap, ys, by rw [HN.out]; rfl, hp, ho, .inr ⟨g, 0, cap, by rw [HN.out, e9], Nat.lt_of_lt_of_le hg HB3.out.size, hat⟩, HB.out.trans HB3.out⟩
end Go.Proofs.Ytaifacnpnhcdcaa
