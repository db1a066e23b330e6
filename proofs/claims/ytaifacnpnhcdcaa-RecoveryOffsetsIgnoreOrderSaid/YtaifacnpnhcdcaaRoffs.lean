/-
  The contract of the reference's Offsets.
-/
import Derived.Test.YtaifacnpnhcdcaaTrs
import Derived.Laws.OwnMore
import Derived.BigQuiet
namespace Go.Proofs.Ytaifacnpnhcdcaa
open Go.RowKit Mny

/-- no one among the first j is of x's state -/
def NoEq (xs : List St) (x : St) (j : Nat) : Prop := ∀ i y, i < j → xs[i]? = some y → y.s ≠ x.s
theorem NoEq.zero (xs : List St) (x : St) : NoEq xs x 0 := fun i y h => absurd h (by omega)
theorem NoEq.next {xs : List St} {x y : St} {j : Nat} (hy : xs[j]? = some y) : NoEq xs x (j + 1) ↔ NoEq xs x j ∧ y.s ≠ x.s := by
  constructor
  · exact fun h => ⟨fun i z hi hz => h i z (by omega) hz, h j y (by omega) hy⟩
  · rintro ⟨h1, h2⟩ i z hi hz
    by_cases e : i = j
    · subst e
      rw [hy] at hz
      injection hz with hz
      subst hz
      exact h2
    · exact h1 i z (by omega) hz
/-- the first k are valid and of different states -/
def GdTo (xs : List St) (k : Nat) : Prop := ∀ i x, i < k → xs[i]? = some x → okS x = true ∧ NoEq xs x i
theorem GdTo.zero (xs : List St) : GdTo xs 0 := fun i y h => absurd h (by omega)
theorem GdTo.next {xs : List St} {x : St} {k : Nat} (hx : xs[k]? = some x) : GdTo xs (k + 1) ↔ GdTo xs k ∧ okS x = true ∧ NoEq xs x k := by
  constructor
  · exact fun h => ⟨fun i z hi hz => h i z (by omega) hz, h k x (by omega) hx⟩
  · rintro ⟨h1, h2⟩ i z hi hz
    by_cases e : i = k
    · subst e
      rw [hx] at hz
      injection hz with hz
      subst hz
      exact h2
    · exact h1 i z (by omega) hz
theorem GdTo.good {xs : List St} : GdTo xs xs.length ↔ GoodS xs := by
  constructor
  · intro h
    refine ⟨fun x hx => ?_, ?_⟩
    · obtain ⟨j, hj, e⟩ := List.getElem_of_mem hx
      exact (h j x hj (by rw [List.getElem?_eq_getElem hj, e])).1
    · rw [List.pairwise_iff_getElem]
      intro i j hi hj hij
      exact (h j xs[j] hj (List.getElem?_eq_getElem hj)).2 i xs[i] hij (List.getElem?_eq_getElem hi)
  · rintro ⟨h1, h2⟩ i x hi hx
    rw [List.pairwise_iff_getElem] at h2
    refine ⟨h1 x (List.mem_of_getElem? hx), fun j y hj hy => ?_⟩
    obtain ⟨a1, b1⟩ := List.getElem?_eq_some_iff.1 hx
    obtain ⟨a2, b2⟩ := List.getElem?_eq_some_iff.1 hy
    have := h2 j i a2 a1 hj
    rw [b1, b2] at this
    exact this
/-- the standings of the states below s, and those of state s among the first i -/
def seen (xs : List St) (s i : Nat) : List St := upTo xs s ++ (xs.take i).filter fun x => x.s == (s : Int)
theorem seen_zero (xs : List St) (s : Nat) : seen xs s 0 = upTo xs s := by simp [seen]
theorem seen_all (xs : List St) (s : Nat) : seen xs s xs.length = upTo xs (s + 1) := by
  unfold seen upTo
  rw [List.take_length, List.range_succ, List.flatMap_append]
  simp
theorem seen_no {xs : List St} {s i : Nat} {x : St} (hx : xs[i]? = some x) (h : x.s ≠ (s : Int)) : seen xs s (i + 1) = seen xs s i := by
  unfold seen
  rw [take_one hx, List.filter_append, List.filter_cons_of_neg (by simpa using h), List.filter_nil, List.append_nil]
theorem seen_yes {xs : List St} {s i : Nat} {x : St} (hx : xs[i]? = some x) (h : x.s = (s : Int)) : seen xs s (i + 1) = seen xs s i ++ [x] := by
  unfold seen
  rw [take_one hx, List.filter_append, List.filter_cons_of_pos (by simpa using h), List.filter_nil, List.append_assoc]
theorem mem_seen {xs : List St} {s i : Nat} {x : St} (h : x ∈ seen xs s i) : x ∈ xs := by
  rcases List.mem_append.1 h with h | h
  · exact (mem_upTo.1 h).1
  · exact List.mem_of_mem_take (List.mem_filter.1 h).1
theorem seen_len {xs : List St} {s i : Nat} (h : GoodS xs) (hs : s < 6) : (seen xs s i).length ≤ 12 := by
  have h1 := (upTo_asc h.2 (s + 1)).1
  have h2 : (upTo xs (s + 1)).Sublist (upTo xs (s + 1)) := List.Sublist.refl _
  have h3 : ∀ (n : Nat), (upTo xs n).length ≤ n := by
    intro n
    induction n with
    | zero => simp [upTo]
    | succ n ih =>
      have e : upTo xs (n + 1) = upTo xs n ++ xs.filter (fun x => x.s == (n : Int)) := by simp [upTo, List.range_succ]
      have hf := h.2.filter (fun x => x.s == (n : Int))
      have hl : (xs.filter (fun x => x.s == (n : Int))).length ≤ 1 := by
        match hq : xs.filter (fun x => x.s == (n : Int)) with
        | [] => rw [hq]; simp
        | [_] => rw [hq]; simp
        | a :: b :: r =>
          rw [hq] at hf
          rw [List.pairwise_cons] at hf
          have ha : a ∈ xs.filter (fun x => x.s == (n : Int)) := by rw [hq]; exact List.mem_cons_self ..
          have hb : b ∈ xs.filter (fun x => x.s == (n : Int)) := by rw [hq]; exact List.mem_cons_of_mem _ (List.mem_cons_self ..)
          have h4 := (List.mem_filter.1 ha).2
          have h5 := (List.mem_filter.1 hb).2
          rw [beq_iff_eq] at h4 h5
          exact absurd (h4.trans h5.symm) (hf.1 b (List.mem_cons_self ..))
      rw [e, List.length_append]
      omega
  have h6 : (seen xs s i).length ≤ (upTo xs (s + 1)).length := by
    rw [← seen_all]
    unfold seen
    rw [List.length_append, List.length_append, List.take_length]
    have : ((xs.take i).filter fun x => x.s == (s : Int)).length ≤ (xs.filter fun x => x.s == (s : Int)).length := ((List.take_sublist i xs).filter _).length_le
    omega
  have := h3 (s + 1)
  omega
theorem offA_next {p : St} {rt : List Rt} {m left : Int} {xs ys : List St} {x : St} {out : List Tr} (e : ys = xs ++ [x]) (ha : offA p rt m xs = (left, out)) (hg : giveT p rt m left x = none) : offA p rt m ys = (left, out) := by
  rw [e, offA_snoc, ha, offF_none hg]
theorem offA_next2 {p : St} {rt : List Rt} {m left : Int} {xs ys : List St} {x : St} {out : List Tr} {r : Tr} (e : ys = xs ++ [x]) (ha : offA p rt m xs = (left, out)) (hg : giveT p rt m left x = some r) : offA p rt m ys = (left - r.s, out ++ [r]) := by
  rw [e, offA_snoc, ha, offF_some hg]


set_option maxRecDepth 100000 in
set_option maxHeartbeats 16000000 in
theorem ref_Offsets (ps pc pa po : Int) (xs : List St) (n : Nat) (A : Option Addr) (cc : Nat) (tv : Value) (rt : List Rt) (m : Int) (w : World) (hn : xs.length = n) (h12 : n ≤ 12) (hX : StTab w.heap.size w (.slice A n cc) xs) (hT : Tab w tv rt) :
    Calls Try.prog 20 #[.agg #[.int .i64 ps, .int .i64 pc, .int .i64 pa, .int .i64 po], .slice A n cc, tv, .int .i64 m] w (OffOut w (offR ⟨ps, pc, pa, po⟩ xs rt m)) := by
  have HN := Lib.hid hn
  have HX := Lib.hid hX
  have HT := Lib.hid hT
  clear hn hX hT
  go_enter Try.func20, Try.ntmps20
  have hva := fun W => ref_standing ps pc pa po W
  rcases Bool.eq_false_or_eq_true (okS ⟨ps, pc, pa, po⟩) with hp | hp
  · rw [hp] at hva
    have HVA := Lib.hid hva
    have HP := Lib.hid hp
    clear hva
    go_wp2_with fail
    refine (HVA.out _).mono ?_
    rintro e w1 ⟨rfl, hb1⟩
    have HB1 := Lib.hid (below_then (w := w) (by repeat (first | (with_reducible exact Below.refl _ _) | (with_reducible assumption) | (with_reducible refine below_drewN ?_ _) | (with_reducible refine Below.drew ?_) | (with_reducible refine Below.alloc ?_ ?_ _) | (with_reducible refine Below.setCell ?_ ?_ _) | exact Below.refl _ _ | assumption | (solve | omega | simp | (simp; omega)))) hb1)
    have BP1 := Lib.hid ((Bx.made w 33 #[.int .i64 ps, .int .i64 pc, .int .i64 pa, .int .i64 po] rfl).below hb1)
    clear hb1 hp
    have hmo := fun W => ref_ValidMonth m W
    rcases Bool.eq_false_or_eq_true (inB 0 2399 m) with hm | hm
    · rw [hm] at hmo
      have HMO := Lib.hid hmo
      have HM := Lib.hid hm
      clear hmo hm
      go_wp2_with fail
      refine (HMO.out _).mono ?_
      rintro e _ ⟨rfl, rfl⟩
      have hck := ref_CheckRates (HT.out.below HB1.out)
      by_cases ck : chkS rt = 0
      · rw [ck] at hck
        have HCK := Lib.hid hck
        have HCK0 := Lib.hid ck
        clear hck ck
        go_wp2_with fail
        refine (HCK.out).mono ?_
        rintro e w2 ⟨rfl, hb2⟩
        have HB2 := Lib.hid (below_then HB1.out hb2)
        have BP2 := Lib.hid (BP1.out.below hb2)
        have HX2 := Lib.hid (HX.out.later HB2.out)
        clear hb2
        go_wp2
        go_loopw [10, 11] (fun s10 i wr => ∃ (k : Nat) (bv : Bool), k ≤ n ∧ i = .int .i64 k ∧ s10 = .bool bv ∧ (bv = true ↔ GdTo xs k) ∧ Below w2.heap.size w2 wr) (fun _ i _ => n - (intOf i).toNat)
        case atStart => exact ⟨0, true, Nat.zero_le _, rfl, rfl, ⟨fun _ => GdTo.zero _, fun _ => rfl⟩, Below.refl _ _⟩
        case round =>
          obtain ⟨k, bv, hk, rfl, rfl, hbv, hbl⟩ := hrel
          have HBV := Lib.hid hbv
          have HB := Lib.hid hbl
          have hsz := hbl.size
          clear hbv hbl
          by_cases hlt : k < n
          · obtain ⟨r, hr⟩ : ∃ r, xs[k]? = some r := ⟨xs[k]'(by rw [HN.out]; exact hlt), List.getElem?_eq_getElem _⟩
            obtain ⟨b, off, rfl, hb, hat⟩ := HX2.out.rowAt hr
            have HAT := Lib.hid hat
            obtain ⟨k0, k1, k2, k3⟩ := hat.below hb HB.out k r hr
            obtain ⟨r0, hr0⟩ : ∃ r0, r = r0 := ⟨_, rfl⟩
            have HR := Lib.hid (hr0 ▸ hr)
            obtain ⟨rs, rc, ra, ro⟩ := r
            have HR0 : Hid (r0 = ⟨rs, rc, ra, ro⟩) := Lib.hid hr0.symm
            simp only at k0 k1 k2 k3
            clear hr hat hr0
            have i2 : (k : Int) < (n : Int) := by omega
            have hB := HB.out
            cases bv with
            | false =>
              have HFX : Hid (¬ GdTo xs (k + 1)) := Lib.hid (fun h => by have := HBV.out.2 ((GdTo.next HR.out).1 h).1; cases this)
              go_wp2
              go_loopw [10, 12] (fun s10 i wr => ∃ (j : Nat), j ≤ k ∧ i = .int .i64 j ∧ s10 = .bool false ∧ Below w2.heap.size w2 wr) (fun _ i _ => k - (intOf i).toNat)
              case atStart => exact ⟨0, Nat.zero_le _, rfl, rfl, (by repeat (first | (with_reducible exact Below.refl _ _) | (with_reducible assumption) | (with_reducible refine below_drewN ?_ _) | (with_reducible refine Below.drew ?_) | (with_reducible refine Below.alloc ?_ ?_ _) | (with_reducible refine Below.setCell ?_ ?_ _) | exact Below.refl _ _ | assumption | (solve | omega | simp | (simp; omega))))⟩
              case round =>
                obtain ⟨j, hj, rfl, rfl, hbl2⟩ := hrel
                have HBL2 := Lib.hid hbl2
                have hsz2 := hbl2.size
                clear hbl2
                by_cases hjk : j < k
                · have cj : decide ((j : Int) < (k : Int)) = true := decide_eq_true (by omega)
                  have hbf := HBL2.out
                  go_wp2
                  go_quiet (fail)
                  go_wp2
                  go_roundw
                  case rel => exact ⟨j + 1, by omega, by go_num, rfl, (by repeat (first | (with_reducible exact Below.refl _ _) | (with_reducible assumption) | (with_reducible refine below_drewN ?_ _) | (with_reducible refine Below.drew ?_) | (with_reducible refine Below.alloc ?_ ?_ _) | (with_reducible refine Below.setCell ?_ ?_ _) | exact Below.refl _ _ | assumption | (solve | omega | simp | (simp; omega))))⟩
                  case measure => simp [intOf]; omega
                · obtain rfl : k = j := by omega
                  have cj : decide ((k : Int) < (k : Int)) = false := decide_eq_false (by omega)
                  have hbf := HBL2.out
                  go_wp2
                  go_roundw
                  case rel => exact ⟨k + 1, false, by omega, by go_num, rfl, ⟨fun h => (by cases h), fun h => absurd h HFX.out⟩, (by repeat (first | (with_reducible exact Below.refl _ _) | (with_reducible assumption) | (with_reducible refine below_drewN ?_ _) | (with_reducible refine Below.drew ?_) | (with_reducible refine Below.alloc ?_ ?_ _) | (with_reducible refine Below.setCell ?_ ?_ _) | exact Below.refl _ _ | assumption | (solve | omega | simp | (simp; omega))))⟩
                  case measure => simp [intOf]; omega
            | true =>
              have hva := fun W => ref_standing rs rc ra ro W
              rcases Bool.eq_false_or_eq_true (okS ⟨rs, rc, ra, ro⟩) with ho | ho
              · rw [ho] at hva
                have HVA := Lib.hid hva
                have HOK := Lib.hid ho
                clear hva ho
                go_wp2_with fail
                refine (HVA.out _).mono ?_
                rintro e w5 ⟨rfl, hb5⟩
                have HB5 := Lib.hid (below_then HB.out hb5)
                clear hb5 k0 k1 k2 k3 hB
                have hs5 := HB5.out.size
                have hB5 := HB5.out
                go_wp2
                go_loopw [10, 12] (fun s10 i wr => ∃ (j : Nat) (b' : Bool), j ≤ k ∧ i = .int .i64 j ∧ s10 = .bool b' ∧ (b' = true ↔ NoEq xs r0 j) ∧ Below w2.heap.size w2 wr) (fun _ i _ => k - (intOf i).toNat)
                case atStart => exact ⟨0, true, Nat.zero_le _, rfl, rfl, ⟨fun _ => NoEq.zero _ _, fun _ => rfl⟩, (by repeat (first | (with_reducible exact Below.refl _ _) | (with_reducible assumption) | (with_reducible refine below_drewN ?_ _) | (with_reducible refine Below.drew ?_) | (with_reducible refine Below.alloc ?_ ?_ _) | (with_reducible refine Below.setCell ?_ ?_ _) | exact Below.refl _ _ | assumption | (solve | omega | simp | (simp; omega))))⟩
                case round =>
                  obtain ⟨j, b', hj, rfl, rfl, hb', hbl2⟩ := hrel
                  have HB' := Lib.hid hb'
                  have HBL2 := Lib.hid hbl2
                  have hsz2 := hbl2.size
                  clear hb' hbl2
                  by_cases hjk : j < k
                  · have cj : decide ((j : Int) < (k : Int)) = true := decide_eq_true (by omega)
                    obtain ⟨y, hy⟩ : ∃ y, xs[j]? = some y := ⟨xs[j]'(by rw [HN.out]; omega), List.getElem?_eq_getElem _⟩
                    obtain ⟨y0, -, -, -⟩ := HAT.out.below hb HBL2.out j y hy
                    obtain ⟨x0, -, -, -⟩ := HAT.out.below hb HBL2.out k r0 HR.out
                    rw [HR0.out] at x0
                    have HY := Lib.hid hy
                    obtain ⟨ys, yc, ya, yo⟩ := y
                    simp only at y0 x0
                    clear hy
                    have hbf := HBL2.out
                    have i1 : (j : Int) < (n : Int) := by omega
                    have i2 : (k : Int) < (n : Int) := by omega
                    cases b' with
                    | false =>
                      go_wp2
                      go_quiet (fail)
                      go_wp2
                      go_roundw
                      case rel => exact ⟨j + 1, false, by omega, by go_num, rfl, ⟨fun h => (by cases h), fun h => HB'.out.2 ((NoEq.next HY.out).1 h).1⟩, (by repeat (first | (with_reducible exact Below.refl _ _) | (with_reducible assumption) | (with_reducible refine below_drewN ?_ _) | (with_reducible refine Below.drew ?_) | (with_reducible refine Below.alloc ?_ ?_ _) | (with_reducible refine Below.setCell ?_ ?_ _) | exact Below.refl _ _ | assumption | (solve | omega | simp | (simp; omega))))⟩
                      case measure => simp [intOf]; omega
                    | true =>
                      by_cases hd : ys = rs
                      · have ed : (ys != rs) = false := by simpa using hd
                        go_wp2
                        go_quiet (fail)
                        go_wp2
                        go_roundw
                        case rel => exact ⟨j + 1, false, by omega, by go_num, rfl, ⟨fun h => (by cases h), fun h => absurd (by rw [HR0.out]; exact hd) ((NoEq.next HY.out).1 h).2⟩, (by repeat (first | (with_reducible exact Below.refl _ _) | (with_reducible assumption) | (with_reducible refine below_drewN ?_ _) | (with_reducible refine Below.drew ?_) | (with_reducible refine Below.alloc ?_ ?_ _) | (with_reducible refine Below.setCell ?_ ?_ _) | exact Below.refl _ _ | assumption | (solve | omega | simp | (simp; omega))))⟩
                        case measure => simp [intOf]; omega
                      · have ed : (ys != rs) = true := by simpa using hd
                        go_wp2
                        go_quiet (fail)
                        go_wp2
                        go_roundw
                        case rel => exact ⟨j + 1, true, by omega, by go_num, rfl, ⟨fun _ => (NoEq.next HY.out).2 ⟨HB'.out.1 (by first | rfl | trivial), by rw [HR0.out]; exact hd⟩, fun _ => rfl⟩, (by repeat (first | (with_reducible exact Below.refl _ _) | (with_reducible assumption) | (with_reducible refine below_drewN ?_ _) | (with_reducible refine Below.drew ?_) | (with_reducible refine Below.alloc ?_ ?_ _) | (with_reducible refine Below.setCell ?_ ?_ _) | exact Below.refl _ _ | assumption | (solve | omega | simp | (simp; omega))))⟩
                        case measure => simp [intOf]; omega
                  · obtain rfl : k = j := by omega
                    have cj : decide ((k : Int) < (k : Int)) = false := decide_eq_false (by omega)
                    have hbf := HBL2.out
                    go_wp2
                    go_roundw
                    case rel => exact ⟨k + 1, b', by omega, by go_num, rfl, ⟨fun h => (GdTo.next HR.out).2 ⟨HBV.out.1 (by first | rfl | trivial), by rw [HR0.out]; exact HOK.out, HB'.out.1 h⟩, fun h => HB'.out.2 ((GdTo.next HR.out).1 h).2.2⟩, (by repeat (first | (with_reducible exact Below.refl _ _) | (with_reducible assumption) | (with_reducible refine below_drewN ?_ _) | (with_reducible refine Below.drew ?_) | (with_reducible refine Below.alloc ?_ ?_ _) | (with_reducible refine Below.setCell ?_ ?_ _) | exact Below.refl _ _ | assumption | (solve | omega | simp | (simp; omega))))⟩
                    case measure => simp [intOf]; omega
              · rw [ho] at hva
                have HVA := Lib.hid hva
                have HFX : Hid (¬ GdTo xs (k + 1)) := Lib.hid (fun h => by have := ((GdTo.next HR.out).1 h).2.1; rw [HR0.out, ho] at this; cases this)
                clear hva ho
                go_wp2_with fail
                refine (HVA.out _).mono ?_
                rintro e w5 ⟨rfl, hb5⟩
                have HB5 := Lib.hid (below_then HB.out hb5)
                clear hb5 k0 k1 k2 k3 hB
                have hs5 := HB5.out.size
                have hB5 := HB5.out
                go_wp2
                go_loopw [10, 12] (fun s10 i wr => ∃ (j : Nat), j ≤ k ∧ i = .int .i64 j ∧ s10 = .bool false ∧ Below w2.heap.size w2 wr) (fun _ i _ => k - (intOf i).toNat)
                case atStart => exact ⟨0, Nat.zero_le _, rfl, rfl, (by repeat (first | (with_reducible exact Below.refl _ _) | (with_reducible assumption) | (with_reducible refine below_drewN ?_ _) | (with_reducible refine Below.drew ?_) | (with_reducible refine Below.alloc ?_ ?_ _) | (with_reducible refine Below.setCell ?_ ?_ _) | exact Below.refl _ _ | assumption | (solve | omega | simp | (simp; omega))))⟩
                case round =>
                  obtain ⟨j, hj, rfl, rfl, hbl2⟩ := hrel
                  have HBL2 := Lib.hid hbl2
                  have hsz2 := hbl2.size
                  clear hbl2
                  by_cases hjk : j < k
                  · have cj : decide ((j : Int) < (k : Int)) = true := decide_eq_true (by omega)
                    have hbf := HBL2.out
                    go_wp2
                    go_quiet (fail)
                    go_wp2
                    go_roundw
                    case rel => exact ⟨j + 1, by omega, by go_num, rfl, (by repeat (first | (with_reducible exact Below.refl _ _) | (with_reducible assumption) | (with_reducible refine below_drewN ?_ _) | (with_reducible refine Below.drew ?_) | (with_reducible refine Below.alloc ?_ ?_ _) | (with_reducible refine Below.setCell ?_ ?_ _) | exact Below.refl _ _ | assumption | (solve | omega | simp | (simp; omega))))⟩
                    case measure => simp [intOf]; omega
                  · obtain rfl : k = j := by omega
                    have cj : decide ((k : Int) < (k : Int)) = false := decide_eq_false (by omega)
                    have hbf := HBL2.out
                    go_wp2
                    go_roundw
                    case rel => exact ⟨k + 1, false, by omega, by go_num, rfl, ⟨fun h => (by cases h), fun h => absurd h HFX.out⟩, (by repeat (first | (with_reducible exact Below.refl _ _) | (with_reducible assumption) | (with_reducible refine below_drewN ?_ _) | (with_reducible refine Below.drew ?_) | (with_reducible refine Below.alloc ?_ ?_ _) | (with_reducible refine Below.setCell ?_ ?_ _) | exact Below.refl _ _ | assumption | (solve | omega | simp | (simp; omega))))⟩
                    case measure => simp [intOf]; omega
          · obtain rfl : n = k := by omega
            have hB := HB.out
            cases bv with
            | false =>
              have HNG : Hid (¬ GoodS xs) := Lib.hid (fun h => by have := HBV.out.2 (by rw [← HN.out]; exact GdTo.good.2 h); cases this)
              have HF := Lib.hid (offR_no (p := ⟨ps, pc, pa, po⟩) (xs := xs) (l := rt) (m := m) (.inr (.inr (.inr HNG.out))))
              go_wp2
              go_ret2
              exact ⟨_, by rw [HF.out]; rfl, by rw [HF.out]; exact .inl ⟨_, _, rfl, rfl⟩, below_then HB2.out (by exact (by repeat (first | (with_reducible exact Below.refl _ _) | (with_reducible assumption) | (with_reducible refine below_drewN ?_ _) | (with_reducible refine Below.drew ?_) | (with_reducible refine Below.alloc ?_ ?_ _) | (with_reducible refine Below.setCell ?_ ?_ _) | exact Below.refl _ _ | assumption | (solve | omega | simp | (simp; omega)))))⟩
            | true =>
              have HGX : Hid (GoodS xs) := Lib.hid (GdTo.good.1 (by rw [HN.out]; exact HBV.out.1 (by first | rfl | trivial)))
              clear hB
              obtain ⟨w4, hw4⟩ : ∃ w4, w4 = wr := ⟨_, rfl⟩
              subst hw4
              have HB4 := Lib.hid (below_then HB2.out HB.out)
              have BP4 := Lib.hid (BP2.out.below HB.out)
              have HT4 := Lib.hid (HT.out.below HB4.out)
              have HX4 := Lib.hid (HX2.out.later HB.out)
              obtain ⟨i0, hi, hz0, hz1, hz2⟩ := info_parts info_tr
              obtain ⟨cP, qP⟩ := BP4.out.of
              go_wp2
              clear cP qP
              go_loopw [13, 14, 15] (fun s13 s14 i wr => ∃ (k : Nat) (left : Int) (outl : List Tr) (A9 : Option Addr) (c9 : Nat), k ≤ 6 ∧ i = .int .i64 k ∧ s13 = .int .i64 left ∧ s14 = .slice A9 outl.length c9 ∧ offA ⟨ps, pc, pa, po⟩ rt m (upTo xs k) = (left, outl) ∧ wr.ownsRow w4.heap.size 44 5 (.slice A9 outl.length c9) outl.length (trCells outl) ∧ Below w4.heap.size w4 wr) (fun _ _ i _ => 6 - (intOf i).toNat)
              case atStart => exact ⟨0, pa, [], none, 0, Nat.zero_le _, rfl, rfl, rfl, rfl, World.ownsRow_nil _ _ _ _, Below.refl _ _⟩
              case round =>
                obtain ⟨s, left, outl, A9, c9, hs, rfl, rfl, rfl, ha, hown, hbl⟩ := hrel
                have HA := Lib.hid ha
                have HO := Lib.hid hown
                have HB := Lib.hid hbl
                have hsz := hbl.size
                clear ha hown hbl
                by_cases hs6x : s < 6
                · have cs : decide ((s : Int) < 6) = true := decide_eq_true (by omega)
                  go_wp2
                  go_loopw [13, 14, 16] (fun s13 s14 i wr => ∃ (k : Nat) (left : Int) (outl : List Tr) (A9 : Option Addr) (c9 : Nat), k ≤ n ∧ i = .int .i64 k ∧ s13 = .int .i64 left ∧ s14 = .slice A9 outl.length c9 ∧ offA ⟨ps, pc, pa, po⟩ rt m (seen xs s k) = (left, outl) ∧ wr.ownsRow w4.heap.size 44 5 (.slice A9 outl.length c9) outl.length (trCells outl) ∧ Below w4.heap.size w4 wr) (fun _ _ i _ => n - (intOf i).toNat)
                  case atStart => exact ⟨0, left, outl, A9, c9, Nat.zero_le _, rfl, rfl, rfl, by rw [seen_zero]; exact HA.out, HO.out, HB.out⟩
                  case round =>
                    obtain ⟨i, left, outl, A9, c9, hik, rfl, rfl, rfl, ha, hown, hbl⟩ := hrel
                    have HA := Lib.hid ha
                    have HO := Lib.hid hown
                    have HB := Lib.hid hbl
                    have hsz := hbl.size
                    clear ha hown hbl
                    by_cases hlt : i < n
                    · obtain ⟨r, hr⟩ : ∃ r, xs[i]? = some r := ⟨xs[i]'(by rw [HN.out]; exact hlt), List.getElem?_eq_getElem _⟩
                      obtain ⟨b, off, rfl, hb, hat⟩ := HX4.out.rowAt hr
                      obtain ⟨k0, k1, k2, k3⟩ := hat.below hb HB.out i r hr
                      have HOK : Hid (okS r = true) := Lib.hid (HGX.out.1 r (List.mem_of_getElem? hr))
                      have hro := (okS_all HOK.out).2.2.2
                      obtain ⟨⟨hl0, hl1⟩, hol⟩ := (by have := offA_bd (l := rt) (m := m) HP.out (xs := seen xs s i) (fun x hx => HGX.out.1 x (mem_seen hx)); rw [HA.out] at this; exact this : (0 ≤ left ∧ left ≤ 1000000000000) ∧ outl.length ≤ (seen xs s i).length)
                      have HOL : Hid (outl.length ≤ 12) := Lib.hid (by have := seen_len (i := i) HGX.out hs6x; omega)
                      have HR := Lib.hid hr
                      obtain ⟨rs, rc, ra, ro⟩ := r
                      simp only at k0 k1 k2 k3 hro
                      clear hr hat hol
                      have X0 := Lib.hid (Bx.made wr 33 #[.int .i64 rs, .int .i64 rc, .int .i64 ra, .int .i64 ro] rfl)
                      have HB0 := Lib.hid (HB.out.alloc HB.out.size (.cells #[.int .i64 rs, .int .i64 rc, .int .i64 ra, .int .i64 ro] 33))
                      have HC0 : Hid (Below wr.heap.size wr (wr.alloc (.cells #[.int .i64 rs, .int .i64 rc, .int .i64 ra, .int .i64 ro] 33))) := Lib.hid ((Below.refl _ _).alloc (Nat.le_refl _) _)
                      obtain ⟨cP, qP⟩ := (BP4.out.below HB.out).of
                      have hPl : w.heap.size < wr.heap.size := (BP4.out.below HB.out).lt
                      have hPn : ¬ w.heap.size = wr.heap.size := by omega
                      by_cases hrs : rs = (s : Int)
                      · subst hrs
                        have er : ((s : Int) != (s : Int)) = false := by simp
                        by_cases t0 : (s : Int) = ps
                        · have e0 : ((s : Int) == ps) = true := beq_iff_eq.2 t0
                          have HG := Lib.hid (offA_next (seen_yes HR.out rfl) HA.out (giveT_skip (.inl t0)))
                          have hbf := HB.out
                          go_wp2
                          go_roundw
                          case rel => exact ⟨i + 1, left, outl, A9, c9, by omega, by go_num, rfl, rfl, HG.out, own_below HO.out ((Below.refl _ _).alloc (Nat.le_refl _) _), (by repeat (first | (with_reducible exact Below.refl _ _) | (with_reducible assumption) | (with_reducible refine below_drewN ?_ _) | (with_reducible refine Below.drew ?_) | (with_reducible refine Below.alloc ?_ ?_ _) | (with_reducible refine Below.setCell ?_ ?_ _) | exact Below.refl _ _ | assumption | (solve | omega | simp | (simp; omega))))⟩
                          case measure => simp [intOf]; omega
                        · have e0 : ((s : Int) == ps) = false := beq_eq_false_iff_ne.2 t0
                          by_cases t1 : ro = 0
                          · have e1 : (ro == 0) = true := beq_iff_eq.2 t1
                            have HG := Lib.hid (offA_next (seen_yes HR.out rfl) HA.out (giveT_skip (.inr t1)))
                            have hbf := HB.out
                            go_wp2
                            go_roundw
                            case rel => exact ⟨i + 1, left, outl, A9, c9, by omega, by go_num, rfl, rfl, HG.out, own_below HO.out ((Below.refl _ _).alloc (Nat.le_refl _) _), (by repeat (first | (with_reducible exact Below.refl _ _) | (with_reducible assumption) | (with_reducible refine below_drewN ?_ _) | (with_reducible refine Below.drew ?_) | (with_reducible refine Below.alloc ?_ ?_ _) | (with_reducible refine Below.setCell ?_ ?_ _) | exact Below.refl _ _ | assumption | (solve | omega | simp | (simp; omega))))⟩
                            case measure => simp [intOf]; omega
                          · have e1 : (ro == 0) = false := beq_eq_false_iff_ne.2 t1
                            obtain ⟨A1, E1, h1⟩ : ∃ A1 E1, convS ro rc pc m rt 2 1 = (A1, E1) := ⟨_, _, rfl⟩
                            have HC1 : Hid (∀ W, Tab W tv rt → Calls Try.prog 36 #[.int .i64 ro, .int .i64 rc, .int .i64 pc, .int .i64 m, tv, .agg #[.int .i64 2, .int .i64 1]] W fun e w' => e = .returned (.tuple #[.int .i64 A1, .int .i64 E1]) ∧ Below W.heap.size W w') := Lib.hid (fun W hW => by have := ref_Convert ro rc pc m 2 1 tv rt W hW; rw [h1] at this; exact this)
                            have HQ1 := Lib.hid h1
                            clear h1
                            go_wp2_with fail
                            refine (HC1.out _ (HT4.out.below HB0.out)).mono ?_
                            rintro e w5 ⟨rfl, hb5⟩
                            have HB5 := Lib.hid (below_then HB0.out hb5)
                            have HC5 := Lib.hid (below_then HC0.out hb5)
                            have X5 := Lib.hid (X0.out.below hb5)
                            clear hb5 k0 k1 k2 k3 cP qP
                            have hs5 := HB5.out.size
                            by_cases d1 : E1 = 0
                            · subst d1
                              obtain ⟨S, hS⟩ : ∃ S, min left A1 = S := ⟨_, rfl⟩
                              have hS2 : min A1 left = S := by rw [← hS]; exact Int.min_comm _ _
                              have HS := Lib.hid hS2
                              clear hS2
                              obtain ⟨A2, E2, h2⟩ : ∃ A2 E2, convS S pc rc m rt 1 1 = (A2, E2) := ⟨_, _, rfl⟩
                              have HC2 : Hid (∀ W, Tab W tv rt → Calls Try.prog 36 #[.int .i64 S, .int .i64 pc, .int .i64 rc, .int .i64 m, tv, .agg #[.int .i64 1, .int .i64 1]] W fun e w' => e = .returned (.tuple #[.int .i64 A2, .int .i64 E2]) ∧ Below W.heap.size W w') := Lib.hid (fun W hW => by have := ref_Convert S pc rc m 1 1 tv rt W hW; rw [h2] at this; exact this)
                              have HQ2 := Lib.hid h2
                              clear h2
                              obtain ⟨K, hK⟩ : ∃ K, min ro A2 = K := ⟨_, rfl⟩
                              have hK2 : min A2 ro = K := by rw [← hK]; exact Int.min_comm _ _
                              have HK2 := Lib.hid hK2
                              clear hK2
                              obtain ⟨cX, qX⟩ := X5.out.of
                              obtain ⟨cP, qP⟩ := (BP4.out.below HB5.out).of
                              go_wp2_with fail
                              refine (HC2.out _ (HT4.out.below HB5.out)).mono ?_
                              rintro e w6 ⟨rfl, hb6⟩
                              have HB6 := Lib.hid (below_then HB5.out hb6)
                              have HC6 := Lib.hid (below_then HC5.out hb6)
                              have X6 := Lib.hid (X5.out.below hb6)
                              clear hb6 cX qX cP qP
                              have hs6 := HB6.out.size
                              obtain ⟨cX, qX⟩ := X6.out.of
                              obtain ⟨cP, qP⟩ := (BP4.out.below HB6.out).of
                              by_cases d2 : E2 = 0
                              · subst d2
                                by_cases d3 : K = 0
                                · have f3 : (K == 0) = true := beq_iff_eq.2 d3
                                  subst d3
                                  have HG := Lib.hid (offA_next (seen_yes HR.out rfl) HA.out (giveT_bad2 HQ1.out (by rw [HS.out]; exact HQ2.out) (.inr HK2.out)))
                                  have hbf := HB6.out
                                  go_wp2
                                  go_roundw
                                  case rel => exact ⟨i + 1, left, outl, A9, c9, by omega, by go_num, rfl, rfl, HG.out, own_below HO.out HC6.out, (by repeat (first | (with_reducible exact Below.refl _ _) | (with_reducible assumption) | (with_reducible refine below_drewN ?_ _) | (with_reducible refine Below.drew ?_) | (with_reducible refine Below.alloc ?_ ?_ _) | (with_reducible refine Below.setCell ?_ ?_ _) | exact Below.refl _ _ | assumption | (solve | omega | simp | (simp; omega))))⟩
                                  case measure => simp [intOf]; omega
                                · have f3 : (K == 0) = false := beq_eq_false_iff_ne.2 d3
                                  have HG : Hid (giveT ⟨ps, pc, pa, po⟩ rt m left ⟨(s : Int), rc, ra, ro⟩ = some ⟨ps, (s : Int), rc, S, K⟩) := Lib.hid (by have := giveT_yes (p := ⟨ps, pc, pa, po⟩) (x := ⟨(s : Int), rc, ra, ro⟩) (fun h => h.elim (fun e => t0 e) (fun e => t1 e)) HQ1.out (by rw [HS.out]; exact HQ2.out) (by rw [HK2.out]; exact d3); rw [HS.out, HK2.out] at this; exact this)
                                  have HNX : Hid (offA ⟨ps, pc, pa, po⟩ rt m (seen xs s (i + 1)) = (left - S, outl ++ [⟨ps, (s : Int), rc, S, K⟩])) := Lib.hid (offA_next2 (seen_yes HR.out rfl) HA.out HG.out)
                                  have hSb : 1 ≤ S ∧ S ≤ left := (giveT_bd HOK.out hl0 HG.out).2.2.2.2.1
                                  have HO2 := Lib.hid (own_below HO.out HC6.out)
                                  go_wp2_with (at_builtin; go_loud (refine wpList_append_own _ rfl _ _ 38 rfl w4.heap.size 44 i0 (.agg #[.int .i64 0, .int .i64 0, .int .i64 0, .int .i64 0, .int .i64 0]) 5 40 Try.underlying38 hi hz0 hz1 hz2 rfl (by decide) _ _ _ rfl (HO2.out.alloc _) ⟨w6.heap.size, 0, none⟩ 1 1 [.int .i64 ps, .int .i64 (s : Int), .int .i64 rc, .int .i64 S, .int .i64 K] rfl rfl ?c1 ?c2 ?c3 ?c4 ?c5 ?_))
                                  case c1 =>
                                    intro j u hj
                                    match j, hj with
                                    | 0, hj => simp at hj; subst hj; simp [Addr.add]
                                    | 1, hj => simp at hj; subst hj; simp [Addr.add]
                                    | 2, hj => simp at hj; subst hj; simp [Addr.add]
                                    | 3, hj => simp at hj; subst hj; simp [Addr.add]
                                    | 4, hj => simp at hj; subst hj; simp [Addr.add]
                                    | j + 5, hj => simp at hj
                                  case c2 => first | exact ⟨rfl, rfl, rfl, rfl, rfl⟩ | (intro u hu; simp at hu; rcases hu with rfl | rfl | rfl | rfl | rfl <;> rfl)
                                  case c3 => (have := HOL.out); unfold maxLen; omega
                                  case c4 => (have := HOL.out); omega
                                  case c5 => first | omega | (simp; done) | (simp; omega)
                                  intro v7 w7 hown' hgrow _
                                  obtain ⟨A7, c7, rfl⟩ := own_slice hown'
                                  have HO7 : Hid (w7.ownsRow w4.heap.size 44 5 (.slice A7 (outl.length + 1) c7) (outl.length + 1) (trCells (outl ++ [⟨ps, (s : Int), rc, S, K⟩]))) := Lib.hid (by rw [trCells_snoc]; simpa using hown')
                                  have HB7 : Hid (Below w4.heap.size w4 w7) := Lib.hid ((HB6.out.alloc HB6.out.size _).grown hgrow (by simp; omega) (fun g hg => by
                                    rcases HO2.out.2 with ⟨h1, _⟩ | ⟨g', cap, cur, h1, hg', _⟩
                                    · rw [h1] at hg; simp [Value.ownBlock] at hg
                                    · rw [h1] at hg; simp [Value.ownBlock] at hg; omega))
                                  clear hown' hgrow
                                  have hs7 := HB7.out.size
                                  have v9 : IntKind.i64.wrap (left - S) = left - S := IntWalk.i64_in _ (by omega)
                                  have hbf := HB7.out
                                  go_wp2
                                  go_roundw
                                  case rel => exact ⟨i + 1, left - S, outl ++ [⟨ps, (s : Int), rc, S, K⟩], A7, c7, by omega, by go_num, rfl, by rw [List.length_append]; rfl, HNX.out, by rw [List.length_append]; exact HO7.out, (by repeat (first | (with_reducible exact Below.refl _ _) | (with_reducible assumption) | (with_reducible refine below_drewN ?_ _) | (with_reducible refine Below.drew ?_) | (with_reducible refine Below.alloc ?_ ?_ _) | (with_reducible refine Below.setCell ?_ ?_ _) | exact Below.refl _ _ | assumption | (solve | omega | simp | (simp; omega))))⟩
                                  case measure => simp [intOf]; omega
                              · have f2 : (E2 != 0) = true := by simpa using d2
                                have f2b : (E2 == 0) = false := beq_eq_false_iff_ne.2 d2
                                have HG := Lib.hid (offA_next (seen_yes HR.out rfl) HA.out (giveT_bad2 HQ1.out (by rw [HS.out]; exact HQ2.out) (.inl d2)))
                                have hbf := HB6.out
                                go_wp2
                                go_roundw
                                case rel => exact ⟨i + 1, left, outl, A9, c9, by omega, by go_num, rfl, rfl, HG.out, own_below HO.out HC6.out, (by repeat (first | (with_reducible exact Below.refl _ _) | (with_reducible assumption) | (with_reducible refine below_drewN ?_ _) | (with_reducible refine Below.drew ?_) | (with_reducible refine Below.alloc ?_ ?_ _) | (with_reducible refine Below.setCell ?_ ?_ _) | exact Below.refl _ _ | assumption | (solve | omega | simp | (simp; omega))))⟩
                                case measure => simp [intOf]; omega
                            · have f1 : (E1 != 0) = true := by simpa using d1
                              have HG := Lib.hid (offA_next (seen_yes HR.out rfl) HA.out (giveT_bad HQ1.out d1))
                              have hbf := HB5.out
                              go_wp2
                              go_roundw
                              case rel => exact ⟨i + 1, left, outl, A9, c9, by omega, by go_num, rfl, rfl, HG.out, own_below HO.out HC5.out, (by repeat (first | (with_reducible exact Below.refl _ _) | (with_reducible assumption) | (with_reducible refine below_drewN ?_ _) | (with_reducible refine Below.drew ?_) | (with_reducible refine Below.alloc ?_ ?_ _) | (with_reducible refine Below.setCell ?_ ?_ _) | exact Below.refl _ _ | assumption | (solve | omega | simp | (simp; omega))))⟩
                              case measure => simp [intOf]; omega
                      · have er : (rs != (s : Int)) = true := by simpa using hrs
                        have HG : Hid (offA ⟨ps, pc, pa, po⟩ rt m (seen xs s (i + 1)) = (left, outl)) := Lib.hid (by rw [seen_no HR.out hrs]; exact HA.out)
                        have hbf := HB.out
                        go_wp2
                        go_roundw
                        case rel => exact ⟨i + 1, left, outl, A9, c9, by omega, by go_num, rfl, rfl, HG.out, own_below HO.out ((Below.refl _ _).alloc (Nat.le_refl _) _), (by repeat (first | (with_reducible exact Below.refl _ _) | (with_reducible assumption) | (with_reducible refine below_drewN ?_ _) | (with_reducible refine Below.drew ?_) | (with_reducible refine Below.alloc ?_ ?_ _) | (with_reducible refine Below.setCell ?_ ?_ _) | exact Below.refl _ _ | assumption | (solve | omega | simp | (simp; omega))))⟩
                        case measure => simp [intOf]; omega
                    · obtain rfl : n = i := by omega
                      have hbf := HB.out
                      have HNX : Hid (offA ⟨ps, pc, pa, po⟩ rt m (upTo xs (s + 1)) = (left, outl)) := Lib.hid (by rw [← seen_all, HN.out]; exact HA.out)
                      go_wp2
                      go_roundw
                      case rel => exact ⟨s + 1, left, outl, A9, c9, by omega, by go_num, rfl, rfl, HNX.out, HO.out, (by repeat (first | (with_reducible exact Below.refl _ _) | (with_reducible assumption) | (with_reducible refine below_drewN ?_ _) | (with_reducible refine Below.drew ?_) | (with_reducible refine Below.alloc ?_ ?_ _) | (with_reducible refine Below.setCell ?_ ?_ _) | exact Below.refl _ _ | assumption | (solve | omega | simp | (simp; omega))))⟩
                      case measure => simp [intOf]; omega
                · obtain rfl : s = 6 := by omega
                  have hbf := HB.out
                  have HF := Lib.hid (offR_yes (p := ⟨ps, pc, pa, po⟩) (xs := xs) (l := rt) (m := m) HP.out HM.out HCK0.out HGX.out)
                  have HFA : Hid ((offA ⟨ps, pc, pa, po⟩ rt m (srt xs)).2 = outl) := Lib.hid (by show (offA _ rt m (upTo xs 6)).2 = _; rw [HA.out])
                  go_wp2
                  go_ret2
                  exact ⟨_, by rw [HF.out]; rfl, by rw [HF.out]; simp only; rw [HFA.out]; exact TrTab.own HO.out rfl, below_then HB4.out (by exact (by repeat (first | (with_reducible exact Below.refl _ _) | (with_reducible assumption) | (with_reducible refine below_drewN ?_ _) | (with_reducible refine Below.drew ?_) | (with_reducible refine Below.alloc ?_ ?_ _) | (with_reducible refine Below.setCell ?_ ?_ _) | exact Below.refl _ _ | assumption | (solve | omega | simp | (simp; omega)))))⟩
      · have HCK := Lib.hid hck
        have HNF : Hid (okS ⟨ps, pc, pa, po⟩ = false ∨ inB 0 2399 m = false ∨ chkS rt ≠ 0 ∨ ¬ GoodS xs) := Lib.hid (.inr (.inr (.inl ck)))
        clear hck
        have d0 : (chkS rt == 0) = false := beq_eq_false_iff_ne.2 ck
        clear ck
        go_wp2_with fail
        refine (HCK.out).mono ?_
        rintro e w2 ⟨rfl, hb2⟩
        have HB2 := Lib.hid (below_then HB1.out hb2)
        clear hb2
        go_wp2
        go_loopw [10, 11] (fun s10 i wr => ∃ (k : Nat), k ≤ n ∧ i = .int .i64 k ∧ s10 = .bool false ∧ Below w2.heap.size w2 wr) (fun _ i _ => n - (intOf i).toNat)
        case atStart => exact ⟨0, Nat.zero_le _, rfl, rfl, Below.refl _ _⟩
        case round =>
          obtain ⟨k, hk, rfl, rfl, hbl⟩ := hrel
          have HB := Lib.hid hbl
          have hsz := hbl.size
          clear hbl
          by_cases hlt : k < n
          · have i2 : (k : Int) < (n : Int) := by omega
            have hB := HB.out
            go_wp2
            go_loopw [10, 12] (fun s10 i wr => ∃ (j : Nat), j ≤ k ∧ i = .int .i64 j ∧ s10 = .bool false ∧ Below w2.heap.size w2 wr) (fun _ i _ => k - (intOf i).toNat)
            case atStart => exact ⟨0, Nat.zero_le _, rfl, rfl, (by repeat (first | (with_reducible exact Below.refl _ _) | (with_reducible assumption) | (with_reducible refine below_drewN ?_ _) | (with_reducible refine Below.drew ?_) | (with_reducible refine Below.alloc ?_ ?_ _) | (with_reducible refine Below.setCell ?_ ?_ _) | exact Below.refl _ _ | assumption | (solve | omega | simp | (simp; omega))))⟩
            case round =>
              obtain ⟨j, hj, rfl, rfl, hbl2⟩ := hrel
              have HBL2 := Lib.hid hbl2
              have hsz2 := hbl2.size
              clear hbl2
              by_cases hjk : j < k
              · have cj : decide ((j : Int) < (k : Int)) = true := decide_eq_true (by omega)
                have hbf := HBL2.out
                go_wp2
                go_quiet (fail)
                go_wp2
                go_roundw
                case rel => exact ⟨j + 1, by omega, by go_num, rfl, (by repeat (first | (with_reducible exact Below.refl _ _) | (with_reducible assumption) | (with_reducible refine below_drewN ?_ _) | (with_reducible refine Below.drew ?_) | (with_reducible refine Below.alloc ?_ ?_ _) | (with_reducible refine Below.setCell ?_ ?_ _) | exact Below.refl _ _ | assumption | (solve | omega | simp | (simp; omega))))⟩
                case measure => simp [intOf]; omega
              · obtain rfl : k = j := by omega
                have cj : decide ((k : Int) < (k : Int)) = false := decide_eq_false (by omega)
                have hbf := HBL2.out
                go_wp2
                go_roundw
                case rel => exact ⟨k + 1, by omega, by go_num, rfl, (by repeat (first | (with_reducible exact Below.refl _ _) | (with_reducible assumption) | (with_reducible refine below_drewN ?_ _) | (with_reducible refine Below.drew ?_) | (with_reducible refine Below.alloc ?_ ?_ _) | (with_reducible refine Below.setCell ?_ ?_ _) | exact Below.refl _ _ | assumption | (solve | omega | simp | (simp; omega))))⟩
                case measure => simp [intOf]; omega
          · obtain rfl : n = k := by omega
            have hB := HB.out
            have HF := Lib.hid (offR_no (p := ⟨ps, pc, pa, po⟩) (xs := xs) (l := rt) (m := m) HNF.out)
            go_wp2
            go_ret2
            exact ⟨_, by rw [HF.out]; rfl, by rw [HF.out]; exact .inl ⟨_, _, rfl, rfl⟩, below_then HB2.out (by exact (by repeat (first | (with_reducible exact Below.refl _ _) | (with_reducible assumption) | (with_reducible refine below_drewN ?_ _) | (with_reducible refine Below.drew ?_) | (with_reducible refine Below.alloc ?_ ?_ _) | (with_reducible refine Below.setCell ?_ ?_ _) | exact Below.refl _ _ | assumption | (solve | omega | simp | (simp; omega)))))⟩
    · rw [hm] at hmo
      have HMO := Lib.hid hmo
      have HNF : Hid (okS ⟨ps, pc, pa, po⟩ = false ∨ inB 0 2399 m = false ∨ chkS rt ≠ 0 ∨ ¬ GoodS xs) := Lib.hid (.inr (.inl hm))
      clear hmo hm
      go_wp2_with fail
      refine (HMO.out _).mono ?_
      rintro e _ ⟨rfl, rfl⟩
      obtain ⟨w2, hw2⟩ : ∃ w2, w2 = w1 := ⟨_, rfl⟩
      subst hw2
      have HB2 := HB1
      go_wp2
      go_loopw [10, 11] (fun s10 i wr => ∃ (k : Nat), k ≤ n ∧ i = .int .i64 k ∧ s10 = .bool false ∧ Below w2.heap.size w2 wr) (fun _ i _ => n - (intOf i).toNat)
      case atStart => exact ⟨0, Nat.zero_le _, rfl, rfl, Below.refl _ _⟩
      case round =>
        obtain ⟨k, hk, rfl, rfl, hbl⟩ := hrel
        have HB := Lib.hid hbl
        have hsz := hbl.size
        clear hbl
        by_cases hlt : k < n
        · have i2 : (k : Int) < (n : Int) := by omega
          have hB := HB.out
          go_wp2
          go_loopw [10, 12] (fun s10 i wr => ∃ (j : Nat), j ≤ k ∧ i = .int .i64 j ∧ s10 = .bool false ∧ Below w2.heap.size w2 wr) (fun _ i _ => k - (intOf i).toNat)
          case atStart => exact ⟨0, Nat.zero_le _, rfl, rfl, (by repeat (first | (with_reducible exact Below.refl _ _) | (with_reducible assumption) | (with_reducible refine below_drewN ?_ _) | (with_reducible refine Below.drew ?_) | (with_reducible refine Below.alloc ?_ ?_ _) | (with_reducible refine Below.setCell ?_ ?_ _) | exact Below.refl _ _ | assumption | (solve | omega | simp | (simp; omega))))⟩
          case round =>
            obtain ⟨j, hj, rfl, rfl, hbl2⟩ := hrel
            have HBL2 := Lib.hid hbl2
            have hsz2 := hbl2.size
            clear hbl2
            by_cases hjk : j < k
            · have cj : decide ((j : Int) < (k : Int)) = true := decide_eq_true (by omega)
              have hbf := HBL2.out
              go_wp2
              go_quiet (fail)
              go_wp2
              go_roundw
              case rel => exact ⟨j + 1, by omega, by go_num, rfl, (by repeat (first | (with_reducible exact Below.refl _ _) | (with_reducible assumption) | (with_reducible refine below_drewN ?_ _) | (with_reducible refine Below.drew ?_) | (with_reducible refine Below.alloc ?_ ?_ _) | (with_reducible refine Below.setCell ?_ ?_ _) | exact Below.refl _ _ | assumption | (solve | omega | simp | (simp; omega))))⟩
              case measure => simp [intOf]; omega
            · obtain rfl : k = j := by omega
              have cj : decide ((k : Int) < (k : Int)) = false := decide_eq_false (by omega)
              have hbf := HBL2.out
              go_wp2
              go_roundw
              case rel => exact ⟨k + 1, by omega, by go_num, rfl, (by repeat (first | (with_reducible exact Below.refl _ _) | (with_reducible assumption) | (with_reducible refine below_drewN ?_ _) | (with_reducible refine Below.drew ?_) | (with_reducible refine Below.alloc ?_ ?_ _) | (with_reducible refine Below.setCell ?_ ?_ _) | exact Below.refl _ _ | assumption | (solve | omega | simp | (simp; omega))))⟩
              case measure => simp [intOf]; omega
        · obtain rfl : n = k := by omega
          have hB := HB.out
          have HF := Lib.hid (offR_no (p := ⟨ps, pc, pa, po⟩) (xs := xs) (l := rt) (m := m) HNF.out)
          go_wp2
          go_ret2
          exact ⟨_, by rw [HF.out]; rfl, by rw [HF.out]; exact .inl ⟨_, _, rfl, rfl⟩, below_then HB2.out (by exact (by repeat (first | (with_reducible exact Below.refl _ _) | (with_reducible assumption) | (with_reducible refine below_drewN ?_ _) | (with_reducible refine Below.drew ?_) | (with_reducible refine Below.alloc ?_ ?_ _) | (with_reducible refine Below.setCell ?_ ?_ _) | exact Below.refl _ _ | assumption | (solve | omega | simp | (simp; omega)))))⟩
  · rw [hp] at hva
    have HVA := Lib.hid hva
    have HP := Lib.hid hp
    clear hva
    go_wp2_with fail
    refine (HVA.out _).mono ?_
    rintro e w1 ⟨rfl, hb1⟩
    have HB1 := Lib.hid (below_then (w := w) (by repeat (first | (with_reducible exact Below.refl _ _) | (with_reducible assumption) | (with_reducible refine below_drewN ?_ _) | (with_reducible refine Below.drew ?_) | (with_reducible refine Below.alloc ?_ ?_ _) | (with_reducible refine Below.setCell ?_ ?_ _) | exact Below.refl _ _ | assumption | (solve | omega | simp | (simp; omega)))) hb1)
    have BP1 := Lib.hid ((Bx.made w 33 #[.int .i64 ps, .int .i64 pc, .int .i64 pa, .int .i64 po] rfl).below hb1)
    clear hb1 hp
    have HNF : Hid (okS ⟨ps, pc, pa, po⟩ = false ∨ inB 0 2399 m = false ∨ chkS rt ≠ 0 ∨ ¬ GoodS xs) := Lib.hid (.inl HP.out)
    obtain ⟨w2, hw2⟩ : ∃ w2, w2 = w1 := ⟨_, rfl⟩
    subst hw2
    have HB2 := HB1
    go_wp2
    go_loopw [10, 11] (fun s10 i wr => ∃ (k : Nat), k ≤ n ∧ i = .int .i64 k ∧ s10 = .bool false ∧ Below w2.heap.size w2 wr) (fun _ i _ => n - (intOf i).toNat)
    case atStart => exact ⟨0, Nat.zero_le _, rfl, rfl, Below.refl _ _⟩
    case round =>
      obtain ⟨k, hk, rfl, rfl, hbl⟩ := hrel
      have HB := Lib.hid hbl
      have hsz := hbl.size
      clear hbl
      by_cases hlt : k < n
      · have i2 : (k : Int) < (n : Int) := by omega
        have hB := HB.out
        go_wp2
        go_loopw [10, 12] (fun s10 i wr => ∃ (j : Nat), j ≤ k ∧ i = .int .i64 j ∧ s10 = .bool false ∧ Below w2.heap.size w2 wr) (fun _ i _ => k - (intOf i).toNat)
        case atStart => exact ⟨0, Nat.zero_le _, rfl, rfl, (by repeat (first | (with_reducible exact Below.refl _ _) | (with_reducible assumption) | (with_reducible refine below_drewN ?_ _) | (with_reducible refine Below.drew ?_) | (with_reducible refine Below.alloc ?_ ?_ _) | (with_reducible refine Below.setCell ?_ ?_ _) | exact Below.refl _ _ | assumption | (solve | omega | simp | (simp; omega))))⟩
        case round =>
          obtain ⟨j, hj, rfl, rfl, hbl2⟩ := hrel
          have HBL2 := Lib.hid hbl2
          have hsz2 := hbl2.size
          clear hbl2
          by_cases hjk : j < k
          · have cj : decide ((j : Int) < (k : Int)) = true := decide_eq_true (by omega)
            have hbf := HBL2.out
            go_wp2
            go_quiet (fail)
            go_wp2
            go_roundw
            case rel => exact ⟨j + 1, by omega, by go_num, rfl, (by repeat (first | (with_reducible exact Below.refl _ _) | (with_reducible assumption) | (with_reducible refine below_drewN ?_ _) | (with_reducible refine Below.drew ?_) | (with_reducible refine Below.alloc ?_ ?_ _) | (with_reducible refine Below.setCell ?_ ?_ _) | exact Below.refl _ _ | assumption | (solve | omega | simp | (simp; omega))))⟩
            case measure => simp [intOf]; omega
          · obtain rfl : k = j := by omega
            have cj : decide ((k : Int) < (k : Int)) = false := decide_eq_false (by omega)
            have hbf := HBL2.out
            go_wp2
            go_roundw
            case rel => exact ⟨k + 1, by omega, by go_num, rfl, (by repeat (first | (with_reducible exact Below.refl _ _) | (with_reducible assumption) | (with_reducible refine below_drewN ?_ _) | (with_reducible refine Below.drew ?_) | (with_reducible refine Below.alloc ?_ ?_ _) | (with_reducible refine Below.setCell ?_ ?_ _) | exact Below.refl _ _ | assumption | (solve | omega | simp | (simp; omega))))⟩
            case measure => simp [intOf]; omega
      · obtain rfl : n = k := by omega
        have hB := HB.out
        have HF := Lib.hid (offR_no (p := ⟨ps, pc, pa, po⟩) (xs := xs) (l := rt) (m := m) HNF.out)
        go_wp2
        go_ret2
        exact ⟨_, by rw [HF.out]; rfl, by rw [HF.out]; exact .inl ⟨_, _, rfl, rfl⟩, below_then HB2.out (by exact (by repeat (first | (with_reducible exact Below.refl _ _) | (with_reducible assumption) | (with_reducible refine below_drewN ?_ _) | (with_reducible refine Below.drew ?_) | (with_reducible refine Below.alloc ?_ ?_ _) | (with_reducible refine Below.setCell ?_ ?_ _) | exact Below.refl _ _ | assumption | (solve | omega | simp | (simp; omega)))))⟩
end Go.Proofs.Ytaifacnpnhcdcaa
