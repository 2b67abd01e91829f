/- A part of the walk. -/
import Derived.Test.YtncgbpajngakpaaFlowRef
namespace Go.Proofs.Ytncgbpajngakpaa
open Go Go.Proofs.Ytncgbpajngakpaa.Ev
set_option linter.unusedVariables false
set_option linter.unusedSimpArgs false
set_option linter.unnecessarySimpa false
/-- The next number of a list, over and over, brought into bounds. -/
def nextV (l : List Int) (i most : Int) : Int := if l = [] then 0 else within (w64 (l.getD (i % (l.length : Int)).toNat 0 + i)) 0 most
theorem nextV_le (l : List Int) (i : Int) {most : Int} (h : 0 ≤ most) : 0 ≤ nextV l i most ∧ nextV l i most ≤ most := by
  unfold nextV
  split
  · omega
  · exact within_le h
/-! cascade/cascadelaw17.work$1 -/
noncomputable def N23 : RoadF := ⟨T18.tab, 23, ⟨[.int .i64, .ptr 0 0 0, .ptr 1 0 0], [.cells [.ints .i64], .cells [.int .i64]]⟩, ⟨[.int .i64], [.cells [.ints .i64], .cells [.int .i64]]⟩, []⟩
noncomputable def t23 (m : Nat) : Int × List Int × Int → Option (List Un) := fun (a0, a1, a2) =>
  bif (decide ((a1.length : Int) > 0)) then
   chkn (decide ((a1.length : Int) = 0)) <|
   lt ((a2.tmod (a1.length : Int)) : Int) fun x2 =>
   chk (inb x2 a1.length) <|
   chk (decide (x2.toNat < a1.length)) <|
   bif decide (-2305843009213693952 ≤ 0 ∧ 0 ≤ a0 ∧ a0 ≤ 2305843009213693952) then
    some ([.i (within (w64 ((a1.getD x2.toNat 0) + a2)) 0 a0), .l a1, .i (w64 (a2 + 1))])
   else
    none
  else
   some ([.i 0, .l a1, .i (w64 (a2 + 1))])
noncomputable def f23 : Int × List Int × Int → Bool × List Un := fun (a0, a1, a2) => (decide ((0 : Int) ≤ a0 ∧ a0 ≤ (1000000 : Int) ∧ (0 : Int) ≤ a2 ∧ a2 ≤ (1000000 : Int)), [.i (nextV a1 a2 a0), .l (a1), .i (a2 + 1)])
theorem spec23 (a0 : Int) (a1 : List Int) (a2 : Int) (hc : (decide ((0 : Int) ≤ a0 ∧ a0 ≤ (1000000 : Int) ∧ (0 : Int) ≤ a2 ∧ a2 ≤ (1000000 : Int))) = true) : ∃ m, t23 m (a0, a1, a2) = some ([.i (nextV a1 a2 a0), .l (a1), .i (a2 + 1)]) := by
  obtain ⟨h0, h1, h2, h3⟩ := of_decide_eq_true hc
  refine ⟨0, ?_⟩
  unfold t23 nextV
  cases a1 with
  | nil => simp [wrap_id (n := a2 + 1) (by omega) (by omega)]
  | cons x l =>
    have e := Int.emod_nonneg a2 (show ((x :: l).length : Int) ≠ 0 by simp; omega)
    have e2 := Int.emod_lt_of_pos a2 (show (0 : Int) < ((x :: l).length : Int) by simp)
    rw [if_neg (by simp)]
    dsimp only
    rw [wrap_id (n := a2 + 1) (by omega) (by omega)]
    simp only [tm _ h2]
    generalize a2 % _ = z at *
    simp (disch := omega) only [lt_eq, chk_dec, chk_tt, chk_and, chk_inb, chk_fits, chk_make, chkn_dec, cond_dt, cond_df, cond_bt, cond_bf, cond_nt, cond_nf, cond_not, cond_and, cond_or, cond_tt, cond_ff, wrap_id, min_if', max_if']
theorem right23 : ER 23 (mkE N23.en N23.ex f23) := right_of KN_none T18.right (fun m => []) (t := t23) (by kernel_rfl) (fun m => all0) (fun m a => by kernel_rfl) fun (a0, a1, a2) hc => spec23 a0 a1 a2 hc
noncomputable def T23 : Tb Try.prog LQ TE := T18.add 23 _ right23
def claimN (l : List Int) (i : Nat) : Dat := .r [.n (nextV l (5 + 3 * (i : Int)) 3), .n (nextV l (6 + 3 * (i : Int)) 4000), .n (nextV l (7 + 3 * (i : Int)) 400)]
/-- The claims of a work made of numbers. -/
def workC (l : List Int) : List Dat := (List.range (1 + nextV l 4 5).toNat).map (claimN l)
/-! cascade/cascadelaw17.work -/
noncomputable def N15 : RoadF := ⟨T23.tab, 15, ⟨[.ints .i64], []⟩, ⟨[.agg [.int .i64, .int .i64, .int .i64, .int .i64, .buf 0 3], .agg [.int .i64, .int .i64, .int .i64, .int .i64, .buf 1 3]], [.recs [.int .i64, .int .i64, .int .i64], .recs [.int .i64, .int .i64, .int .i64]]⟩, []⟩
abbrev A15_0 : Type := Int × Int × Int × Int × Int × Int × Int × Int × Int × Int × List Int × Int × Int × Int × Int × Int × Int × Int × Int × Int × List Dat × List Dat × List Dat × List Dat
noncomputable def L15_0s (m : Nat) (k : A15_0 → Option (List Un)) : A15_0 → Option (List Un) := fun (a0, a1, a2, a3, a4, a5, a6, a7, a8, a9, a10, a11, a12, a13, a14, a15, a16, a17, a18, a19, a20, a21, a22, a23) =>
  bif decide (a1 < a0) then
   chk (decide ((0 : Int) ≤ 3 ∧ 3 ≤ (1000000 : Int) ∧ (0 : Int) ≤ a11 ∧ a11 ≤ (1000000 : Int))) <|
   chk (decide ((0 : Int) ≤ 4000 ∧ 4000 ≤ (1000000 : Int) ∧ (0 : Int) ≤ (a11 + 1) ∧ (a11 + 1) ≤ (1000000 : Int))) <|
   lt ((nextV a10 (a11 + 1) 4000) : Int) fun x5 =>
   chk (decide ((0 : Int) ≤ 400 ∧ 400 ≤ (1000000 : Int) ∧ (0 : Int) ≤ ((a11 + 1) + 1) ∧ ((a11 + 1) + 1) ≤ (1000000 : Int))) <|
   lt ((nextV a10 ((a11 + 1) + 1) 400) : Int) fun x6 =>
   chk (fits (a22.length + 1) 24) <|
   chk (fits (a23.length + 1) 24) <|
   k (a0, (w64 (a1 + 1)), a2, a3, a4, a5, a6, a7, a8, a9, a10, (((a11 + 1) + 1) + 1), a12, a13, a14, a15, a16, a17, a18, a19, a20, a21, (a22 ++ ([.r [.n (nextV a10 a11 3), .n x5, .n x6]])), (a23 ++ ([.r [.n (nextV a10 a11 3), .n x5, .n x6]])))
  else
   some ([.i a12, .i a13, .i a14, .i a15, .i a16, .i a17, .i a18, .i a19, .d a22, .d a23])
noncomputable def L15_0 (m : Nat) : Nat → A15_0 → Option (List Un) := iterA (L15_0s m)
theorem L15_0_succ (m : Nat) (n : Nat) : L15_0 m (n + 1) = L15_0s m (L15_0 m n) := rfl
noncomputable def S15_0 (F : A15_0 → Option (List Un)) : StopS := ⟨[.lp [0, 1, 0, 1, 1, 1, 1, 1], .blk 0, .code [1, 1, 1, 1, 1, 1]], ⟨frm 55 [(2, .ptr 0 0 0), (3, .ptr 1 0 0), (5, .fn 23 [] [.ptr 2 0 0, .ptr 3 0 0]), (6, .ptr 4 0 0), (7, .ptr 5 0 0), (30, .int .i64), (31, .int .i64)], [.cells [.int .i64, .int .i64, .int .i64, .int .i64, .buf 6 3], .cells [.int .i64, .int .i64, .int .i64, .int .i64, .buf 7 3], .cells [.ints .i64], .cells [.int .i64], .cells [.int .i64, .int .i64, .int .i64, .int .i64, .buf 8 3], .cells [.int .i64, .int .i64, .int .i64, .int .i64, .buf 9 3], .recs [.int .i64, .int .i64, .int .i64], .recs [.int .i64, .int .i64, .int .i64], .recs [.int .i64, .int .i64, .int .i64], .recs [.int .i64, .int .i64, .int .i64]]⟩, onU F⟩
theorem H15_0 (m : Nat) : ∀ n, HO N15 (S15_0 (L15_0 m n)) := loop_holds KN_none T23.right (fun k => [S15_0 k]) (fun k h => (all1 h all0)) fun k a => by kernel_rfl
noncomputable def t15 (m : Nat) : List Int → Option (List Un) := fun a0 =>
  chk (decide ((0 : Int) ≤ 300 ∧ 300 ≤ (1000000 : Int) ∧ (0 : Int) ≤ 0 ∧ 0 ≤ (1000000 : Int))) <|
  chk (decide ((0 : Int) ≤ 900 ∧ 900 ≤ (1000000 : Int) ∧ (0 : Int) ≤ (0 + 1) ∧ (0 + 1) ≤ (1000000 : Int))) <|
  chk (decide ((0 : Int) ≤ 5000 ∧ 5000 ≤ (1000000 : Int) ∧ (0 : Int) ≤ ((0 + 1) + 1) ∧ ((0 + 1) + 1) ≤ (1000000 : Int))) <|
  lt ((nextV a0 ((0 + 1) + 1) 5000) : Int) fun x1 =>
  chk (decide ((0 : Int) ≤ 700 ∧ 700 ≤ (1000000 : Int) ∧ (0 : Int) ≤ (((0 + 1) + 1) + 1) ∧ (((0 + 1) + 1) + 1) ≤ (1000000 : Int))) <|
  lt ((nextV a0 (((0 + 1) + 1) + 1) 700) : Int) fun x2 =>
  lt (((((0 + 1) + 1) + 1) + 1) : Int) fun x3 =>
  chk (decide ((0 : Int) ≤ 5 ∧ 5 ≤ (1000000 : Int) ∧ (0 : Int) ≤ x3 ∧ x3 ≤ (1000000 : Int))) <|
  L15_0 m m ((w64 (1 + (nextV a0 x3 5))), 0, 0, 0, 0, 0, 0, 0, 0, 0, a0, (x3 + 1), (nextV a0 0 300), (nextV a0 (0 + 1) 900), x1, x2, (nextV a0 0 300), (nextV a0 (0 + 1) 900), x1, x2, [], [], [], [])
theorem workL (m : Nat) (l : List Int) (y1 y2 y3 y4 y5 y6 y7 y8 x1 x2 x3 x4 x5 x6 x7 x8 : Int) (d1 d2 : List Dat) : ∀ (c i n : Nat), i + c = (1 + nextV l 4 5).toNat → c < n →
    L15_0 m n (1 + nextV l 4 5, (i : Int), y1, y2, y3, y4, y5, y6, y7, y8, l, 5 + 3 * (i : Int), x1, x2, x3, x4, x5, x6, x7, x8, d1, d2, (List.range i).map (claimN l), (List.range i).map (claimN l)) = some [.i x1, .i x2, .i x3, .i x4, .i x5, .i x6, .i x7, .i x8, .d (workC l), .d (workC l)] := by
  intro c
  induction c with
  | zero =>
    intro i n hi hn
    obtain ⟨n, rfl⟩ := one_more n (by omega)
    have hq := nextV_le l 4 (show (0 : Int) ≤ 5 by decide)
    rw [L15_0_succ]; unfold L15_0s; dsimp only
    rw [cond_df (by omega)]
    unfold workC
    rw [← hi]; rfl
  | succ c ih =>
    intro i n hi hn
    obtain ⟨n, rfl⟩ := one_more n (by omega)
    have hq := nextV_le l 4 (show (0 : Int) ≤ 5 by decide)
    have := ih (i + 1) n (by omega) (by omega)
    rw [List.range_succ, List.map_append] at this
    rw [L15_0_succ]; unfold L15_0s; dsimp only
    rw [show 5 + 3 * ((i + 1 : Nat) : Int) = 5 + 3 * (i : Int) + 1 + 1 + 1 by omega] at this
    simp only [List.map_cons, List.map_nil, claimN] at this
    rw [show 6 + 3 * (i : Int) = 5 + 3 * (i : Int) + 1 by omega, show 7 + 3 * (i : Int) = 5 + 3 * (i : Int) + 1 + 1 by omega] at this
    simp (disch := omega) only [lt_eq, chk_dec, chk_tt, chk_and, chk_inb, chk_fits, chk_make, chkn_dec, cond_dt, cond_df, cond_bt, cond_bf, cond_nt, cond_nf, cond_not, cond_and, cond_or, cond_tt, cond_ff, wrap_id, min_if', max_if', List.length_map, List.length_range]
    simp only [Int.natCast_add, Int.cast_ofNat_Int] at this
    exact this
noncomputable def f15 : List Int → Bool × List Un := fun a0 => (true, [.i (nextV a0 0 300), .i (nextV a0 1 900), .i (nextV a0 2 5000), .i (nextV a0 3 700), .i (nextV a0 0 300), .i (nextV a0 1 900), .i (nextV a0 2 5000), .i (nextV a0 3 700), .d (workC a0), .d (workC a0)])
theorem spec15 (a0 : List Int) : ∃ m, t15 m a0 = some ([.i (nextV a0 0 300), .i (nextV a0 1 900), .i (nextV a0 2 5000), .i (nextV a0 3 700), .i (nextV a0 0 300), .i (nextV a0 1 900), .i (nextV a0 2 5000), .i (nextV a0 3 700), .d (workC a0), .d (workC a0)]) := by
  have hq := nextV_le a0 4 (show (0 : Int) ≤ 5 by decide)
  refine ⟨10, ?_⟩
  have := workL 10 a0 0 0 0 0 0 0 0 0 (nextV a0 0 300) (nextV a0 1 900) (nextV a0 2 5000) (nextV a0 3 700) (nextV a0 0 300) (nextV a0 1 900) (nextV a0 2 5000) (nextV a0 3 700) [] [] (1 + nextV a0 4 5).toNat 0 10 (by omega) (by omega)
  unfold t15
  simp only [Int.zero_add, Int.reduceAdd, lt_eq]
  rw [wrap_id (by omega) (by omega)]
  exact this
theorem right15 : ER 15 (mkE N15.en N15.ex f15) := right_of KN_none T23.right (fun m => [S15_0 (L15_0 m m)]) (t := t15) (by kernel_rfl) (fun m => (all1 (H15_0 m m) all0)) (fun m a => by kernel_rfl) fun a0 hc => spec15 a0
noncomputable def T15 : Tb Try.prog LQ TE := T23.add 15 _ right15
theorem workC_len (l : List Int) : 1 ≤ (workC l).length ∧ (workC l).length ≤ 6 := by
  have hq := nextV_le l 4 (show (0 : Int) ≤ 5 by decide)
  simp [workC]; omega
theorem workC_mem (l : List Int) : ∀ d ∈ workC l, rowOk 3 d = true ∧ (0 ≤ d.i 0 ∧ d.i 0 ≤ 3) ∧ (0 ≤ d.i 1 ∧ d.i 1 ≤ 4000) ∧ (0 ≤ d.i 2 ∧ d.i 2 ≤ 400) := by
  simp only [workC, List.mem_map]
  rintro d ⟨i, _, rfl⟩
  exact ⟨rfl, nextV_le l _ (by decide), nextV_le l _ (by decide), nextV_le l _ (by decide)⟩
theorem workC_ok (l : List Int) : claimsG (workC l) = true := by
  refine claimsG_of (by have := workC_len l; omega) fun d hd => ?_
  obtain ⟨h1, h2, h3, h4⟩ := workC_mem l d hd
  simp only [claimG, h1, Bool.true_and]
  exact decide_eq_true (by omega)
/-- A work made of numbers, and so much cash. -/
def workR (l : List Int) (cash : Int) : RunN := ⟨cash, nextV l 0 300, nextV l 1 900, nextV l 2 5000, nextV l 3 700⟩
theorem workR_ok (l : List Int) {cash : Int} (h : 0 ≤ cash ∧ cash ≤ 1000000) : runG (workR l cash) = true := by
  have h1 := nextV_le l 0 (show (0 : Int) ≤ 300 by decide)
  have h2 := nextV_le l 1 (show (0 : Int) ≤ 900 by decide)
  have h3 := nextV_le l 2 (show (0 : Int) ≤ 5000 by decide)
  have h4 := nextV_le l 3 (show (0 : Int) ≤ 700 by decide)
  exact decide_eq_true (by simp only [workR]; omega)
/-! slices.IndexFunc[[]int,int] -/
noncomputable def N35 : RoadF := ⟨T15.tab, 35, ⟨[.ints .i64, .fn 21 [] []], []⟩, ⟨[.int .i64], []⟩, []⟩
abbrev A35_0 : Type := List Int × Int × Int
noncomputable def L35_0s (m : Nat) (k : A35_0 → Option (List Un)) : A35_0 → Option (List Un) := fun (a0, a1, a2) =>
  bif decide (a2 < a1) then
   chk (inb a2 a0.length) <|
   chk (decide (a2.toNat < a0.length)) <|
   bif (decide ((a0.getD a2.toNat 0) < 0)) then
    some ([.i a2])
   else
    bif (decide ((a0.getD a2.toNat 0) > 1125899906842624)) then
     some ([.i a2])
    else
     k (a0, a1, (w64 (a2 + 1)))
  else
   some ([.i (-1)])
noncomputable def L35_0 (m : Nat) : Nat → A35_0 → Option (List Un) := iterA (L35_0s m)
theorem L35_0_succ (m : Nat) (n : Nat) : L35_0 m (n + 1) = L35_0s m (L35_0 m n) := rfl
noncomputable def S35_0 (F : A35_0 → Option (List Un)) : StopS := ⟨[.lp [0, 1, 0, 1], .blk 0, .code [1, 1]], ⟨frm 19 [(0, .ints .i64), (1, .fn 21 [] []), (7, .int .i64), (8, .int .i64)], []⟩, onU F⟩
theorem H35_0 (m : Nat) : ∀ n, HO N35 (S35_0 (L35_0 m n)) := loop_holds KN_none T15.right (fun k => [S35_0 k]) (fun k h => (all1 h all0)) fun k a => by kernel_rfl
noncomputable def t35 (m : Nat) : List Int → Option (List Un) := fun a0 =>
  L35_0 m m (a0, (a0.length : Int), 0)
theorem idxfL (m : Nat) : ∀ (rest pre : List Int) (n : Nat), rest.length < n → (pre ++ rest).length < 1000000 → (∀ x ∈ rest, 0 ≤ x ∧ x ≤ 1125899906842624) →
    L35_0 m n (pre ++ rest, ((pre ++ rest).length : Int), (pre.length : Int)) = some [.i (-1)] := by
  intro rest
  induction rest with
  | nil =>
    intro pre n hn hl hx
    obtain ⟨n, rfl⟩ := one_more n (by simp at hn; omega)
    rw [L35_0_succ]; unfold L35_0s; dsimp only
    simp [cond_df]
  | cons x rest ih =>
    intro pre n hn hl hx
    obtain ⟨n, rfl⟩ := one_more n (by simp at hn; omega)
    simp only [List.length_cons, List.length_append] at hn hl
    have h0 := hx x (by simp)
    have := ih (pre ++ [x]) n (by omega) (by simp; omega) (fun y hy => hx y (by simp [hy]))
    rw [L35_0_succ]; unfold L35_0s; dsimp only
    simp (disch := omega) only [lt_eq, chk_dec, chk_tt, chk_and, chk_inb, chk_fits, chk_make, chkn_dec, cond_dt, cond_df, cond_bt, cond_bf, cond_nt, cond_nf, cond_not, cond_and, cond_or, cond_tt, cond_ff, wrap_id, min_if', max_if', List.length_append, List.length_cons, List.length_nil, List.length_replicate, List.length_set, List.length_map, List.length_range, Int.natCast_add, Int.cast_ofNat_Int, Int.toNat_natCast, Int.add_assoc, Nat.zero_add, Int.zero_add, List.append_assoc, List.cons_append, List.nil_append, getD_mid]
    simp only [List.length_append, List.length_cons, List.length_nil, List.length_replicate, List.length_set, List.length_map, List.length_range, Int.natCast_add, Int.cast_ofNat_Int, Int.toNat_natCast, Int.add_assoc, Nat.zero_add, Int.zero_add, List.append_assoc, List.cons_append, List.nil_append] at this ⊢
    exact this
noncomputable def f35 : List Int → Bool × List Un := fun a0 => (decide (a0.length < 1000000) && a0.all fun x => decide (0 ≤ x ∧ x ≤ 1125899906842624), [.i ((-1))])
theorem spec35 (a0 : List Int) (hc : (decide (a0.length < 1000000) && a0.all fun x => decide (0 ≤ x ∧ x ≤ 1125899906842624)) = true) : ∃ m, t35 m a0 = some ([.i ((-1))]) := by
  simp only [Bool.and_eq_true, decide_eq_true_eq, List.all_eq_true] at hc
  exact ⟨a0.length + 1, idxfL _ a0 [] _ (by omega) (by simpa using hc.1) hc.2⟩
theorem right35 : ER 35 (mkE N35.en N35.ex f35) := right_of KN_none T15.right (fun m => [S35_0 (L35_0 m m)]) (t := t35) (by kernel_rfl) (fun m => (all1 (H35_0 m m) all0)) (fun m a => by kernel_rfl) fun a0 hc => spec35 a0 hc
noncomputable def T35 : Tb Try.prog LQ TE := T15.add 35 _ right35
/-! slices.ContainsFunc[[]int,int] -/
noncomputable def N22 : RoadF := ⟨T35.tab, 22, ⟨[.ints .i64, .fn 21 [] []], []⟩, ⟨[.bool], []⟩, []⟩
noncomputable def t22 (m : Nat) : List Int → Option (List Un) := fun a0 =>
  chk (decide (a0.length < 1000000) && a0.all fun x => decide (0 ≤ x ∧ x ≤ 1125899906842624)) <|
  some ([.b (decide ((-1) ≥ 0))])
noncomputable def f22 : List Int → Bool × List Un := fun a0 => (decide (a0.length < 1000000) && a0.all fun x => decide (0 ≤ x ∧ x ≤ 1125899906842624), [.b (false)])
theorem spec22 (a0 : List Int) (hc : (decide (a0.length < 1000000) && a0.all fun x => decide (0 ≤ x ∧ x ≤ 1125899906842624)) = true) : ∃ m, t22 m a0 = some ([.b (false)]) := by
  refine ⟨0, ?_⟩
  unfold t22
  rw [hc]
  rfl
theorem right22 : ER 22 (mkE N22.en N22.ex f22) := right_of KN_none T35.right (fun m => []) (t := t22) (by kernel_rfl) (fun m => all0) (fun m a => by kernel_rfl) fun a0 hc => spec22 a0 hc
noncomputable def T22 : Tb Try.prog LQ TE := T35.add 22 _ right22
def rankG (d : Dat) : Bool := decide (0 ≤ d.i 0 ∧ d.i 0 < 8)
theorem rankG_at {d : Dat} (h : rankG d = true) : 0 ≤ d.i 0 ∧ d.i 0 < 8 := of_decide_eq_true h
/-! (cascade/flow.Work).Right -/
noncomputable def N11 : RoadF := ⟨T22.tab, 11, ⟨[.agg [.int .i64, .int .i64, .int .i64, .int .i64, .recs [.int .i64, .int .i64, .int .i64]]], []⟩, ⟨[.bool], []⟩, []⟩
abbrev A11_0 : Type := List Dat × Int × Int × Int × Int × Int × Int × List Dat × List Int
noncomputable def L11_0s (m : Nat) (k : A11_0 → Option (List Un)) : A11_0 → Option (List Un) := fun (a0, a1, a2, a3, a4, a5, a6, a7, a8) =>
  bif decide (a2 < a1) then
   chk (inb a2 a0.length) <|
   chk (decide (a2.toNat < a0.length)) <|
   lt (rowD a0 a2.toNat : Dat) fun d1 =>
   bif decide ((d1.i 0) < 0) then
    some ([.b false])
   else
    bif decide ((d1.i 0) ≥ 8) then
     some ([.b false])
    else
     chk (fits (a8.length + 2) 8) <|
     k (a0, a1, (w64 (a2 + 1)), a3, a4, a5, a6, a7, (a8 ++ ([(d1.i 1), (d1.i 2)])))
  else
   bif (decide ((a7.length : Int) ≤ 8)) then
    chk (decide (a8.length < 1000000) && a8.all fun x => decide (0 ≤ x ∧ x ≤ 1125899906842624)) <|
    some ([.b true])
   else
    some ([.b false])
noncomputable def L11_0 (m : Nat) : Nat → A11_0 → Option (List Un) := iterA (L11_0s m)
theorem L11_0_succ (m : Nat) (n : Nat) : L11_0 m (n + 1) = L11_0s m (L11_0 m n) := rfl
noncomputable def S11_0 (F : A11_0 → Option (List Un)) : StopS := ⟨[.lp [0, 1, 0, 1, 1], .blk 0, .code [1, 1, 1]], ⟨frm 49 [(1, .ptr 0 0 0), (3, .buf 1 1), (17, .recs [.int .i64, .int .i64, .int .i64]), (18, .int .i64), (19, .int .i64)], [.cells [.int .i64, .int .i64, .int .i64, .int .i64, .recs [.int .i64, .int .i64, .int .i64]], .ints .i64]⟩, onU F⟩
theorem H11_0 (m : Nat) : ∀ n, HO N11 (S11_0 (L11_0 m n)) := loop_holds KN_none T22.right (fun k => [S11_0 k]) (fun k h => (all1 h all0)) fun k a => by kernel_rfl
noncomputable def t11 (m : Nat) : Int × Int × Int × Int × List Dat → Option (List Un) := fun (a0, a1, a2, a3, a4) =>
  L11_0 m m (a4, (a4.length : Int), 0, a0, a1, a2, a3, a4, ([a0, a1, a2, a3] : List Int))
theorem wrightL (m : Nat) (y1 y2 y3 y4 : Int) (c : List Dat) (hc : c.length ≤ 8) : ∀ (rest pre : List Dat) (n : Nat) (acc : List Int), rest.length < n → (pre ++ rest).length ≤ 8 → (∀ d ∈ rest, claimG d = true) → (∀ d ∈ rest, rankG d = true) → acc.length ≤ 4 + 2 * pre.length → (∀ x ∈ acc, 0 ≤ x ∧ x ≤ 1125899906842624) →
    L11_0 m n (pre ++ rest, ((pre ++ rest).length : Int), (pre.length : Int), y1, y2, y3, y4, c, acc) = some [.b true] := by
  intro rest
  induction rest with
  | nil =>
    intro pre n acc hn hl hx hr ha hb
    obtain ⟨n, rfl⟩ := one_more n (by simp at hn; omega)
    rw [L11_0_succ]; unfold L11_0s; dsimp only
    simp only [List.append_nil] at hl ⊢
    rw [cond_df (by omega), cond_dt (by omega), chk_t (by simp only [Bool.and_eq_true, decide_eq_true_eq, List.all_eq_true]; exact ⟨by omega, hb⟩) rfl]
  | cons x rest ih =>
    intro pre n acc hn hl hx hr ha hb
    obtain ⟨n, rfl⟩ := one_more n (by simp at hn; omega)
    simp only [List.length_cons, List.length_append] at hn hl
    have h0 := claimG_at (hx x (by simp))
    have h1 := rankG_at (hr x (by simp))
    have := ih (pre ++ [x]) n (acc ++ [x.i 1, x.i 2]) (by omega) (by simp; omega) (fun y hy => hx y (by simp [hy])) (fun y hy => hr y (by simp [hy])) (by simp; omega) (fun y hy => by
      rcases List.mem_append.1 hy with hy | hy
      · exact hb y hy
      · simp at hy; omega)
    rw [L11_0_succ]; unfold L11_0s; dsimp only
    simp (disch := omega) only [lt_eq, chk_dec, chk_tt, chk_and, chk_inb, chk_fits, chk_make, chkn_dec, cond_dt, cond_df, cond_bt, cond_bf, cond_nt, cond_nf, cond_not, cond_and, cond_or, cond_tt, cond_ff, wrap_id, min_if', max_if', List.length_append, List.length_cons, List.length_nil, List.length_replicate, List.length_set, List.length_map, List.length_range, Int.natCast_add, Int.cast_ofNat_Int, Int.toNat_natCast, Int.add_assoc, Nat.zero_add, Int.zero_add, List.append_assoc, List.cons_append, List.nil_append, rowD_mid]
    simp only [List.length_append, List.length_cons, List.length_nil, List.length_replicate, List.length_set, List.length_map, List.length_range, Int.natCast_add, Int.cast_ofNat_Int, Int.toNat_natCast, Int.add_assoc, Nat.zero_add, Int.zero_add, List.append_assoc, List.cons_append, List.nil_append] at this ⊢
    exact this
noncomputable def f11 : Int × Int × Int × Int × List Dat → Bool × List Un := fun (a0, a1, a2, a3, a4) => (decide (0 ≤ a0 ∧ a0 ≤ 1125899906842624 ∧ 0 ≤ a1 ∧ a1 ≤ 1125899906842624 ∧ 0 ≤ a2 ∧ a2 ≤ 1125899906842624 ∧ 0 ≤ a3 ∧ a3 ≤ 1125899906842624 ∧ a4.length ≤ 8) && (claimsG a4 && a4.all rankG), [.b (true)])
theorem spec11 (a0 : Int) (a1 : Int) (a2 : Int) (a3 : Int) (a4 : List Dat) (hc : (decide (0 ≤ a0 ∧ a0 ≤ 1125899906842624 ∧ 0 ≤ a1 ∧ a1 ≤ 1125899906842624 ∧ 0 ≤ a2 ∧ a2 ≤ 1125899906842624 ∧ 0 ≤ a3 ∧ a3 ≤ 1125899906842624 ∧ a4.length ≤ 8) && (claimsG a4 && a4.all rankG)) = true) : ∃ m, t11 m (a0, a1, a2, a3, a4) = some ([.b (true)]) := by
  simp only [Bool.and_eq_true, decide_eq_true_eq, List.all_eq_true] at hc
  obtain ⟨h0, h1, h2⟩ := hc
  obtain ⟨h3, h4⟩ := claimsG_at h1
  refine ⟨a4.length + 1, ?_⟩
  exact wrightL _ a0 a1 a2 a3 a4 (by omega) a4 [] _ [a0, a1, a2, a3] (by omega) (by simp; omega) h4 h2 (by simp) (fun x hx => by simp at hx; omega)
theorem right11 : ER 11 (mkE N11.en N11.ex f11) := right_of KN_none T22.right (fun m => [S11_0 (L11_0 m m)]) (t := t11) (by kernel_rfl) (fun m => (all1 (H11_0 m m) all0)) (fun m a => by kernel_rfl) fun (a0, a1, a2, a3, a4) hc => spec11 a0 a1 a2 a3 a4 hc
noncomputable def T11 : Tb Try.prog LQ TE := T22.add 11 _ right11
theorem stepsV_short (l : List Int) : 1 ≤ (stepsV l).length ∧ (stepsV l).length ≤ 12 := by
  unfold stepsV
  split
  · decide
  · have := stepsF_len (l.take 12) []
    simp at this
    omega
def stepsOf (k : KDeal) (i : Int) : List Dat := List.getD [(dealV k).s0, (dealV k).s1, (dealV k).s2] i.toNat []
theorem stepsOf_short (k : KDeal) (i : Int) : (stepsOf k i).length ≤ 12 := by
  unfold stepsOf
  have h1 := stepsV_short k.s0
  have h2 := stepsV_short k.s1
  have h3 := stepsV_short k.s2
  rcases h : i.toNat with _ | _ | _ | n <;> simp [dealV] <;> omega

end Go.Proofs.Ytncgbpajngakpaa
