/- A part of the walk. -/
import Derived.Test.YtoiijpphfckdjaaKeep
namespace Go.Proofs.Ytoiijpphfckdjaa
open Go Go.Proofs.Ytoiijpphfckdjaa.Ev
set_option linter.unusedVariables false
set_option linter.unusedSimpArgs false
set_option linter.unnecessarySimpa false

/-! cascade/deal.within -/
noncomputable def N80 : RoadF := ⟨T13.tab, 80, ⟨[.int .i64, .int .i64, .int .i64], [], 0⟩, ⟨[.bool], [], 0⟩, []⟩
noncomputable def t80 (m : Nat) : Int × Int × Int → Option (List Un) := fun (a0, a1, a2) =>
  bif decide (a0 ≥ a1) then
   some ([.b (decide (a0 ≤ a2))])
  else
   some ([.b false])
noncomputable def f80 : Int × Int × Int → Bool × List Un := fun (a0, a1, a2) => (true, [.b (decide (a1 ≤ a0 ∧ a0 ≤ a2))])
theorem spec80 (a0 : Int) (a1 : Int) (a2 : Int) : ∃ m, t80 m (a0, a1, a2) = some ([.b (decide (a1 ≤ a0 ∧ a0 ≤ a2))]) := by
  refine ⟨0, ?_⟩
  unfold t80
  by_cases h : a1 ≤ a0 <;> by_cases h2 : a0 ≤ a2 <;> simp [h, h2]
theorem right80 : ER 80 (mkE N80.en N80.ex f80) := right_of KN_none T13.right (fun m => []) (t := t80) (by kernel_rfl) (fun m => all0) (fun m a => by kernel_rfl) fun (a0, a1, a2) hc => spec80 a0 a1 a2
noncomputable def T80 : Tb Try.prog LQ TE := T13.add 80 _ right80
def idxF (a b : Int) : List Dat → Int → Int
  | [], _ => -1
  | d :: l, i => if a = d.i 0 ∧ b = d.i 1 then i else idxF a b l (i + 1)
theorem idxF_has (a b : Int) : ∀ (l : List Dat) (i : Int), 0 ≤ i → (0 ≤ idxF a b l i ↔ hasStep l a b = true)
  | [], i, h => by simp [idxF, hasStep]
  | d :: l, i, h => by
    have := idxF_has a b l (i + 1) (by omega)
    simp only [hasStep, List.any_cons, Bool.or_eq_true, Bool.and_eq_true, beq_iff_eq] at this ⊢
    unfold idxF
    by_cases hc : a = d.i 0 ∧ b = d.i 1
    · rw [if_pos hc]; exact ⟨fun _ => .inl ⟨hc.1.symm, hc.2.symm⟩, fun _ => h⟩
    · rw [if_neg hc, this]
      exact ⟨.inr, fun h => h.resolve_left fun e => hc ⟨e.1.symm, e.2.symm⟩⟩
/-! slices.Index[[]cascade/api.Step,cascade/api.Step] -/
noncomputable def N82 : RoadF := ⟨T80.tab, 82, ⟨[.recs [.int .i64, .int .i64], .agg [.int .i64, .int .i64]], [], 0⟩, ⟨[.int .i64], [], 0⟩, []⟩
abbrev A82_0 : Type := List Dat × Int × Int × Int × Int
noncomputable def L82_0s (m : Nat) (k : A82_0 → Option (List Un)) : A82_0 → Option (List Un) := fun (a0, a1, a2, a3, a4) =>
  bif decide (a2 < a1) then
   chk (inb a2 a0.length) <|
   chk (decide (a2.toNat < a0.length)) <|
   lt (rowD a0 a2.toNat : Dat) fun d1 =>
   bif ((a3 == (d1.i 0)) && ((a4 == (d1.i 1)) && true)) then
    some ([.i a2])
   else
    k (a0, a1, (w64 (a2 + 1)), a3, a4)
  else
   some ([.i (-1)])
noncomputable def L82_0 (m : Nat) : Nat → A82_0 → Option (List Un) := iterA (L82_0s m)
theorem L82_0_succ (m : Nat) (n : Nat) : L82_0 m (n + 1) = L82_0s m (L82_0 m n) := rfl
noncomputable def S82_0 (F : A82_0 → Option (List Un)) : StopS := ⟨[.lp [0, 1, 0, 1], .blk 0, .code [1, 1]], ⟨frm 19 [(0, .recs [.int .i64, .int .i64]), (3, .ptr 0 0 0), (7, .int .i64), (8, .int .i64)], [.cells [.int .i64, .int .i64]], 0⟩, onU F⟩
theorem H82_0 (m : Nat) : ∀ n, HO N82 (S82_0 (L82_0 m n)) := loop_holds KN_none T80.right (fun k => [S82_0 k]) (fun k h => (all1 h all0)) fun k a => by kernel_rfl
noncomputable def t82 (m : Nat) : List Dat × Int × Int → Option (List Un) := fun (a0, a1, a2) =>
  L82_0 m m (a0, (a0.length : Int), 0, a1, a2)
theorem idxL (m : Nat) (a b : Int) : ∀ (rest pre : List Dat) (n : Nat), rest.length < n → (pre ++ rest).length < 1099511627776 →
    L82_0 m n (pre ++ rest, ((pre ++ rest).length : Int), (pre.length : Int), a, b) = some [.i (idxF a b rest pre.length)] := by
  intro rest
  induction rest with
  | nil =>
    intro pre n hn hl
    obtain ⟨n, rfl⟩ := one_more n (by simp at hn; omega)
    rw [L82_0_succ]; unfold L82_0s; dsimp only
    simp [cond_df, idxF]
  | cons x rest ih =>
    intro pre n hn hl
    obtain ⟨n, rfl⟩ := one_more n (by simp at hn; omega)
    simp only [List.length_cons, List.length_append] at hn hl
    have := ih (pre ++ [x]) n (by omega) (by simp; omega)
    rw [L82_0_succ]; unfold L82_0s; dsimp only
    simp only [idxF]
    by_cases h1 : a = x.i 0
    · by_cases h2 : b = x.i 1
      · rw [if_pos ⟨h1, h2⟩]
        simp (disch := omega) only [lt_eq, chk_dec, chk_tt, chk_and, chk_inb, chk_fits, chk_make, chkn_dec, cond_dt, cond_df, cond_bt, cond_bf, cond_nt, cond_nf, cond_not, cond_and, cond_or, cond_tt, cond_ff, wrap_id, min_if', max_if', List.length_append, List.length_cons, List.length_nil, List.length_replicate, List.length_set, List.length_map, List.length_range, Int.natCast_add, Int.cast_ofNat_Int, Int.toNat_natCast, Int.add_assoc, Nat.zero_add, Int.zero_add, List.append_assoc, List.cons_append, List.nil_append, rowD_mid]
      · rw [if_neg (fun h => h2 h.2)]
        simp (disch := omega) only [lt_eq, chk_dec, chk_tt, chk_and, chk_inb, chk_fits, chk_make, chkn_dec, cond_dt, cond_df, cond_bt, cond_bf, cond_nt, cond_nf, cond_not, cond_and, cond_or, cond_tt, cond_ff, wrap_id, min_if', max_if', List.length_append, List.length_cons, List.length_nil, List.length_replicate, List.length_set, List.length_map, List.length_range, Int.natCast_add, Int.cast_ofNat_Int, Int.toNat_natCast, Int.add_assoc, Nat.zero_add, Int.zero_add, List.append_assoc, List.cons_append, List.nil_append, rowD_mid]
        simp only [List.length_append, List.length_cons, List.length_nil, List.length_replicate, List.length_set, List.length_map, List.length_range, Int.natCast_add, Int.cast_ofNat_Int, Int.toNat_natCast, Int.add_assoc, Nat.zero_add, Int.zero_add, List.append_assoc, List.cons_append, List.nil_append] at this ⊢
        exact this
    · rw [if_neg (fun h => h1 h.1)]
      simp (disch := omega) only [lt_eq, chk_dec, chk_tt, chk_and, chk_inb, chk_fits, chk_make, chkn_dec, cond_dt, cond_df, cond_bt, cond_bf, cond_nt, cond_nf, cond_not, cond_and, cond_or, cond_tt, cond_ff, wrap_id, min_if', max_if', List.length_append, List.length_cons, List.length_nil, List.length_replicate, List.length_set, List.length_map, List.length_range, Int.natCast_add, Int.cast_ofNat_Int, Int.toNat_natCast, Int.add_assoc, Nat.zero_add, Int.zero_add, List.append_assoc, List.cons_append, List.nil_append, rowD_mid]
      simp only [List.length_append, List.length_cons, List.length_nil, List.length_replicate, List.length_set, List.length_map, List.length_range, Int.natCast_add, Int.cast_ofNat_Int, Int.toNat_natCast, Int.add_assoc, Nat.zero_add, Int.zero_add, List.append_assoc, List.cons_append, List.nil_append] at this ⊢
      exact this
noncomputable def f82 : List Dat × Int × Int → Bool × List Un := fun (a0, a1, a2) => (decide (a0.length < 1099511627776), [.i (idxF a1 a2 a0 0)])
theorem spec82 (a0 : List Dat) (a1 : Int) (a2 : Int) (hc : (decide (a0.length < 1099511627776)) = true) : ∃ m, t82 m (a0, a1, a2) = some ([.i (idxF a1 a2 a0 0)]) := by
  refine ⟨a0.length + 1, ?_⟩
  exact idxL _ a1 a2 a0 [] _ (by omega) (of_decide_eq_true hc)
theorem right82 : ER 82 (mkE N82.en N82.ex f82) := right_of KN_none T80.right (fun m => [S82_0 (L82_0 m m)]) (t := t82) (by kernel_rfl) (fun m => (all1 (H82_0 m m) all0)) (fun m a => by kernel_rfl) fun (a0, a1, a2) hc => spec82 a0 a1 a2 hc
noncomputable def T82 : Tb Try.prog LQ TE := T80.add 82 _ right82
/-! slices.Contains[[]cascade/api.Step,cascade/api.Step] -/
noncomputable def N81 : RoadF := ⟨T82.tab, 81, ⟨[.recs [.int .i64, .int .i64], .agg [.int .i64, .int .i64]], [], 0⟩, ⟨[.bool], [], 0⟩, []⟩
noncomputable def t81 (m : Nat) : List Dat × Int × Int → Option (List Un) := fun (a0, a1, a2) =>
  chk (decide (a0.length < 1099511627776)) <|
  some ([.b (decide ((idxF a1 a2 a0 0) ≥ 0))])
noncomputable def f81 : List Dat × Int × Int → Bool × List Un := fun (a0, a1, a2) => (decide (a0.length < 1099511627776), [.b (hasStep a0 a1 a2)])
theorem spec81 (a0 : List Dat) (a1 : Int) (a2 : Int) (hc : (decide (a0.length < 1099511627776)) = true) : ∃ m, t81 m (a0, a1, a2) = some ([.b (hasStep a0 a1 a2)]) := by
  refine ⟨0, ?_⟩
  have e := idxF_has a1 a2 a0 0 (Int.le_refl 0)
  have h := of_decide_eq_true hc
  unfold t81
  simp (disch := omega) only [lt_eq, chk_dec, chk_tt, chk_and, chk_inb, chk_fits, chk_make, chkn_dec, cond_dt, cond_df, cond_bt, cond_bf, cond_nt, cond_nf, cond_not, cond_and, cond_or, cond_tt, cond_ff, wrap_id, min_if', max_if']
  cases h : hasStep a0 a1 a2 <;> simp [h] at e ⊢ <;> omega
theorem right81 : ER 81 (mkE N81.en N81.ex f81) := right_of KN_none T82.right (fun m => []) (t := t81) (by kernel_rfl) (fun m => all0) (fun m a => by kernel_rfl) fun (a0, a1, a2) hc => spec81 a0 a1 a2 hc
noncomputable def T81 : Tb Try.prog LQ TE := T82.add 81 _ right81
theorem cond_sb {c y : Bool} : (bif c then some [Un.b y] else some [.b false]) = some [.b (c && y)] := by cases c <;> rfl
def termsV (d : ADeal) : Bool :=
  decide (0 ≤ d.b.oc ∧ d.b.oc ≤ 100000) && (decide (0 ≤ d.b.ic ∧ d.b.ic ≤ 100000) && (decide (0 ≤ d.b.late ∧ d.b.late ≤ 100000) && (decide (0 ≤ d.b.loss ∧ d.b.loss ≤ 100000) && (decide (0 ≤ d.b.clean ∧ d.b.clean ≤ 100000) &&
  (decide (1 ≤ d.a.year ∧ d.a.year ≤ 9000) && (decide (1 ≤ d.a.month ∧ d.a.month ≤ 12) && (decide (0 ≤ d.a.basis ∧ d.a.basis ≤ 2) && (decide (0 ≤ d.b.fee ∧ d.b.fee ≤ 5000) && (decide (0 ≤ d.b.reserve ∧ d.b.reserve ≤ 1099511627776) &&
  (decide (0 ≤ d.b.target ∧ d.b.target ≤ 10000) && (decide (0 ≤ d.b.advance ∧ d.b.advance ≤ 1099511627776) && decide (0 ≤ d.b.cure ∧ d.b.cure ≤ 600))))))))))))
/-! cascade/deal.terms -/
noncomputable def N73 : RoadF := ⟨T81.tab, 73, ⟨[.agg [.int .i64, .int .i64, .int .i64, .recs [.int .i64, .int .i64], .recs [.int .i64, .int .i64, .int .i64], .int .i64, .int .i64, .int .i64, .int .i64, .int .i64, .int .i64, .int .i64, .int .i64, .int .i64, .int .i64, .recs [.int .i64, .int .i64], .recs [.int .i64, .int .i64], .recs [.int .i64, .int .i64]]], [], 0⟩, ⟨[.bool], [], 0⟩, []⟩
abbrev A73_0 : Type := Int × Int × ADeal × List Int
noncomputable def L73_0s (m : Nat) (k : A73_0 → Option (List Un)) : A73_0 → Option (List Un) := fun (a0, a1, a2, a3) =>
  bif decide (a1 < a0) then
   chk (inb a1 a3.length) <|
   chk (decide (a1.toNat < a3.length)) <|
   bif !(decide (0 ≤ (a3.getD a1.toNat 0) ∧ (a3.getD a1.toNat 0) ≤ 100000)) then
    some ([.b false])
   else
    k (a0, (w64 (a1 + 1)), a2, a3)
  else
   bif (decide (1 ≤ a2.a.year ∧ a2.a.year ≤ 9000)) then
    bif (decide (1 ≤ a2.a.month ∧ a2.a.month ≤ 12)) then
     bif (decide (0 ≤ a2.a.basis ∧ a2.a.basis ≤ 2)) then
      bif (decide (0 ≤ a2.b.fee ∧ a2.b.fee ≤ 5000)) then
       bif (decide (0 ≤ a2.b.reserve ∧ a2.b.reserve ≤ 1099511627776)) then
        bif (decide (0 ≤ a2.b.target ∧ a2.b.target ≤ 10000)) then
         bif (decide (0 ≤ a2.b.advance ∧ a2.b.advance ≤ 1099511627776)) then
          some ([.b (decide (0 ≤ a2.b.cure ∧ a2.b.cure ≤ 600))])
         else
          some ([.b false])
        else
         some ([.b false])
       else
        some ([.b false])
      else
       some ([.b false])
     else
      some ([.b false])
    else
     some ([.b false])
   else
    some ([.b false])
noncomputable def L73_0 (m : Nat) : Nat → A73_0 → Option (List Un) := iterA (L73_0s m)
theorem L73_0_succ (m : Nat) (n : Nat) : L73_0 m (n + 1) = L73_0s m (L73_0 m n) := rfl
noncomputable def S73_0 (F : A73_0 → Option (List Un)) : StopS := ⟨[.lp [0, 1, 0, 1], .blk 0, .code [1, 1]], ⟨frm 68 [(1, .ptr 0 0 0), (20, .buf 1 1), (21, .int .i64), (22, .int .i64)], [.cells [.int .i64, .int .i64, .int .i64, .recs [.int .i64, .int .i64], .recs [.int .i64, .int .i64, .int .i64], .int .i64, .int .i64, .int .i64, .int .i64, .int .i64, .int .i64, .int .i64, .int .i64, .int .i64, .int .i64, .recs [.int .i64, .int .i64], .recs [.int .i64, .int .i64], .recs [.int .i64, .int .i64]], .ints .i64], 0⟩, onU F⟩
theorem H73_0 (m : Nat) : ∀ n, HO N73 (S73_0 (L73_0 m n)) := loop_holds KN_none T81.right (fun k => [S73_0 k]) (fun k h => (all1 h all0)) fun k a => by kernel_rfl
noncomputable def t73 (m : Nat) : ADeal → Option (List Un) := fun a0 =>
  L73_0 m m (5, 0, a0, ([a0.b.oc, a0.b.ic, a0.b.late, a0.b.loss, a0.b.clean] : List Int))
noncomputable def f73 : ADeal → Bool × List Un := fun a0 => (true, [.b (termsV a0)])
set_option maxHeartbeats 2000000 in
theorem spec73 (a0 : ADeal) : ∃ m, t73 m a0 = some ([.b (termsV a0)]) := by
  refine ⟨6, ?_⟩
  unfold t73
  rw [show L73_0 6 6 = L73_0 6 (0 + 1 + 1 + 1 + 1 + 1 + 1) from rfl]
  simp only [L73_0_succ]
  unfold L73_0s
  dsimp only
  simp (disch := omega) only [lt_eq, chk_dec, chk_tt, chk_and, chk_inb, chk_fits, chk_make, chkn_dec, cond_dt, cond_df, cond_bt, cond_bf, cond_nt, cond_nf, cond_not, cond_and, cond_or, cond_tt, cond_ff, wrap_id, min_if', max_if', List.length_cons, List.length_nil, List.getD_cons_zero, List.getD_cons_succ, Int.reduceToNat, Nat.reduceAdd, Int.zero_add, Int.reduceAdd, decide_true, decide_false, Int.reduceLT]
  simp only [cond_sb]
  rfl
theorem right73 : ER 73 (mkE N73.en N73.ex f73) := right_of KN_none T81.right (fun m => [S73_0 (L73_0 m m)]) (t := t73) (by kernel_rfl) (fun m => (all1 (H73_0 m m) all0)) (fun m a => by kernel_rfl) fun a0 hc => spec73 a0
noncomputable def T73 : Tb Try.prog LQ TE := T81.add 73 _ right73
def loansR : Int → Int → List Dat → Option Int
  | _, all, [] => some all
  | last, all, d :: l => if d.i 0 ≤ last then none else if 0 ≤ d.i 1 ∧ d.i 1 ≤ 1099511627776 - all then loansR (d.i 0) (all + d.i 1) l else none
/-- What loans are together, if they may be. -/
def loansW (l : List Dat) : Option Int := if 1 ≤ l.length ∧ l.length ≤ 64 then loansR 0 0 l else none
def sayO (o : Option Int) : Option (List Un) := some [.i (o.getD 0), .b o.isSome]
/-! cascade/deal.loans -/
noncomputable def N71 : RoadF := ⟨T73.tab, 71, ⟨[.recs [.int .i64, .int .i64]], [], 0⟩, ⟨[.int .i64, .bool], [], 0⟩, []⟩
abbrev A71_0 : Type := Int × Int × List Dat × Int × Int
noncomputable def L71_0s (m : Nat) (k : A71_0 → Option (List Un)) : A71_0 → Option (List Un) := fun (a0, a1, a2, a3, a4) =>
  bif decide (a4 < a3) then
   chk (inb a4 a2.length) <|
   chk (decide (a4.toNat < a2.length)) <|
   lt (rowD a2 a4.toNat : Dat) fun d2 =>
   bif decide ((d2.i 0) ≤ a0) then
    some ([.i 0, .b false])
   else
    bif !(decide (0 ≤ (d2.i 1) ∧ (d2.i 1) ≤ (w64 (1099511627776 - a1)))) then
     some ([.i 0, .b false])
    else
     k ((d2.i 0), (w64 (a1 + (d2.i 1))), a2, a3, (w64 (a4 + 1)))
  else
   some ([.i a1, .b true])
noncomputable def L71_0 (m : Nat) : Nat → A71_0 → Option (List Un) := iterA (L71_0s m)
theorem L71_0_succ (m : Nat) (n : Nat) : L71_0 m (n + 1) = L71_0s m (L71_0 m n) := rfl
noncomputable def S71_0 (F : A71_0 → Option (List Un)) : StopS := ⟨[.lp [0, 1, 0, 1, 1, 1], .blk 0, .code [1, 1, 1, 1]], ⟨frm 38 [(4, .int .i64), (5, .int .i64), (12, .recs [.int .i64, .int .i64]), (13, .int .i64), (14, .int .i64)], [], 0⟩, onU F⟩
theorem H71_0 (m : Nat) : ∀ n, HO N71 (S71_0 (L71_0 m n)) := loop_holds KN_none T73.right (fun k => [S71_0 k]) (fun k h => (all1 h all0)) fun k a => by kernel_rfl
noncomputable def t71 (m : Nat) : List Dat → Option (List Un) := fun a0 =>
  bif !(decide (1 ≤ (a0.length : Int) ∧ (a0.length : Int) ≤ 64)) then
   some ([.i 0, .b false])
  else
   L71_0 m m (0, 0, a0, (a0.length : Int), 0)
theorem loansWL (m : Nat) : ∀ (rest pre : List Dat) (n : Nat) (last all : Int), rest.length < n → (pre ++ rest).length ≤ 64 → 0 ≤ all → all ≤ 1099511627776 →
    L71_0 m n (last, all, pre ++ rest, ((pre ++ rest).length : Int), (pre.length : Int)) = sayO (loansR last all rest) := by
  intro rest
  induction rest with
  | nil =>
    intro pre n last all hn hl h0 h1
    obtain ⟨n, rfl⟩ := one_more n (by simp at hn; omega)
    rw [L71_0_succ]; unfold L71_0s; dsimp only
    simp [cond_df, loansR, sayO]
  | cons x rest ih =>
    intro pre n last all hn hl h0 h1
    obtain ⟨n, rfl⟩ := one_more n (by simp at hn; omega)
    simp only [List.length_cons, List.length_append] at hn hl
    rw [L71_0_succ]; unfold L71_0s; dsimp only
    simp only [loansR]
    by_cases c1 : x.i 0 ≤ last
    · rw [if_pos c1]
      simp (disch := omega) only [lt_eq, chk_dec, chk_tt, chk_and, chk_inb, chk_fits, chk_make, chkn_dec, cond_dt, cond_df, cond_bt, cond_bf, cond_nt, cond_nf, cond_not, cond_and, cond_or, cond_tt, cond_ff, wrap_id, min_if', max_if', List.length_append, List.length_cons, List.length_nil, List.length_replicate, List.length_set, List.length_map, List.length_range, Int.natCast_add, Int.cast_ofNat_Int, Int.toNat_natCast, Int.add_assoc, Nat.zero_add, Int.zero_add, List.append_assoc, List.cons_append, List.nil_append, rowD_mid]
      rfl
    · rw [if_neg c1]
      by_cases c2 : 0 ≤ x.i 1 ∧ x.i 1 ≤ 1099511627776 - all
      · rw [if_pos c2]
        have := ih (pre ++ [x]) n (x.i 0) (all + x.i 1) (by omega) (by simp; omega) (by omega) (by omega)
        simp (disch := omega) only [lt_eq, chk_dec, chk_tt, chk_and, chk_inb, chk_fits, chk_make, chkn_dec, cond_dt, cond_df, cond_bt, cond_bf, cond_nt, cond_nf, cond_not, cond_and, cond_or, cond_tt, cond_ff, wrap_id, min_if', max_if', List.length_append, List.length_cons, List.length_nil, List.length_replicate, List.length_set, List.length_map, List.length_range, Int.natCast_add, Int.cast_ofNat_Int, Int.toNat_natCast, Int.add_assoc, Nat.zero_add, Int.zero_add, List.append_assoc, List.cons_append, List.nil_append, rowD_mid]
        simp only [List.length_append, List.length_cons, List.length_nil, List.length_replicate, List.length_set, List.length_map, List.length_range, Int.natCast_add, Int.cast_ofNat_Int, Int.toNat_natCast, Int.add_assoc, Nat.zero_add, Int.zero_add, List.append_assoc, List.cons_append, List.nil_append] at this ⊢
        exact this
      · rw [if_neg c2]
        simp (disch := omega) only [lt_eq, chk_dec, chk_tt, chk_and, chk_inb, chk_fits, chk_make, chkn_dec, cond_dt, cond_df, cond_bt, cond_bf, cond_nt, cond_nf, cond_not, cond_and, cond_or, cond_tt, cond_ff, wrap_id, min_if', max_if', List.length_append, List.length_cons, List.length_nil, List.length_replicate, List.length_set, List.length_map, List.length_range, Int.natCast_add, Int.cast_ofNat_Int, Int.toNat_natCast, Int.add_assoc, Nat.zero_add, Int.zero_add, List.append_assoc, List.cons_append, List.nil_append, rowD_mid]
        rfl
noncomputable def f71 : List Dat → Bool × List Un := fun a0 => (true, [.i ((loansW a0).getD 0), .b ((loansW a0).isSome)])
theorem spec71 (a0 : List Dat) : ∃ m, t71 m a0 = some ([.i ((loansW a0).getD 0), .b ((loansW a0).isSome)]) := by
  refine ⟨65, ?_⟩
  unfold t71 loansW
  by_cases h : 1 ≤ a0.length ∧ a0.length ≤ 64
  · rw [if_pos h]
    simp (disch := omega) only [lt_eq, chk_dec, chk_tt, chk_and, chk_inb, chk_fits, chk_make, chkn_dec, cond_dt, cond_df, cond_bt, cond_bf, cond_nt, cond_nf, cond_not, cond_and, cond_or, cond_tt, cond_ff, wrap_id, min_if', max_if']
    exact loansWL 65 a0 [] 65 0 0 (by omega) h.2 (by omega) (by omega)
  · rw [if_neg h]
    simp (disch := omega) only [lt_eq, chk_dec, chk_tt, chk_and, chk_inb, chk_fits, chk_make, chkn_dec, cond_dt, cond_df, cond_bt, cond_bf, cond_nt, cond_nf, cond_not, cond_and, cond_or, cond_tt, cond_ff, wrap_id, min_if', max_if']
    rfl
theorem right71 : ER 71 (mkE N71.en N71.ex f71) := right_of KN_none T73.right (fun m => [S71_0 (L71_0 m m)]) (t := t71) (by kernel_rfl) (fun m => (all1 (H71_0 m m) all0)) (fun m a => by kernel_rfl) fun a0 hc => spec71 a0
noncomputable def T71 : Tb Try.prog LQ TE := T73.add 71 _ right71
def notesR (most : Int) : Int → List Dat → Option Int
  | all, [] => some all
  | all, d :: l => if (0 ≤ d.i 0 ∧ d.i 0 ≤ 7) ∧ (1 ≤ d.i 1 ∧ d.i 1 ≤ most - all) ∧ (0 ≤ d.i 2 ∧ d.i 2 ≤ 5000) then notesR most (all + d.i 1) l else none
/-- What notes are together, if they may be: at most so much. -/
def notesW (most : Int) (l : List Dat) : Option Int := if 1 ≤ l.length ∧ l.length ≤ 8 then notesR most 0 l else none
/-! cascade/deal.notes -/
noncomputable def N72 : RoadF := ⟨T71.tab, 72, ⟨[.recs [.int .i64, .int .i64, .int .i64], .int .i64], [], 0⟩, ⟨[.int .i64, .bool], [], 0⟩, []⟩
abbrev A72_0 : Type := Int × Int × List Dat × Int × Int
noncomputable def L72_0s (m : Nat) (k : A72_0 → Option (List Un)) : A72_0 → Option (List Un) := fun (a0, a1, a2, a3, a4) =>
  bif decide (a4 < a3) then
   chk (inb a4 a2.length) <|
   chk (decide (a4.toNat < a2.length)) <|
   lt (rowD a2 a4.toNat : Dat) fun d2 =>
   bif !(decide (0 ≤ (d2.i 0) ∧ (d2.i 0) ≤ 7)) then
    some ([.i 0, .b false])
   else
    bif !(decide (1 ≤ (d2.i 1) ∧ (d2.i 1) ≤ (w64 (a0 - a1)))) then
     some ([.i 0, .b false])
    else
     bif !(decide (0 ≤ (d2.i 2) ∧ (d2.i 2) ≤ 5000)) then
      some ([.i 0, .b false])
     else
      k (a0, (w64 (a1 + (d2.i 1))), a2, a3, (w64 (a4 + 1)))
  else
   some ([.i a1, .b true])
noncomputable def L72_0 (m : Nat) : Nat → A72_0 → Option (List Un) := iterA (L72_0s m)
theorem L72_0_succ (m : Nat) (n : Nat) : L72_0 m (n + 1) = L72_0s m (L72_0 m n) := rfl
noncomputable def S72_0 (F : A72_0 → Option (List Un)) : StopS := ⟨[.lp [0, 1, 0, 1, 1, 1], .blk 0, .code [1, 1, 1, 1]], ⟨frm 44 [(1, .int .i64), (6, .int .i64), (13, .recs [.int .i64, .int .i64, .int .i64]), (14, .int .i64), (15, .int .i64)], [], 0⟩, onU F⟩
theorem H72_0 (m : Nat) : ∀ n, HO N72 (S72_0 (L72_0 m n)) := loop_holds KN_none T71.right (fun k => [S72_0 k]) (fun k h => (all1 h all0)) fun k a => by kernel_rfl
noncomputable def t72 (m : Nat) : List Dat × Int → Option (List Un) := fun (a0, a1) =>
  bif !(decide (1 ≤ (a0.length : Int) ∧ (a0.length : Int) ≤ 8)) then
   some ([.i 0, .b false])
  else
   L72_0 m m (a1, 0, a0, (a0.length : Int), 0)
theorem notesWL (m : Nat) (most : Int) (hm : 0 ≤ most ∧ most ≤ 1099511627776) : ∀ (rest pre : List Dat) (n : Nat) (all : Int), rest.length < n → (pre ++ rest).length ≤ 8 → 0 ≤ all → all ≤ most →
    L72_0 m n (most, all, pre ++ rest, ((pre ++ rest).length : Int), (pre.length : Int)) = sayO (notesR most all rest) := by
  intro rest
  induction rest with
  | nil =>
    intro pre n all hn hl h0 h1
    obtain ⟨n, rfl⟩ := one_more n (by simp at hn; omega)
    rw [L72_0_succ]; unfold L72_0s; dsimp only
    simp [cond_df, notesR, sayO]
  | cons x rest ih =>
    intro pre n all hn hl h0 h1
    obtain ⟨n, rfl⟩ := one_more n (by simp at hn; omega)
    simp only [List.length_cons, List.length_append] at hn hl
    rw [L72_0_succ]; unfold L72_0s; dsimp only
    simp only [notesR]
    by_cases c1 : 0 ≤ x.i 0 ∧ x.i 0 ≤ 7
    · by_cases c2 : 1 ≤ x.i 1 ∧ x.i 1 ≤ most - all
      · by_cases c3 : 0 ≤ x.i 2 ∧ x.i 2 ≤ 5000
        · rw [if_pos ⟨c1, c2, c3⟩]
          have := ih (pre ++ [x]) n (all + x.i 1) (by omega) (by simp; omega) (by omega) (by omega)
          simp (disch := omega) only [lt_eq, chk_dec, chk_tt, chk_and, chk_inb, chk_fits, chk_make, chkn_dec, cond_dt, cond_df, cond_bt, cond_bf, cond_nt, cond_nf, cond_not, cond_and, cond_or, cond_tt, cond_ff, wrap_id, min_if', max_if', List.length_append, List.length_cons, List.length_nil, List.length_replicate, List.length_set, List.length_map, List.length_range, Int.natCast_add, Int.cast_ofNat_Int, Int.toNat_natCast, Int.add_assoc, Nat.zero_add, Int.zero_add, List.append_assoc, List.cons_append, List.nil_append, rowD_mid]
          simp only [List.length_append, List.length_cons, List.length_nil, List.length_replicate, List.length_set, List.length_map, List.length_range, Int.natCast_add, Int.cast_ofNat_Int, Int.toNat_natCast, Int.add_assoc, Nat.zero_add, Int.zero_add, List.append_assoc, List.cons_append, List.nil_append] at this ⊢
          exact this
        · rw [if_neg (fun h => c3 h.2.2)]
          simp (disch := omega) only [lt_eq, chk_dec, chk_tt, chk_and, chk_inb, chk_fits, chk_make, chkn_dec, cond_dt, cond_df, cond_bt, cond_bf, cond_nt, cond_nf, cond_not, cond_and, cond_or, cond_tt, cond_ff, wrap_id, min_if', max_if', List.length_append, List.length_cons, List.length_nil, List.length_replicate, List.length_set, List.length_map, List.length_range, Int.natCast_add, Int.cast_ofNat_Int, Int.toNat_natCast, Int.add_assoc, Nat.zero_add, Int.zero_add, List.append_assoc, List.cons_append, List.nil_append, rowD_mid]
          rfl
      · rw [if_neg (fun h => c2 h.2.1)]
        simp (disch := omega) only [lt_eq, chk_dec, chk_tt, chk_and, chk_inb, chk_fits, chk_make, chkn_dec, cond_dt, cond_df, cond_bt, cond_bf, cond_nt, cond_nf, cond_not, cond_and, cond_or, cond_tt, cond_ff, wrap_id, min_if', max_if', List.length_append, List.length_cons, List.length_nil, List.length_replicate, List.length_set, List.length_map, List.length_range, Int.natCast_add, Int.cast_ofNat_Int, Int.toNat_natCast, Int.add_assoc, Nat.zero_add, Int.zero_add, List.append_assoc, List.cons_append, List.nil_append, rowD_mid]
        rfl
    · rw [if_neg (fun h => c1 h.1)]
      simp (disch := omega) only [lt_eq, chk_dec, chk_tt, chk_and, chk_inb, chk_fits, chk_make, chkn_dec, cond_dt, cond_df, cond_bt, cond_bf, cond_nt, cond_nf, cond_not, cond_and, cond_or, cond_tt, cond_ff, wrap_id, min_if', max_if', List.length_append, List.length_cons, List.length_nil, List.length_replicate, List.length_set, List.length_map, List.length_range, Int.natCast_add, Int.cast_ofNat_Int, Int.toNat_natCast, Int.add_assoc, Nat.zero_add, Int.zero_add, List.append_assoc, List.cons_append, List.nil_append, rowD_mid]
      rfl
noncomputable def f72 : List Dat × Int → Bool × List Un := fun (a0, a1) => (decide (0 ≤ a1 ∧ a1 ≤ 1099511627776), [.i ((notesW a1 a0).getD 0), .b ((notesW a1 a0).isSome)])
theorem spec72 (a0 : List Dat) (a1 : Int) (hc : (decide (0 ≤ a1 ∧ a1 ≤ 1099511627776)) = true) : ∃ m, t72 m (a0, a1) = some ([.i ((notesW a1 a0).getD 0), .b ((notesW a1 a0).isSome)]) := by
  have hm := of_decide_eq_true hc
  refine ⟨65, ?_⟩
  unfold t72 notesW
  by_cases h : 1 ≤ a0.length ∧ a0.length ≤ 8
  · rw [if_pos h]
    simp (disch := omega) only [lt_eq, chk_dec, chk_tt, chk_and, chk_inb, chk_fits, chk_make, chkn_dec, cond_dt, cond_df, cond_bt, cond_bf, cond_nt, cond_nf, cond_not, cond_and, cond_or, cond_tt, cond_ff, wrap_id, min_if', max_if']
    exact notesWL 65 a1 hm a0 [] 65 0 (by omega) h.2 (by omega) (by omega)
  · rw [if_neg h]
    simp (disch := omega) only [lt_eq, chk_dec, chk_tt, chk_and, chk_inb, chk_fits, chk_make, chkn_dec, cond_dt, cond_df, cond_bt, cond_bf, cond_nt, cond_nf, cond_not, cond_and, cond_or, cond_tt, cond_ff, wrap_id, min_if', max_if']
    rfl
theorem right72 : ER 72 (mkE N72.en N72.ex f72) := right_of KN_none T71.right (fun m => [S72_0 (L72_0 m m)]) (t := t72) (by kernel_rfl) (fun m => (all1 (H72_0 m m) all0)) (fun m a => by kernel_rfl) fun (a0, a1) hc => spec72 a0 a1 hc
noncomputable def T72 : Tb Try.prog LQ TE := T71.add 72 _ right72
def stepOk (d : Dat) : Bool := decide (1 ≤ d.i 0 ∧ d.i 0 ≤ 7) && decide (0 ≤ d.i 1 ∧ d.i 1 ≤ (if d.i 0 = 3 then 7 else 0))
def stepsR : List Dat → List Dat → Bool
  | _, [] => true
  | pre, d :: l => stepOk d && (!hasStep pre (d.i 0) (d.i 1) && stepsR (pre ++ [d]) l)
/-- May steps be a mode's? -/
def stepsW (l : List Dat) : Bool := decide (1 ≤ (l.length : Int) ∧ (l.length : Int) ≤ 16) && stepsR [] l
/-! cascade/deal.Steps -/
noncomputable def N74 : RoadF := ⟨T72.tab, 74, ⟨[.recs [.int .i64, .int .i64]], [], 0⟩, ⟨[.bool], [], 0⟩, []⟩
abbrev A74_0 : Type := List Dat × List Dat × Int × Int
noncomputable def L74_0s (m : Nat) (k : A74_0 → Option (List Un)) : A74_0 → Option (List Un) := fun (a0, a1, a2, a3) =>
  bif decide (a3 < a2) then
   chk (inb a3 a1.length) <|
   chk (decide (a3.toNat < a1.length)) <|
   lt (rowD a1 a3.toNat : Dat) fun d2 =>
   bif (d2.i 0) == 3 then
    bif !(decide (1 ≤ (d2.i 0) ∧ (d2.i 0) ≤ 7)) then
     some ([.b false])
    else
     bif !(decide (0 ≤ (d2.i 1) ∧ (d2.i 1) ≤ 7)) then
      some ([.b false])
     else
      chk (decide (0 ≤ a3) && (true && decide (0 ≤ a3.toNat ∧ a3.toNat ≤ a0.length))) <|
      chk (decide ((List.take a3.toNat a0).length < 1099511627776)) <|
      bif (hasStep (List.take a3.toNat a0) (d2.i 0) (d2.i 1)) then
       some ([.b false])
      else
       k (a0, a1, a2, (w64 (a3 + 1)))
   else
    bif !(decide (1 ≤ (d2.i 0) ∧ (d2.i 0) ≤ 7)) then
     some ([.b false])
    else
     bif !(decide (0 ≤ (d2.i 1) ∧ (d2.i 1) ≤ 0)) then
      some ([.b false])
     else
      chk (decide (0 ≤ a3) && (true && decide (0 ≤ a3.toNat ∧ a3.toNat ≤ a0.length))) <|
      chk (decide ((List.take a3.toNat a0).length < 1099511627776)) <|
      bif (hasStep (List.take a3.toNat a0) (d2.i 0) (d2.i 1)) then
       some ([.b false])
      else
       k (a0, a1, a2, (w64 (a3 + 1)))
  else
   some ([.b true])
noncomputable def L74_0 (m : Nat) : Nat → A74_0 → Option (List Un) := iterA (L74_0s m)
theorem L74_0_succ (m : Nat) (n : Nat) : L74_0 m (n + 1) = L74_0s m (L74_0 m n) := rfl
noncomputable def S74_0 (F : A74_0 → Option (List Un)) : StopS := ⟨[.lp [0, 1, 0, 1, 1], .blk 0, .code [1, 1, 1]], ⟨frm 39 [(0, .recs [.int .i64, .int .i64]), (10, .recs [.int .i64, .int .i64]), (11, .int .i64), (12, .int .i64)], [], 0⟩, onU F⟩
theorem H74_0 (m : Nat) : ∀ n, HO N74 (S74_0 (L74_0 m n)) := loop_holds KN_none T72.right (fun k => [S74_0 k]) (fun k h => (all1 h all0)) fun k a => by kernel_rfl
noncomputable def t74 (m : Nat) : List Dat → Option (List Un) := fun a0 =>
  bif !(decide (1 ≤ (a0.length : Int) ∧ (a0.length : Int) ≤ 16)) then
   some ([.b false])
  else
   L74_0 m m (a0, a0, (a0.length : Int), 0)
theorem stepsWL (m : Nat) : ∀ (rest pre : List Dat) (n : Nat), rest.length < n → (pre ++ rest).length ≤ 16 →
    L74_0 m n (pre ++ rest, pre ++ rest, ((pre ++ rest).length : Int), (pre.length : Int)) = some [.b (stepsR pre rest)] := by
  intro rest
  induction rest with
  | nil =>
    intro pre n hn hl
    obtain ⟨n, rfl⟩ := one_more n (by simp at hn; omega)
    rw [L74_0_succ]; unfold L74_0s; dsimp only
    simp [cond_df, stepsR]
  | cons x rest ih =>
    intro pre n hn hl
    obtain ⟨n, rfl⟩ := one_more n (by simp at hn; omega)
    simp only [List.length_cons, List.length_append] at hn hl
    rw [L74_0_succ]; unfold L74_0s; dsimp only
    have := ih (pre ++ [x]) n (by omega) (by simp; omega)
    simp only [stepsR, stepOk]
    by_cases c1 : 1 ≤ x.i 0 ∧ x.i 0 ≤ 7
    · by_cases c3 : x.i 0 = 3
      · by_cases c2 : 0 ≤ x.i 1 ∧ x.i 1 ≤ 7
        · cases h : hasStep pre (x.i 0) (x.i 1)
          · simp (disch := omega) only [lt_eq, chk_dec, chk_tt, chk_and, chk_inb, chk_fits, chk_make, chkn_dec, cond_dt, cond_df, cond_bt, cond_bf, cond_nt, cond_nf, cond_not, cond_and, cond_or, cond_tt, cond_ff, wrap_id, min_if', max_if', List.length_append, List.length_cons, List.length_nil, List.length_replicate, List.length_set, List.length_map, List.length_range, Int.natCast_add, Int.cast_ofNat_Int, Int.toNat_natCast, Int.add_assoc, Nat.zero_add, Int.zero_add, List.append_assoc, List.cons_append, List.nil_append, rowD_mid, List.length_take]
            simp only [List.take_left, h, cond_false, if_pos c3, decide_eq_true c1, decide_eq_true c2, Bool.true_and, Bool.not_false]
            (try simp (disch := omega) only [lt_eq, chk_dec, chk_tt, chk_and, chk_inb, chk_fits, chk_make, chkn_dec, cond_dt, cond_df, cond_bt, cond_bf, cond_nt, cond_nf, cond_not, cond_and, cond_or, cond_tt, cond_ff, wrap_id, min_if', max_if', List.length_append, List.length_cons, List.length_nil, List.length_replicate, List.length_set, List.length_map, List.length_range, Int.natCast_add, Int.cast_ofNat_Int, Int.toNat_natCast, Int.add_assoc, Nat.zero_add, Int.zero_add, List.append_assoc, List.cons_append, List.nil_append, rowD_mid, List.length_take])
            simp only [List.length_append, List.length_cons, List.length_nil, List.length_replicate, List.length_set, List.length_map, List.length_range, Int.natCast_add, Int.cast_ofNat_Int, Int.toNat_natCast, Int.add_assoc, Nat.zero_add, Int.zero_add, List.append_assoc, List.cons_append, List.nil_append] at this ⊢
            exact this
          · simp (disch := omega) only [lt_eq, chk_dec, chk_tt, chk_and, chk_inb, chk_fits, chk_make, chkn_dec, cond_dt, cond_df, cond_bt, cond_bf, cond_nt, cond_nf, cond_not, cond_and, cond_or, cond_tt, cond_ff, wrap_id, min_if', max_if', List.length_append, List.length_cons, List.length_nil, List.length_replicate, List.length_set, List.length_map, List.length_range, Int.natCast_add, Int.cast_ofNat_Int, Int.toNat_natCast, Int.add_assoc, Nat.zero_add, Int.zero_add, List.append_assoc, List.cons_append, List.nil_append, rowD_mid, List.length_take]
            simp only [List.take_left, h, cond_true, if_pos c3, decide_eq_true c1, decide_eq_true c2, Bool.true_and, Bool.not_true, Bool.false_and]
        · simp (disch := omega) only [lt_eq, chk_dec, chk_tt, chk_and, chk_inb, chk_fits, chk_make, chkn_dec, cond_dt, cond_df, cond_bt, cond_bf, cond_nt, cond_nf, cond_not, cond_and, cond_or, cond_tt, cond_ff, wrap_id, min_if', max_if', List.length_append, List.length_cons, List.length_nil, List.length_replicate, List.length_set, List.length_map, List.length_range, Int.natCast_add, Int.cast_ofNat_Int, Int.toNat_natCast, Int.add_assoc, Nat.zero_add, Int.zero_add, List.append_assoc, List.cons_append, List.nil_append, rowD_mid, List.length_take]
          simp only [if_pos c3, decide_eq_false c2, Bool.and_false, Bool.false_and]
      · by_cases c2 : 0 ≤ x.i 1 ∧ x.i 1 ≤ 0
        · cases h : hasStep pre (x.i 0) (x.i 1)
          · simp (disch := omega) only [lt_eq, chk_dec, chk_tt, chk_and, chk_inb, chk_fits, chk_make, chkn_dec, cond_dt, cond_df, cond_bt, cond_bf, cond_nt, cond_nf, cond_not, cond_and, cond_or, cond_tt, cond_ff, wrap_id, min_if', max_if', List.length_append, List.length_cons, List.length_nil, List.length_replicate, List.length_set, List.length_map, List.length_range, Int.natCast_add, Int.cast_ofNat_Int, Int.toNat_natCast, Int.add_assoc, Nat.zero_add, Int.zero_add, List.append_assoc, List.cons_append, List.nil_append, rowD_mid, List.length_take]
            simp only [List.take_left, h, cond_false, if_neg c3, decide_eq_true c1, decide_eq_true c2, Bool.true_and, Bool.not_false]
            (try simp (disch := omega) only [lt_eq, chk_dec, chk_tt, chk_and, chk_inb, chk_fits, chk_make, chkn_dec, cond_dt, cond_df, cond_bt, cond_bf, cond_nt, cond_nf, cond_not, cond_and, cond_or, cond_tt, cond_ff, wrap_id, min_if', max_if', List.length_append, List.length_cons, List.length_nil, List.length_replicate, List.length_set, List.length_map, List.length_range, Int.natCast_add, Int.cast_ofNat_Int, Int.toNat_natCast, Int.add_assoc, Nat.zero_add, Int.zero_add, List.append_assoc, List.cons_append, List.nil_append, rowD_mid, List.length_take])
            simp only [List.length_append, List.length_cons, List.length_nil, List.length_replicate, List.length_set, List.length_map, List.length_range, Int.natCast_add, Int.cast_ofNat_Int, Int.toNat_natCast, Int.add_assoc, Nat.zero_add, Int.zero_add, List.append_assoc, List.cons_append, List.nil_append] at this ⊢
            exact this
          · simp (disch := omega) only [lt_eq, chk_dec, chk_tt, chk_and, chk_inb, chk_fits, chk_make, chkn_dec, cond_dt, cond_df, cond_bt, cond_bf, cond_nt, cond_nf, cond_not, cond_and, cond_or, cond_tt, cond_ff, wrap_id, min_if', max_if', List.length_append, List.length_cons, List.length_nil, List.length_replicate, List.length_set, List.length_map, List.length_range, Int.natCast_add, Int.cast_ofNat_Int, Int.toNat_natCast, Int.add_assoc, Nat.zero_add, Int.zero_add, List.append_assoc, List.cons_append, List.nil_append, rowD_mid, List.length_take]
            simp only [List.take_left, h, cond_true, if_neg c3, decide_eq_true c1, decide_eq_true c2, Bool.true_and, Bool.not_true, Bool.false_and]
        · simp (disch := omega) only [lt_eq, chk_dec, chk_tt, chk_and, chk_inb, chk_fits, chk_make, chkn_dec, cond_dt, cond_df, cond_bt, cond_bf, cond_nt, cond_nf, cond_not, cond_and, cond_or, cond_tt, cond_ff, wrap_id, min_if', max_if', List.length_append, List.length_cons, List.length_nil, List.length_replicate, List.length_set, List.length_map, List.length_range, Int.natCast_add, Int.cast_ofNat_Int, Int.toNat_natCast, Int.add_assoc, Nat.zero_add, Int.zero_add, List.append_assoc, List.cons_append, List.nil_append, rowD_mid, List.length_take]
          simp only [if_neg c3, decide_eq_false c2, Bool.and_false, Bool.false_and]
    · by_cases c3 : x.i 0 = 3
      · omega
      · simp (disch := omega) only [lt_eq, chk_dec, chk_tt, chk_and, chk_inb, chk_fits, chk_make, chkn_dec, cond_dt, cond_df, cond_bt, cond_bf, cond_nt, cond_nf, cond_not, cond_and, cond_or, cond_tt, cond_ff, wrap_id, min_if', max_if', List.length_append, List.length_cons, List.length_nil, List.length_replicate, List.length_set, List.length_map, List.length_range, Int.natCast_add, Int.cast_ofNat_Int, Int.toNat_natCast, Int.add_assoc, Nat.zero_add, Int.zero_add, List.append_assoc, List.cons_append, List.nil_append, rowD_mid, List.length_take]
        simp only [decide_eq_false c1, Bool.false_and]
noncomputable def f74 : List Dat → Bool × List Un := fun a0 => (true, [.b (stepsW a0)])
theorem spec74 (a0 : List Dat) : ∃ m, t74 m a0 = some ([.b (stepsW a0)]) := by
  refine ⟨17, ?_⟩
  unfold t74 stepsW
  by_cases h : 1 ≤ (a0.length : Int) ∧ (a0.length : Int) ≤ 16
  · rw [decide_eq_true h, Bool.true_and]
    simp (disch := omega) only [lt_eq, chk_dec, chk_tt, chk_and, chk_inb, chk_fits, chk_make, chkn_dec, cond_dt, cond_df, cond_bt, cond_bf, cond_nt, cond_nf, cond_not, cond_and, cond_or, cond_tt, cond_ff, wrap_id, min_if', max_if']
    exact stepsWL 17 a0 [] 17 (by omega) (by simp; omega)
  · rw [decide_eq_false h, Bool.false_and]
    simp (disch := omega) only [lt_eq, chk_dec, chk_tt, chk_and, chk_inb, chk_fits, chk_make, chkn_dec, cond_dt, cond_df, cond_bt, cond_bf, cond_nt, cond_nf, cond_not, cond_and, cond_or, cond_tt, cond_ff, wrap_id, min_if', max_if']
theorem right74 : ER 74 (mkE N74.en N74.ex f74) := right_of KN_none T72.right (fun m => [S74_0 (L74_0 m m)]) (t := t74) (by kernel_rfl) (fun m => (all1 (H74_0 m m) all0)) (fun m a => by kernel_rfl) fun a0 hc => spec74 a0
noncomputable def T74 : Tb Try.prog LQ TE := T72.add 74 _ right74
/-- What a deal's loans and its notes are together, if the deal may be. -/
def sumsW (d : ADeal) : Option (Int × Int) :=
  match loansW d.loans with
  | none => none
  | some p => match notesW p d.notes with
    | none => none
    | some n => if termsV d && (stepsW d.s0 && (stepsW d.s1 && stepsW d.s2)) then some (p, n) else none
theorem loansR_le : ∀ (l : List Dat) (last all r : Int), 0 ≤ all → all ≤ 1099511627776 → loansR last all l = some r → all ≤ r ∧ r ≤ 1099511627776
  | [], last, all, r, h0, h1, h => by simp [loansR] at h; omega
  | d :: l, last, all, r, h0, h1, h => by
    unfold loansR at h
    split at h
    · cases h
    · split at h
      · have := loansR_le l _ _ r (by omega) (by omega) h; omega
      · cases h
theorem loansW_le {l : List Dat} {r : Int} (h : loansW l = some r) : 0 ≤ r ∧ r ≤ 1099511627776 := by
  unfold loansW at h
  split at h
  · exact loansR_le l 0 0 r (by omega) (by omega) h
  · cases h
/-! cascade/deal.sums -/
noncomputable def N52 : RoadF := ⟨T74.tab, 52, ⟨[.agg [.int .i64, .int .i64, .int .i64, .recs [.int .i64, .int .i64], .recs [.int .i64, .int .i64, .int .i64], .int .i64, .int .i64, .int .i64, .int .i64, .int .i64, .int .i64, .int .i64, .int .i64, .int .i64, .int .i64, .recs [.int .i64, .int .i64], .recs [.int .i64, .int .i64], .recs [.int .i64, .int .i64]]], [], 0⟩, ⟨[.int .i64, .int .i64, .bool], [], 0⟩, [[0, 1, 0, 1, 1, 1, 1]]⟩
noncomputable def t52 (m : Nat) : ADeal → Option (List Un) := fun a0 =>
  chk (decide (0 ≤ ((loansW a0.loans).getD 0) ∧ ((loansW a0.loans).getD 0) ≤ 1099511627776)) <|
  bif !((loansW a0.loans).isSome) then
   some ([.i 0, .i 0, .b false])
  else
   bif !((notesW ((loansW a0.loans).getD 0) a0.notes).isSome) then
    some ([.i 0, .i 0, .b false])
   else
    bif !(termsV a0) then
     some ([.i 0, .i 0, .b false])
    else
     bif !(stepsW a0.s0) then
      some ([.i 0, .i 0, .b false])
     else
      bif !(stepsW a0.s1) then
       some ([.i 0, .i 0, .b false])
      else
       bif !(stepsW a0.s2) then
        some ([.i 0, .i 0, .b false])
       else
        some ([.i ((loansW a0.loans).getD 0), .i ((notesW ((loansW a0.loans).getD 0) a0.notes).getD 0), .b true])
noncomputable def f52 : ADeal → Bool × List Un := fun a0 => (true, [.i (((sumsW a0).getD (0, 0)).1), .i (((sumsW a0).getD (0, 0)).2), .b ((sumsW a0).isSome)])
theorem spec52 (a0 : ADeal) : ∃ m, t52 m a0 = some ([.i (((sumsW a0).getD (0, 0)).1), .i (((sumsW a0).getD (0, 0)).2), .b ((sumsW a0).isSome)]) := by
  refine ⟨0, ?_⟩
  unfold t52 sumsW
  cases hl : loansW a0.loans with
  | none => simp [lt, chk]
  | some p =>
    have hb := loansW_le hl
    simp only [lt_eq, Option.getD_some, Option.isSome_some, Bool.not_true, cond_false]
    rw [chk_dec hb]
    cases hn : notesW p a0.notes with
    | none => simp
    | some n =>
      simp only [Option.isSome_some, Bool.not_true, cond_false, Option.getD_some]
      cases termsV a0 <;> cases stepsW a0.s0 <;> cases stepsW a0.s1 <;> cases stepsW a0.s2 <;> rfl
theorem right52 : ER 52 (mkE N52.en N52.ex f52) := right_of KN_none T74.right (fun m => []) (t := t52) (by kernel_rfl) (fun m => all0) (fun m a => by kernel_rfl) fun a0 hc => spec52 a0
noncomputable def T52 : Tb Try.prog LQ TE := T74.add 52 _ right52
/-! cascade/deal.Right -/
noncomputable def N35 : RoadF := ⟨T52.tab, 35, ⟨[.agg [.int .i64, .int .i64, .int .i64, .recs [.int .i64, .int .i64], .recs [.int .i64, .int .i64, .int .i64], .int .i64, .int .i64, .int .i64, .int .i64, .int .i64, .int .i64, .int .i64, .int .i64, .int .i64, .int .i64, .recs [.int .i64, .int .i64], .recs [.int .i64, .int .i64], .recs [.int .i64, .int .i64]]], [], 0⟩, ⟨[.bool], [], 0⟩, []⟩
noncomputable def t35 (m : Nat) : ADeal → Option (List Un) := fun a0 =>
  some ([.b ((sumsW a0).isSome)])
noncomputable def f35 : ADeal → Bool × List Un := fun a0 => (true, [.b ((sumsW a0).isSome)])
theorem spec35 (a0 : ADeal) : ∃ m, t35 m a0 = some ([.b ((sumsW a0).isSome)]) := by
  exact ⟨0, rfl⟩
theorem right35 : ER 35 (mkE N35.en N35.ex f35) := right_of KN_none T52.right (fun m => []) (t := t35) (by kernel_rfl) (fun m => all0) (fun m a => by kernel_rfl) fun a0 hc => spec35 a0
noncomputable def T35 : Tb Try.prog LQ TE := T52.add 35 _ right35
/-! cascade/deal.Pool -/
noncomputable def N25 : RoadF := ⟨T35.tab, 25, ⟨[.agg [.int .i64, .int .i64, .int .i64, .recs [.int .i64, .int .i64], .recs [.int .i64, .int .i64, .int .i64], .int .i64, .int .i64, .int .i64, .int .i64, .int .i64, .int .i64, .int .i64, .int .i64, .int .i64, .int .i64, .recs [.int .i64, .int .i64], .recs [.int .i64, .int .i64], .recs [.int .i64, .int .i64]]], [], 0⟩, ⟨[.int .i64], [], 0⟩, []⟩
noncomputable def t25 (m : Nat) : ADeal → Option (List Un) := fun a0 =>
  some ([.i (((sumsW a0).getD (0, 0)).1)])
noncomputable def f25 : ADeal → Bool × List Un := fun a0 => (true, [.i (((sumsW a0).getD (0, 0)).1)])
theorem spec25 (a0 : ADeal) : ∃ m, t25 m a0 = some ([.i (((sumsW a0).getD (0, 0)).1)]) := by
  exact ⟨0, rfl⟩
theorem right25 : ER 25 (mkE N25.en N25.ex f25) := right_of KN_none T35.right (fun m => []) (t := t25) (by kernel_rfl) (fun m => all0) (fun m a => by kernel_rfl) fun a0 hc => spec25 a0
noncomputable def T25 : Tb Try.prog LQ TE := T35.add 25 _ right25
/-! cascade/deal.Notes -/
noncomputable def N24 : RoadF := ⟨T25.tab, 24, ⟨[.agg [.int .i64, .int .i64, .int .i64, .recs [.int .i64, .int .i64], .recs [.int .i64, .int .i64, .int .i64], .int .i64, .int .i64, .int .i64, .int .i64, .int .i64, .int .i64, .int .i64, .int .i64, .int .i64, .int .i64, .recs [.int .i64, .int .i64], .recs [.int .i64, .int .i64], .recs [.int .i64, .int .i64]]], [], 0⟩, ⟨[.int .i64], [], 0⟩, []⟩
noncomputable def t24 (m : Nat) : ADeal → Option (List Un) := fun a0 =>
  some ([.i (((sumsW a0).getD (0, 0)).2)])
noncomputable def f24 : ADeal → Bool × List Un := fun a0 => (true, [.i (((sumsW a0).getD (0, 0)).2)])
theorem spec24 (a0 : ADeal) : ∃ m, t24 m a0 = some ([.i (((sumsW a0).getD (0, 0)).2)]) := by
  exact ⟨0, rfl⟩
theorem right24 : ER 24 (mkE N24.en N24.ex f24) := right_of KN_none T25.right (fun m => []) (t := t24) (by kernel_rfl) (fun m => all0) (fun m a => by kernel_rfl) fun a0 hc => spec24 a0
noncomputable def T24 : Tb Try.prog LQ TE := T25.add 24 _ right24
/-! slices.Clone[[]cascade/note.Note,cascade/note.Note] -/
noncomputable def N61 : RoadF := ⟨T24.tab, 61, ⟨[.recs [.int .i64, .int .i64, .int .i64, .int .i64, .int .i64, .int .i64, .int .i64]], [], 0⟩, ⟨[.buf 0 7], [.recs [.int .i64, .int .i64, .int .i64, .int .i64, .int .i64, .int .i64, .int .i64]], 0⟩, []⟩
noncomputable def t61 (m : Nat) : List Dat → Option (List Un) := fun a0 =>
  bif decide (a0.length = 0) then
   both (
    some ([.d ([])])) (
    chk (fits (0 + a0.length) 56) <|
    some ([.d a0]))
  else
   chk (fits (0 + a0.length) 56) <|
   some ([.d a0])
noncomputable def f61 : List Dat → Bool × List Un := fun a0 => (decide (a0.length < 1000000), [.d (a0)])
theorem spec61 (a0 : List Dat) (hc : (decide (a0.length < 1000000)) = true) : ∃ m, t61 m a0 = some ([.d (a0)]) := by
  have h := of_decide_eq_true hc
  refine ⟨0, ?_⟩
  unfold t61
  cases a0 with
  | nil => simp (disch := omega) only [lt_eq, chk_dec, chk_tt, chk_and, chk_inb, chk_fits, chk_make, chkn_dec, cond_dt, cond_df, cond_bt, cond_bf, cond_nt, cond_nf, cond_not, cond_and, cond_or, cond_tt, cond_ff, wrap_id, min_if', max_if', List.length_nil, both_same, Nat.add_zero, cond_same]
  | cons x l =>
    simp only [List.length_cons] at h ⊢
    simp (disch := omega) only [lt_eq, chk_dec, chk_tt, chk_and, chk_inb, chk_fits, chk_make, chkn_dec, cond_dt, cond_df, cond_bt, cond_bf, cond_nt, cond_nf, cond_not, cond_and, cond_or, cond_tt, cond_ff, wrap_id, min_if', max_if']
theorem right61 : ER 61 (mkE N61.en N61.ex f61) := right_of KN_none T24.right (fun m => []) (t := t61) (by kernel_rfl) (fun m => all0) (fun m a => by kernel_rfl) fun a0 hc => spec61 a0 hc
noncomputable def T61 : Tb Try.prog LQ TE := T24.add 61 _ right61
/-! slices.Clone[[]cascade/api.Loan,cascade/api.Loan] -/
noncomputable def N66 : RoadF := ⟨T61.tab, 66, ⟨[.recs [.int .i64, .int .i64]], [], 0⟩, ⟨[.buf 0 2], [.recs [.int .i64, .int .i64]], 0⟩, []⟩
noncomputable def t66 (m : Nat) : List Dat → Option (List Un) := fun a0 =>
  bif decide (a0.length = 0) then
   both (
    some ([.d ([])])) (
    chk (fits (0 + a0.length) 16) <|
    some ([.d a0]))
  else
   chk (fits (0 + a0.length) 16) <|
   some ([.d a0])
noncomputable def f66 : List Dat → Bool × List Un := fun a0 => (decide (a0.length < 1000000), [.d (a0)])
theorem spec66 (a0 : List Dat) (hc : (decide (a0.length < 1000000)) = true) : ∃ m, t66 m a0 = some ([.d (a0)]) := by
  have h := of_decide_eq_true hc
  refine ⟨0, ?_⟩
  unfold t66
  cases a0 with
  | nil => simp (disch := omega) only [lt_eq, chk_dec, chk_tt, chk_and, chk_inb, chk_fits, chk_make, chkn_dec, cond_dt, cond_df, cond_bt, cond_bf, cond_nt, cond_nf, cond_not, cond_and, cond_or, cond_tt, cond_ff, wrap_id, min_if', max_if', List.length_nil, both_same, Nat.add_zero, cond_same]
  | cons x l =>
    simp only [List.length_cons] at h ⊢
    simp (disch := omega) only [lt_eq, chk_dec, chk_tt, chk_and, chk_inb, chk_fits, chk_make, chkn_dec, cond_dt, cond_df, cond_bt, cond_bf, cond_nt, cond_nf, cond_not, cond_and, cond_or, cond_tt, cond_ff, wrap_id, min_if', max_if']
theorem right66 : ER 66 (mkE N66.en N66.ex f66) := right_of KN_none T61.right (fun m => []) (t := t66) (by kernel_rfl) (fun m => all0) (fun m a => by kernel_rfl) fun a0 hc => spec66 a0 hc
noncomputable def T66 : Tb Try.prog LQ TE := T61.add 66 _ right66
/-! slices.Clone[[]cascade/api.Terms,cascade/api.Terms] -/
noncomputable def N67 : RoadF := ⟨T66.tab, 67, ⟨[.recs [.int .i64, .int .i64, .int .i64]], [], 0⟩, ⟨[.buf 0 3], [.recs [.int .i64, .int .i64, .int .i64]], 0⟩, []⟩
noncomputable def t67 (m : Nat) : List Dat → Option (List Un) := fun a0 =>
  bif decide (a0.length = 0) then
   both (
    some ([.d ([])])) (
    chk (fits (0 + a0.length) 24) <|
    some ([.d a0]))
  else
   chk (fits (0 + a0.length) 24) <|
   some ([.d a0])
noncomputable def f67 : List Dat → Bool × List Un := fun a0 => (decide (a0.length < 1000000), [.d (a0)])
theorem spec67 (a0 : List Dat) (hc : (decide (a0.length < 1000000)) = true) : ∃ m, t67 m a0 = some ([.d (a0)]) := by
  have h := of_decide_eq_true hc
  refine ⟨0, ?_⟩
  unfold t67
  cases a0 with
  | nil => simp (disch := omega) only [lt_eq, chk_dec, chk_tt, chk_and, chk_inb, chk_fits, chk_make, chkn_dec, cond_dt, cond_df, cond_bt, cond_bf, cond_nt, cond_nf, cond_not, cond_and, cond_or, cond_tt, cond_ff, wrap_id, min_if', max_if', List.length_nil, both_same, Nat.add_zero, cond_same]
  | cons x l =>
    simp only [List.length_cons] at h ⊢
    simp (disch := omega) only [lt_eq, chk_dec, chk_tt, chk_and, chk_inb, chk_fits, chk_make, chkn_dec, cond_dt, cond_df, cond_bt, cond_bf, cond_nt, cond_nf, cond_not, cond_and, cond_or, cond_tt, cond_ff, wrap_id, min_if', max_if']
theorem right67 : ER 67 (mkE N67.en N67.ex f67) := right_of KN_none T66.right (fun m => []) (t := t67) (by kernel_rfl) (fun m => all0) (fun m a => by kernel_rfl) fun a0 hc => spec67 a0 hc
noncomputable def T67 : Tb Try.prog LQ TE := T66.add 67 _ right67
/-! slices.Clone[[]cascade/api.Step,cascade/api.Step] -/
noncomputable def N68 : RoadF := ⟨T67.tab, 68, ⟨[.recs [.int .i64, .int .i64]], [], 0⟩, ⟨[.buf 0 2], [.recs [.int .i64, .int .i64]], 0⟩, []⟩
noncomputable def t68 (m : Nat) : List Dat → Option (List Un) := fun a0 =>
  bif decide (a0.length = 0) then
   both (
    some ([.d ([])])) (
    chk (fits (0 + a0.length) 16) <|
    some ([.d a0]))
  else
   chk (fits (0 + a0.length) 16) <|
   some ([.d a0])
noncomputable def f68 : List Dat → Bool × List Un := fun a0 => (decide (a0.length < 1000000), [.d (a0)])
theorem spec68 (a0 : List Dat) (hc : (decide (a0.length < 1000000)) = true) : ∃ m, t68 m a0 = some ([.d (a0)]) := by
  have h := of_decide_eq_true hc
  refine ⟨0, ?_⟩
  unfold t68
  cases a0 with
  | nil => simp (disch := omega) only [lt_eq, chk_dec, chk_tt, chk_and, chk_inb, chk_fits, chk_make, chkn_dec, cond_dt, cond_df, cond_bt, cond_bf, cond_nt, cond_nf, cond_not, cond_and, cond_or, cond_tt, cond_ff, wrap_id, min_if', max_if', List.length_nil, both_same, Nat.add_zero, cond_same]
  | cons x l =>
    simp only [List.length_cons] at h ⊢
    simp (disch := omega) only [lt_eq, chk_dec, chk_tt, chk_and, chk_inb, chk_fits, chk_make, chkn_dec, cond_dt, cond_df, cond_bt, cond_bf, cond_nt, cond_nf, cond_not, cond_and, cond_or, cond_tt, cond_ff, wrap_id, min_if', max_if']
theorem right68 : ER 68 (mkE N68.en N68.ex f68) := right_of KN_none T67.right (fun m => []) (t := t68) (by kernel_rfl) (fun m => all0) (fun m a => by kernel_rfl) fun a0 hc => spec68 a0 hc
noncomputable def T68 : Tb Try.prog LQ TE := T67.add 68 _ right68
/-! slices.Clone[[]cascade/pool.Loan,cascade/pool.Loan] -/
noncomputable def N69 : RoadF := ⟨T68.tab, 69, ⟨[.recs [.int .i64, .int .i64, .int .i64, .int .i64, .bool]], [], 0⟩, ⟨[.buf 0 5], [.recs [.int .i64, .int .i64, .int .i64, .int .i64, .bool]], 0⟩, []⟩
noncomputable def t69 (m : Nat) : List Dat → Option (List Un) := fun a0 =>
  bif decide (a0.length = 0) then
   both (
    some ([.d ([])])) (
    chk (fits (0 + a0.length) 40) <|
    some ([.d a0]))
  else
   chk (fits (0 + a0.length) 40) <|
   some ([.d a0])
noncomputable def f69 : List Dat → Bool × List Un := fun a0 => (decide (a0.length < 1000000), [.d (a0)])
theorem spec69 (a0 : List Dat) (hc : (decide (a0.length < 1000000)) = true) : ∃ m, t69 m a0 = some ([.d (a0)]) := by
  have h := of_decide_eq_true hc
  refine ⟨0, ?_⟩
  unfold t69
  cases a0 with
  | nil => simp (disch := omega) only [lt_eq, chk_dec, chk_tt, chk_and, chk_inb, chk_fits, chk_make, chkn_dec, cond_dt, cond_df, cond_bt, cond_bf, cond_nt, cond_nf, cond_not, cond_and, cond_or, cond_tt, cond_ff, wrap_id, min_if', max_if', List.length_nil, both_same, Nat.add_zero, cond_same]
  | cons x l =>
    simp only [List.length_cons] at h ⊢
    simp (disch := omega) only [lt_eq, chk_dec, chk_tt, chk_and, chk_inb, chk_fits, chk_make, chkn_dec, cond_dt, cond_df, cond_bt, cond_bf, cond_nt, cond_nf, cond_not, cond_and, cond_or, cond_tt, cond_ff, wrap_id, min_if', max_if']
theorem right69 : ER 69 (mkE N69.en N69.ex f69) := right_of KN_none T68.right (fun m => []) (t := t69) (by kernel_rfl) (fun m => all0) (fun m a => by kernel_rfl) fun a0 hc => spec69 a0 hc
noncomputable def T69 : Tb Try.prog LQ TE := T68.add 69 _ right69
/-! cascade/deal.Copy -/
noncomputable def N36 : RoadF := ⟨T69.tab, 36, ⟨[.agg [.int .i64, .int .i64, .int .i64, .recs [.int .i64, .int .i64], .recs [.int .i64, .int .i64, .int .i64], .int .i64, .int .i64, .int .i64, .int .i64, .int .i64, .int .i64, .int .i64, .int .i64, .int .i64, .int .i64, .recs [.int .i64, .int .i64], .recs [.int .i64, .int .i64], .recs [.int .i64, .int .i64]]], [], 0⟩, ⟨[.agg [.int .i64, .int .i64, .int .i64, .buf 0 2, .buf 1 3, .int .i64, .int .i64, .int .i64, .int .i64, .int .i64, .int .i64, .int .i64, .int .i64, .int .i64, .int .i64, .buf 2 2, .buf 3 2, .buf 4 2]], [.recs [.int .i64, .int .i64], .recs [.int .i64, .int .i64, .int .i64], .recs [.int .i64, .int .i64], .recs [.int .i64, .int .i64], .recs [.int .i64, .int .i64]], 0⟩, [[0, 1, 0, 1, 1, 1]]⟩
noncomputable def t36 (m : Nat) : ADeal → Option (List Un) := fun a0 =>
  chk (decide (a0.loans.length < 1000000)) <|
  chk (decide (a0.notes.length < 1000000)) <|
  chk (decide (a0.s0.length < 1000000)) <|
  chk (decide (a0.s1.length < 1000000)) <|
  chk (decide (a0.s2.length < 1000000)) <|
  some (Uns.enc (a0.a : DealA) ++ Uns.enc (a0.b : DealB) ++ [.d a0.loans, .d a0.notes, .d a0.s0, .d a0.s1, .d a0.s2])
noncomputable def f36 : ADeal → Bool × List Un := fun a0 => (decide (a0.loans.length < 1000000 ∧ a0.notes.length < 1000000 ∧ a0.s0.length < 1000000 ∧ a0.s1.length < 1000000 ∧ a0.s2.length < 1000000), Uns.enc ((a0.a) : DealA) ++ Uns.enc ((a0.b) : DealB) ++ [.d (a0.loans), .d (a0.notes), .d (a0.s0), .d (a0.s1), .d (a0.s2)])
theorem spec36 (a0 : ADeal) (hc : (decide (a0.loans.length < 1000000 ∧ a0.notes.length < 1000000 ∧ a0.s0.length < 1000000 ∧ a0.s1.length < 1000000 ∧ a0.s2.length < 1000000)) = true) : ∃ m, t36 m a0 = some (Uns.enc ((a0.a) : DealA) ++ Uns.enc ((a0.b) : DealB) ++ [.d (a0.loans), .d (a0.notes), .d (a0.s0), .d (a0.s1), .d (a0.s2)]) := by
  obtain ⟨h1, h2, h3, h4, h5⟩ := of_decide_eq_true hc
  refine ⟨0, ?_⟩
  unfold t36
  simp (disch := omega) only [lt_eq, chk_dec, chk_tt, chk_and, chk_inb, chk_fits, chk_make, chkn_dec, cond_dt, cond_df, cond_bt, cond_bf, cond_nt, cond_nf, cond_not, cond_and, cond_or, cond_tt, cond_ff, wrap_id, min_if', max_if']
theorem right36 : ER 36 (mkE N36.en N36.ex f36) := right_of KN_none T69.right (fun m => []) (t := t36) (by kernel_rfl) (fun m => all0) (fun m a => by kernel_rfl) fun a0 hc => spec36 a0 hc
noncomputable def T36 : Tb Try.prog LQ TE := T69.add 36 _ right36

end Go.Proofs.Ytoiijpphfckdjaa
