/- A part of the walk. -/
import Derived.Test.YtoiijpphfckdjaaNotes
namespace Go.Proofs.Ytoiijpphfckdjaa
open Go Go.Proofs.Ytoiijpphfckdjaa.Ev
set_option linter.unusedVariables false
set_option linter.unusedSimpArgs false
set_option linter.unnecessarySimpa false

/-! (cascade/tests.Result).Fails -/
noncomputable def N49 : RoadF := ⟨T10.tab, 49, ⟨[.agg [.bool, .bool, .bool, .bool]], [], 0⟩, ⟨[.bool], [], 0⟩, []⟩
noncomputable def t49 (m : Nat) : Bool × Bool × Bool × Bool → Option (List Un) := fun (a0, a1, a2, a3) =>
  bif !a0 then
   some ([.b true])
  else
   bif !a2 then
    some ([.b true])
   else
    some ([.b !a3])
noncomputable def f49 : Bool × Bool × Bool × Bool → Bool × List Un := fun (a0, a1, a2, a3) => (true, [.b (!a0 || (!a2 || !a3))])
theorem spec49 (a0 : Bool) (a1 : Bool) (a2 : Bool) (a3 : Bool) : ∃ m, t49 m (a0, a1, a2, a3) = some ([.b (!a0 || (!a2 || !a3))]) := by
  refine ⟨0, ?_⟩
  unfold t49
  cases a0 <;> cases a2 <;> cases a3 <;> rfl
theorem right49 : ER 49 (mkE N49.en N49.ex f49) := right_of KN_none T10.right (fun m => []) (t := t49) (by kernel_rfl) (fun m => all0) (fun m a => by kernel_rfl) fun (a0, a1, a2, a3) hc => spec49 a0 a1 a2 a3
noncomputable def T49 : Tb Try.prog LQ TE := T10.add 49 _ right49
/-- The next state: its mode, and the periods passed. -/
def nextV (mode passed cure : Int) (oc ic late loss : Bool) : Int × Int :=
  if mode = 2 ∨ ic = false then (2, 0)
  else if oc = false ∨ late = false ∨ loss = false then (1, 0)
  else if mode ≠ 1 ∨ cure ≤ passed ∨ passed + 1 = cure then (0, 0)
  else (1, passed + 1)
/-! (cascade/mode.State).Next -/
noncomputable def N21 : RoadF := ⟨T49.tab, 21, ⟨[.agg [.int .i64, .int .i64], .int .i64, .agg [.bool, .bool, .bool, .bool]], [], 0⟩, ⟨[.agg [.int .i64, .int .i64]], [], 0⟩, []⟩
noncomputable def t21 (m : Nat) : Int × Int × Int × Bool × Bool × Bool × Bool → Option (List Un) := fun (a0, a1, a2, a3, a4, a5, a6) =>
  bif a0 == 2 then
   some ([.i 2, .i 0])
  else
   bif !a4 then
    some ([.i 2, .i 0])
   else
    bif (!a3 || (!a5 || !a6)) then
     some ([.i 1, .i 0])
    else
     bif a0 != 1 then
      some ([.i 0, .i 0])
     else
      bif decide (a1 ≥ a2) then
       some ([.i 0, .i 0])
      else
       bif (w64 (a1 + 1)) == a2 then
        some ([.i 0, .i 0])
       else
        some ([.i 1, .i (w64 (a1 + 1))])
noncomputable def f21 : Int × Int × Int × Bool × Bool × Bool × Bool → Bool × List Un := fun (a0, a1, a2, a3, a4, a5, a6) => (decide (0 ≤ a1 ∧ a1 ≤ 1000000), [.i ((nextV a0 a1 a2 a3 a4 a5 a6).1), .i ((nextV a0 a1 a2 a3 a4 a5 a6).2)])
theorem spec21 (a0 : Int) (a1 : Int) (a2 : Int) (a3 : Bool) (a4 : Bool) (a5 : Bool) (a6 : Bool) (hc : (decide (0 ≤ a1 ∧ a1 ≤ 1000000)) = true) : ∃ m, t21 m (a0, a1, a2, a3, a4, a5, a6) = some ([.i ((nextV a0 a1 a2 a3 a4 a5 a6).1), .i ((nextV a0 a1 a2 a3 a4 a5 a6).2)]) := by
  have h := of_decide_eq_true hc
  refine ⟨0, ?_⟩
  unfold t21 nextV
  by_cases h1 : a0 = 2
  · simp (disch := omega) only [lt_eq, chk_dec, chk_tt, chk_and, chk_inb, chk_fits, chk_make, chkn_dec, cond_dt, cond_df, cond_bt, cond_bf, cond_nt, cond_nf, cond_not, cond_and, cond_or, cond_tt, cond_ff, wrap_id, min_if', max_if']
    simp [h1]
  · cases a4
    · simp (disch := omega) only [lt_eq, chk_dec, chk_tt, chk_and, chk_inb, chk_fits, chk_make, chkn_dec, cond_dt, cond_df, cond_bt, cond_bf, cond_nt, cond_nf, cond_not, cond_and, cond_or, cond_tt, cond_ff, wrap_id, min_if', max_if']
      simp
    · cases a3 <;> cases a5 <;> cases a6 <;> simp [h1, cond_bf] <;> by_cases h2 : a0 = 1 <;> by_cases h3 : a2 ≤ a1 <;> by_cases h4 : a1 + 1 = a2 <;> simp (disch := omega) only [lt_eq, chk_dec, chk_tt, chk_and, chk_inb, chk_fits, chk_make, chkn_dec, cond_dt, cond_df, cond_bt, cond_bf, cond_nt, cond_nf, cond_not, cond_and, cond_or, cond_tt, cond_ff, wrap_id, min_if', max_if'] <;> simp [h2, h3, h4]
theorem right21 : ER 21 (mkE N21.en N21.ex f21) := right_of KN_none T49.right (fun m => []) (t := t21) (by kernel_rfl) (fun m => all0) (fun m a => by kernel_rfl) fun (a0, a1, a2, a3, a4, a5, a6) hc => spec21 a0 a1 a2 a3 a4 a5 a6 hc
noncomputable def T21 : Tb Try.prog LQ TE := T49.add 21 _ right21
def bucketV (n : Int) : Int := if n < 1 then 0 else if n < 3 then 1 else if n < 6 then 2 else 3
/-! cascade/late.bucket -/
noncomputable def N70 : RoadF := ⟨T21.tab, 70, ⟨[.int .i64], [], 0⟩, ⟨[.int .i64], [], 0⟩, []⟩
noncomputable def t70 (m : Nat) : Int → Option (List Un) := fun a0 =>
  bif decide (a0 < 1) then
   some ([.i 0])
  else
   bif decide (a0 < 3) then
    some ([.i 1])
   else
    bif decide (a0 < 6) then
     some ([.i 2])
    else
     some ([.i 3])
noncomputable def f70 : Int → Bool × List Un := fun a0 => (true, [.i (bucketV a0)])
theorem spec70 (a0 : Int) : ∃ m, t70 m a0 = some ([.i (bucketV a0)]) := by
  refine ⟨0, ?_⟩
  unfold t70 bucketV
  by_cases h1 : a0 < 1 <;> by_cases h2 : a0 < 3 <;> by_cases h3 : a0 < 6 <;> simp [h1, h2, h3]
theorem right70 : ER 70 (mkE N70.en N70.ex f70) := right_of KN_none T21.right (fun m => []) (t := t70) (by kernel_rfl) (fun m => all0) (fun m a => by kernel_rfl) fun a0 hc => spec70 a0
noncomputable def T70 : Tb Try.prog LQ TE := T21.add 70 _ right70
def loanG (d : Dat) : Bool := decide (0 ≤ d.i 1 ∧ d.i 1 ≤ 1099511627776)
def lateF (j : Int) (l : List Dat) : Int := sumF (fun d => if bucketV (d.i 3) = j then d.i 1 else 0) l
theorem bucketV_4 (n : Int) : bucketV n = 0 ∨ bucketV n = 1 ∨ bucketV n = 2 ∨ bucketV n = 3 := by
  unfold bucketV
  split
  · exact .inl rfl
  · split
    · exact .inr (.inl rfl)
    · split
      · exact .inr (.inr (.inl rfl))
      · exact .inr (.inr (.inr rfl))
theorem loanG_at {d : Dat} (h : loanG d = true) : 0 ≤ d.i 1 ∧ d.i 1 ≤ 1099511627776 := of_decide_eq_true h
/-! cascade/late.Of -/
noncomputable def N50 : RoadF := ⟨T70.tab, 50, ⟨[.recs [.int .i64, .int .i64, .int .i64, .int .i64, .bool]], [], 0⟩, ⟨[.agg [.int .i64, .int .i64, .int .i64, .int .i64]], [], 0⟩, []⟩
abbrev A50_0 : Type := List Dat × Int × Int × Int × Int × Int × Int × Int × Int × Int × Int
noncomputable def L50_0s (m : Nat) (k : A50_0 → Option (List Un)) : A50_0 → Option (List Un) := fun (a0, a1, a2, a3, a4, a5, a6, a7, a8, a9, a10) =>
  bif decide (a2 < a1) then
   chk (inb a2 a0.length) <|
   chk (decide (a2.toNat < a0.length)) <|
   lt (rowD a0 a2.toNat : Dat) fun d1 =>
   chk (inb (bucketV (d1.i 3)) 4) <|
   chk (decide ((bucketV (d1.i 3)).toNat < 4)) <|
   lt ((List.getD [a7, a8, a9, a10] ((bucketV (d1.i 3)).toNat) 0) : Int) fun x2 =>
   chk (inb (bucketV (d1.i 3)) 4) <|
   chk (decide ((bucketV (d1.i 3)).toNat < 4)) <|
   k (a0, a1, (w64 (a2 + 1)), a3, a4, a5, a6, (bif decide ((bucketV (d1.i 3)).toNat = 0) then (w64 (x2 + (d1.i 1))) else a7), (bif decide ((bucketV (d1.i 3)).toNat = 1) then (w64 (x2 + (d1.i 1))) else a8), (bif decide ((bucketV (d1.i 3)).toNat = 2) then (w64 (x2 + (d1.i 1))) else a9), (bif decide ((bucketV (d1.i 3)).toNat = 3) then (w64 (x2 + (d1.i 1))) else a10))
  else
   some ([.i a7, .i a8, .i a9, .i a10])
noncomputable def L50_0 (m : Nat) : Nat → A50_0 → Option (List Un) := iterA (L50_0s m)
theorem L50_0_succ (m : Nat) (n : Nat) : L50_0 m (n + 1) = L50_0s m (L50_0 m n) := rfl
noncomputable def S50_0 (F : A50_0 → Option (List Un)) : StopS := ⟨[.lp [0, 1, 0, 1, 1], .blk 0, .code [1, 1, 1]], ⟨frm 24 [(2, .ptr 0 0 0), (3, .ptr 1 0 0), (6, .recs [.int .i64, .int .i64, .int .i64, .int .i64, .bool]), (7, .int .i64), (8, .int .i64)], [.cells [.int .i64, .int .i64, .int .i64, .int .i64], .cells [.int .i64, .int .i64, .int .i64, .int .i64]], 0⟩, onU F⟩
theorem H50_0 (m : Nat) : ∀ n, HO N50 (S50_0 (L50_0 m n)) := loop_holds KN_none T70.right (fun k => [S50_0 k]) (fun k h => (all1 h all0)) fun k a => by kernel_rfl
noncomputable def t50 (m : Nat) : List Dat → Option (List Un) := fun a0 =>
  L50_0 m m (a0, (a0.length : Int), 0, 0, 0, 0, 0, 0, 0, 0, 0)
set_option maxHeartbeats 2000000 in
theorem lateOfL (m : Nat) (z0 z1 z2 z3 : Int) : ∀ (rest pre : List Dat) (n : Nat) (b0 b1 b2 b3 : Int), rest.length < n → (pre ++ rest).length ≤ 1000 → (∀ d ∈ rest, loanG d = true) → (0 ≤ b0 ∧ b0 ≤ 1099511627776 * pre.length) → (0 ≤ b1 ∧ b1 ≤ 1099511627776 * pre.length) → (0 ≤ b2 ∧ b2 ≤ 1099511627776 * pre.length) → (0 ≤ b3 ∧ b3 ≤ 1099511627776 * pre.length) →
    L50_0 m n (pre ++ rest, ((pre ++ rest).length : Int), (pre.length : Int), z0, z1, z2, z3, b0, b1, b2, b3) = some [.i (b0 + lateF 0 rest), .i (b1 + lateF 1 rest), .i (b2 + lateF 2 rest), .i (b3 + lateF 3 rest)] := by
  intro rest
  induction rest with
  | nil =>
    intro pre n b0 b1 b2 b3 hn hl hg h0 h1 h2 h3
    obtain ⟨n, rfl⟩ := one_more n (by simp at hn; omega)
    rw [L50_0_succ]; unfold L50_0s; dsimp only
    simp [cond_df, sumF, lateF]
  | cons x rest ih =>
    intro pre n b0 b1 b2 b3 hn hl hg h0 h1 h2 h3
    obtain ⟨n, rfl⟩ := one_more n (by simp at hn; omega)
    simp only [List.length_cons, List.length_append] at hn hl
    have hx := loanG_at (hg x (by simp))
    have ih' := fun b0 b1 b2 b3 => ih (pre ++ [x]) n b0 b1 b2 b3 (by omega) (by simp; omega) (fun d hd => hg d (by simp [hd]))
    rw [L50_0_succ]; unfold L50_0s; dsimp only
    simp only [lateF, sumF] at ih' ⊢
    rcases bucketV_4 (x.i 3) with hb | hb | hb | hb
    · have := ih' (b0 + x.i 1) b1 b2 b3 (by simp; omega) (by simp; omega) (by simp; omega) (by simp; omega)
      simp (disch := omega) only [lt_eq, chk_dec, chk_tt, chk_and, chk_inb, chk_fits, chk_make, chkn_dec, cond_dt, cond_df, cond_bt, cond_bf, cond_nt, cond_nf, cond_not, cond_and, cond_or, cond_tt, cond_ff, wrap_id, min_if', max_if', List.length_append, List.length_cons, List.length_nil, List.length_replicate, List.length_set, List.length_map, List.length_range, Int.natCast_add, Int.cast_ofNat_Int, Int.toNat_natCast, Int.add_assoc, Nat.zero_add, Int.zero_add, List.append_assoc, List.cons_append, List.nil_append, rowD_mid, hb, Int.reduceToNat, List.getD_cons_zero, List.getD_cons_succ, if_true, Int.reduceEq, if_false]
      simp only [Nat.reduceEqDiff, decide_true, decide_false, cond_true, cond_false, reduceCtorEq, Nat.zero_ne_one, Nat.one_ne_zero, if_true, if_false, Int.reduceEq, Int.zero_add]
      simp only [List.length_append, List.length_cons, List.length_nil, List.length_replicate, List.length_set, List.length_map, List.length_range, Int.natCast_add, Int.cast_ofNat_Int, Int.toNat_natCast, Int.add_assoc, Nat.zero_add, Int.zero_add, List.append_assoc, List.cons_append, List.nil_append] at this ⊢
      exact this
    · have := ih' b0 (b1 + x.i 1) b2 b3 (by simp; omega) (by simp; omega) (by simp; omega) (by simp; omega)
      simp (disch := omega) only [lt_eq, chk_dec, chk_tt, chk_and, chk_inb, chk_fits, chk_make, chkn_dec, cond_dt, cond_df, cond_bt, cond_bf, cond_nt, cond_nf, cond_not, cond_and, cond_or, cond_tt, cond_ff, wrap_id, min_if', max_if', List.length_append, List.length_cons, List.length_nil, List.length_replicate, List.length_set, List.length_map, List.length_range, Int.natCast_add, Int.cast_ofNat_Int, Int.toNat_natCast, Int.add_assoc, Nat.zero_add, Int.zero_add, List.append_assoc, List.cons_append, List.nil_append, rowD_mid, hb, Int.reduceToNat, List.getD_cons_zero, List.getD_cons_succ, if_true, Int.reduceEq, if_false]
      simp only [Nat.reduceEqDiff, decide_true, decide_false, cond_true, cond_false, reduceCtorEq, Nat.zero_ne_one, Nat.one_ne_zero, if_true, if_false, Int.reduceEq, Int.zero_add]
      simp only [List.length_append, List.length_cons, List.length_nil, List.length_replicate, List.length_set, List.length_map, List.length_range, Int.natCast_add, Int.cast_ofNat_Int, Int.toNat_natCast, Int.add_assoc, Nat.zero_add, Int.zero_add, List.append_assoc, List.cons_append, List.nil_append] at this ⊢
      exact this
    · have := ih' b0 b1 (b2 + x.i 1) b3 (by simp; omega) (by simp; omega) (by simp; omega) (by simp; omega)
      simp (disch := omega) only [lt_eq, chk_dec, chk_tt, chk_and, chk_inb, chk_fits, chk_make, chkn_dec, cond_dt, cond_df, cond_bt, cond_bf, cond_nt, cond_nf, cond_not, cond_and, cond_or, cond_tt, cond_ff, wrap_id, min_if', max_if', List.length_append, List.length_cons, List.length_nil, List.length_replicate, List.length_set, List.length_map, List.length_range, Int.natCast_add, Int.cast_ofNat_Int, Int.toNat_natCast, Int.add_assoc, Nat.zero_add, Int.zero_add, List.append_assoc, List.cons_append, List.nil_append, rowD_mid, hb, Int.reduceToNat, List.getD_cons_zero, List.getD_cons_succ, if_true, Int.reduceEq, if_false]
      simp only [Nat.reduceEqDiff, decide_true, decide_false, cond_true, cond_false, reduceCtorEq, Nat.zero_ne_one, Nat.one_ne_zero, if_true, if_false, Int.reduceEq, Int.zero_add]
      simp only [List.length_append, List.length_cons, List.length_nil, List.length_replicate, List.length_set, List.length_map, List.length_range, Int.natCast_add, Int.cast_ofNat_Int, Int.toNat_natCast, Int.add_assoc, Nat.zero_add, Int.zero_add, List.append_assoc, List.cons_append, List.nil_append] at this ⊢
      exact this
    · have := ih' b0 b1 b2 (b3 + x.i 1) (by simp; omega) (by simp; omega) (by simp; omega) (by simp; omega)
      simp (disch := omega) only [lt_eq, chk_dec, chk_tt, chk_and, chk_inb, chk_fits, chk_make, chkn_dec, cond_dt, cond_df, cond_bt, cond_bf, cond_nt, cond_nf, cond_not, cond_and, cond_or, cond_tt, cond_ff, wrap_id, min_if', max_if', List.length_append, List.length_cons, List.length_nil, List.length_replicate, List.length_set, List.length_map, List.length_range, Int.natCast_add, Int.cast_ofNat_Int, Int.toNat_natCast, Int.add_assoc, Nat.zero_add, Int.zero_add, List.append_assoc, List.cons_append, List.nil_append, rowD_mid, hb, Int.reduceToNat, List.getD_cons_zero, List.getD_cons_succ, if_true, Int.reduceEq, if_false]
      simp only [Nat.reduceEqDiff, decide_true, decide_false, cond_true, cond_false, reduceCtorEq, Nat.zero_ne_one, Nat.one_ne_zero, if_true, if_false, Int.reduceEq, Int.zero_add]
      simp only [List.length_append, List.length_cons, List.length_nil, List.length_replicate, List.length_set, List.length_map, List.length_range, Int.natCast_add, Int.cast_ofNat_Int, Int.toNat_natCast, Int.add_assoc, Nat.zero_add, Int.zero_add, List.append_assoc, List.cons_append, List.nil_append] at this ⊢
      exact this
noncomputable def f50 : List Dat → Bool × List Un := fun a0 => (decide (a0.length ≤ 1000) && a0.all loanG, [.i (lateF 0 a0), .i (lateF 1 a0), .i (lateF 2 a0), .i (lateF 3 a0)])
theorem spec50 (a0 : List Dat) (hc : (decide (a0.length ≤ 1000) && a0.all loanG) = true) : ∃ m, t50 m a0 = some ([.i (lateF 0 a0), .i (lateF 1 a0), .i (lateF 2 a0), .i (lateF 3 a0)]) := by
  simp only [Bool.and_eq_true, decide_eq_true_eq, List.all_eq_true] at hc
  refine ⟨a0.length + 1, ?_⟩
  exact (lateOfL (a0.length + 1) _ _ _ _ a0 [] (a0.length + 1) 0 0 0 0 (by omega) (by simpa using hc.1) hc.2 (by simp) (by simp) (by simp) (by simp)).trans (by simp only [Int.zero_add])
theorem right50 : ER 50 (mkE N50.en N50.ex f50) := right_of KN_none T70.right (fun m => [S50_0 (L50_0 m m)]) (t := t50) (by kernel_rfl) (fun m => (all1 (H50_0 m m) all0)) (fun m a => by kernel_rfl) fun a0 hc => spec50 a0 hc
noncomputable def T50 : Tb Try.prog LQ TE := T70.add 50 _ right50
def fromV (a b c d k : Int) : Int := (if k ≤ 0 then a else 0) + (if k ≤ 1 then b else 0) + (if k ≤ 2 then c else 0) + (if k ≤ 3 then d else 0)
/-! (cascade/late.Buckets).From -/
noncomputable def N51 : RoadF := ⟨T50.tab, 51, ⟨[.agg [.int .i64, .int .i64, .int .i64, .int .i64], .int .i64], [], 0⟩, ⟨[.int .i64], [], 0⟩, []⟩
abbrev A51_0 : Type := Int × Int × Int × Int × Int × Int
noncomputable def L51_0s (m : Nat) (k : A51_0 → Option (List Un)) : A51_0 → Option (List Un) := fun (a0, a1, a2, a3, a4, a5) =>
  bif decide (a1 < 4) then
   chk (inb a1 4) <|
   chk (decide (a1.toNat < 4)) <|
   k ((w64 (a0 + (List.getD [a2, a3, a4, a5] a1.toNat 0))), (w64 (a1 + 1)), a2, a3, a4, a5)
  else
   some ([.i a0])
noncomputable def L51_0 (m : Nat) : Nat → A51_0 → Option (List Un) := iterA (L51_0s m)
theorem L51_0_succ (m : Nat) (n : Nat) : L51_0 m (n + 1) = L51_0s m (L51_0 m n) := rfl
noncomputable def S51_0 (F : A51_0 → Option (List Un)) : StopS := ⟨[.lp [0, 1, 0, 1, 1], .blk 0, .code [1, 1, 1]], ⟨frm 19 [(2, .ptr 0 0 0), (5, .int .i64), (6, .int .i64)], [.cells [.int .i64, .int .i64, .int .i64, .int .i64]], 0⟩, onU F⟩
theorem H51_0 (m : Nat) : ∀ n, HO N51 (S51_0 (L51_0 m n)) := loop_holds KN_none T50.right (fun k => [S51_0 k]) (fun k h => (all1 h all0)) fun k a => by kernel_rfl
noncomputable def t51 (m : Nat) : Int × Int × Int × Int × Int → Option (List Un) := fun (a0, a1, a2, a3, a4) =>
  L51_0 m m (0, (if a4 < 0 then 0 else a4), a0, a1, a2, a3)
noncomputable def f51 : Int × Int × Int × Int × Int → Bool × List Un := fun (a0, a1, a2, a3, a4) => (decide (0 ≤ a0 ∧ a0 ≤ 1152921504606846976 ∧ 0 ≤ a1 ∧ a1 ≤ 1152921504606846976 ∧ 0 ≤ a2 ∧ a2 ≤ 1152921504606846976 ∧ 0 ≤ a3 ∧ a3 ≤ 1152921504606846976), [.i (fromV a0 a1 a2 a3 a4)])
theorem spec51 (a0 : Int) (a1 : Int) (a2 : Int) (a3 : Int) (a4 : Int) (hc : (decide (0 ≤ a0 ∧ a0 ≤ 1152921504606846976 ∧ 0 ≤ a1 ∧ a1 ≤ 1152921504606846976 ∧ 0 ≤ a2 ∧ a2 ≤ 1152921504606846976 ∧ 0 ≤ a3 ∧ a3 ≤ 1152921504606846976)) = true) : ∃ m, t51 m (a0, a1, a2, a3, a4) = some ([.i (fromV a0 a1 a2 a3 a4)]) := by
  have h := of_decide_eq_true hc
  refine ⟨6, ?_⟩
  unfold t51 fromV
  dsimp only
  have f0 : ∀ (n : Nat) (i s : Int), 4 ≤ i → L51_0 6 (n + 1) (s, i, a0, a1, a2, a3) = some [.i s] := by
    intro n i s hi
    rw [L51_0_succ]
    unfold L51_0s
    dsimp only
    rw [cond_df (by omega)]
  have f3 : ∀ (n : Nat) (s : Int), 0 ≤ s → s ≤ 3458764513820540928 → L51_0 6 (n + 2) (s, 3, a0, a1, a2, a3) = some [.i (s + a3)] := by
    intro n s h1 h2
    rw [L51_0_succ]
    unfold L51_0s
    dsimp only
    simp (disch := omega) only [cond_dt, chk_inb, chk_dec, Int.reduceToNat, List.getD_cons_zero, List.getD_cons_succ, wrap_id, Int.reduceAdd, f0]
  have f2 : ∀ (n : Nat) (s : Int), 0 ≤ s → s ≤ 2305843009213693952 → L51_0 6 (n + 3) (s, 2, a0, a1, a2, a3) = some [.i (s + a2 + a3)] := by
    intro n s h1 h2
    rw [L51_0_succ]
    unfold L51_0s
    dsimp only
    simp (disch := omega) only [cond_dt, chk_inb, chk_dec, Int.reduceToNat, List.getD_cons_zero, List.getD_cons_succ, wrap_id, Int.reduceAdd, f3]
  have f1 : ∀ (n : Nat) (s : Int), 0 ≤ s → s ≤ 1152921504606846976 → L51_0 6 (n + 4) (s, 1, a0, a1, a2, a3) = some [.i (s + a1 + a2 + a3)] := by
    intro n s h1 h2
    rw [L51_0_succ]
    unfold L51_0s
    dsimp only
    simp (disch := omega) only [cond_dt, chk_inb, chk_dec, Int.reduceToNat, List.getD_cons_zero, List.getD_cons_succ, wrap_id, Int.reduceAdd, f2]
  by_cases k0 : a4 ≤ 0
  · rw [show (if a4 < 0 then 0 else a4) = (0 : Int) by split <;> omega, show L51_0 6 6 = L51_0 6 (5 + 1) from rfl, L51_0_succ]
    unfold L51_0s
    dsimp only
    simp (disch := omega) only [cond_dt, chk_inb, chk_dec, Int.reduceToNat, List.getD_cons_zero, List.getD_cons_succ, wrap_id, Int.reduceAdd, Int.zero_add]
    rw [show L51_0 6 5 = L51_0 6 (1 + 4) from rfl, f1 _ _ (by omega) (by omega), if_pos k0, if_pos (by omega), if_pos (by omega), if_pos (by omega)]
  · rw [if_neg (show ¬ a4 < 0 by omega), if_neg k0]
    by_cases k1 : a4 = 1
    · subst k1
      rw [show L51_0 6 6 = L51_0 6 (2 + 4) from rfl, f1 _ _ (by omega) (by omega)]
      simp
    · by_cases k2 : a4 = 2
      · subst k2
        rw [show L51_0 6 6 = L51_0 6 (3 + 3) from rfl, f2 _ _ (by omega) (by omega)]
        simp
      · by_cases k3 : a4 = 3
        · subst k3
          rw [show L51_0 6 6 = L51_0 6 (4 + 2) from rfl, f3 _ _ (by omega) (by omega)]
          simp
        · rw [f0 _ _ _ (by omega), if_neg (by omega), if_neg (by omega), if_neg (by omega)]
          simp
theorem right51 : ER 51 (mkE N51.en N51.ex f51) := right_of KN_none T50.right (fun m => [S51_0 (L51_0 m m)]) (t := t51) (by kernel_rfl) (fun m => (all1 (H51_0 m m) all0)) (fun m a => by kernel_rfl) fun (a0, a1, a2, a3, a4) hc => spec51 a0 a1 a2 a3 a4 hc
noncomputable def T51 : Tb Try.prog LQ TE := T50.add 51 _ right51
theorem box1 (a : List Dat) : (rowD [.r [.r a]] 0).d 0 = a := rfl
/-! (*cascade/pool.Pool).Balance -/
noncomputable def N23 : RoadF := ⟨T51.tab, 23, ⟨[.dpt [.recs [.int .i64, .int .i64, .int .i64, .int .i64, .bool]]], [], 0⟩, ⟨[.int .i64], [], 0⟩, []⟩
abbrev A23_0 : Type := Int × List Dat × Int × Int
noncomputable def L23_0s (m : Nat) (k : A23_0 → Option (List Un)) : A23_0 → Option (List Un) := fun (a0, a1, a2, a3) =>
  bif decide (a3 < a2) then
   chk (inb a3 a1.length) <|
   chk (decide (a3.toNat < a1.length)) <|
   k ((w64 (a0 + ((rowD a1 a3.toNat).i 1))), a1, a2, (w64 (a3 + 1)))
  else
   some ([.i a0])
noncomputable def L23_0 (m : Nat) : Nat → A23_0 → Option (List Un) := iterA (L23_0s m)
theorem L23_0_succ (m : Nat) (n : Nat) : L23_0 m (n + 1) = L23_0s m (L23_0 m n) := rfl
noncomputable def S23_0 (F : A23_0 → Option (List Un)) : StopS := ⟨[.lp [0, 1, 0, 1, 1], .blk 0, .code [1, 1, 1]], ⟨frm 22 [(3, .int .i64), (9, .recs [.int .i64, .int .i64, .int .i64, .int .i64, .bool]), (10, .int .i64), (11, .int .i64)], [], 0⟩, onU F⟩
theorem H23_0 (m : Nat) : ∀ n, HO N23 (S23_0 (L23_0 m n)) := loop_holds KN_none T51.right (fun k => [S23_0 k]) (fun k h => (all1 h all0)) fun k a => by kernel_rfl
noncomputable def t23 (m : Nat) : List Dat → Option (List Un) := fun a0 =>
  chk (decide (0 < a0.length)) <|
  L23_0 m m (0, ((rowD a0 0).d 0), (((rowD a0 0).d 0).length : Int), 0)
theorem poolBalL (m : Nat) : ∀ (rest pre : List Dat) (n : Nat) (b : Int), rest.length < n → (pre ++ rest).length ≤ 1000 → (∀ d ∈ rest, loanG d = true) → 0 ≤ b → b ≤ 1099511627776 * pre.length →
    L23_0 m n (b, pre ++ rest, ((pre ++ rest).length : Int), (pre.length : Int)) = some [.i (b + sumI 1 rest)] := by
  intro rest
  induction rest with
  | nil =>
    intro pre n b hn hl hg h0 h1
    obtain ⟨n, rfl⟩ := one_more n (by simp at hn; omega)
    rw [L23_0_succ]; unfold L23_0s; dsimp only
    simp [cond_df, sumI]
  | cons x rest ih =>
    intro pre n b hn hl hg h0 h1
    obtain ⟨n, rfl⟩ := one_more n (by simp at hn; omega)
    simp only [List.length_cons, List.length_append] at hn hl
    have hx := loanG_at (hg x (by simp))
    rw [L23_0_succ]; unfold L23_0s; dsimp only
    have := ih (pre ++ [x]) n (b + x.i 1) (by omega) (by simp; omega) (fun d hd => hg d (by simp [hd])) (by omega) (by simp; omega)
    simp only [sumI] at this ⊢
    simp (disch := omega) only [lt_eq, chk_dec, chk_tt, chk_and, chk_inb, chk_fits, chk_make, chkn_dec, cond_dt, cond_df, cond_bt, cond_bf, cond_nt, cond_nf, cond_not, cond_and, cond_or, cond_tt, cond_ff, wrap_id, min_if', max_if', List.length_append, List.length_cons, List.length_nil, List.length_replicate, List.length_set, List.length_map, List.length_range, Int.natCast_add, Int.cast_ofNat_Int, Int.toNat_natCast, Int.add_assoc, Nat.zero_add, Int.zero_add, List.append_assoc, List.cons_append, List.nil_append, rowD_mid]
    simp only [List.length_append, List.length_cons, List.length_nil, List.length_replicate, List.length_set, List.length_map, List.length_range, Int.natCast_add, Int.cast_ofNat_Int, Int.toNat_natCast, Int.add_assoc, Nat.zero_add, Int.zero_add, List.append_assoc, List.cons_append, List.nil_append] at this ⊢
    exact this
noncomputable def f23 : List Dat → Bool × List Un := fun a0 => (decide (0 < a0.length) && (decide (((rowD a0 0).d 0).length ≤ 1000) && ((rowD a0 0).d 0).all loanG), [.i (sumI 1 ((rowD a0 0).d 0))])
theorem spec23 (a0 : List Dat) (hc : (decide (0 < a0.length) && (decide (((rowD a0 0).d 0).length ≤ 1000) && ((rowD a0 0).d 0).all loanG)) = true) : ∃ m, t23 m a0 = some ([.i (sumI 1 ((rowD a0 0).d 0))]) := by
  simp only [Bool.and_eq_true, decide_eq_true_eq, List.all_eq_true] at hc
  refine ⟨((rowD a0 0).d 0).length + 1, ?_⟩
  unfold t23
  rw [chk_dec hc.1]
  exact (poolBalL _ ((rowD a0 0).d 0) [] (((rowD a0 0).d 0).length + 1) 0 (by omega) (by simpa using hc.2.1) hc.2.2 (by omega) (by simp)).trans (by simp only [Int.zero_add])
theorem right23 : ER 23 (mkE N23.en N23.ex f23) := right_of KN_none T51.right (fun m => [S23_0 (L23_0 m m)]) (t := t23) (by kernel_rfl) (fun m => (all1 (H23_0 m m) all0)) (fun m a => by kernel_rfl) fun a0 hc => spec23 a0 hc
noncomputable def T23 : Tb Try.prog LQ TE := T51.add 23 _ right23
/-! (*cascade/pool.Pool).Loans -/
noncomputable def N44 : RoadF := ⟨T23.tab, 44, ⟨[.dpt [.recs [.int .i64, .int .i64, .int .i64, .int .i64, .bool]]], [], 0⟩, ⟨[.buf 0 5], [.recs [.int .i64, .int .i64, .int .i64, .int .i64, .bool]], 0⟩, []⟩
noncomputable def t44 (m : Nat) : List Dat → Option (List Un) := fun a0 =>
  chk (decide (0 < a0.length)) <|
  chk (decide (((rowD a0 0).d 0).length < 1000000)) <|
  some ([.d ((rowD a0 0).d 0)])
noncomputable def f44 : List Dat → Bool × List Un := fun a0 => (decide (0 < a0.length) && decide (((rowD a0 0).d 0).length < 1000000), [.d ((rowD a0 0).d 0)])
theorem spec44 (a0 : List Dat) (hc : (decide (0 < a0.length) && decide (((rowD a0 0).d 0).length < 1000000)) = true) : ∃ m, t44 m a0 = some ([.d ((rowD a0 0).d 0)]) := by
  simp only [Bool.and_eq_true, decide_eq_true_eq] at hc
  refine ⟨0, ?_⟩
  unfold t44
  rw [chk_dec hc.1, chk_dec hc.2]
theorem right44 : ER 44 (mkE N44.en N44.ex f44) := right_of KN_none T23.right (fun m => []) (t := t44) (by kernel_rfl) (fun m => all0) (fun m a => by kernel_rfl) fun a0 hc => spec44 a0 hc
noncomputable def T44 : Tb Try.prog LQ TE := T23.add 44 _ right44
theorem lateF_le (j : Int) : ∀ (l : List Dat), (∀ d ∈ l, loanG d = true) → 0 ≤ lateF j l ∧ lateF j l ≤ 1099511627776 * l.length
  | [], _ => by simp [lateF, sumF]
  | x :: l, h => by
    have h1 := loanG_at (h x (by simp))
    have h2 := lateF_le j l fun d hd => h d (by simp [hd])
    simp only [lateF, sumF, List.length_cons, Int.natCast_add, Int.cast_ofNat_Int] at h2 ⊢
    split <;> omega
/-! (*cascade/trust.Trust).View -/
noncomputable def N22 : RoadF := ⟨T44.tab, 22, ⟨[.np 0 0 0, .int .i64, .int .i64], [.cells [.int .i64, .int .i64, .int .i64, .buf 1 2, .buf 2 3, .int .i64, .int .i64, .int .i64, .int .i64, .int .i64, .int .i64, .int .i64, .int .i64, .int .i64, .int .i64, .buf 3 2, .buf 4 2, .buf 5 2, .ptr 6 0 0, .buf 8 7, .int .i64, .int .i64, .int .i64, .int .i64, .int .i64, .int .i64, .int .i64, .int .i64, .int .i64, .bool], .recs [.int .i64, .int .i64], .recs [.int .i64, .int .i64, .int .i64], .recs [.int .i64, .int .i64], .recs [.int .i64, .int .i64], .recs [.int .i64, .int .i64], .cells [.buf 7 5], .recs [.int .i64, .int .i64, .int .i64, .int .i64, .bool], .recs [.int .i64, .int .i64, .int .i64, .int .i64, .int .i64, .int .i64, .int .i64]], 0⟩, ⟨[.agg [.int .i64, .int .i64, .int .i64, .int .i64, .int .i64, .int .i64, .int .i64]], [.cells [.int .i64, .int .i64, .int .i64, .buf 1 2, .buf 2 3, .int .i64, .int .i64, .int .i64, .int .i64, .int .i64, .int .i64, .int .i64, .int .i64, .int .i64, .int .i64, .buf 3 2, .buf 4 2, .buf 5 2, .ptr 6 0 0, .buf 8 7, .int .i64, .int .i64, .int .i64, .int .i64, .int .i64, .int .i64, .int .i64, .int .i64, .int .i64, .bool], .recs [.int .i64, .int .i64], .recs [.int .i64, .int .i64, .int .i64], .recs [.int .i64, .int .i64], .recs [.int .i64, .int .i64], .recs [.int .i64, .int .i64], .cells [.buf 7 5], .recs [.int .i64, .int .i64, .int .i64, .int .i64, .bool], .recs [.int .i64, .int .i64, .int .i64, .int .i64, .int .i64, .int .i64, .int .i64]], 0⟩, []⟩
noncomputable def t22 (m : Nat) : Int × Int × Int × DealA × DealB × TrustN × List Dat × List Dat × List Dat × List Dat × List Dat × List Dat × List Dat → Option (List Un) := fun (a0, a1, a2, a3, a4, a5, a6, a7, a8, a9, a10, a11, a12) =>
  chk (decide (0 ≤ a0) && (decide (a12.length ≤ 1000) && a12.all noteG)) <|
  chk (decide (0 ≤ a0)) <|
  chk (decide (0 < ([.r [.r a11]] : List Dat).length) && (decide (((rowD ([.r [.r a11]] : List Dat) 0).d 0).length ≤ 1000) && ((rowD ([.r [.r a11]] : List Dat) 0).d 0).all loanG)) <|
  chk (decide (0 ≤ a0)) <|
  chk (decide (0 ≤ a0)) <|
  chk (decide (0 < ([.r [.r a11]] : List Dat).length) && decide (((rowD ([.r [.r a11]] : List Dat) 0).d 0).length < 1000000)) <|
  lt (((rowD ([.r [.r a11]] : List Dat) 0).d 0) : List Dat) fun l5 =>
  chk (decide (l5.length ≤ 1000) && l5.all loanG) <|
  chk (decide (0 ≤ (lateF 0 l5) ∧ (lateF 0 l5) ≤ 1152921504606846976 ∧ 0 ≤ (lateF 1 l5) ∧ (lateF 1 l5) ≤ 1152921504606846976 ∧ 0 ≤ (lateF 2 l5) ∧ (lateF 2 l5) ≤ 1152921504606846976 ∧ 0 ≤ (lateF 3 l5) ∧ (lateF 3 l5) ≤ 1152921504606846976)) <|
  chk (decide (0 ≤ a0)) <|
  chk (decide (0 ≤ a0)) <|
  some ([.i (sumI 1 ((rowD ([.r [.r a11]] : List Dat) 0).d 0)), .i (((sumsW (⟨a3, a6, a7, a4, a8, a9, a10⟩ : ADeal)).getD (0, 0)).1), .i (sumF balD a12), .i (if 1099511627776 < a1 then 1099511627776 else a1), .i (if 1099511627776 < a2 then 1099511627776 else a2), .i (fromV (lateF 0 l5) (lateF 1 l5) (lateF 2 l5) (lateF 3 l5) 2), .i (w64 (a5.losses - a5.recov))] ++ Uns.enc (a3 : DealA) ++ Uns.enc (a4 : DealB) ++ Uns.enc (a5 : TrustN) ++ [.d a6, .d a7, .d a8, .d a9, .d a10, .d a11, .d a12])
noncomputable def f22 : Int × Int × Int × DealA × DealB × TrustN × List Dat × List Dat × List Dat × List Dat × List Dat × List Dat × List Dat → Bool × List Un := fun (a0, a1, a2, a3, a4, a5, a6, a7, a8, a9, a10, a11, a12) => (decide (0 ≤ a0) && ((decide (a11.length ≤ 1000) && a11.all loanG) && (decide (a12.length ≤ 1000) && a12.all noteG)), [.i (sumI 1 a11), .i (((sumsW (⟨a3, a6, a7, a4, a8, a9, a10⟩ : ADeal)).getD (0, 0)).1), .i (sumF balD a12), .i (min a1 1099511627776), .i (min a2 1099511627776), .i (lateF 2 a11 + lateF 3 a11), .i (w64 (a5.losses - a5.recov))] ++ Uns.enc ((a3) : DealA) ++ Uns.enc ((a4) : DealB) ++ Uns.enc ((a5) : TrustN) ++ [.d (a6), .d (a7), .d (a8), .d (a9), .d (a10), .d (a11), .d (a12)])
theorem spec22 (a0 : Int) (a1 : Int) (a2 : Int) (a3 : DealA) (a4 : DealB) (a5 : TrustN) (a6 : List Dat) (a7 : List Dat) (a8 : List Dat) (a9 : List Dat) (a10 : List Dat) (a11 : List Dat) (a12 : List Dat) (hc : (decide (0 ≤ a0) && ((decide (a11.length ≤ 1000) && a11.all loanG) && (decide (a12.length ≤ 1000) && a12.all noteG))) = true) : ∃ m, t22 m (a0, a1, a2, a3, a4, a5, a6, a7, a8, a9, a10, a11, a12) = some ([.i (sumI 1 a11), .i (((sumsW (⟨a3, a6, a7, a4, a8, a9, a10⟩ : ADeal)).getD (0, 0)).1), .i (sumF balD a12), .i (min a1 1099511627776), .i (min a2 1099511627776), .i (lateF 2 a11 + lateF 3 a11), .i (w64 (a5.losses - a5.recov))] ++ Uns.enc ((a3) : DealA) ++ Uns.enc ((a4) : DealB) ++ Uns.enc ((a5) : TrustN) ++ [.d (a6), .d (a7), .d (a8), .d (a9), .d (a10), .d (a11), .d (a12)]) := by
  have hc' := hc
  simp only [Bool.and_eq_true, decide_eq_true_eq, List.all_eq_true] at hc'
  obtain ⟨h0, ⟨h1, h2⟩, h3, h4⟩ := hc'
  have q1 : (decide (a11.length ≤ 1000) && a11.all loanG) = true := (Bool.and_eq_true_iff.1 (Bool.and_eq_true_iff.1 hc).2).1
  have q2 : (decide (a12.length ≤ 1000) && a12.all noteG) = true := (Bool.and_eq_true_iff.1 (Bool.and_eq_true_iff.1 hc).2).2
  have l0 := lateF_le 0 a11 h2
  have l1 := lateF_le 1 a11 h2
  have l2 := lateF_le 2 a11 h2
  have l3 := lateF_le 3 a11 h2
  refine ⟨0, ?_⟩
  unfold t22
  dsimp only [lt, box1, List.length_cons, List.length_nil]
  simp only [decide_eq_true h0, q1, q2, Bool.and_self, chk_tt, show decide (0 < 0 + 1) = true from rfl, decide_eq_true (show a11.length < 1000000 by omega)]
  rw [chk_dec (by omega)]
  simp only [min_if', fromV, Int.reduceLE, if_true, if_false, Int.zero_add, Bool.true_and]
  exact chk_t (by rw [Bool.and_eq_true]; exact ⟨@decide_eq_true _ _ h1, List.all_eq_true.2 h2⟩) (chk_t (@decide_eq_true _ _ (by omega)) rfl)
theorem right22 : ER 22 (mkE N22.en N22.ex f22) := right_of KN_none T44.right (fun m => []) (t := t22) (by kernel_rfl) (fun m => all0) (fun m a => by kernel_rfl) fun (a0, a1, a2, a3, a4, a5, a6, a7, a8, a9, a10, a11, a12) hc => spec22 a0 a1 a2 a3 a4 a5 a6 a7 a8 a9 a10 a11 a12 hc
noncomputable def T22 : Tb Try.prog LQ TE := T44.add 22 _ right22
theorem poolN_mem (k : KDeal) : ∀ d ∈ (trustV (dealV k)).pool, loanG d = true := by
  simp only [trustV, List.mem_map]
  rintro d ⟨x, hx, rfl⟩
  have := kLoans_mem k x hx
  refine decide_eq_true ?_
  simp only [loanP, fld_i1]
  omega
theorem poolN_late (j : Int) (hj : j ≠ 0) : ∀ l : List Dat, lateF j (l.map loanP) = 0
  | [] => rfl
  | d :: l => by
    have e : bucketV ((loanP d).i 3) = 0 := rfl
    have := poolN_late j hj l
    simp only [lateF] at this
    simp only [List.map_cons, lateF, sumF, this, e, if_neg (Ne.symm hj)]
    rfl

end Go.Proofs.Ytoiijpphfckdjaa
