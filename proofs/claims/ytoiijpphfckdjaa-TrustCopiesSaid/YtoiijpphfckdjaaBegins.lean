/- A part of the walk. -/
import Derived.Test.YtoiijpphfckdjaaSame
namespace Go.Proofs.Ytoiijpphfckdjaa
open Go Go.Proofs.Ytoiijpphfckdjaa.Ev
set_option linter.unusedVariables false
set_option linter.unusedSimpArgs false
set_option linter.unnecessarySimpa false

/-! cascade/cascaderef11.steps -/
noncomputable def N75 : RoadF := ⟨T11.tab, 75, ⟨[.recs [.int .i64, .int .i64]], [], 0⟩, ⟨[.bool], [], 0⟩, []⟩
abbrev A75_1 : Type := List Dat × List Dat × Int × Int × List Dat × Int × Int × Int × Int
abbrev A75_0 : Type := List Dat × List Dat × Int × Int
noncomputable def L75_1s (m : Nat) (k0 : A75_0 → Option (List Un)) (k : A75_1 → Option (List Un)) : A75_1 → Option (List Un) := fun (a0, a1, a2, a3, a4, a5, a6, a7, a8) =>
  bif decide (a6 < a5) then
   chk (inb a6 a4.length) <|
   chk (decide (a6.toNat < a4.length)) <|
   lt (rowD a4 a6.toNat : Dat) fun d4 =>
   bif (((d4.i 0) == a7) && (((d4.i 1) == a8) && true)) then
    some ([.b false])
   else
    k (a0, a1, a2, a3, a4, a5, (w64 (a6 + 1)), a7, a8)
  else
   k0 (a0, a1, a2, (w64 (a3 + 1)))
noncomputable def L75_1 (m : Nat) (k0 : A75_0 → Option (List Un)) : Nat → A75_1 → Option (List Un) := iterA (L75_1s m k0)
theorem L75_1_succ (m : Nat) (k0 : A75_0 → Option (List Un)) (n : Nat) : L75_1 m k0 (n + 1) = L75_1s m k0 (L75_1 m k0 n) := rfl
noncomputable def S75_1 (F : A75_1 → Option (List Un)) : StopS := ⟨[.lp [0, 1, 1, 1, 0, 0, 1, 1, 0, 0, 1, 0, 1, 1], .blk 2, .blk 1, .code [1, 1, 1, 0, 0, 1, 0, 1, 1], .lp [0, 1, 0, 1, 1], .blk 0, .code [1, 1, 1]], ⟨frm 63 [(0, .recs [.int .i64, .int .i64]), (4, .ptr 0 0 0), (15, .recs [.int .i64, .int .i64]), (16, .int .i64), (17, .int .i64), (52, .recs [.int .i64, .int .i64]), (53, .int .i64), (54, .int .i64)], [.cells [.int .i64, .int .i64]], 0⟩, onU F⟩
noncomputable def L75_0s (m : Nat) (k : A75_0 → Option (List Un)) : A75_0 → Option (List Un) := fun (a0, a1, a2, a3) =>
  bif decide (a3 < a2) then
   chk (inb a3 a1.length) <|
   chk (decide (a3.toNat < a1.length)) <|
   lt (rowD a1 a3.toNat : Dat) fun d3 =>
   bif decide ((d3.i 0) < 1) then
    some ([.b false])
   else
    bif decide ((d3.i 0) > 7) then
     some ([.b false])
    else
     bif (d3.i 0) != 3 then
      bif (d3.i 1) != 0 then
       some ([.b false])
      else
       bif decide ((d3.i 1) < 0) then
        some ([.b false])
       else
        bif decide ((d3.i 1) ≥ 8) then
         some ([.b false])
        else
         chk (decide (0 ≤ a3) && (true && decide (0 ≤ a3.toNat ∧ a3.toNat ≤ a0.length))) <|
         L75_1 m k m (a0, a1, a2, a3, (List.take a3.toNat a0), ((List.take a3.toNat a0).length : Int), 0, (d3.i 0), (d3.i 1))
     else
      bif decide ((d3.i 1) < 0) then
       some ([.b false])
      else
       bif decide ((d3.i 1) ≥ 8) then
        some ([.b false])
       else
        chk (decide (0 ≤ a3) && (true && decide (0 ≤ a3.toNat ∧ a3.toNat ≤ a0.length))) <|
        L75_1 m k m (a0, a1, a2, a3, (List.take a3.toNat a0), ((List.take a3.toNat a0).length : Int), 0, (d3.i 0), (d3.i 1))
  else
   some ([.b true])
noncomputable def L75_0 (m : Nat) : Nat → A75_0 → Option (List Un) := iterA (L75_0s m)
theorem L75_0_succ (m : Nat) (n : Nat) : L75_0 m (n + 1) = L75_0s m (L75_0 m n) := rfl
noncomputable def S75_0 (F : A75_0 → Option (List Un)) : StopS := ⟨[.lp [0, 1, 0, 1, 1], .blk 0, .code [1, 1, 1]], ⟨frm 63 [(0, .recs [.int .i64, .int .i64]), (15, .recs [.int .i64, .int .i64]), (16, .int .i64), (17, .int .i64)], [], 0⟩, onU F⟩
theorem H75_1 (m : Nat) (k0 : A75_0 → Option (List Un)) (h0 : HO N75 (S75_0 k0)) : ∀ n, HO N75 (S75_1 (L75_1 m k0 n)) := loop_holds KN_none T11.right (fun k => [S75_0 k0, S75_1 k]) (fun k h => (all1 h0 (all1 h all0))) fun k a => by kernel_rfl
theorem H75_0 (m : Nat) : ∀ n, HO N75 (S75_0 (L75_0 m n)) := loop_holds KN_none T11.right (fun k => [S75_1 (L75_1 m (k) m)]) (fun k h => (all1 (H75_1 m _ h m) all0)) fun k a => by kernel_rfl
noncomputable def t75 (m : Nat) : List Dat → Option (List Un) := fun a0 =>
  bif (decide ((a0.length : Int) < 1)) then
   some ([.b false])
  else
   bif (decide ((a0.length : Int) > 16)) then
    some ([.b false])
   else
    L75_0 m m (a0, a0, (a0.length : Int), 0)
theorem refStepsL1 (m : Nat) (k0 : A75_0 → Option (List Un)) (l1 l2 : List Dat) (x1 x2 a b : Int) : ∀ (rest pre : List Dat) (n : Nat), rest.length < n → (pre ++ rest).length ≤ 16 →
    L75_1 m k0 n (l1, l2, x1, x2, pre ++ rest, ((pre ++ rest).length : Int), (pre.length : Int), a, b) = bif hasStep rest a b then some [.b false] else k0 (l1, l2, x1, w64 (x2 + 1)) := by
  intro rest
  induction rest with
  | nil =>
    intro pre n hn hl
    obtain ⟨n, rfl⟩ := one_more n (by simp at hn; omega)
    rw [L75_1_succ]; unfold L75_1s; dsimp only
    simp [cond_df, hasStep]
  | cons x rest ih =>
    intro pre n hn hl
    obtain ⟨n, rfl⟩ := one_more n (by simp at hn; omega)
    simp only [List.length_cons, List.length_append] at hn hl
    have := ih (pre ++ [x]) n (by omega) (by simp; omega)
    rw [L75_1_succ]; unfold L75_1s; dsimp only
    simp only [hasStep, List.any_cons] at this ⊢
    simp (disch := omega) only [lt_eq, chk_dec, chk_tt, chk_and, chk_inb, chk_fits, chk_make, chkn_dec, cond_dt, cond_df, cond_bt, cond_bf, cond_nt, cond_nf, cond_not, cond_and, cond_or, cond_tt, cond_ff, wrap_id, min_if', max_if', List.length_append, List.length_cons, List.length_nil, List.length_replicate, List.length_set, List.length_map, List.length_range, Int.natCast_add, Int.cast_ofNat_Int, Int.toNat_natCast, Int.add_assoc, Nat.zero_add, Int.zero_add, List.append_assoc, List.cons_append, List.nil_append, rowD_mid, List.take_left]
    simp only [List.length_append, List.length_cons, List.length_nil, List.length_replicate, List.length_set, List.length_map, List.length_range, Int.natCast_add, Int.cast_ofNat_Int, Int.toNat_natCast, Int.add_assoc, Nat.zero_add, Int.zero_add, List.append_assoc, List.cons_append, List.nil_append] at this ⊢
    cases (x.i 0 == a) <;> cases (x.i 1 == b)
    all_goals (first | exact this | rfl)
theorem refStepsL (m : Nat) (hm : 16 < m) : ∀ (rest pre : List Dat) (n : Nat), rest.length < n → (pre ++ rest).length ≤ 16 →
    L75_0 m n (pre ++ rest, pre ++ rest, ((pre ++ rest).length : Int), (pre.length : Int)) = some [.b (stepsR pre rest)] := by
  intro rest
  induction rest with
  | nil =>
    intro pre n hn hl
    obtain ⟨n, rfl⟩ := one_more n (by simp at hn; omega)
    rw [L75_0_succ]; unfold L75_0s; dsimp only
    simp [cond_df, stepsR]
  | cons x rest ih =>
    intro pre n hn hl
    obtain ⟨n, rfl⟩ := one_more n (by simp at hn; omega)
    simp only [List.length_cons, List.length_append] at hn hl
    have := ih (pre ++ [x]) n (by omega) (by simp; omega)
    have h1 := fun a b => refStepsL1 m (L75_0 m n) (pre ++ x :: rest) (pre ++ x :: rest) ((pre.length : Int) + ((rest.length : Int) + 1)) (pre.length : Int) a b pre [] m (by omega) (by simp; omega)
    simp only [List.nil_append, List.length_nil, Int.cast_ofNat_Int] at h1
    rw [L75_0_succ]; unfold L75_0s; dsimp only
    simp only [stepsR, stepOk]
    by_cases c1 : 1 ≤ x.i 0 ∧ x.i 0 ≤ 7
    · by_cases c3 : x.i 0 = 3
      · by_cases c2 : 0 ≤ x.i 1 ∧ x.i 1 ≤ 7
        · cases h : hasStep pre (x.i 0) (x.i 1)
          · simp (disch := omega) only [lt_eq, chk_dec, chk_tt, chk_and, chk_inb, chk_fits, chk_make, chkn_dec, cond_dt, cond_df, cond_bt, cond_bf, cond_nt, cond_nf, cond_not, cond_and, cond_or, cond_tt, cond_ff, wrap_id, min_if', max_if', List.length_append, List.length_cons, List.length_nil, List.length_replicate, List.length_set, List.length_map, List.length_range, Int.natCast_add, Int.cast_ofNat_Int, Int.toNat_natCast, Int.add_assoc, Nat.zero_add, Int.zero_add, List.append_assoc, List.cons_append, List.nil_append, rowD_mid, List.take_left]
            simp only [if_pos c3, decide_eq_true c1, decide_eq_true c2, Bool.true_and, Bool.not_false]
            refine (h1 _ _).trans ?_
            rw [h, cond_false, wrap_id (by omega) (by omega)]
            simp only [List.length_append, List.length_cons, List.length_nil, List.length_replicate, List.length_set, List.length_map, List.length_range, Int.natCast_add, Int.cast_ofNat_Int, Int.toNat_natCast, Int.add_assoc, Nat.zero_add, Int.zero_add, List.append_assoc, List.cons_append, List.nil_append] at this ⊢
            exact this
          · simp (disch := omega) only [lt_eq, chk_dec, chk_tt, chk_and, chk_inb, chk_fits, chk_make, chkn_dec, cond_dt, cond_df, cond_bt, cond_bf, cond_nt, cond_nf, cond_not, cond_and, cond_or, cond_tt, cond_ff, wrap_id, min_if', max_if', List.length_append, List.length_cons, List.length_nil, List.length_replicate, List.length_set, List.length_map, List.length_range, Int.natCast_add, Int.cast_ofNat_Int, Int.toNat_natCast, Int.add_assoc, Nat.zero_add, Int.zero_add, List.append_assoc, List.cons_append, List.nil_append, rowD_mid, List.take_left]
            simp only [if_pos c3, decide_eq_true c1, decide_eq_true c2, Bool.true_and, Bool.not_true, Bool.false_and]
            refine (h1 _ _).trans ?_
            rw [h, cond_true]
        · simp (disch := omega) only [lt_eq, chk_dec, chk_tt, chk_and, chk_inb, chk_fits, chk_make, chkn_dec, cond_dt, cond_df, cond_bt, cond_bf, cond_nt, cond_nf, cond_not, cond_and, cond_or, cond_tt, cond_ff, wrap_id, min_if', max_if', List.length_append, List.length_cons, List.length_nil, List.length_replicate, List.length_set, List.length_map, List.length_range, Int.natCast_add, Int.cast_ofNat_Int, Int.toNat_natCast, Int.add_assoc, Nat.zero_add, Int.zero_add, List.append_assoc, List.cons_append, List.nil_append, rowD_mid, List.take_left]
          by_cases c4 : x.i 1 < 0 <;> simp (disch := omega) only [lt_eq, chk_dec, chk_tt, chk_and, chk_inb, chk_fits, chk_make, chkn_dec, cond_dt, cond_df, cond_bt, cond_bf, cond_nt, cond_nf, cond_not, cond_and, cond_or, cond_tt, cond_ff, wrap_id, min_if', max_if', List.length_append, List.length_cons, List.length_nil, List.length_replicate, List.length_set, List.length_map, List.length_range, Int.natCast_add, Int.cast_ofNat_Int, Int.toNat_natCast, Int.add_assoc, Nat.zero_add, Int.zero_add, List.append_assoc, List.cons_append, List.nil_append, rowD_mid, List.take_left] <;> simp only [if_pos c3, decide_eq_false c2, Bool.and_false, Bool.false_and]
      · by_cases c2 : 0 ≤ x.i 1 ∧ x.i 1 ≤ 0
        · cases h : hasStep pre (x.i 0) (x.i 1)
          · simp (disch := omega) only [lt_eq, chk_dec, chk_tt, chk_and, chk_inb, chk_fits, chk_make, chkn_dec, cond_dt, cond_df, cond_bt, cond_bf, cond_nt, cond_nf, cond_not, cond_and, cond_or, cond_tt, cond_ff, wrap_id, min_if', max_if', List.length_append, List.length_cons, List.length_nil, List.length_replicate, List.length_set, List.length_map, List.length_range, Int.natCast_add, Int.cast_ofNat_Int, Int.toNat_natCast, Int.add_assoc, Nat.zero_add, Int.zero_add, List.append_assoc, List.cons_append, List.nil_append, rowD_mid, List.take_left]
            simp only [if_neg c3, decide_eq_true c1, decide_eq_true c2, Bool.true_and, Bool.not_false]
            refine (h1 _ _).trans ?_
            rw [h, cond_false, wrap_id (by omega) (by omega)]
            simp only [List.length_append, List.length_cons, List.length_nil, List.length_replicate, List.length_set, List.length_map, List.length_range, Int.natCast_add, Int.cast_ofNat_Int, Int.toNat_natCast, Int.add_assoc, Nat.zero_add, Int.zero_add, List.append_assoc, List.cons_append, List.nil_append] at this ⊢
            exact this
          · simp (disch := omega) only [lt_eq, chk_dec, chk_tt, chk_and, chk_inb, chk_fits, chk_make, chkn_dec, cond_dt, cond_df, cond_bt, cond_bf, cond_nt, cond_nf, cond_not, cond_and, cond_or, cond_tt, cond_ff, wrap_id, min_if', max_if', List.length_append, List.length_cons, List.length_nil, List.length_replicate, List.length_set, List.length_map, List.length_range, Int.natCast_add, Int.cast_ofNat_Int, Int.toNat_natCast, Int.add_assoc, Nat.zero_add, Int.zero_add, List.append_assoc, List.cons_append, List.nil_append, rowD_mid, List.take_left]
            simp only [if_neg c3, decide_eq_true c1, decide_eq_true c2, Bool.true_and, Bool.not_true, Bool.false_and]
            refine (h1 _ _).trans ?_
            rw [h, cond_true]
        · simp (disch := omega) only [lt_eq, chk_dec, chk_tt, chk_and, chk_inb, chk_fits, chk_make, chkn_dec, cond_dt, cond_df, cond_bt, cond_bf, cond_nt, cond_nf, cond_not, cond_and, cond_or, cond_tt, cond_ff, wrap_id, min_if', max_if', List.length_append, List.length_cons, List.length_nil, List.length_replicate, List.length_set, List.length_map, List.length_range, Int.natCast_add, Int.cast_ofNat_Int, Int.toNat_natCast, Int.add_assoc, Nat.zero_add, Int.zero_add, List.append_assoc, List.cons_append, List.nil_append, rowD_mid, List.take_left]
          simp only [if_neg c3, decide_eq_false c2, Bool.and_false, Bool.false_and]
    · by_cases c4 : x.i 0 < 1
      · simp (disch := omega) only [lt_eq, chk_dec, chk_tt, chk_and, chk_inb, chk_fits, chk_make, chkn_dec, cond_dt, cond_df, cond_bt, cond_bf, cond_nt, cond_nf, cond_not, cond_and, cond_or, cond_tt, cond_ff, wrap_id, min_if', max_if', List.length_append, List.length_cons, List.length_nil, List.length_replicate, List.length_set, List.length_map, List.length_range, Int.natCast_add, Int.cast_ofNat_Int, Int.toNat_natCast, Int.add_assoc, Nat.zero_add, Int.zero_add, List.append_assoc, List.cons_append, List.nil_append, rowD_mid, List.take_left]
        simp only [decide_eq_false c1, Bool.false_and]
      · simp (disch := omega) only [lt_eq, chk_dec, chk_tt, chk_and, chk_inb, chk_fits, chk_make, chkn_dec, cond_dt, cond_df, cond_bt, cond_bf, cond_nt, cond_nf, cond_not, cond_and, cond_or, cond_tt, cond_ff, wrap_id, min_if', max_if', List.length_append, List.length_cons, List.length_nil, List.length_replicate, List.length_set, List.length_map, List.length_range, Int.natCast_add, Int.cast_ofNat_Int, Int.toNat_natCast, Int.add_assoc, Nat.zero_add, Int.zero_add, List.append_assoc, List.cons_append, List.nil_append, rowD_mid, List.take_left]
        simp only [decide_eq_false c1, Bool.false_and]
noncomputable def f75 : List Dat → Bool × List Un := fun a0 => (true, [.b (stepsW a0)])
theorem spec75 (a0 : List Dat) : ∃ m, t75 m a0 = some ([.b (stepsW a0)]) := by
  refine ⟨17, ?_⟩
  unfold t75 stepsW
  by_cases h : 1 ≤ (a0.length : Int) ∧ (a0.length : Int) ≤ 16
  · rw [decide_eq_true h, Bool.true_and]
    simp (disch := omega) only [lt_eq, chk_dec, chk_tt, chk_and, chk_inb, chk_fits, chk_make, chkn_dec, cond_dt, cond_df, cond_bt, cond_bf, cond_nt, cond_nf, cond_not, cond_and, cond_or, cond_tt, cond_ff, wrap_id, min_if', max_if']
    exact refStepsL 17 (by omega) a0 [] 17 (by omega) (by simp; omega)
  · rw [decide_eq_false h, Bool.false_and]
    by_cases h1 : (a0.length : Int) < 1 <;> simp (disch := omega) only [lt_eq, chk_dec, chk_tt, chk_and, chk_inb, chk_fits, chk_make, chkn_dec, cond_dt, cond_df, cond_bt, cond_bf, cond_nt, cond_nf, cond_not, cond_and, cond_or, cond_tt, cond_ff, wrap_id, min_if', max_if']
theorem right75 : ER 75 (mkE N75.en N75.ex f75) := right_of KN_none T11.right (fun m => [S75_0 (L75_0 m m)]) (t := t75) (by kernel_rfl) (fun m => (all1 (H75_0 m m) all0)) (fun m a => by kernel_rfl) fun a0 hc => spec75 a0
noncomputable def T75 : Tb Try.prog LQ TE := T11.add 75 _ right75
theorem dec_and5 {a b c d e : Prop} [Decidable a] [Decidable b] [Decidable c] [Decidable d] [Decidable e] : (decide a && (decide b && (decide c && (decide d && decide e)))) = decide (a ∧ b ∧ c ∧ d ∧ e) := by simp
theorem cond_stop {c : Bool} {r : Option (List Un)} (h : c = false → r = some [.b false]) : (bif c then some [Un.b false] else r) = some [.b false] := by cases c; exact h rfl; rfl
/-! cascade/cascaderef11.Right -/
noncomputable def N53 : RoadF := ⟨T75.tab, 53, ⟨[.agg [.int .i64, .int .i64, .int .i64, .recs [.int .i64, .int .i64], .recs [.int .i64, .int .i64, .int .i64], .int .i64, .int .i64, .int .i64, .int .i64, .int .i64, .int .i64, .int .i64, .int .i64, .int .i64, .int .i64, .recs [.int .i64, .int .i64], .recs [.int .i64, .int .i64], .recs [.int .i64, .int .i64]]], [], 0⟩, ⟨[.bool], [], 0⟩, [[0, 1, 0, 1, 1, 1, 1, 1, 1, 1, 1]]⟩
abbrev A53_2 : Type := Int × List Dat × Int × Int × ADeal
abbrev A53_1 : Type := Int × List Dat × Int × Int × ADeal
abbrev A53_0 : Type := Int × Int × ADeal × List Int
noncomputable def L53_2s (m : Nat) (k : A53_2 → Option (List Un)) : A53_2 → Option (List Un) := fun (a0, a1, a2, a3, a4) =>
  bif decide (a3 < a2) then
   chk (inb a3 a1.length) <|
   chk (decide (a3.toNat < a1.length)) <|
   lt (rowD a1 a3.toNat : Dat) fun d24 =>
   bif decide ((d24.i 0) < 0) then
    some ([.b false])
   else
    bif decide ((d24.i 0) ≥ 8) then
     some ([.b false])
    else
     bif decide ((d24.i 1) < 1) then
      some ([.b false])
     else
      bif decide ((d24.i 1) > a0) then
       some ([.b false])
      else
       bif decide ((d24.i 2) < 0) then
        some ([.b false])
       else
        bif (decide ((d24.i 2) > 5000)) then
         some ([.b false])
        else
         k ((w64 (a0 - (d24.i 1))), a1, a2, (w64 (a3 + 1)), a4)
  else
   bif !(stepsW a4.s0) then
    some ([.b false])
   else
    bif !(stepsW a4.s1) then
     some ([.b false])
    else
     bif !(stepsW a4.s2) then
      some ([.b false])
     else
      some ([.b true])
noncomputable def L53_2 (m : Nat) : Nat → A53_2 → Option (List Un) := iterA (L53_2s m)
theorem L53_2_succ (m : Nat) (n : Nat) : L53_2 m (n + 1) = L53_2s m (L53_2 m n) := rfl
noncomputable def S53_2 (F : A53_2 → Option (List Un)) : StopS := ⟨[.lp [0, 1, 0, 1, 1, 1, 1, 1, 1, 1], .blk 4, .code [1, 1, 1, 1, 1, 1, 1, 1]], ⟨frm 232 [(1, .ptr 0 0 0), (6, .int .i64), (183, .recs [.int .i64, .int .i64, .int .i64]), (184, .int .i64), (185, .int .i64)], [.cells [.int .i64, .int .i64, .int .i64, .recs [.int .i64, .int .i64], .recs [.int .i64, .int .i64, .int .i64], .int .i64, .int .i64, .int .i64, .int .i64, .int .i64, .int .i64, .int .i64, .int .i64, .int .i64, .int .i64, .recs [.int .i64, .int .i64], .recs [.int .i64, .int .i64], .recs [.int .i64, .int .i64]]], 0⟩, onU F⟩
noncomputable def L53_1s (m : Nat) (k : A53_1 → Option (List Un)) : A53_1 → Option (List Un) := fun (a0, a1, a2, a3, a4) =>
  bif decide (a3 < a2) then
   chk (inb a3 a1.length) <|
   chk (decide (a3.toNat < a1.length)) <|
   lt (rowD a1 a3.toNat : Dat) fun d17 =>
   bif decide ((d17.i 0) < 1) then
    some ([.b false])
   else
    bif decide (a3 > 0) then
     chk (inb (w64 (a3 - 1)) a4.loans.length) <|
     chk (decide ((w64 (a3 - 1)).toNat < a4.loans.length)) <|
     bif (decide (((rowD a4.loans ((w64 (a3 - 1)).toNat)).i 0) ≥ (d17.i 0))) then
      some ([.b false])
     else
      bif decide ((d17.i 1) < 0) then
       some ([.b false])
      else
       bif (decide ((d17.i 1) > (w64 (1099511627776 - a0)))) then
        some ([.b false])
       else
        k ((w64 (a0 + (d17.i 1))), a1, a2, (w64 (a3 + 1)), a4)
    else
     bif decide ((d17.i 1) < 0) then
      some ([.b false])
     else
      bif (decide ((d17.i 1) > (w64 (1099511627776 - a0)))) then
       some ([.b false])
      else
       k ((w64 (a0 + (d17.i 1))), a1, a2, (w64 (a3 + 1)), a4)
  else
   L53_2 m m (a0, a4.notes, (a4.notes.length : Int), 0, a4)
noncomputable def L53_1 (m : Nat) : Nat → A53_1 → Option (List Un) := iterA (L53_1s m)
theorem L53_1_succ (m : Nat) (n : Nat) : L53_1 m (n + 1) = L53_1s m (L53_1 m n) := rfl
noncomputable def S53_1 (F : A53_1 → Option (List Un)) : StopS := ⟨[.lp [0, 1, 0, 1, 1, 1, 1, 1, 1], .blk 2, .code [1, 1, 1, 1, 1, 1, 1]], ⟨frm 232 [(1, .ptr 0 0 0), (6, .int .i64), (139, .recs [.int .i64, .int .i64]), (140, .int .i64), (141, .int .i64)], [.cells [.int .i64, .int .i64, .int .i64, .recs [.int .i64, .int .i64], .recs [.int .i64, .int .i64, .int .i64], .int .i64, .int .i64, .int .i64, .int .i64, .int .i64, .int .i64, .int .i64, .int .i64, .int .i64, .int .i64, .recs [.int .i64, .int .i64], .recs [.int .i64, .int .i64], .recs [.int .i64, .int .i64]]], 0⟩, onU F⟩
noncomputable def L53_0s (m : Nat) (k : A53_0 → Option (List Un)) : A53_0 → Option (List Un) := fun (a0, a1, a2, a3) =>
  bif decide (a1 < a0) then
   chk (inb a1 a3.length) <|
   chk (decide (a1.toNat < a3.length)) <|
   bif (decide ((a3.getD a1.toNat 0) < 0)) then
    some ([.b false])
   else
    bif (decide ((a3.getD a1.toNat 0) > 100000)) then
     some ([.b false])
    else
     k (a0, (w64 (a1 + 1)), a2, a3)
  else
   bif (decide ((a2.loans.length : Int) < 1)) then
    some ([.b false])
   else
    bif (decide ((a2.loans.length : Int) > 64)) then
     some ([.b false])
    else
     bif (decide ((a2.notes.length : Int) < 1)) then
      some ([.b false])
     else
      bif (decide ((a2.notes.length : Int) > 8)) then
       some ([.b false])
      else
       L53_1 m m (0, a2.loans, (a2.loans.length : Int), 0, a2)
noncomputable def L53_0 (m : Nat) : Nat → A53_0 → Option (List Un) := iterA (L53_0s m)
theorem L53_0_succ (m : Nat) (n : Nat) : L53_0 m (n + 1) = L53_0s m (L53_0 m n) := rfl
noncomputable def S53_0 (F : A53_0 → Option (List Un)) : StopS := ⟨[.lp [0, 1, 0, 1, 1, 1], .blk 0, .code [1, 1, 1, 1]], ⟨frm 232 [(1, .ptr 0 0 0), (103, .buf 1 1), (104, .int .i64), (105, .int .i64)], [.cells [.int .i64, .int .i64, .int .i64, .recs [.int .i64, .int .i64], .recs [.int .i64, .int .i64, .int .i64], .int .i64, .int .i64, .int .i64, .int .i64, .int .i64, .int .i64, .int .i64, .int .i64, .int .i64, .int .i64, .recs [.int .i64, .int .i64], .recs [.int .i64, .int .i64], .recs [.int .i64, .int .i64]], .ints .i64], 0⟩, onU F⟩
theorem H53_2 (m : Nat) : ∀ n, HO N53 (S53_2 (L53_2 m n)) := loop_holds KN_none T75.right (fun k => [S53_2 k]) (fun k h => (all1 h all0)) fun k a => by kernel_rfl
theorem H53_1 (m : Nat) : ∀ n, HO N53 (S53_1 (L53_1 m n)) := loop_holds KN_none T75.right (fun k => [S53_1 k, S53_2 (L53_2 m m)]) (fun k h => (all1 h (all1 (H53_2 m m) all0))) fun k a => by kernel_rfl
theorem H53_0 (m : Nat) : ∀ n, HO N53 (S53_0 (L53_0 m n)) := loop_holds KN_none T75.right (fun k => [S53_0 k, S53_1 (L53_1 m m)]) (fun k h => (all1 h (all1 (H53_1 m m) all0))) fun k a => by kernel_rfl
noncomputable def t53 (m : Nat) : ADeal → Option (List Un) := fun a0 =>
  bif decide (a0.a.year < 1) then
   some ([.b false])
  else
   bif (decide (a0.a.year > 9000)) then
    some ([.b false])
   else
    bif decide (a0.a.month < 1) then
     some ([.b false])
    else
     bif (decide (a0.a.month > 12)) then
      some ([.b false])
     else
      bif decide (a0.a.basis < 0) then
       some ([.b false])
      else
       bif decide (a0.a.basis > 2) then
        some ([.b false])
       else
        bif decide (a0.b.fee < 0) then
         some ([.b false])
        else
         bif (decide (a0.b.fee > 5000)) then
          some ([.b false])
         else
          bif (decide (a0.b.reserve < 0)) then
           some ([.b false])
          else
           bif (decide (a0.b.reserve > 1099511627776)) then
            some ([.b false])
           else
            bif (decide (a0.b.target < 0)) then
             some ([.b false])
            else
             bif (decide (a0.b.target > 10000)) then
              some ([.b false])
             else
              bif (decide (a0.b.advance < 0)) then
               some ([.b false])
              else
               bif (decide (a0.b.advance > 1099511627776)) then
                some ([.b false])
               else
                bif decide (a0.b.cure < 0) then
                 some ([.b false])
                else
                 bif (decide (a0.b.cure > 600)) then
                  some ([.b false])
                 else
                  L53_0 m m (5, 0, a0, ([a0.b.oc, a0.b.ic, a0.b.late, a0.b.loss, a0.b.clean] : List Int))
theorem refRightL2 (m : Nat) (d : ADeal) (most : Int) (hm : 0 ≤ most ∧ most ≤ 1099511627776) : ∀ (rest pre : List Dat) (n : Nat) (all : Int), rest.length < n → (pre ++ rest).length ≤ 8 → 0 ≤ all → all ≤ most →
    L53_2 m n (most - all, pre ++ rest, ((pre ++ rest).length : Int), (pre.length : Int), d) = some [.b ((notesR most all rest).isSome && (stepsW d.s0 && (stepsW d.s1 && stepsW d.s2)))] := by
  intro rest
  induction rest with
  | nil =>
    intro pre n all hn hl h0 h1
    obtain ⟨n, rfl⟩ := one_more n (by simp at hn; omega)
    rw [L53_2_succ]; unfold L53_2s; dsimp only
    simp only [List.append_nil, List.length_append, List.length_nil, Nat.add_zero, notesR, Option.isSome_some, Bool.true_and]
    rw [cond_df (by omega)]
    cases stepsW d.s0 <;> cases stepsW d.s1 <;> cases stepsW d.s2 <;> rfl
  | cons x rest ih =>
    intro pre n all hn hl h0 h1
    obtain ⟨n, rfl⟩ := one_more n (by simp at hn; omega)
    simp only [List.length_cons, List.length_append] at hn hl
    rw [L53_2_succ]; unfold L53_2s; dsimp only
    simp only [notesR]
    by_cases c : (0 ≤ x.i 0 ∧ x.i 0 ≤ 7) ∧ (1 ≤ x.i 1 ∧ x.i 1 ≤ most - all) ∧ (0 ≤ x.i 2 ∧ x.i 2 ≤ 5000)
    · rw [if_pos c]
      have := ih (pre ++ [x]) n (all + x.i 1) (by omega) (by simp; omega) (by omega) (by omega)
      rw [show most - (all + x.i 1) = most - all - x.i 1 by omega] at this
      simp (disch := omega) only [lt_eq, chk_dec, chk_tt, chk_and, chk_inb, chk_fits, chk_make, chkn_dec, cond_dt, cond_df, cond_bt, cond_bf, cond_nt, cond_nf, cond_not, cond_and, cond_or, cond_tt, cond_ff, wrap_id, min_if', max_if', List.length_append, List.length_cons, List.length_nil, List.length_replicate, List.length_set, List.length_map, List.length_range, Int.natCast_add, Int.cast_ofNat_Int, Int.toNat_natCast, Int.add_assoc, Nat.zero_add, Int.zero_add, List.append_assoc, List.cons_append, List.nil_append, rowD_mid]
      simp only [List.length_append, List.length_cons, List.length_nil, List.length_replicate, List.length_set, List.length_map, List.length_range, Int.natCast_add, Int.cast_ofNat_Int, Int.toNat_natCast, Int.add_assoc, Nat.zero_add, Int.zero_add, List.append_assoc, List.cons_append, List.nil_append] at this ⊢
      exact this
    · rw [if_neg c, Option.isSome_none, Bool.false_and]
      simp (disch := omega) only [chk_tt, rowD_mid, List.length_append, List.length_cons, lt_eq, chk_dec, chk_inb, Int.toNat_natCast, Int.natCast_add, Int.cast_ofNat_Int, cond_dt (show (pre.length : Int) < (pre.length : Int) + ((rest.length : Int) + 1) by omega)]
      refine cond_stop fun e1 => cond_stop fun e2 => cond_stop fun e3 => cond_stop fun e4 => cond_stop fun e5 => cond_stop fun e6 => ?_
      simp only [decide_eq_false_iff_not] at e1 e2 e3 e4 e5 e6
      exact absurd (by omega) c
theorem refRightL1 (m : Nat) (hm : 64 < m) (d : ADeal) (hd : 1 ≤ d.notes.length ∧ d.notes.length ≤ 8) : ∀ (rest pre : List Dat) (n : Nat) (last all : Int), rest.length < n → d.loans = pre ++ rest → (pre ++ rest).length ≤ 64 → 0 ≤ all → all ≤ 1099511627776 → (pre = [] → last = 0) → (∀ q y, pre = q ++ [y] → last = y.i 0 ∧ 1 ≤ last) →
    L53_1 m n (all, pre ++ rest, ((pre ++ rest).length : Int), (pre.length : Int), d) = match loansR last all rest with
      | none => some [.b false]
      | some p => some [.b ((notesR p 0 d.notes).isSome && (stepsW d.s0 && (stepsW d.s1 && stepsW d.s2)))] := by
  intro rest
  induction rest with
  | nil =>
    intro pre n last all hn hdl hl h0 h1 hp hq
    obtain ⟨n, rfl⟩ := one_more n (by simp at hn; omega)
    rw [L53_1_succ]; unfold L53_1s; dsimp only
    simp only [List.append_nil, List.length_append, List.length_nil, Nat.add_zero, loansR]
    rw [cond_df (by omega)]
    have := refRightL2 m d all ⟨h0, h1⟩ d.notes [] m 0 (by omega) (by simp; omega) (by omega) (by omega)
    simpa using this
  | cons x rest ih =>
    intro pre n last all hn hdl hl h0 h1 hp hq
    obtain ⟨n, rfl⟩ := one_more n (by simp at hn; omega)
    simp only [List.length_cons, List.length_append] at hn hl
    simp only [loansR]
    have hcat : pre = [] ∨ ∃ q y, pre = q ++ [y] := by
      rcases pre.eq_nil_or_concat with h | ⟨q, y, h⟩
      · exact .inl h
      · exact .inr ⟨q, y, by rw [h, List.concat_eq_append]⟩
    rcases hcat with rfl | ⟨q, y, rfl⟩
    · obtain rfl := hp rfl
      simp only [List.nil_append, List.length_nil, Int.cast_ofNat_Int] at *
      have hm0 : rowD (x :: rest) 0 = x := rfl
      rw [L53_1_succ]; unfold L53_1s; dsimp only
      by_cases c1 : x.i 0 ≤ 0
      · rw [if_pos c1]
        simp (disch := omega) only [lt_eq, chk_dec, chk_tt, chk_and, chk_inb, chk_fits, chk_make, chkn_dec, cond_dt, cond_df, cond_bt, cond_bf, cond_nt, cond_nf, cond_not, cond_and, cond_or, cond_tt, cond_ff, wrap_id, min_if', max_if', List.length_append, List.length_cons, List.length_nil, List.length_replicate, List.length_set, List.length_map, List.length_range, Int.natCast_add, Int.cast_ofNat_Int, Int.toNat_natCast, Int.add_assoc, Nat.zero_add, Int.zero_add, List.append_assoc, List.cons_append, List.nil_append, hm0, Int.reduceToNat, Int.zero_add]
      · rw [if_neg c1]
        by_cases c2 : 0 ≤ x.i 1 ∧ x.i 1 ≤ 1099511627776 - all
        · rw [if_pos c2]
          have := ih [x] n (x.i 0) (all + x.i 1) (by omega) (by simpa using hdl) (by simp; omega) (by omega) (by omega) (by simp) (fun q y e => by
            cases q with
            | nil => simp at e; subst e; exact ⟨rfl, by omega⟩
            | cons a q => simp at e)
          simp (disch := omega) only [lt_eq, chk_dec, chk_tt, chk_and, chk_inb, chk_fits, chk_make, chkn_dec, cond_dt, cond_df, cond_bt, cond_bf, cond_nt, cond_nf, cond_not, cond_and, cond_or, cond_tt, cond_ff, wrap_id, min_if', max_if', List.length_append, List.length_cons, List.length_nil, List.length_replicate, List.length_set, List.length_map, List.length_range, Int.natCast_add, Int.cast_ofNat_Int, Int.toNat_natCast, Int.add_assoc, Nat.zero_add, Int.zero_add, List.append_assoc, List.cons_append, List.nil_append, hm0, Int.reduceToNat, Int.zero_add]
          simp only [List.length_append, List.length_cons, List.length_nil, List.length_replicate, List.length_set, List.length_map, List.length_range, Int.natCast_add, Int.cast_ofNat_Int, Int.toNat_natCast, Int.add_assoc, Nat.zero_add, Int.zero_add, List.append_assoc, List.cons_append, List.nil_append] at this ⊢
          exact this
        · rw [if_neg c2]
          by_cases c3 : x.i 1 < 0 <;> simp (disch := omega) only [lt_eq, chk_dec, chk_tt, chk_and, chk_inb, chk_fits, chk_make, chkn_dec, cond_dt, cond_df, cond_bt, cond_bf, cond_nt, cond_nf, cond_not, cond_and, cond_or, cond_tt, cond_ff, wrap_id, min_if', max_if', List.length_append, List.length_cons, List.length_nil, List.length_replicate, List.length_set, List.length_map, List.length_range, Int.natCast_add, Int.cast_ofNat_Int, Int.toNat_natCast, Int.add_assoc, Nat.zero_add, Int.zero_add, List.append_assoc, List.cons_append, List.nil_append, hm0, Int.reduceToNat, Int.zero_add]
    · obtain ⟨rfl, hy⟩ := hq q y rfl
      simp only [List.length_append, List.length_cons, List.length_nil] at hl
      have hrow : rowD d.loans q.length = y := by rw [hdl]; simp [rowD]
      have hdll : d.loans.length = q.length + 1 + (rest.length + 1) := by rw [hdl]; simp; omega
      have hmid : rowD (q ++ [y] ++ x :: rest) (q ++ [y]).length = x := rowD_mid _ _ _
      have hw : w64 (((q ++ [y]).length : Int) - 1) = (q.length : Int) := by simp only [List.length_append, List.length_cons, List.length_nil]; rw [wrap_id (by omega) (by omega)]; omega
      rw [L53_1_succ]; unfold L53_1s; dsimp only
      simp only [Int.toNat_natCast, hmid, hw, hrow, hdll]
      by_cases c1 : x.i 0 ≤ y.i 0
      · rw [if_pos c1]
        by_cases c4 : x.i 0 < 1 <;> simp (disch := omega) only [lt_eq, chk_dec, chk_tt, chk_and, chk_inb, chk_fits, chk_make, chkn_dec, cond_dt, cond_df, cond_bt, cond_bf, cond_nt, cond_nf, cond_not, cond_and, cond_or, cond_tt, cond_ff, wrap_id, min_if', max_if', List.length_append, List.length_cons, List.length_nil, List.length_replicate, List.length_set, List.length_map, List.length_range, Int.natCast_add, Int.cast_ofNat_Int, Int.toNat_natCast, Int.add_assoc, Nat.zero_add, Int.zero_add, List.append_assoc, List.cons_append, List.nil_append, rowD_mid]
      · rw [if_neg c1]
        by_cases c2 : 0 ≤ x.i 1 ∧ x.i 1 ≤ 1099511627776 - all
        · rw [if_pos c2]
          have := ih (q ++ [y] ++ [x]) n (x.i 0) (all + x.i 1) (by omega) (by simpa using hdl) (by simp; omega) (by omega) (by omega) (by simp) (fun q' y' e => by
            have := (List.append_inj' e rfl).2
            simp at this; subst this; exact ⟨rfl, by omega⟩)
          simp (disch := omega) only [lt_eq, chk_dec, chk_tt, chk_and, chk_inb, chk_fits, chk_make, chkn_dec, cond_dt, cond_df, cond_bt, cond_bf, cond_nt, cond_nf, cond_not, cond_and, cond_or, cond_tt, cond_ff, wrap_id, min_if', max_if', List.length_append, List.length_cons, List.length_nil, List.length_replicate, List.length_set, List.length_map, List.length_range, Int.natCast_add, Int.cast_ofNat_Int, Int.toNat_natCast, Int.add_assoc, Nat.zero_add, Int.zero_add, List.append_assoc, List.cons_append, List.nil_append, rowD_mid]
          simp only [List.length_append, List.length_cons, List.length_nil, List.length_replicate, List.length_set, List.length_map, List.length_range, Int.natCast_add, Int.cast_ofNat_Int, Int.toNat_natCast, Int.add_assoc, Nat.zero_add, Int.zero_add, List.append_assoc, List.cons_append, List.nil_append] at this ⊢
          exact this
        · rw [if_neg c2]
          by_cases c3 : x.i 1 < 0 <;> simp (disch := omega) only [lt_eq, chk_dec, chk_tt, chk_and, chk_inb, chk_fits, chk_make, chkn_dec, cond_dt, cond_df, cond_bt, cond_bf, cond_nt, cond_nf, cond_not, cond_and, cond_or, cond_tt, cond_ff, wrap_id, min_if', max_if', List.length_append, List.length_cons, List.length_nil, List.length_replicate, List.length_set, List.length_map, List.length_range, Int.natCast_add, Int.cast_ofNat_Int, Int.toNat_natCast, Int.add_assoc, Nat.zero_add, Int.zero_add, List.append_assoc, List.cons_append, List.nil_append, rowD_mid]
theorem refRightL0 (m : Nat) (d : ADeal) (l : List Int) (h5 : l.length = 5) : ∀ (c i n : Nat), i + c = 5 → c < n →
    L53_0 m n (5, (i : Int), d, l) = bif (l.drop i).all (fun x => decide (0 ≤ x ∧ x ≤ 100000)) then
      (bif decide ((d.loans.length : Int) < 1) then some [.b false] else bif decide ((d.loans.length : Int) > 64) then some [.b false] else bif decide ((d.notes.length : Int) < 1) then some [.b false] else bif decide ((d.notes.length : Int) > 8) then some [.b false] else L53_1 m m (0, d.loans, (d.loans.length : Int), 0, d))
      else some [.b false] := by
  intro c
  induction c with
  | zero =>
    intro i n hi hn
    obtain ⟨n, rfl⟩ := one_more n (by omega)
    obtain rfl : i = 5 := by omega
    rw [L53_0_succ]; unfold L53_0s; dsimp only
    rw [List.drop_of_length_le (by omega), cond_df (by decide)]
    rfl
  | succ c ih =>
    intro i n hi hn
    obtain ⟨n, rfl⟩ := one_more n (by omega)
    have := ih (i + 1) n (by omega) (by omega)
    have hil : i < l.length := by omega
    have hg : l.getD i 0 = l[i] := by simp [List.getD_eq_getElem?_getD, hil]
    rw [List.drop_eq_getElem_cons hil, List.all_cons]
    rw [L53_0_succ]; unfold L53_0s; dsimp only
    simp only [Int.toNat_natCast, hg]
    generalize l[i] = v at *
    by_cases c1 : 0 ≤ v ∧ v ≤ 100000
    · rw [decide_eq_true c1, Bool.true_and, ← this]
      simp (disch := omega) only [cond_dt, cond_df, chk_inb, chk_dec, wrap_id]
      rfl
    · rw [decide_eq_false c1, Bool.false_and, cond_false]
      by_cases c2 : v < 0 <;> simp (disch := omega) only [cond_dt, cond_df, chk_inb, chk_dec, wrap_id]
noncomputable def f53 : ADeal → Bool × List Un := fun a0 => (true, [.b ((sumsW a0).isSome)])
set_option maxHeartbeats 4000000 in
theorem spec53 (a0 : ADeal) : ∃ m, t53 m a0 = some ([.b ((sumsW a0).isSome)]) := by
  refine ⟨65, ?_⟩
  unfold t53
  have h0 := refRightL0 65 a0 [a0.b.oc, a0.b.ic, a0.b.late, a0.b.loss, a0.b.clean] rfl 5 0 65 rfl (by omega)
  simp only [List.drop_zero, List.all_cons, List.all_nil, Bool.and_true, Int.cast_ofNat_Int] at h0
  by_cases ht : termsV a0 = true
  · have ht' := ht
    simp only [termsV, Bool.and_eq_true, decide_eq_true_eq] at ht'
    simp (disch := omega) only [cond_df]
    refine h0.trans ?_
    simp (disch := omega) only [dec_t, Bool.and_self, cond_true]
    by_cases hL : 1 ≤ a0.loans.length ∧ a0.loans.length ≤ 64
    · by_cases hN : 1 ≤ a0.notes.length ∧ a0.notes.length ≤ 8
      · simp (disch := omega) only [cond_df]
        refine (refRightL1 65 (by omega) a0 hN a0.loans [] 65 0 0 (by omega) rfl (by simp; omega) (by omega) (by omega) (fun _ => rfl) (fun q y e => by simp at e)).trans ?_
        unfold sumsW loansW
        rw [if_pos hL]
        cases loansR 0 0 a0.loans with
        | none => rfl
        | some p =>
          simp only [notesW, if_pos hN]
          cases notesR p 0 a0.notes with
          | none => rfl
          | some q => rw [ht]; cases stepsW a0.s0 <;> cases stepsW a0.s1 <;> cases stepsW a0.s2 <;> rfl
      · have hn : (sumsW a0).isSome = false := by
          unfold sumsW
          cases loansW a0.loans with
          | none => rfl
          | some p => simp only [notesW, if_neg hN]; rfl
        rw [hn]
        simp (disch := omega) only [cond_df]
        by_cases h1 : (a0.notes.length : Int) < 1 <;> simp (disch := omega) only [cond_df, cond_dt]
    · have hn : (sumsW a0).isSome = false := by
        unfold sumsW loansW
        rw [if_neg hL]; rfl
      rw [hn]
      by_cases h1 : (a0.loans.length : Int) < 1 <;> simp (disch := omega) only [cond_df, cond_dt]
  · have hn : (sumsW a0).isSome = false := by
      unfold sumsW
      cases loansW a0.loans with
      | none => rfl
      | some p =>
        simp only
        cases notesW p a0.notes with
        | none => rfl
        | some n => simp [ht]
    rw [hn]
    refine cond_stop fun e1 => cond_stop fun e2 => cond_stop fun e3 => cond_stop fun e4 => cond_stop fun e5 => cond_stop fun e6 => cond_stop fun e7 => cond_stop fun e8 => cond_stop fun e9 => cond_stop fun e10 => cond_stop fun e11 => cond_stop fun e12 => cond_stop fun e13 => cond_stop fun e14 => cond_stop fun e15 => cond_stop fun e16 => ?_
    simp only [decide_eq_false_iff_not] at e1 e2 e3 e4 e5 e6 e7 e8 e9 e10 e11 e12 e13 e14 e15 e16
    refine h0.trans ?_
    rw [dec_and5, cond_df]
    intro hh
    refine ht ?_
    simp only [termsV, Bool.and_eq_true, decide_eq_true_eq]
    omega
theorem right53 : ER 53 (mkE N53.en N53.ex f53) := right_of KN_none T75.right (fun m => [S53_0 (L53_0 m m)]) (t := t53) (by kernel_rfl) (fun m => (all1 (H53_0 m m) all0)) (fun m a => by kernel_rfl) fun a0 hc => spec53 a0
noncomputable def T53 : Tb Try.prog LQ TE := T75.add 53 _ right53
/-! cascade/cascaderef9.Begin -/
noncomputable def N54 : RoadF := ⟨T53.tab, 54, ⟨[.recs [.int .i64, .int .i64]], [], 0⟩, ⟨[.buf 0 5], [.recs [.int .i64, .int .i64, .int .i64, .int .i64, .bool]], 0⟩, []⟩
abbrev A54_0 : Type := List Dat × Int × Int × List Dat
noncomputable def L54_0s (m : Nat) (k : A54_0 → Option (List Un)) : A54_0 → Option (List Un) := fun (a0, a1, a2, a3) =>
  bif decide (a2 < a1) then
   chk (inb a2 a0.length) <|
   chk (decide (a2.toNat < a0.length)) <|
   lt (rowD a0 a2.toNat : Dat) fun d1 =>
   chk (fits (a3.length + 1) 40) <|
   k (a0, a1, (w64 (a2 + 1)), (a3 ++ ([.r [.n (d1.i 0), .n (d1.i 1), .n 0, .n 0, .n (bI false)]])))
  else
   some ([.d a3])
noncomputable def L54_0 (m : Nat) : Nat → A54_0 → Option (List Un) := iterA (L54_0s m)
theorem L54_0_succ (m : Nat) (n : Nat) : L54_0 m (n + 1) = L54_0s m (L54_0 m n) := rfl
noncomputable def S54_0 (F : A54_0 → Option (List Un)) : StopS := ⟨[.lp [0, 1, 0, 1, 1], .blk 0, .code [1, 1, 1]], ⟨frm 22 [(3, .buf 0 5), (6, .recs [.int .i64, .int .i64]), (7, .int .i64), (8, .int .i64)], [.recs [.int .i64, .int .i64, .int .i64, .int .i64, .bool]], 0⟩, onU F⟩
theorem H54_0 (m : Nat) : ∀ n, HO N54 (S54_0 (L54_0 m n)) := loop_holds KN_none T53.right (fun k => [S54_0 k]) (fun k h => (all1 h all0)) fun k a => by kernel_rfl
noncomputable def t54 (m : Nat) : List Dat → Option (List Un) := fun a0 =>
  L54_0 m m (a0, (a0.length : Int), 0, [])
theorem refBeginL (m : Nat) : ∀ (rest pre : List Dat) (n : Nat), rest.length < n → (pre ++ rest).length < 1000000 →
    L54_0 m n (pre ++ rest, ((pre ++ rest).length : Int), (pre.length : Int), pre.map loanP) = some [.d ((pre ++ rest).map loanP)] := by
  intro rest
  induction rest with
  | nil =>
    intro pre n hn hl
    obtain ⟨n, rfl⟩ := one_more n (by simp at hn; omega)
    rw [L54_0_succ]; unfold L54_0s; dsimp only
    simp [cond_df]
  | cons x rest ih =>
    intro pre n hn hl
    obtain ⟨n, rfl⟩ := one_more n (by simp at hn; omega)
    simp only [List.length_cons, List.length_append] at hn hl
    rw [L54_0_succ]; unfold L54_0s; dsimp only
    have := ih (pre ++ [x]) n (by omega) (by simp; omega)
    rw [List.map_append] at this
    simp (disch := omega) only [lt_eq, chk_dec, chk_tt, chk_and, chk_inb, chk_fits, chk_make, chkn_dec, cond_dt, cond_df, cond_bt, cond_bf, cond_nt, cond_nf, cond_not, cond_and, cond_or, cond_tt, cond_ff, wrap_id, min_if', max_if', List.length_append, List.length_cons, List.length_nil, List.length_replicate, List.length_set, List.length_map, List.length_range, Int.natCast_add, Int.cast_ofNat_Int, Int.toNat_natCast, Int.add_assoc, Nat.zero_add, Int.zero_add, List.append_assoc, List.cons_append, List.nil_append, rowD_mid]
    simp only [List.length_append, List.length_cons, List.length_nil, List.length_replicate, List.length_set, List.length_map, List.length_range, Int.natCast_add, Int.cast_ofNat_Int, Int.toNat_natCast, Int.add_assoc, Nat.zero_add, Int.zero_add, List.append_assoc, List.cons_append, List.nil_append] at this ⊢
    exact this
noncomputable def f54 : List Dat → Bool × List Un := fun a0 => (decide (a0.length < 1000000), [.d (a0.map loanP)])
theorem spec54 (a0 : List Dat) (hc : (decide (a0.length < 1000000)) = true) : ∃ m, t54 m a0 = some ([.d (a0.map loanP)]) := by
  exact ⟨a0.length + 1, refBeginL _ a0 [] _ (by omega) (of_decide_eq_true hc)⟩
theorem right54 : ER 54 (mkE N54.en N54.ex f54) := right_of KN_none T53.right (fun m => [S54_0 (L54_0 m m)]) (t := t54) (by kernel_rfl) (fun m => (all1 (H54_0 m m) all0)) (fun m a => by kernel_rfl) fun a0 hc => spec54 a0 hc
noncomputable def T54 : Tb Try.prog LQ TE := T53.add 54 _ right54
/-! cascade/trust.flag -/
noncomputable def N41 : RoadF := ⟨T54.tab, 41, ⟨[.bool], [], 0⟩, ⟨[.int .i64], [], 0⟩, []⟩
noncomputable def t41 (m : Nat) : Bool → Option (List Un) := fun a0 =>
  bif a0 then
   some ([.i 1])
  else
   some ([.i 0])
noncomputable def f41 : Bool → Bool × List Un := fun a0 => (true, [.i (bI a0)])
theorem spec41 (a0 : Bool) : ∃ m, t41 m a0 = some ([.i (bI a0)]) := by
  refine ⟨0, ?_⟩
  unfold t41
  cases a0 <;> rfl
theorem right41 : ER 41 (mkE N41.en N41.ex f41) := right_of KN_none T54.right (fun m => []) (t := t41) (by kernel_rfl) (fun m => all0) (fun m a => by kernel_rfl) fun a0 hc => spec41 a0
noncomputable def T41 : Tb Try.prog LQ TE := T54.add 41 _ right41
/-! (cascade/purse.Purse).In -/
noncomputable def N42 : RoadF := ⟨T41.tab, 42, ⟨[.agg [.int .i64, .int .i64]], [], 0⟩, ⟨[.int .i64], [], 0⟩, []⟩
noncomputable def t42 (m : Nat) : Int × Int → Option (List Un) := fun (a0, a1) =>
  some ([.i a0])
noncomputable def f42 : Int × Int → Bool × List Un := fun (a0, a1) => (true, [.i (a0)])
theorem spec42 (a0 : Int) (a1 : Int) : ∃ m, t42 m (a0, a1) = some ([.i (a0)]) := by
  exact ⟨0, rfl⟩
theorem right42 : ER 42 (mkE N42.en N42.ex f42) := right_of KN_none T41.right (fun m => []) (t := t42) (by kernel_rfl) (fun m => all0) (fun m a => by kernel_rfl) fun (a0, a1) hc => spec42 a0 a1
noncomputable def T42 : Tb Try.prog LQ TE := T41.add 42 _ right42
/-! (cascade/purse.Purse).Out -/
noncomputable def N43 : RoadF := ⟨T42.tab, 43, ⟨[.agg [.int .i64, .int .i64]], [], 0⟩, ⟨[.int .i64], [], 0⟩, []⟩
noncomputable def t43 (m : Nat) : Int × Int → Option (List Un) := fun (a0, a1) =>
  some ([.i a1])
noncomputable def f43 : Int × Int → Bool × List Un := fun (a0, a1) => (true, [.i (a1)])
theorem spec43 (a0 : Int) (a1 : Int) : ∃ m, t43 m (a0, a1) = some ([.i (a1)]) := by
  exact ⟨0, rfl⟩
theorem right43 : ER 43 (mkE N43.en N43.ex f43) := right_of KN_none T42.right (fun m => []) (t := t43) (by kernel_rfl) (fun m => all0) (fun m a => by kernel_rfl) fun (a0, a1) hc => spec43 a0 a1
noncomputable def T43 : Tb Try.prog LQ TE := T42.add 43 _ right43
def loanQ (d : Dat) : List Int := [d.i 0, d.i 1, d.i 2, d.i 3, bI (d.b 4)]
def noteQ (d : Dat) : List Int := [w64 (d.i 3 - d.i 4), d.i 5, d.i 6]
/-- The numbers that tell a trust. -/
def numbersV (n : TrustN) (pool notes : List Dat) : List Int := [n.period, n.mode, n.passed, n.out, n.fee, n.losses, n.recov, bI n.over, n.rin, n.rout] ++ pool.flatMap loanQ ++ notes.flatMap noteQ
/-! (*cascade/trust.Trust).Numbers -/
noncomputable def N12 : RoadF := ⟨T43.tab, 12, ⟨[.np 0 0 0], [.cells [.int .i64, .int .i64, .int .i64, .buf 1 2, .buf 2 3, .int .i64, .int .i64, .int .i64, .int .i64, .int .i64, .int .i64, .int .i64, .int .i64, .int .i64, .int .i64, .buf 3 2, .buf 4 2, .buf 5 2, .ptr 6 0 0, .buf 8 7, .int .i64, .int .i64, .int .i64, .int .i64, .int .i64, .int .i64, .int .i64, .int .i64, .int .i64, .bool], .recs [.int .i64, .int .i64], .recs [.int .i64, .int .i64, .int .i64], .recs [.int .i64, .int .i64], .recs [.int .i64, .int .i64], .recs [.int .i64, .int .i64], .cells [.buf 7 5], .recs [.int .i64, .int .i64, .int .i64, .int .i64, .bool], .recs [.int .i64, .int .i64, .int .i64, .int .i64, .int .i64, .int .i64, .int .i64]], 9⟩, ⟨[.buf 9 1], [.cells [.int .i64, .int .i64, .int .i64, .buf 1 2, .buf 2 3, .int .i64, .int .i64, .int .i64, .int .i64, .int .i64, .int .i64, .int .i64, .int .i64, .int .i64, .int .i64, .buf 3 2, .buf 4 2, .buf 5 2, .ptr 6 0 0, .buf 8 7, .int .i64, .int .i64, .int .i64, .int .i64, .int .i64, .int .i64, .int .i64, .int .i64, .int .i64, .bool], .recs [.int .i64, .int .i64], .recs [.int .i64, .int .i64, .int .i64], .recs [.int .i64, .int .i64], .recs [.int .i64, .int .i64], .recs [.int .i64, .int .i64], .cells [.buf 7 5], .recs [.int .i64, .int .i64, .int .i64, .int .i64, .bool], .recs [.int .i64, .int .i64, .int .i64, .int .i64, .int .i64, .int .i64, .int .i64], .ints .i64], 9⟩, []⟩
abbrev A12_1 : Type := Int × Int × DealA × DealB × TrustN × List Dat × List Dat × List Dat × List Dat × List Dat × List Dat × List Dat × List Int
abbrev A12_0 : Type := Int × Int × Int × DealA × DealB × TrustN × List Dat × List Dat × List Dat × List Dat × List Dat × List Dat × List Dat × List Int × List Dat
noncomputable def L12_1s (m : Nat) (k : A12_1 → Option (List Un)) : A12_1 → Option (List Un) := fun (a0, a1, a2, a3, a4, a5, a6, a7, a8, a9, a10, a11, a12) =>
  bif decide (a1 < a0) then
   chk (inb a1 a11.length) <|
   chk (decide (a1.toNat < a11.length)) <|
   lt (rowD a11 a1.toNat : Dat) fun d4 =>
   chk (fits (a12.length + 3) 8) <|
   k (a0, (w64 (a1 + 1)), a2, a3, a4, a5, a6, a7, a8, a9, a10, a11, (a12 ++ ([(w64 ((d4.i 3) - (d4.i 4))), (d4.i 5), (d4.i 6)])))
  else
   some (Uns.enc (a2 : DealA) ++ Uns.enc (a3 : DealB) ++ Uns.enc (a4 : TrustN) ++ [.d a5, .d a6, .d a7, .d a8, .d a9, .d a10, .d a11, .l a12])
noncomputable def L12_1 (m : Nat) : Nat → A12_1 → Option (List Un) := iterA (L12_1s m)
theorem L12_1_succ (m : Nat) (n : Nat) : L12_1 m (n + 1) = L12_1s m (L12_1 m n) := rfl
noncomputable def S12_1 (F : A12_1 → Option (List Un)) : StopS := ⟨[.lp [0, 1, 0, 1, 1, 1], .blk 2, .code [1, 1, 1, 1]], ⟨frm 102 [(3, .buf 9 1), (84, .buf 8 7), (85, .int .i64), (86, .int .i64)], [.cells [.int .i64, .int .i64, .int .i64, .buf 1 2, .buf 2 3, .int .i64, .int .i64, .int .i64, .int .i64, .int .i64, .int .i64, .int .i64, .int .i64, .int .i64, .int .i64, .buf 3 2, .buf 4 2, .buf 5 2, .ptr 6 0 0, .buf 8 7, .int .i64, .int .i64, .int .i64, .int .i64, .int .i64, .int .i64, .int .i64, .int .i64, .int .i64, .bool], .recs [.int .i64, .int .i64], .recs [.int .i64, .int .i64, .int .i64], .recs [.int .i64, .int .i64], .recs [.int .i64, .int .i64], .recs [.int .i64, .int .i64], .cells [.buf 7 5], .recs [.int .i64, .int .i64, .int .i64, .int .i64, .bool], .recs [.int .i64, .int .i64, .int .i64, .int .i64, .int .i64, .int .i64, .int .i64], .ints .i64], 9⟩, onU F⟩
noncomputable def L12_0s (m : Nat) (k : A12_0 → Option (List Un)) : A12_0 → Option (List Un) := fun (a0, a1, a2, a3, a4, a5, a6, a7, a8, a9, a10, a11, a12, a13, a14) =>
  bif decide (a2 < a1) then
   chk (inb a2 a14.length) <|
   chk (decide (a2.toNat < a14.length)) <|
   lt (rowD a14 a2.toNat : Dat) fun d2 =>
   chk (fits (a13.length + 5) 8) <|
   k (a0, a1, (w64 (a2 + 1)), a3, a4, a5, a6, a7, a8, a9, a10, a11, a12, (a13 ++ ([(d2.i 0), (d2.i 1), (d2.i 2), (d2.i 3), (bI (d2.b 4))])), a14)
  else
   chk (decide (0 ≤ a0)) <|
   L12_1 m m ((a12.length : Int), 0, a3, a4, a5, a6, a7, a8, a9, a10, a11, a12, a13)
noncomputable def L12_0 (m : Nat) : Nat → A12_0 → Option (List Un) := iterA (L12_0s m)
theorem L12_0_succ (m : Nat) (n : Nat) : L12_0 m (n + 1) = L12_0s m (L12_0 m n) := rfl
noncomputable def S12_0 (F : A12_0 → Option (List Un)) : StopS := ⟨[.lp [0, 1, 0, 1, 1], .blk 0, .code [1, 1, 1]], ⟨frm 102 [(0, .np 0 0 0), (3, .buf 9 1), (58, .buf 10 5), (59, .int .i64), (60, .int .i64)], [.cells [.int .i64, .int .i64, .int .i64, .buf 1 2, .buf 2 3, .int .i64, .int .i64, .int .i64, .int .i64, .int .i64, .int .i64, .int .i64, .int .i64, .int .i64, .int .i64, .buf 3 2, .buf 4 2, .buf 5 2, .ptr 6 0 0, .buf 8 7, .int .i64, .int .i64, .int .i64, .int .i64, .int .i64, .int .i64, .int .i64, .int .i64, .int .i64, .bool], .recs [.int .i64, .int .i64], .recs [.int .i64, .int .i64, .int .i64], .recs [.int .i64, .int .i64], .recs [.int .i64, .int .i64], .recs [.int .i64, .int .i64], .cells [.buf 7 5], .recs [.int .i64, .int .i64, .int .i64, .int .i64, .bool], .recs [.int .i64, .int .i64, .int .i64, .int .i64, .int .i64, .int .i64, .int .i64], .ints .i64, .recs [.int .i64, .int .i64, .int .i64, .int .i64, .bool]], 9⟩, onU F⟩
theorem H12_1 (m : Nat) : ∀ n, HO N12 (S12_1 (L12_1 m n)) := loop_holds KN_none T43.right (fun k => [S12_1 k]) (fun k h => (all1 h all0)) fun k a => by kernel_rfl
theorem H12_0 (m : Nat) : ∀ n, HO N12 (S12_0 (L12_0 m n)) := loop_holds KN_none T43.right (fun k => [S12_0 k, S12_1 (L12_1 m m)]) (fun k h => (all1 h (all1 (H12_1 m m) all0))) fun k a => by kernel_rfl
noncomputable def t12 (m : Nat) : Int × DealA × DealB × TrustN × List Dat × List Dat × List Dat × List Dat × List Dat × List Dat × List Dat → Option (List Un) := fun (a0, a1, a2, a3, a4, a5, a6, a7, a8, a9, a10) =>
  chk (decide (0 ≤ a0)) <|
  chk (decide (0 ≤ a0)) <|
  chk (decide (0 ≤ a0)) <|
  chk (decide (0 ≤ a0)) <|
  chk (decide (0 ≤ a0)) <|
  chk (decide (0 ≤ a0)) <|
  chk (decide (0 ≤ a0)) <|
  chk (decide (0 ≤ a0)) <|
  chk (decide (0 ≤ a0)) <|
  chk (decide (0 ≤ a0)) <|
  chk (decide (0 ≤ a0)) <|
  chk (decide (0 < ([.r [.r a9]] : List Dat).length) && decide (((rowD ([.r [.r a9]] : List Dat) 0).d 0).length < 1000000)) <|
  lt (((rowD ([.r [.r a9]] : List Dat) 0).d 0) : List Dat) fun l1 =>
  L12_0 m m (a0, (l1.length : Int), 0, a1, a2, a3, a4, a5, a6, a7, a8, a9, a10, ([a3.period, a3.mode, a3.passed, a3.out, a3.fee, a3.losses, a3.recov, (bI a3.over), a3.rin, a3.rout] : List Int), l1)
section
variable (m : Nat) (xa : DealA) (xb : DealB) (xn : TrustN) (x1 x2 x3 x4 x5 x6 : List Dat)
theorem numsL1 : ∀ (rest pre : List Dat) (n : Nat) (acc : List Int), rest.length < n → (pre ++ rest).length < 1000000 → acc.length ≤ 6000000 + 3 * pre.length →
    L12_1 m n (((pre ++ rest).length : Int), (pre.length : Int), xa, xb, xn, x1, x2, x3, x4, x5, x6, pre ++ rest, acc) = some (Uns.enc xa ++ Uns.enc xb ++ Uns.enc xn ++ [.d x1, .d x2, .d x3, .d x4, .d x5, .d x6, .d (pre ++ rest), .l (acc ++ rest.flatMap noteQ)]) := by
  intro rest
  induction rest with
  | nil =>
    intro pre n acc hn hl ha
    obtain ⟨n, rfl⟩ := one_more n (by simp at hn; omega)
    rw [L12_1_succ]; unfold L12_1s; dsimp only
    simp [cond_df]
  | cons x rest ih =>
    intro pre n acc hn hl ha
    obtain ⟨n, rfl⟩ := one_more n (by simp at hn; omega)
    simp only [List.length_cons, List.length_append] at hn hl
    rw [L12_1_succ]; unfold L12_1s; dsimp only
    have := ih (pre ++ [x]) n (acc ++ noteQ x) (by omega) (by simp; omega) (by simp [noteQ]; omega)
    simp only [List.flatMap_cons, noteQ] at this ⊢
    simp (disch := omega) only [lt_eq, chk_dec, chk_tt, chk_and, chk_inb, chk_fits, chk_make, chkn_dec, cond_dt, cond_df, cond_bt, cond_bf, cond_nt, cond_nf, cond_not, cond_and, cond_or, cond_tt, cond_ff, wrap_id, min_if', max_if', List.length_append, List.length_cons, List.length_nil, List.length_replicate, List.length_set, List.length_map, List.length_range, Int.natCast_add, Int.cast_ofNat_Int, Int.toNat_natCast, Int.add_assoc, Nat.zero_add, Int.zero_add, List.append_assoc, List.cons_append, List.nil_append, rowD_mid]
    simp only [List.length_append, List.length_cons, List.length_nil, List.length_replicate, List.length_set, List.length_map, List.length_range, Int.natCast_add, Int.cast_ofNat_Int, Int.toNat_natCast, Int.add_assoc, Nat.zero_add, Int.zero_add, List.append_assoc, List.cons_append, List.nil_append] at this ⊢
    exact this
theorem numsL0 (p0 : Int) (hp : 0 ≤ p0) (notes : List Dat) (hnl : notes.length < 1000000) (hm : notes.length < m) : ∀ (rest pre : List Dat) (n : Nat) (acc : List Int), rest.length < n → (pre ++ rest).length < 1000000 → acc.length ≤ 10 + 5 * pre.length →
    L12_0 m n (p0, ((pre ++ rest).length : Int), (pre.length : Int), xa, xb, xn, x1, x2, x3, x4, x5, x6, notes, acc, pre ++ rest) = some (Uns.enc xa ++ Uns.enc xb ++ Uns.enc xn ++ [.d x1, .d x2, .d x3, .d x4, .d x5, .d x6, .d notes, .l (acc ++ rest.flatMap loanQ ++ notes.flatMap noteQ)]) := by
  intro rest
  induction rest with
  | nil =>
    intro pre n acc hn hl ha
    obtain ⟨n, rfl⟩ := one_more n (by simp at hn; omega)
    simp only [List.append_nil] at hl
    rw [L12_0_succ]; unfold L12_0s; dsimp only
    simp only [List.append_nil, List.flatMap_nil]
    rw [cond_df (by omega), chk_dec hp]
    exact numsL1 m xa xb xn x1 x2 x3 x4 x5 x6 notes [] m acc hm (by simpa using hnl) (by simp; omega)
  | cons x rest ih =>
    intro pre n acc hn hl ha
    obtain ⟨n, rfl⟩ := one_more n (by simp at hn; omega)
    simp only [List.length_cons, List.length_append] at hn hl
    rw [L12_0_succ]; unfold L12_0s; dsimp only
    have := ih (pre ++ [x]) n (acc ++ loanQ x) (by omega) (by simp; omega) (by simp [loanQ]; omega)
    simp only [List.flatMap_cons, loanQ] at this ⊢
    simp (disch := omega) only [lt_eq, chk_dec, chk_tt, chk_and, chk_inb, chk_fits, chk_make, chkn_dec, cond_dt, cond_df, cond_bt, cond_bf, cond_nt, cond_nf, cond_not, cond_and, cond_or, cond_tt, cond_ff, wrap_id, min_if', max_if', List.length_append, List.length_cons, List.length_nil, List.length_replicate, List.length_set, List.length_map, List.length_range, Int.natCast_add, Int.cast_ofNat_Int, Int.toNat_natCast, Int.add_assoc, Nat.zero_add, Int.zero_add, List.append_assoc, List.cons_append, List.nil_append, rowD_mid]
    simp only [List.length_append, List.length_cons, List.length_nil, List.length_replicate, List.length_set, List.length_map, List.length_range, Int.natCast_add, Int.cast_ofNat_Int, Int.toNat_natCast, Int.add_assoc, Nat.zero_add, Int.zero_add, List.append_assoc, List.cons_append, List.nil_append] at this ⊢
    exact this
end
noncomputable def f12 : Int × DealA × DealB × TrustN × List Dat × List Dat × List Dat × List Dat × List Dat × List Dat × List Dat → Bool × List Un := fun (a0, a1, a2, a3, a4, a5, a6, a7, a8, a9, a10) => (decide (0 ≤ a0) && decide (a9.length < 1000000 ∧ a10.length < 1000000), Uns.enc ((a1) : DealA) ++ Uns.enc ((a2) : DealB) ++ Uns.enc ((a3) : TrustN) ++ [.d (a4), .d (a5), .d (a6), .d (a7), .d (a8), .d (a9), .d (a10), .l (numbersV a3 a9 a10)])
theorem spec12 (a0 : Int) (a1 : DealA) (a2 : DealB) (a3 : TrustN) (a4 : List Dat) (a5 : List Dat) (a6 : List Dat) (a7 : List Dat) (a8 : List Dat) (a9 : List Dat) (a10 : List Dat) (hc : (decide (0 ≤ a0) && decide (a9.length < 1000000 ∧ a10.length < 1000000)) = true) : ∃ m, t12 m (a0, a1, a2, a3, a4, a5, a6, a7, a8, a9, a10) = some (Uns.enc ((a1) : DealA) ++ Uns.enc ((a2) : DealB) ++ Uns.enc ((a3) : TrustN) ++ [.d (a4), .d (a5), .d (a6), .d (a7), .d (a8), .d (a9), .d (a10), .l (numbersV a3 a9 a10)]) := by
  simp only [Bool.and_eq_true, decide_eq_true_eq] at hc
  obtain ⟨h0, h1, h2⟩ := hc
  refine ⟨a9.length + a10.length + 1, ?_⟩
  unfold t12
  dsimp only [lt, box1, List.length_cons, List.length_nil]
  simp only [chk_dec h0]
  refine (chk_t ?_ (numsL0 _ a1 a2 a3 a4 a5 a6 a7 a8 a9 a0 h0 a10 h2 (by omega) a9 [] _ _ (by omega) (by simpa using h1) (by simp))).trans ?_
  · rw [Bool.and_eq_true]; exact ⟨@decide_eq_true _ _ (by omega), @decide_eq_true _ _ h1⟩
  · rfl
theorem right12 : ER 12 (mkE N12.en N12.ex f12) := right_of KN_none T43.right (fun m => [S12_0 (L12_0 m m)]) (t := t12) (by kernel_rfl) (fun m => (all1 (H12_0 m m) all0)) (fun m a => by kernel_rfl) fun (a0, a1, a2, a3, a4, a5, a6, a7, a8, a9, a10) hc => spec12 a0 a1 a2 a3 a4 a5 a6 a7 a8 a9 a10 hc
noncomputable def T12 : Tb Try.prog LQ TE := T43.add 12 _ right12
@[ext] structure RefN where
  reserve : Int
  put : Int
  out : Int
  fee : Int
  mode : Int
  passed : Int
  period : Int
  losses : Int
  recov : Int
  over : Bool
noncomputable instance : Uns RefN := Uns.via (B := Int × Int × Int × Int × Int × Int × Int × Int × Int × Bool) (fun x => (x.reserve, x.put, x.out, x.fee, x.mode, x.passed, x.period, x.losses, x.recov, x.over)) (fun x => match x with | (reserve, put, out, fee, mode, passed, period, losses, recov, over) => ⟨reserve, put, out, fee, mode, passed, period, losses, recov, over⟩) (fun _ => rfl)
def refNote (d : Dat) : Dat := .r [.n (d.i 0), .n (d.i 1), .n (d.i 2), .n 0, .n 0, .n 0]
/-- All of a trust, as the document keeps it. -/
structure RefS where
  a : DealA
  b : DealB
  n : RefN
  pool : List Dat
  notes : List Dat
def refNew (d : ADeal) : RefS := if (sumsW d).isSome then ⟨d.a, d.b, ⟨d.b.reserve, d.b.reserve, 0, 0, 0, 0, 0, 0, 0, false⟩, d.loans.map loanP, d.notes.map refNote⟩ else ⟨⟨0, 0, 0⟩, ⟨0, 0, 0, 0, 0, 0, 0, 0, 0, 0⟩, ⟨0, 0, 0, 0, 0, 0, 0, 0, 0, false⟩, [], []⟩
/-! cascade/cascaderef20.New -/
noncomputable def N26 : RoadF := ⟨T12.tab, 26, ⟨[.agg [.int .i64, .int .i64, .int .i64, .recs [.int .i64, .int .i64], .recs [.int .i64, .int .i64, .int .i64], .int .i64, .int .i64, .int .i64, .int .i64, .int .i64, .int .i64, .int .i64, .int .i64, .int .i64, .int .i64, .recs [.int .i64, .int .i64], .recs [.int .i64, .int .i64], .recs [.int .i64, .int .i64]]], [], 0⟩, ⟨[.agg [.int .i64, .int .i64, .int .i64, .any, .any, .int .i64, .int .i64, .int .i64, .int .i64, .int .i64, .int .i64, .int .i64, .int .i64, .int .i64, .int .i64, .any, .any, .any, .buf 0 5, .buf 1 6, .int .i64, .int .i64, .int .i64, .int .i64, .int .i64, .int .i64, .int .i64, .int .i64, .int .i64, .bool], .int .i64], [.recs [.int .i64, .int .i64, .int .i64, .int .i64, .bool], .recs [.int .i64, .int .i64, .int .i64, .int .i64, .int .i64, .int .i64]], 0⟩, []⟩
abbrev A26_0 : Type := List Dat × Int × Int × DealA × DealB × RefN × ADeal × RefN × List Dat × List Dat × List Dat × List Dat × List Dat × List Dat × List Dat × List Dat × List Dat
noncomputable def L26_0s (m : Nat) (k : A26_0 → Option (List Un)) : A26_0 → Option (List Un) := fun (a0, a1, a2, a3, a4, a5, a6, a7, a8, a9, a10, a11, a12, a13, a14, a15, a16) =>
  bif decide (a2 < a1) then
   chk (inb a2 a0.length) <|
   chk (decide (a2.toNat < a0.length)) <|
   lt (rowD a0 a2.toNat : Dat) fun d1 =>
   chk (fits (a16.length + 1) 48) <|
   k (a0, a1, (w64 (a2 + 1)), a3, a4, a5, a6, a7, a8, a9, a10, a11, a12, a13, a14, a15, (a16 ++ ([.r [.n (d1.i 0), .n (d1.i 1), .n (d1.i 2), .n 0, .n 0, .n 0]])))
  else
   some (Uns.enc (a6.a : DealA) ++ Uns.enc (a6.b : DealB) ++ Uns.enc (a7 : RefN) ++ [.i 0, .d a15, .d a16])
noncomputable def L26_0 (m : Nat) : Nat → A26_0 → Option (List Un) := iterA (L26_0s m)
theorem L26_0_succ (m : Nat) (n : Nat) : L26_0 m (n + 1) = L26_0s m (L26_0 m n) := rfl
noncomputable def S26_0 (F : A26_0 → Option (List Un)) : StopS := ⟨[.lp [0, 1, 0, 1, 1, 1], .blk 0, .code [1, 1, 1, 1]], ⟨frm 36 [(2, .ptr 0 0 0), (4, .ptr 1 0 0), (21, .recs [.int .i64, .int .i64, .int .i64]), (22, .int .i64), (23, .int .i64)], [.cells [.int .i64, .int .i64, .int .i64, .buf 2 2, .buf 3 3, .int .i64, .int .i64, .int .i64, .int .i64, .int .i64, .int .i64, .int .i64, .int .i64, .int .i64, .int .i64, .buf 4 2, .buf 5 2, .buf 6 2, .buf 7 5, .buf 8 6, .int .i64, .int .i64, .int .i64, .int .i64, .int .i64, .int .i64, .int .i64, .int .i64, .int .i64, .bool], .cells [.int .i64, .int .i64, .int .i64, .recs [.int .i64, .int .i64], .recs [.int .i64, .int .i64, .int .i64], .int .i64, .int .i64, .int .i64, .int .i64, .int .i64, .int .i64, .int .i64, .int .i64, .int .i64, .int .i64, .recs [.int .i64, .int .i64], .recs [.int .i64, .int .i64], .recs [.int .i64, .int .i64], .buf 9 5, .buf 10 6, .int .i64, .int .i64, .int .i64, .int .i64, .int .i64, .int .i64, .int .i64, .int .i64, .int .i64, .bool], .recs [.int .i64, .int .i64], .recs [.int .i64, .int .i64, .int .i64], .recs [.int .i64, .int .i64], .recs [.int .i64, .int .i64], .recs [.int .i64, .int .i64], .recs [.int .i64, .int .i64, .int .i64, .int .i64, .bool], .recs [.int .i64, .int .i64, .int .i64, .int .i64, .int .i64, .int .i64], .recs [.int .i64, .int .i64, .int .i64, .int .i64, .bool], .recs [.int .i64, .int .i64, .int .i64, .int .i64, .int .i64, .int .i64]], 0⟩, onU F⟩
theorem H26_0 (m : Nat) : ∀ n, HO N26 (S26_0 (L26_0 m n)) := loop_holds KN_none T12.right (fun k => [S26_0 k]) (fun k h => (all1 h all0)) fun k a => by kernel_rfl
noncomputable def t26 (m : Nat) : ADeal → Option (List Un) := fun a0 =>
  bif !((sumsW a0).isSome) then
   some (Uns.enc ((⟨0, 0, 0⟩ : DealA) : DealA) ++ Uns.enc ((⟨0, 0, 0, 0, 0, 0, 0, 0, 0, 0⟩ : DealB) : DealB) ++ Uns.enc ((⟨0, 0, 0, 0, 0, 0, 0, 0, 0, false⟩ : RefN) : RefN) ++ [.i 2, .d ([]), .d ([])])
  else
   chk (decide (a0.loans.length < 1000000)) <|
   L26_0 m m (a0.notes, (a0.notes.length : Int), 0, (⟨0, 0, 0⟩ : DealA), (⟨0, 0, 0, 0, 0, 0, 0, 0, 0, 0⟩ : DealB), (⟨0, 0, 0, 0, 0, 0, 0, 0, 0, false⟩ : RefN), a0, (⟨a0.b.reserve, a0.b.reserve, 0, 0, 0, 0, 0, 0, 0, false⟩ : RefN), [], [], [], [], [], [], [], (a0.loans.map loanP), [])
theorem refNewL (m : Nat) (za : DealA) (zb : DealB) (zn : RefN) (d : ADeal) (sn : RefN) (x1 x2 x3 x4 x5 x6 x7 pl : List Dat) : ∀ (rest pre : List Dat) (n : Nat), rest.length < n → (pre ++ rest).length < 1000000 →
    L26_0 m n (pre ++ rest, ((pre ++ rest).length : Int), (pre.length : Int), za, zb, zn, d, sn, x1, x2, x3, x4, x5, x6, x7, pl, pre.map refNote) = some (Uns.enc (d.a : DealA) ++ Uns.enc (d.b : DealB) ++ Uns.enc (sn : RefN) ++ [.i 0, .d pl, .d ((pre ++ rest).map refNote)]) := by
  intro rest
  induction rest with
  | nil =>
    intro pre n hn hl
    obtain ⟨n, rfl⟩ := one_more n (by simp at hn; omega)
    rw [L26_0_succ]; unfold L26_0s; dsimp only
    simp [cond_df]
  | cons x rest ih =>
    intro pre n hn hl
    obtain ⟨n, rfl⟩ := one_more n (by simp at hn; omega)
    simp only [List.length_cons, List.length_append] at hn hl
    rw [L26_0_succ]; unfold L26_0s; dsimp only
    have := ih (pre ++ [x]) n (by omega) (by simp; omega)
    rw [List.map_append] at this
    simp (disch := omega) only [lt_eq, chk_dec, chk_tt, chk_and, chk_inb, chk_fits, chk_make, chkn_dec, cond_dt, cond_df, cond_bt, cond_bf, cond_nt, cond_nf, cond_not, cond_and, cond_or, cond_tt, cond_ff, wrap_id, min_if', max_if', List.length_append, List.length_cons, List.length_nil, List.length_replicate, List.length_set, List.length_map, List.length_range, Int.natCast_add, Int.cast_ofNat_Int, Int.toNat_natCast, Int.add_assoc, Nat.zero_add, Int.zero_add, List.append_assoc, List.cons_append, List.nil_append, rowD_mid]
    simp only [List.length_append, List.length_cons, List.length_nil, List.length_replicate, List.length_set, List.length_map, List.length_range, Int.natCast_add, Int.cast_ofNat_Int, Int.toNat_natCast, Int.add_assoc, Nat.zero_add, Int.zero_add, List.append_assoc, List.cons_append, List.nil_append] at this ⊢
    exact this
noncomputable def f26 : ADeal → Bool × List Un := fun a0 => (decide (a0.loans.length < 1000000 ∧ a0.notes.length < 1000000), Uns.enc (((refNew a0).a) : DealA) ++ Uns.enc (((refNew a0).b) : DealB) ++ Uns.enc (((refNew a0).n) : RefN) ++ [.i (((if (sumsW a0).isSome then 0 else 2) : Int)), .d ((refNew a0).pool), .d ((refNew a0).notes)])
theorem spec26 (a0 : ADeal) (hc : (decide (a0.loans.length < 1000000 ∧ a0.notes.length < 1000000)) = true) : ∃ m, t26 m a0 = some (Uns.enc (((refNew a0).a) : DealA) ++ Uns.enc (((refNew a0).b) : DealB) ++ Uns.enc (((refNew a0).n) : RefN) ++ [.i (((if (sumsW a0).isSome then 0 else 2) : Int)), .d ((refNew a0).pool), .d ((refNew a0).notes)]) := by
  obtain ⟨h1, h2⟩ := of_decide_eq_true hc
  refine ⟨a0.notes.length + 1, ?_⟩
  unfold t26 refNew
  cases hs : (sumsW a0).isSome
  · rfl
  · simp only [Bool.not_true, cond_false, if_true]
    rw [chk_dec h1]
    exact refNewL _ _ _ _ a0 _ _ _ _ _ _ _ _ _ a0.notes [] _ (by omega) (by simpa using h2)
theorem right26 : ER 26 (mkE N26.en N26.ex f26) := right_of KN_none T12.right (fun m => [S26_0 (L26_0 m m)]) (t := t26) (by kernel_rfl) (fun m => (all1 (H26_0 m m) all0)) (fun m a => by kernel_rfl) fun a0 hc => spec26 a0 hc
noncomputable def T26 : Tb Try.prog LQ TE := T12.add 26 _ right26

end Go.Proofs.Ytoiijpphfckdjaa
