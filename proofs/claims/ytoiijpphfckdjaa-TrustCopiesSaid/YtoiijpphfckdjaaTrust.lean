/- A part of the walk. -/
import Derived.Test.YtoiijpphfckdjaaRight
namespace Go.Proofs.Ytoiijpphfckdjaa
open Go Go.Proofs.Ytoiijpphfckdjaa.Ev
set_option linter.unusedVariables false
set_option linter.unusedSimpArgs false
set_option linter.unnecessarySimpa false

/-! cascade/purse.Of -/
noncomputable def N38 : RoadF := ⟨T36.tab, 38, ⟨[.int .i64], [], 0⟩, ⟨[.agg [.int .i64, .int .i64]], [], 0⟩, []⟩
noncomputable def t38 (m : Nat) : Int → Option (List Un) := fun a0 =>
  bif (decide ((([0, a0]).getD 0 0) < 0)) then
   some ([.i 0, .i 0])
  else
   bif (decide ((([0, a0]).getD 0 0) > 1152921504606846976)) then
    some ([.i 0, .i 0])
   else
    lt ((w64 (0 + (([0, a0]).getD 0 0))) : Int) fun x3 =>
    bif (decide ((([0, a0]).getD 1 0) < 0)) then
     some ([.i 0, .i 0])
    else
     bif (decide ((([0, a0]).getD 1 0) > (w64 (1152921504606846976 - x3)))) then
      some ([.i 0, .i 0])
     else
      some ([.i (w64 (x3 + (([0, a0]).getD 1 0))), .i 0])
noncomputable def f38 : Int → Bool × List Un := fun a0 => (decide (0 ≤ a0 ∧ a0 ≤ 1152921504606846976), [.i (a0), .i (0)])
theorem spec38 (a0 : Int) (hc : (decide (0 ≤ a0 ∧ a0 ≤ 1152921504606846976)) = true) : ∃ m, t38 m a0 = some ([.i (a0), .i (0)]) := by
  have h := of_decide_eq_true hc
  refine ⟨0, ?_⟩
  unfold t38
  simp only [List.getD_cons_zero, List.getD_cons_succ]
  simp (disch := omega) only [lt_eq, chk_dec, chk_tt, chk_and, chk_inb, chk_fits, chk_make, chkn_dec, cond_dt, cond_df, cond_bt, cond_bf, cond_nt, cond_nf, cond_not, cond_and, cond_or, cond_tt, cond_ff, wrap_id, min_if', max_if', Int.zero_add, Int.sub_zero]
theorem right38 : ER 38 (mkE N38.en N38.ex f38) := right_of KN_none T36.right (fun m => []) (t := t38) (by kernel_rfl) (fun m => all0) (fun m a => by kernel_rfl) fun a0 hc => spec38 a0 hc
noncomputable def T38 : Tb Try.prog LQ TE := T36.add 38 _ right38
/-! cascade/note.New -/
noncomputable def N39 : RoadF := ⟨T38.tab, 39, ⟨[.agg [.int .i64, .int .i64, .int .i64]], [], 0⟩, ⟨[.agg [.int .i64, .int .i64, .int .i64, .int .i64, .int .i64, .int .i64, .int .i64]], [], 0⟩, []⟩
noncomputable def t39 (m : Nat) : Int × Int × Int → Option (List Un) := fun (a0, a1, a2) =>
  some ([.i a0, .i a1, .i a2, .i 0, .i 0, .i 0, .i 0])
noncomputable def f39 : Int × Int × Int → Bool × List Un := fun (a0, a1, a2) => (true, [.i (a0), .i (a1), .i (a2), .i (0), .i (0), .i (0), .i (0)])
theorem spec39 (a0 : Int) (a1 : Int) (a2 : Int) : ∃ m, t39 m (a0, a1, a2) = some ([.i (a0), .i (a1), .i (a2), .i (0), .i (0), .i (0), .i (0)]) := by
  exact ⟨0, rfl⟩
theorem right39 : ER 39 (mkE N39.en N39.ex f39) := right_of KN_none T38.right (fun m => []) (t := t39) (by kernel_rfl) (fun m => all0) (fun m a => by kernel_rfl) fun (a0, a1, a2) hc => spec39 a0 a1 a2
noncomputable def T39 : Tb Try.prog LQ TE := T38.add 39 _ right39
/-- A loan of a pool, as it begins. -/
def loanP (d : Dat) : Dat := .r [.n (d.i 0), .n (d.i 1), .n 0, .n 0, .n (bI false)]
/-! cascade/pool.New -/
noncomputable def N37 : RoadF := ⟨T39.tab, 37, ⟨[.recs [.int .i64, .int .i64]], [], 0⟩, ⟨[.ptr 0 0 0], [.cells [.buf 1 5], .recs [.int .i64, .int .i64, .int .i64, .int .i64, .bool]], 0⟩, []⟩
abbrev A37_0 : Type := List Dat × Int × Int × List Dat
noncomputable def L37_0s (m : Nat) (k : A37_0 → Option (List Un)) : A37_0 → Option (List Un) := fun (a0, a1, a2, a3) =>
  bif decide (a2 < a1) then
   chk (inb a2 a0.length) <|
   chk (decide (a2.toNat < a0.length)) <|
   lt (rowD a0 a2.toNat : Dat) fun d1 =>
   chk (fits (a3.length + 1) 40) <|
   k (a0, a1, (w64 (a2 + 1)), (a3 ++ ([.r [.n (d1.i 0), .n (d1.i 1), .n 0, .n 0, .n (bI false)]])))
  else
   some ([.d a3])
noncomputable def L37_0 (m : Nat) : Nat → A37_0 → Option (List Un) := iterA (L37_0s m)
theorem L37_0_succ (m : Nat) (n : Nat) : L37_0 m (n + 1) = L37_0s m (L37_0 m n) := rfl
noncomputable def S37_0 (F : A37_0 → Option (List Un)) : StopS := ⟨[.lp [0, 1, 0, 1, 1], .blk 0, .code [1, 1, 1]], ⟨frm 27 [(3, .ptr 0 0 0), (8, .recs [.int .i64, .int .i64]), (9, .int .i64), (10, .int .i64)], [.cells [.buf 1 5], .recs [.int .i64, .int .i64, .int .i64, .int .i64, .bool]], 0⟩, onU F⟩
theorem H37_0 (m : Nat) : ∀ n, HO N37 (S37_0 (L37_0 m n)) := loop_holds KN_none T39.right (fun k => [S37_0 k]) (fun k h => (all1 h all0)) fun k a => by kernel_rfl
noncomputable def t37 (m : Nat) : List Dat → Option (List Un) := fun a0 =>
  L37_0 m m (a0, (a0.length : Int), 0, [])
theorem poolNewL (m : Nat) : ∀ (rest pre : List Dat) (n : Nat), rest.length < n → (pre ++ rest).length < 1000000 →
    L37_0 m n (pre ++ rest, ((pre ++ rest).length : Int), (pre.length : Int), pre.map loanP) = some [.d ((pre ++ rest).map loanP)] := by
  intro rest
  induction rest with
  | nil =>
    intro pre n hn hl
    obtain ⟨n, rfl⟩ := one_more n (by simp at hn; omega)
    rw [L37_0_succ]; unfold L37_0s; dsimp only
    simp [cond_df]
  | cons x rest ih =>
    intro pre n hn hl
    obtain ⟨n, rfl⟩ := one_more n (by simp at hn; omega)
    simp only [List.length_cons, List.length_append] at hn hl
    rw [L37_0_succ]; unfold L37_0s; dsimp only
    have := ih (pre ++ [x]) n (by omega) (by simp; omega)
    rw [List.map_append] at this
    simp (disch := omega) only [lt_eq, chk_dec, chk_tt, chk_and, chk_inb, chk_fits, chk_make, chkn_dec, cond_dt, cond_df, cond_bt, cond_bf, cond_nt, cond_nf, cond_not, cond_and, cond_or, cond_tt, cond_ff, wrap_id, min_if', max_if', List.length_append, List.length_cons, List.length_nil, List.length_replicate, List.length_set, List.length_map, List.length_range, Int.natCast_add, Int.cast_ofNat_Int, Int.toNat_natCast, Int.add_assoc, Nat.zero_add, Int.zero_add, List.append_assoc, List.cons_append, List.nil_append, rowD_mid]
    simp only [List.length_append, List.length_cons, List.length_nil, List.length_replicate, List.length_set, List.length_map, List.length_range, Int.natCast_add, Int.cast_ofNat_Int, Int.toNat_natCast, Int.add_assoc, Nat.zero_add, Int.zero_add, List.append_assoc, List.cons_append, List.nil_append] at this ⊢
    exact this
noncomputable def f37 : List Dat → Bool × List Un := fun a0 => (decide (a0.length < 1000000), [.d (a0.map loanP)])
theorem spec37 (a0 : List Dat) (hc : (decide (a0.length < 1000000)) = true) : ∃ m, t37 m a0 = some ([.d (a0.map loanP)]) := by
  exact ⟨a0.length + 1, poolNewL _ a0 [] _ (by omega) (of_decide_eq_true hc)⟩
theorem right37 : ER 37 (mkE N37.en N37.ex f37) := right_of KN_none T39.right (fun m => [S37_0 (L37_0 m m)]) (t := t37) (by kernel_rfl) (fun m => (all1 (H37_0 m m) all0)) (fun m a => by kernel_rfl) fun a0 hc => spec37 a0 hc
noncomputable def T37 : Tb Try.prog LQ TE := T39.add 37 _ right37
@[ext] structure TrustN where
  rin : Int
  rout : Int
  out : Int
  fee : Int
  mode : Int
  passed : Int
  period : Int
  losses : Int
  recov : Int
  over : Bool
noncomputable instance : Uns TrustN := Uns.via (B := Int × Int × Int × Int × Int × Int × Int × Int × Int × Bool) (fun x => (x.rin, x.rout, x.out, x.fee, x.mode, x.passed, x.period, x.losses, x.recov, x.over)) (fun x => match x with | (rin, rout, out, fee, mode, passed, period, losses, recov, over) => ⟨rin, rout, out, fee, mode, passed, period, losses, recov, over⟩) (fun _ => rfl)
/-- All of a trust. -/
structure TrustS where
  a : DealA
  b : DealB
  n : TrustN
  loans : List Dat
  notes : List Dat
  s0 : List Dat
  s1 : List Dat
  s2 : List Dat
  pool : List Dat
  tr : List Dat
def noteN (d : Dat) : Dat := .r [.n (d.i 0), .n (d.i 1), .n (d.i 2), .n 0, .n 0, .n 0, .n 0]
/-- A trust as it begins. -/
def trustV (d : ADeal) : TrustS := ⟨d.a, d.b, ⟨d.b.reserve, 0, 0, 0, 0, 0, 0, 0, 0, false⟩, d.loans, d.notes, d.s0, d.s1, d.s2, d.loans.map loanP, d.notes.map noteN⟩
def newW (d : ADeal) : TrustS := if (sumsW d).isSome then trustV d else ⟨⟨0, 0, 0⟩, ⟨0, 0, 0, 0, 0, 0, 0, 0, 0, 0⟩, ⟨0, 0, 0, 0, 0, 0, 0, 0, 0, false⟩, [], [], [], [], [], [], []⟩
theorem sumsW_reserve {d : ADeal} (h : (sumsW d).isSome = true) : 0 ≤ d.b.reserve ∧ d.b.reserve ≤ 1099511627776 := by
  unfold sumsW at h
  split at h
  · cases h
  · split at h
    · cases h
    · split at h
      · rename_i hc
        simp only [Bool.and_eq_true, termsV, decide_eq_true_eq] at hc
        omega
      · cases h
/-! cascade/trust.New -/
noncomputable def N8 : RoadF := ⟨T37.tab, 8, ⟨[.agg [.int .i64, .int .i64, .int .i64, .recs [.int .i64, .int .i64], .recs [.int .i64, .int .i64, .int .i64], .int .i64, .int .i64, .int .i64, .int .i64, .int .i64, .int .i64, .int .i64, .int .i64, .int .i64, .int .i64, .recs [.int .i64, .int .i64], .recs [.int .i64, .int .i64], .recs [.int .i64, .int .i64]]], [], 0⟩, ⟨[.np 0 0 0, .int .i64], [.cells [.int .i64, .int .i64, .int .i64, .buf 1 2, .buf 2 3, .int .i64, .int .i64, .int .i64, .int .i64, .int .i64, .int .i64, .int .i64, .int .i64, .int .i64, .int .i64, .buf 3 2, .buf 4 2, .buf 5 2, .ptr 6 0 0, .buf 8 7, .int .i64, .int .i64, .int .i64, .int .i64, .int .i64, .int .i64, .int .i64, .int .i64, .int .i64, .bool], .recs [.int .i64, .int .i64], .recs [.int .i64, .int .i64, .int .i64], .recs [.int .i64, .int .i64], .recs [.int .i64, .int .i64], .recs [.int .i64, .int .i64], .cells [.buf 7 5], .recs [.int .i64, .int .i64, .int .i64, .int .i64, .bool], .recs [.int .i64, .int .i64, .int .i64, .int .i64, .int .i64, .int .i64, .int .i64]], 0⟩, []⟩
abbrev A8_0 : Type := List Dat × Int × Int × DealA × DealB × TrustN × List Dat × List Dat × List Dat × List Dat × List Dat × List Dat × List Dat
noncomputable def L8_0s (m : Nat) (k : A8_0 → Option (List Un)) : A8_0 → Option (List Un) := fun (a0, a1, a2, a3, a4, a5, a6, a7, a8, a9, a10, a11, a12) =>
  bif decide (a2 < a1) then
   chk (inb a2 a0.length) <|
   chk (decide (a2.toNat < a0.length)) <|
   lt (rowD a0 a2.toNat : Dat) fun d1 =>
   chk (fits (a11.length + 1) 56) <|
   k (a0, a1, (w64 (a2 + 1)), a3, a4, a5, a6, a7, a8, a9, a10, (a11 ++ ([.r [.n (d1.i 0), .n (d1.i 1), .n (d1.i 2), .n 0, .n 0, .n 0, .n 0]])), a12)
  else
   some ([.i 0, .i 0] ++ Uns.enc (a3 : DealA) ++ Uns.enc (a4 : DealB) ++ Uns.enc (a5 : TrustN) ++ [.d a6, .d a7, .d a8, .d a9, .d a10, .d a12, .d a11])
noncomputable def L8_0 (m : Nat) : Nat → A8_0 → Option (List Un) := iterA (L8_0s m)
theorem L8_0_succ (m : Nat) (n : Nat) : L8_0 m (n + 1) = L8_0s m (L8_0 m n) := rfl
noncomputable def S8_0 (F : A8_0 → Option (List Un)) : StopS := ⟨[.lp [0, 1, 0, 1, 1, 1], .blk 0, .code [1, 1, 1, 1]], ⟨frm 40 [(4, .ptr 0 0 0), (21, .recs [.int .i64, .int .i64, .int .i64]), (22, .int .i64), (23, .int .i64)], [.cells [.int .i64, .int .i64, .int .i64, .buf 1 2, .buf 2 3, .int .i64, .int .i64, .int .i64, .int .i64, .int .i64, .int .i64, .int .i64, .int .i64, .int .i64, .int .i64, .buf 3 2, .buf 4 2, .buf 5 2, .ptr 6 0 0, .buf 7 7, .int .i64, .int .i64, .int .i64, .int .i64, .int .i64, .int .i64, .int .i64, .int .i64, .int .i64, .bool], .recs [.int .i64, .int .i64], .recs [.int .i64, .int .i64, .int .i64], .recs [.int .i64, .int .i64], .recs [.int .i64, .int .i64], .recs [.int .i64, .int .i64], .cells [.buf 8 5], .recs [.int .i64, .int .i64, .int .i64, .int .i64, .int .i64, .int .i64, .int .i64], .recs [.int .i64, .int .i64, .int .i64, .int .i64, .bool]], 0⟩, onU F⟩
theorem H8_0 (m : Nat) : ∀ n, HO N8 (S8_0 (L8_0 m n)) := loop_holds KN_none T37.right (fun k => [S8_0 k]) (fun k h => (all1 h all0)) fun k a => by kernel_rfl
noncomputable def t8 (m : Nat) : ADeal → Option (List Un) := fun a0 =>
  bif !((sumsW a0).isSome) then
   some ([.i (-1), .i 2] ++ Uns.enc ((⟨0, 0, 0⟩ : DealA) : DealA) ++ Uns.enc ((⟨0, 0, 0, 0, 0, 0, 0, 0, 0, 0⟩ : DealB) : DealB) ++ Uns.enc ((⟨0, 0, 0, 0, 0, 0, 0, 0, 0, false⟩ : TrustN) : TrustN) ++ [.d ([]), .d ([]), .d ([]), .d ([]), .d ([]), .d ([]), .d ([])])
  else
   chk (decide (a0.loans.length < 1000000 ∧ a0.notes.length < 1000000 ∧ a0.s0.length < 1000000 ∧ a0.s1.length < 1000000 ∧ a0.s2.length < 1000000)) <|
   chk (decide (a0.loans.length < 1000000)) <|
   chk (decide (0 ≤ a0.b.reserve ∧ a0.b.reserve ≤ 1152921504606846976)) <|
   L8_0 m m (a0.notes, (a0.notes.length : Int), 0, a0.a, a0.b, (⟨a0.b.reserve, 0, 0, 0, 0, 0, 0, 0, 0, false⟩ : TrustN), a0.loans, a0.notes, a0.s0, a0.s1, a0.s2, [], (a0.loans.map loanP))
theorem trustNewL (m : Nat) (a : DealA) (b : DealB) (n0 : TrustN) (x1 x2 x3 x4 x5 x6 : List Dat) : ∀ (rest pre : List Dat) (n : Nat), rest.length < n → (pre ++ rest).length < 1000000 →
    L8_0 m n (pre ++ rest, ((pre ++ rest).length : Int), (pre.length : Int), a, b, n0, x1, x2, x3, x4, x5, pre.map noteN, x6) = some ([.i 0, .i 0] ++ Uns.enc (a : DealA) ++ Uns.enc (b : DealB) ++ Uns.enc (n0 : TrustN) ++ [.d x1, .d x2, .d x3, .d x4, .d x5, .d x6, .d ((pre ++ rest).map noteN)]) := by
  intro rest
  induction rest with
  | nil =>
    intro pre n hn hl
    obtain ⟨n, rfl⟩ := one_more n (by simp at hn; omega)
    rw [L8_0_succ]; unfold L8_0s; dsimp only
    simp [cond_df]
  | cons x rest ih =>
    intro pre n hn hl
    obtain ⟨n, rfl⟩ := one_more n (by simp at hn; omega)
    simp only [List.length_cons, List.length_append] at hn hl
    rw [L8_0_succ]; unfold L8_0s; dsimp only
    have := ih (pre ++ [x]) n (by omega) (by simp; omega)
    rw [List.map_append] at this
    simp (disch := omega) only [lt_eq, chk_dec, chk_tt, chk_and, chk_inb, chk_fits, chk_make, chkn_dec, cond_dt, cond_df, cond_bt, cond_bf, cond_nt, cond_nf, cond_not, cond_and, cond_or, cond_tt, cond_ff, wrap_id, min_if', max_if', List.length_append, List.length_cons, List.length_nil, List.length_replicate, List.length_set, List.length_map, List.length_range, Int.natCast_add, Int.cast_ofNat_Int, Int.toNat_natCast, Int.add_assoc, Nat.zero_add, Int.zero_add, List.append_assoc, List.cons_append, List.nil_append, rowD_mid]
    simp only [List.length_append, List.length_cons, List.length_nil, List.length_replicate, List.length_set, List.length_map, List.length_range, Int.natCast_add, Int.cast_ofNat_Int, Int.toNat_natCast, Int.add_assoc, Nat.zero_add, Int.zero_add, List.append_assoc, List.cons_append, List.nil_append] at this ⊢
    exact this
noncomputable def f8 : ADeal → Bool × List Un := fun a0 => (decide (a0.loans.length < 1000000 ∧ a0.notes.length < 1000000 ∧ a0.s0.length < 1000000 ∧ a0.s1.length < 1000000 ∧ a0.s2.length < 1000000), [.i (((if (sumsW a0).isSome then 0 else -1) : Int)), .i (((if (sumsW a0).isSome then 0 else 2) : Int))] ++ Uns.enc (((newW a0).a) : DealA) ++ Uns.enc (((newW a0).b) : DealB) ++ Uns.enc (((newW a0).n) : TrustN) ++ [.d ((newW a0).loans), .d ((newW a0).notes), .d ((newW a0).s0), .d ((newW a0).s1), .d ((newW a0).s2), .d ((newW a0).pool), .d ((newW a0).tr)])
theorem spec8 (a0 : ADeal) (hc : (decide (a0.loans.length < 1000000 ∧ a0.notes.length < 1000000 ∧ a0.s0.length < 1000000 ∧ a0.s1.length < 1000000 ∧ a0.s2.length < 1000000)) = true) : ∃ m, t8 m a0 = some ([.i (((if (sumsW a0).isSome then 0 else -1) : Int)), .i (((if (sumsW a0).isSome then 0 else 2) : Int))] ++ Uns.enc (((newW a0).a) : DealA) ++ Uns.enc (((newW a0).b) : DealB) ++ Uns.enc (((newW a0).n) : TrustN) ++ [.d ((newW a0).loans), .d ((newW a0).notes), .d ((newW a0).s0), .d ((newW a0).s1), .d ((newW a0).s2), .d ((newW a0).pool), .d ((newW a0).tr)]) := by
  have h := of_decide_eq_true hc
  refine ⟨a0.notes.length + 1, ?_⟩
  unfold t8 newW
  cases hs : (sumsW a0).isSome
  · rfl
  · have hr := sumsW_reserve hs
    simp only [Bool.not_true, cond_false, if_true]
    rw [chk_dec h, chk_dec (by omega), chk_dec (by omega)]
    exact trustNewL _ _ _ _ _ _ _ _ _ _ a0.notes [] _ (by omega) (by simp; omega)
theorem right8 : ER 8 (mkE N8.en N8.ex f8) := right_of KN_none T37.right (fun m => [S8_0 (L8_0 m m)]) (t := t8) (by kernel_rfl) (fun m => (all1 (H8_0 m m) all0)) (fun m a => by kernel_rfl) fun a0 hc => spec8 a0 hc
noncomputable def T8 : Tb Try.prog LQ TE := T37.add 8 _ right8
/-! (cascade/purse.Purse).Has -/
noncomputable def N20 : RoadF := ⟨T8.tab, 20, ⟨[.agg [.int .i64, .int .i64]], [], 0⟩, ⟨[.int .i64], [], 0⟩, []⟩
noncomputable def t20 (m : Nat) : Int × Int → Option (List Un) := fun (a0, a1) =>
  some ([.i (w64 (a0 - a1))])
noncomputable def f20 : Int × Int → Bool × List Un := fun (a0, a1) => (true, [.i (w64 (a0 - a1))])
theorem spec20 (a0 : Int) (a1 : Int) : ∃ m, t20 m (a0, a1) = some ([.i (w64 (a0 - a1))]) := by
  exact ⟨0, rfl⟩
theorem right20 : ER 20 (mkE N20.en N20.ex f20) := right_of KN_none T8.right (fun m => []) (t := t20) (by kernel_rfl) (fun m => all0) (fun m a => by kernel_rfl) fun (a0, a1) hc => spec20 a0 a1
noncomputable def T20 : Tb Try.prog LQ TE := T8.add 20 _ right20
/-! (cascade/note.Note).Balance -/
noncomputable def N19 : RoadF := ⟨T20.tab, 19, ⟨[.agg [.int .i64, .int .i64, .int .i64, .int .i64, .int .i64, .int .i64, .int .i64]], [], 0⟩, ⟨[.int .i64], [], 0⟩, []⟩
noncomputable def t19 (m : Nat) : Int × Int × Int × Int × Int × Int × Int → Option (List Un) := fun (a0, a1, a2, a3, a4, a5, a6) =>
  some ([.i (w64 ((w64 (a1 - (w64 (a3 - a4)))) - a6))])
noncomputable def f19 : Int × Int × Int × Int × Int × Int × Int → Bool × List Un := fun (a0, a1, a2, a3, a4, a5, a6) => (true, [.i (w64 (w64 (a1 - w64 (a3 - a4)) - a6))])
theorem spec19 (a0 : Int) (a1 : Int) (a2 : Int) (a3 : Int) (a4 : Int) (a5 : Int) (a6 : Int) : ∃ m, t19 m (a0, a1, a2, a3, a4, a5, a6) = some ([.i (w64 (w64 (a1 - w64 (a3 - a4)) - a6))]) := by
  exact ⟨0, rfl⟩
theorem right19 : ER 19 (mkE N19.en N19.ex f19) := right_of KN_none T20.right (fun m => []) (t := t19) (by kernel_rfl) (fun m => all0) (fun m a => by kernel_rfl) fun (a0, a1, a2, a3, a4, a5, a6) hc => spec19 a0 a1 a2 a3 a4 a5 a6
noncomputable def T19 : Tb Try.prog LQ TE := T20.add 19 _ right19
/-- What a note has: its balance. -/
def balD (d : Dat) : Int := d.i 1 - (d.i 3 - d.i 4) - d.i 6
def noteG (d : Dat) : Bool := decide (0 ≤ d.i 1 ∧ d.i 1 ≤ 1099511627776 ∧ 0 ≤ d.i 3 ∧ d.i 4 = 0 ∧ 0 ≤ d.i 6 ∧ d.i 3 + d.i 6 ≤ d.i 1 ∧ 0 ≤ d.i 5 ∧ d.i 5 ≤ 1125899906842624)
def payV (c : Int) (d : Dat) : Int := max (min c (balD d)) 0
def payD (c : Int) (d : Dat) : Dat := .r [.n (d.i 0), .n (d.i 1), .n (d.i 2), .n (d.i 3 + payV c d), .n (d.i 4), .n (d.i 5), .n (d.i 6)]
def writeD (c : Int) (d : Dat) : Dat := .r [.n (d.i 0), .n (d.i 1), .n (d.i 2), .n (d.i 3), .n (d.i 4), .n (d.i 5), .n (d.i 6 + payV c d)]
def backV (c : Int) (d : Dat) : Int := max (min c (d.i 6)) 0
def backD (c : Int) (d : Dat) : Dat := .r [.n (d.i 0), .n (d.i 1), .n (d.i 2), .n (d.i 3), .n (d.i 4), .n (d.i 5), .n (d.i 6 - backV c d)]
def oweD (c : Int) (d : Dat) : Dat := .r [.n (d.i 0), .n (d.i 1), .n (d.i 2), .n (d.i 3), .n (d.i 4), .n (d.i 5 + c), .n (d.i 6)]
/-! (*cascade/note.Note).Pay -/
noncomputable def N14 : RoadF := ⟨T19.tab, 14, ⟨[.np 0 7 0, .int .i64], [.recs [.int .i64, .int .i64, .int .i64, .int .i64, .int .i64, .int .i64, .int .i64]], 0⟩, ⟨[.int .i64], [.recs [.int .i64, .int .i64, .int .i64, .int .i64, .int .i64, .int .i64, .int .i64]], 0⟩, []⟩
noncomputable def t14 (m : Nat) : Int × Int × List Dat → Option (List Un) := fun (a0, a1, a2) =>
  chk (decide (0 ≤ a0)) <|
  chk (decide (a0.toNat < a2.length)) <|
  lt (rowD a2 a0.toNat : Dat) fun d1 =>
  lt ((w64 (w64 ((d1.i 1) - w64 ((d1.i 3) - (d1.i 4))) - (d1.i 6))) : Int) fun x2 =>
  lt ((if x2 < a1 then x2 else a1) : Int) fun x3 =>
  lt ((if x3 < 0 then 0 else x3) : Int) fun x4 =>
  chk (decide (0 ≤ a0)) <|
  chk (decide (a0.toNat < a2.length)) <|
  lt (rowD a2 a0.toNat : Dat) fun d5 =>
  lt ((([(d5.i 3), x4]).getD 0 0) : Int) fun x6 =>
  bif decide (x6 < 0) then
   some ([.i 0, .d a2])
  else
   bif (decide (x6 > 1152921504606846976)) then
    some ([.i 0, .d a2])
   else
    lt ((([(d5.i 3), x4]).getD 1 0) : Int) fun x8 =>
    bif decide (x8 < 0) then
     some ([.i 0, .d a2])
    else
     bif decide (x8 > (w64 (1152921504606846976 - (w64 (0 + x6))))) then
      some ([.i 0, .d a2])
     else
      chk (decide (a0.toNat < a2.length)) <|
      lt (rowD a2 a0.toNat : Dat) fun d11 =>
      some ([.i x4, .d (List.set a2 a0.toNat (.r [.n (d11.i 0), .n (d11.i 1), .n (d11.i 2), .n (w64 ((w64 (0 + x6)) + x8)), .n (d11.i 4), .n (d11.i 5), .n (d11.i 6)]))])
noncomputable def f14 : Int × Int × List Dat → Bool × List Un := fun (a0, a1, a2) => (decide (0 ≤ a0 ∧ a0.toNat < a2.length) && noteG (rowD a2 a0.toNat), [.i (payV a1 (rowD a2 a0.toNat)), .d (a2.set a0.toNat (payD a1 (rowD a2 a0.toNat)))])
theorem spec14 (a0 : Int) (a1 : Int) (a2 : List Dat) (hc : (decide (0 ≤ a0 ∧ a0.toNat < a2.length) && noteG (rowD a2 a0.toNat)) = true) : ∃ m, t14 m (a0, a1, a2) = some ([.i (payV a1 (rowD a2 a0.toNat)), .d (a2.set a0.toNat (payD a1 (rowD a2 a0.toNat)))]) := by
  simp only [Bool.and_eq_true, decide_eq_true_eq, noteG] at hc
  obtain ⟨⟨h1, h2⟩, h⟩ := hc
  refine ⟨0, ?_⟩
  unfold t14
  dsimp only
  simp only [lt_eq]
  generalize rowD a2 a0.toNat = d at *
  have hv : ∀ c, payV c d = max (min c (balD d)) 0 := fun _ => rfl
  simp only [payD, writeD, backD, oweD, backV, hv, balD]
  simp only [List.getD_cons_zero, List.getD_cons_succ, lt_eq, min_if', max_if']
  simp (disch := omega) only [lt_eq, chk_dec, chk_tt, chk_and, chk_inb, chk_fits, chk_make, chkn_dec, cond_dt, cond_df, cond_bt, cond_bf, cond_nt, cond_nf, cond_not, cond_and, cond_or, cond_tt, cond_ff, wrap_id, min_if', max_if', Int.zero_add]
theorem right14 : ER 14 (mkE N14.en N14.ex f14) := right_of KN_none T19.right (fun m => []) (t := t14) (by kernel_rfl) (fun m => all0) (fun m a => by kernel_rfl) fun (a0, a1, a2) hc => spec14 a0 a1 a2 hc
noncomputable def T14 : Tb Try.prog LQ TE := T19.add 14 _ right14
/-! (*cascade/note.Note).Write -/
noncomputable def N16 : RoadF := ⟨T14.tab, 16, ⟨[.np 0 7 0, .int .i64], [.recs [.int .i64, .int .i64, .int .i64, .int .i64, .int .i64, .int .i64, .int .i64]], 0⟩, ⟨[.int .i64], [.recs [.int .i64, .int .i64, .int .i64, .int .i64, .int .i64, .int .i64, .int .i64]], 0⟩, []⟩
noncomputable def t16 (m : Nat) : Int × Int × List Dat → Option (List Un) := fun (a0, a1, a2) =>
  chk (decide (0 ≤ a0)) <|
  chk (decide (a0.toNat < a2.length)) <|
  lt (rowD a2 a0.toNat : Dat) fun d1 =>
  lt ((w64 (w64 ((d1.i 1) - w64 ((d1.i 3) - (d1.i 4))) - (d1.i 6))) : Int) fun x2 =>
  lt ((if x2 < a1 then x2 else a1) : Int) fun x3 =>
  lt ((if x3 < 0 then 0 else x3) : Int) fun x4 =>
  chk (decide (0 ≤ a0)) <|
  chk (decide (a0.toNat < a2.length)) <|
  chk (decide (0 ≤ a0)) <|
  chk (decide (a0.toNat < a2.length)) <|
  lt (rowD a2 a0.toNat : Dat) fun d6 =>
  some ([.i x4, .d (List.set a2 a0.toNat (.r [.n (d6.i 0), .n (d6.i 1), .n (d6.i 2), .n (d6.i 3), .n (d6.i 4), .n (d6.i 5), .n (w64 (((rowD a2 a0.toNat).i 6) + x4))]))])
noncomputable def f16 : Int × Int × List Dat → Bool × List Un := fun (a0, a1, a2) => (decide (0 ≤ a0 ∧ a0.toNat < a2.length) && noteG (rowD a2 a0.toNat), [.i (payV a1 (rowD a2 a0.toNat)), .d (a2.set a0.toNat (writeD a1 (rowD a2 a0.toNat)))])
theorem spec16 (a0 : Int) (a1 : Int) (a2 : List Dat) (hc : (decide (0 ≤ a0 ∧ a0.toNat < a2.length) && noteG (rowD a2 a0.toNat)) = true) : ∃ m, t16 m (a0, a1, a2) = some ([.i (payV a1 (rowD a2 a0.toNat)), .d (a2.set a0.toNat (writeD a1 (rowD a2 a0.toNat)))]) := by
  simp only [Bool.and_eq_true, decide_eq_true_eq, noteG] at hc
  obtain ⟨⟨h1, h2⟩, h⟩ := hc
  refine ⟨0, ?_⟩
  unfold t16
  dsimp only
  simp only [lt_eq]
  generalize rowD a2 a0.toNat = d at *
  have hv : ∀ c, payV c d = max (min c (balD d)) 0 := fun _ => rfl
  simp only [payD, writeD, backD, oweD, backV, hv, balD]
  simp only [List.getD_cons_zero, List.getD_cons_succ, lt_eq, min_if', max_if']
  simp (disch := omega) only [lt_eq, chk_dec, chk_tt, chk_and, chk_inb, chk_fits, chk_make, chkn_dec, cond_dt, cond_df, cond_bt, cond_bf, cond_nt, cond_nf, cond_not, cond_and, cond_or, cond_tt, cond_ff, wrap_id, min_if', max_if', Int.zero_add]
theorem right16 : ER 16 (mkE N16.en N16.ex f16) := right_of KN_none T14.right (fun m => []) (t := t16) (by kernel_rfl) (fun m => all0) (fun m a => by kernel_rfl) fun (a0, a1, a2) hc => spec16 a0 a1 a2 hc
noncomputable def T16 : Tb Try.prog LQ TE := T14.add 16 _ right16
/-! (*cascade/note.Note).Restore -/
noncomputable def N17 : RoadF := ⟨T16.tab, 17, ⟨[.np 0 7 0, .int .i64], [.recs [.int .i64, .int .i64, .int .i64, .int .i64, .int .i64, .int .i64, .int .i64]], 0⟩, ⟨[.int .i64], [.recs [.int .i64, .int .i64, .int .i64, .int .i64, .int .i64, .int .i64, .int .i64]], 0⟩, []⟩
noncomputable def t17 (m : Nat) : Int × Int × List Dat → Option (List Un) := fun (a0, a1, a2) =>
  chk (decide (0 ≤ a0)) <|
  chk (decide (a0.toNat < a2.length)) <|
  lt (rowD a2 a0.toNat : Dat) fun d1 =>
  lt ((if (d1.i 6) < a1 then (d1.i 6) else a1) : Int) fun x2 =>
  lt ((if x2 < 0 then 0 else x2) : Int) fun x3 =>
  chk (decide (0 ≤ a0)) <|
  chk (decide (a0.toNat < a2.length)) <|
  chk (decide (0 ≤ a0)) <|
  chk (decide (a0.toNat < a2.length)) <|
  lt (rowD a2 a0.toNat : Dat) fun d5 =>
  some ([.i x3, .d (List.set a2 a0.toNat (.r [.n (d5.i 0), .n (d5.i 1), .n (d5.i 2), .n (d5.i 3), .n (d5.i 4), .n (d5.i 5), .n (w64 (((rowD a2 a0.toNat).i 6) - x3))]))])
noncomputable def f17 : Int × Int × List Dat → Bool × List Un := fun (a0, a1, a2) => (decide (0 ≤ a0 ∧ a0.toNat < a2.length) && noteG (rowD a2 a0.toNat), [.i (backV a1 (rowD a2 a0.toNat)), .d (a2.set a0.toNat (backD a1 (rowD a2 a0.toNat)))])
theorem spec17 (a0 : Int) (a1 : Int) (a2 : List Dat) (hc : (decide (0 ≤ a0 ∧ a0.toNat < a2.length) && noteG (rowD a2 a0.toNat)) = true) : ∃ m, t17 m (a0, a1, a2) = some ([.i (backV a1 (rowD a2 a0.toNat)), .d (a2.set a0.toNat (backD a1 (rowD a2 a0.toNat)))]) := by
  simp only [Bool.and_eq_true, decide_eq_true_eq, noteG] at hc
  obtain ⟨⟨h1, h2⟩, h⟩ := hc
  refine ⟨0, ?_⟩
  unfold t17
  dsimp only
  simp only [lt_eq]
  generalize rowD a2 a0.toNat = d at *
  have hv : ∀ c, payV c d = max (min c (balD d)) 0 := fun _ => rfl
  simp only [payD, writeD, backD, oweD, backV, hv, balD]
  simp only [List.getD_cons_zero, List.getD_cons_succ, lt_eq, min_if', max_if']
  simp (disch := omega) only [lt_eq, chk_dec, chk_tt, chk_and, chk_inb, chk_fits, chk_make, chkn_dec, cond_dt, cond_df, cond_bt, cond_bf, cond_nt, cond_nf, cond_not, cond_and, cond_or, cond_tt, cond_ff, wrap_id, min_if', max_if', Int.zero_add]
theorem right17 : ER 17 (mkE N17.en N17.ex f17) := right_of KN_none T16.right (fun m => []) (t := t17) (by kernel_rfl) (fun m => all0) (fun m a => by kernel_rfl) fun (a0, a1, a2) hc => spec17 a0 a1 a2 hc
noncomputable def T17 : Tb Try.prog LQ TE := T16.add 17 _ right17
/-! (*cascade/note.Note).Owe -/
noncomputable def N18 : RoadF := ⟨T17.tab, 18, ⟨[.np 0 7 0, .int .i64], [.recs [.int .i64, .int .i64, .int .i64, .int .i64, .int .i64, .int .i64, .int .i64]], 0⟩, ⟨[.bool], [.recs [.int .i64, .int .i64, .int .i64, .int .i64, .int .i64, .int .i64, .int .i64]], 0⟩, []⟩
noncomputable def t18 (m : Nat) : Int × Int × List Dat → Option (List Un) := fun (a0, a1, a2) =>
  chk (decide (0 ≤ a0)) <|
  chk (decide (a0.toNat < a2.length)) <|
  lt (rowD a2 a0.toNat : Dat) fun d1 =>
  lt ((([(d1.i 5), a1]).getD 0 0) : Int) fun x2 =>
  bif decide (x2 < 0) then
   some ([.b false, .d a2])
  else
   bif (decide (x2 > 1152921504606846976)) then
    some ([.b false, .d a2])
   else
    lt ((([(d1.i 5), a1]).getD 1 0) : Int) fun x4 =>
    bif decide (x4 < 0) then
     some ([.b false, .d a2])
    else
     bif decide (x4 > (w64 (1152921504606846976 - (w64 (0 + x2))))) then
      some ([.b false, .d a2])
     else
      chk (decide (0 ≤ a0)) <|
      chk (decide (a0.toNat < a2.length)) <|
      lt (rowD a2 a0.toNat : Dat) fun d7 =>
      some ([.b true, .d (List.set a2 a0.toNat (.r [.n (d7.i 0), .n (d7.i 1), .n (d7.i 2), .n (d7.i 3), .n (d7.i 4), .n (w64 ((w64 (0 + x2)) + x4)), .n (d7.i 6)]))])
noncomputable def f18 : Int × Int × List Dat → Bool × List Un := fun (a0, a1, a2) => (decide (0 ≤ a1 ∧ a1 ≤ 1125899906842624) && (decide (0 ≤ a0 ∧ a0.toNat < a2.length) && noteG (rowD a2 a0.toNat)), [.b (true), .d (a2.set a0.toNat (oweD a1 (rowD a2 a0.toNat)))])
theorem spec18 (a0 : Int) (a1 : Int) (a2 : List Dat) (hc : (decide (0 ≤ a1 ∧ a1 ≤ 1125899906842624) && (decide (0 ≤ a0 ∧ a0.toNat < a2.length) && noteG (rowD a2 a0.toNat))) = true) : ∃ m, t18 m (a0, a1, a2) = some ([.b (true), .d (a2.set a0.toNat (oweD a1 (rowD a2 a0.toNat)))]) := by
  simp only [Bool.and_eq_true, decide_eq_true_eq, noteG] at hc
  obtain ⟨h0, ⟨h1, h2⟩, h⟩ := hc
  refine ⟨0, ?_⟩
  unfold t18
  dsimp only
  simp only [lt_eq]
  generalize rowD a2 a0.toNat = d at *
  have hv : ∀ c, payV c d = max (min c (balD d)) 0 := fun _ => rfl
  simp only [payD, writeD, backD, oweD, backV, hv, balD]
  simp only [List.getD_cons_zero, List.getD_cons_succ, lt_eq, min_if', max_if']
  simp (disch := omega) only [lt_eq, chk_dec, chk_tt, chk_and, chk_inb, chk_fits, chk_make, chkn_dec, cond_dt, cond_df, cond_bt, cond_bf, cond_nt, cond_nf, cond_not, cond_and, cond_or, cond_tt, cond_ff, wrap_id, min_if', max_if', Int.zero_add]
theorem right18 : ER 18 (mkE N18.en N18.ex f18) := right_of KN_none T17.right (fun m => []) (t := t18) (by kernel_rfl) (fun m => all0) (fun m a => by kernel_rfl) fun (a0, a1, a2) hc => spec18 a0 a1 a2 hc
noncomputable def T18 : Tb Try.prog LQ TE := T17.add 18 _ right18
def sumF (f : Dat → Int) : List Dat → Int
  | [] => 0
  | d :: l => f d + sumF f l
theorem noteG_at {d : Dat} (h : noteG d = true) : 0 ≤ d.i 1 ∧ d.i 1 ≤ 1099511627776 ∧ 0 ≤ d.i 3 ∧ d.i 4 = 0 ∧ 0 ≤ d.i 6 ∧ d.i 3 + d.i 6 ≤ d.i 1 ∧ 0 ≤ d.i 5 ∧ d.i 5 ≤ 1125899906842624 := of_decide_eq_true h
/-! cascade/note.Total -/
noncomputable def N40 : RoadF := ⟨T18.tab, 40, ⟨[.recs [.int .i64, .int .i64, .int .i64, .int .i64, .int .i64, .int .i64, .int .i64]], [], 0⟩, ⟨[.int .i64, .int .i64, .int .i64], [], 0⟩, []⟩
abbrev A40_0 : Type := Int × Int × Int × List Dat × Int × Int
noncomputable def L40_0s (m : Nat) (k : A40_0 → Option (List Un)) : A40_0 → Option (List Un) := fun (a0, a1, a2, a3, a4, a5) =>
  bif decide (a5 < a4) then
   chk (inb a5 a3.length) <|
   chk (decide (a5.toNat < a3.length)) <|
   lt (rowD a3 a5.toNat : Dat) fun d1 =>
   k ((w64 (a0 + (w64 (w64 ((d1.i 1) - w64 ((d1.i 3) - (d1.i 4))) - (d1.i 6))))), (w64 (a1 + (d1.i 5))), (w64 (a2 + (d1.i 6))), a3, a4, (w64 (a5 + 1)))
  else
   some ([.i a0, .i a1, .i a2])
noncomputable def L40_0 (m : Nat) : Nat → A40_0 → Option (List Un) := iterA (L40_0s m)
theorem L40_0_succ (m : Nat) (n : Nat) : L40_0 m (n + 1) = L40_0s m (L40_0 m n) := rfl
noncomputable def S40_0 (F : A40_0 → Option (List Un)) : StopS := ⟨[.lp [0, 1, 0, 1], .blk 0, .code [1, 1]], ⟨frm 29 [(2, .int .i64), (3, .int .i64), (4, .int .i64), (7, .recs [.int .i64, .int .i64, .int .i64, .int .i64, .int .i64, .int .i64, .int .i64]), (8, .int .i64), (9, .int .i64)], [], 0⟩, onU F⟩
theorem H40_0 (m : Nat) : ∀ n, HO N40 (S40_0 (L40_0 m n)) := loop_holds KN_none T18.right (fun k => [S40_0 k]) (fun k h => (all1 h all0)) fun k a => by kernel_rfl
noncomputable def t40 (m : Nat) : List Dat → Option (List Un) := fun a0 =>
  L40_0 m m (0, 0, 0, a0, (a0.length : Int), 0)
theorem noteTotL (m : Nat) : ∀ (rest pre : List Dat) (n : Nat) (b s t : Int), rest.length < n → (pre ++ rest).length ≤ 1000 → (∀ d ∈ rest, noteG d = true) → 0 ≤ b → b ≤ 1099511627776 * pre.length → 0 ≤ s → s ≤ 1125899906842624 * pre.length → 0 ≤ t → t ≤ 1099511627776 * pre.length →
    L40_0 m n (b, s, t, pre ++ rest, ((pre ++ rest).length : Int), (pre.length : Int)) = some [.i (b + sumF balD rest), .i (s + sumI 5 rest), .i (t + sumI 6 rest)] := by
  intro rest
  induction rest with
  | nil =>
    intro pre n b s t hn hl hg b0 b1 s0 s1 t0 t1
    obtain ⟨n, rfl⟩ := one_more n (by simp at hn; omega)
    rw [L40_0_succ]; unfold L40_0s; dsimp only
    simp [cond_df, sumF, sumI]
  | cons x rest ih =>
    intro pre n b s t hn hl hg b0 b1 s0 s1 t0 t1
    obtain ⟨n, rfl⟩ := one_more n (by simp at hn; omega)
    simp only [List.length_cons, List.length_append] at hn hl
    have hx := noteG_at (hg x (by simp))
    rw [L40_0_succ]; unfold L40_0s; dsimp only
    have := ih (pre ++ [x]) n (b + balD x) (s + x.i 5) (t + x.i 6) (by omega) (by simp; omega) (fun d hd => hg d (by simp [hd])) (by unfold balD; omega) (by simp [balD]; omega) (by omega) (by simp; omega) (by omega) (by simp; omega)
    simp only [sumF, sumI, balD] at this ⊢
    simp (disch := omega) only [lt_eq, chk_dec, chk_tt, chk_and, chk_inb, chk_fits, chk_make, chkn_dec, cond_dt, cond_df, cond_bt, cond_bf, cond_nt, cond_nf, cond_not, cond_and, cond_or, cond_tt, cond_ff, wrap_id, min_if', max_if', List.length_append, List.length_cons, List.length_nil, List.length_replicate, List.length_set, List.length_map, List.length_range, Int.natCast_add, Int.cast_ofNat_Int, Int.toNat_natCast, Int.add_assoc, Nat.zero_add, Int.zero_add, List.append_assoc, List.cons_append, List.nil_append, rowD_mid]
    simp only [List.length_append, List.length_cons, List.length_nil, List.length_replicate, List.length_set, List.length_map, List.length_range, Int.natCast_add, Int.cast_ofNat_Int, Int.toNat_natCast, Int.add_assoc, Nat.zero_add, Int.zero_add, List.append_assoc, List.cons_append, List.nil_append] at this ⊢
    exact this
noncomputable def f40 : List Dat → Bool × List Un := fun a0 => (decide (a0.length ≤ 1000) && a0.all noteG, [.i (sumF balD a0), .i (sumI 5 a0), .i (sumI 6 a0)])
theorem spec40 (a0 : List Dat) (hc : (decide (a0.length ≤ 1000) && a0.all noteG) = true) : ∃ m, t40 m a0 = some ([.i (sumF balD a0), .i (sumI 5 a0), .i (sumI 6 a0)]) := by
  simp only [Bool.and_eq_true, decide_eq_true_eq, List.all_eq_true] at hc
  refine ⟨a0.length + 1, ?_⟩
  exact (noteTotL (a0.length + 1) a0 [] (a0.length + 1) 0 0 0 (by omega) (by simpa using hc.1) hc.2 (by omega) (by simp) (by omega) (by simp) (by omega) (by simp)).trans (by simp only [Int.zero_add])
theorem right40 : ER 40 (mkE N40.en N40.ex f40) := right_of KN_none T18.right (fun m => [S40_0 (L40_0 m m)]) (t := t40) (by kernel_rfl) (fun m => (all1 (H40_0 m m) all0)) (fun m a => by kernel_rfl) fun a0 hc => spec40 a0 hc
noncomputable def T40 : Tb Try.prog LQ TE := T18.add 40 _ right40
def unD (d : Dat) : Int := d.i 1 - (d.i 3 - d.i 4)
/-! (*cascade/trust.Trust).Total -/
noncomputable def N10 : RoadF := ⟨T40.tab, 10, ⟨[.np 0 0 0], [.cells [.int .i64, .int .i64, .int .i64, .buf 1 2, .buf 2 3, .int .i64, .int .i64, .int .i64, .int .i64, .int .i64, .int .i64, .int .i64, .int .i64, .int .i64, .int .i64, .buf 3 2, .buf 4 2, .buf 5 2, .ptr 6 0 0, .buf 8 7, .int .i64, .int .i64, .int .i64, .int .i64, .int .i64, .int .i64, .int .i64, .int .i64, .int .i64, .bool], .recs [.int .i64, .int .i64], .recs [.int .i64, .int .i64, .int .i64], .recs [.int .i64, .int .i64], .recs [.int .i64, .int .i64], .recs [.int .i64, .int .i64], .cells [.buf 7 5], .recs [.int .i64, .int .i64, .int .i64, .int .i64, .bool], .recs [.int .i64, .int .i64, .int .i64, .int .i64, .int .i64, .int .i64, .int .i64]], 0⟩, ⟨[.int .i64, .int .i64, .int .i64, .int .i64], [.cells [.int .i64, .int .i64, .int .i64, .buf 1 2, .buf 2 3, .int .i64, .int .i64, .int .i64, .int .i64, .int .i64, .int .i64, .int .i64, .int .i64, .int .i64, .int .i64, .buf 3 2, .buf 4 2, .buf 5 2, .ptr 6 0 0, .buf 8 7, .int .i64, .int .i64, .int .i64, .int .i64, .int .i64, .int .i64, .int .i64, .int .i64, .int .i64, .bool], .recs [.int .i64, .int .i64], .recs [.int .i64, .int .i64, .int .i64], .recs [.int .i64, .int .i64], .recs [.int .i64, .int .i64], .recs [.int .i64, .int .i64], .cells [.buf 7 5], .recs [.int .i64, .int .i64, .int .i64, .int .i64, .bool], .recs [.int .i64, .int .i64, .int .i64, .int .i64, .int .i64, .int .i64, .int .i64]], 0⟩, []⟩
abbrev A10_0 : Type := Int × Int × Int × Int × Int × Int × DealA × DealB × TrustN × List Dat × List Dat × List Dat × List Dat × List Dat × List Dat × List Dat
noncomputable def L10_0s (m : Nat) (k : A10_0 → Option (List Un)) : A10_0 → Option (List Un) := fun (a0, a1, a2, a3, a4, a5, a6, a7, a8, a9, a10, a11, a12, a13, a14, a15) =>
  bif decide (a5 < a4) then
   chk (inb a5 a15.length) <|
   chk (decide (a5.toNat < a15.length)) <|
   lt (rowD a15 a5.toNat : Dat) fun d1 =>
   k (a0, a1, a2, (w64 (a3 + (w64 ((d1.i 1) - (w64 ((d1.i 3) - (d1.i 4))))))), a4, (w64 (a5 + 1)), a6, a7, a8, a9, a10, a11, a12, a13, a14, a15)
  else
   some ([.i a0, .i a1, .i a2, .i a3] ++ Uns.enc (a6 : DealA) ++ Uns.enc (a7 : DealB) ++ Uns.enc (a8 : TrustN) ++ [.d a9, .d a10, .d a11, .d a12, .d a13, .d a14, .d a15])
noncomputable def L10_0 (m : Nat) : Nat → A10_0 → Option (List Un) := iterA (L10_0s m)
theorem L10_0_succ (m : Nat) (n : Nat) : L10_0 m (n + 1) = L10_0s m (L10_0 m n) := rfl
noncomputable def S10_0 (F : A10_0 → Option (List Un)) : StopS := ⟨[.lp [0, 1, 0, 1, 1], .blk 0, .code [1, 1, 1]], ⟨frm 40 [(2, .int .i64), (3, .int .i64), (4, .int .i64), (5, .int .i64), (20, .buf 8 7), (21, .int .i64), (22, .int .i64)], [.cells [.int .i64, .int .i64, .int .i64, .buf 1 2, .buf 2 3, .int .i64, .int .i64, .int .i64, .int .i64, .int .i64, .int .i64, .int .i64, .int .i64, .int .i64, .int .i64, .buf 3 2, .buf 4 2, .buf 5 2, .ptr 6 0 0, .buf 8 7, .int .i64, .int .i64, .int .i64, .int .i64, .int .i64, .int .i64, .int .i64, .int .i64, .int .i64, .bool], .recs [.int .i64, .int .i64], .recs [.int .i64, .int .i64, .int .i64], .recs [.int .i64, .int .i64], .recs [.int .i64, .int .i64], .recs [.int .i64, .int .i64], .cells [.buf 7 5], .recs [.int .i64, .int .i64, .int .i64, .int .i64, .bool], .recs [.int .i64, .int .i64, .int .i64, .int .i64, .int .i64, .int .i64, .int .i64]], 0⟩, onU F⟩
theorem H10_0 (m : Nat) : ∀ n, HO N10 (S10_0 (L10_0 m n)) := loop_holds KN_none T40.right (fun k => [S10_0 k]) (fun k h => (all1 h all0)) fun k a => by kernel_rfl
noncomputable def t10 (m : Nat) : Int × DealA × DealB × TrustN × List Dat × List Dat × List Dat × List Dat × List Dat × List Dat × List Dat → Option (List Un) := fun (a0, a1, a2, a3, a4, a5, a6, a7, a8, a9, a10) =>
  chk (decide (0 ≤ a0)) <|
  chk (decide (a10.length ≤ 1000) && a10.all noteG) <|
  chk (decide (0 ≤ a0)) <|
  L10_0 m m ((sumF balD a10), (sumI 5 a10), (sumI 6 a10), 0, (a10.length : Int), 0, a1, a2, a3, a4, a5, a6, a7, a8, a9, a10)
theorem trustTotL (m : Nat) (b s t : Int) (xa : DealA) (xb : DealB) (xn : TrustN) (x1 x2 x3 x4 x5 x6 : List Dat) : ∀ (rest pre : List Dat) (n : Nat) (u : Int), rest.length < n → (pre ++ rest).length ≤ 1000 → (∀ d ∈ rest, noteG d = true) → 0 ≤ u → u ≤ 1099511627776 * pre.length →
    L10_0 m n (b, s, t, u, ((pre ++ rest).length : Int), (pre.length : Int), xa, xb, xn, x1, x2, x3, x4, x5, x6, pre ++ rest) = some ([.i b, .i s, .i t, .i (u + sumF unD rest)] ++ Uns.enc xa ++ Uns.enc xb ++ Uns.enc xn ++ [.d x1, .d x2, .d x3, .d x4, .d x5, .d x6, .d (pre ++ rest)]) := by
  intro rest
  induction rest with
  | nil =>
    intro pre n u hn hl hg u0 u1
    obtain ⟨n, rfl⟩ := one_more n (by simp at hn; omega)
    rw [L10_0_succ]; unfold L10_0s; dsimp only
    simp [cond_df, sumF]
  | cons x rest ih =>
    intro pre n u hn hl hg u0 u1
    obtain ⟨n, rfl⟩ := one_more n (by simp at hn; omega)
    simp only [List.length_cons, List.length_append] at hn hl
    have hx := noteG_at (hg x (by simp))
    rw [L10_0_succ]; unfold L10_0s; dsimp only
    have := ih (pre ++ [x]) n (u + unD x) (by omega) (by simp; omega) (fun d hd => hg d (by simp [hd])) (by unfold unD; omega) (by simp [unD]; omega)
    simp only [sumF, unD] at this ⊢
    simp (disch := omega) only [lt_eq, chk_dec, chk_tt, chk_and, chk_inb, chk_fits, chk_make, chkn_dec, cond_dt, cond_df, cond_bt, cond_bf, cond_nt, cond_nf, cond_not, cond_and, cond_or, cond_tt, cond_ff, wrap_id, min_if', max_if', List.length_append, List.length_cons, List.length_nil, List.length_replicate, List.length_set, List.length_map, List.length_range, Int.natCast_add, Int.cast_ofNat_Int, Int.toNat_natCast, Int.add_assoc, Nat.zero_add, Int.zero_add, List.append_assoc, List.cons_append, List.nil_append, rowD_mid]
    simp only [List.length_append, List.length_cons, List.length_nil, List.length_replicate, List.length_set, List.length_map, List.length_range, Int.natCast_add, Int.cast_ofNat_Int, Int.toNat_natCast, Int.add_assoc, Nat.zero_add, Int.zero_add, List.append_assoc, List.cons_append, List.nil_append] at this ⊢
    exact this
noncomputable def f10 : Int × DealA × DealB × TrustN × List Dat × List Dat × List Dat × List Dat × List Dat × List Dat × List Dat → Bool × List Un := fun (a0, a1, a2, a3, a4, a5, a6, a7, a8, a9, a10) => (decide (0 ≤ a0) && (decide (a10.length ≤ 1000) && a10.all noteG), [.i (sumF balD a10), .i (sumI 5 a10), .i (sumI 6 a10), .i (sumF unD a10)] ++ Uns.enc ((a1) : DealA) ++ Uns.enc ((a2) : DealB) ++ Uns.enc ((a3) : TrustN) ++ [.d (a4), .d (a5), .d (a6), .d (a7), .d (a8), .d (a9), .d (a10)])
theorem spec10 (a0 : Int) (a1 : DealA) (a2 : DealB) (a3 : TrustN) (a4 : List Dat) (a5 : List Dat) (a6 : List Dat) (a7 : List Dat) (a8 : List Dat) (a9 : List Dat) (a10 : List Dat) (hc : (decide (0 ≤ a0) && (decide (a10.length ≤ 1000) && a10.all noteG)) = true) : ∃ m, t10 m (a0, a1, a2, a3, a4, a5, a6, a7, a8, a9, a10) = some ([.i (sumF balD a10), .i (sumI 5 a10), .i (sumI 6 a10), .i (sumF unD a10)] ++ Uns.enc ((a1) : DealA) ++ Uns.enc ((a2) : DealB) ++ Uns.enc ((a3) : TrustN) ++ [.d (a4), .d (a5), .d (a6), .d (a7), .d (a8), .d (a9), .d (a10)]) := by
  have hc' := hc
  simp only [Bool.and_eq_true, decide_eq_true_eq, List.all_eq_true] at hc'
  refine ⟨a10.length + 1, ?_⟩
  unfold t10
  dsimp only
  rw [(Bool.and_eq_true_iff.1 hc).2, chk_tt]
  simp (disch := omega) only [chk_dec]
  exact (trustTotL (a10.length + 1) _ _ _ _ _ _ _ _ _ _ _ _ a10 [] (a10.length + 1) 0 (by omega) (by simpa using hc'.2.1) hc'.2.2 (by omega) (by simp)).trans (by simp only [Int.zero_add, List.nil_append])
theorem right10 : ER 10 (mkE N10.en N10.ex f10) := right_of KN_none T40.right (fun m => [S10_0 (L10_0 m m)]) (t := t10) (by kernel_rfl) (fun m => (all1 (H10_0 m m) all0)) (fun m a => by kernel_rfl) fun (a0, a1, a2, a3, a4, a5, a6, a7, a8, a9, a10) hc => spec10 a0 a1 a2 a3 a4 a5 a6 a7 a8 a9 a10 hc
noncomputable def T10 : Tb Try.prog LQ TE := T40.add 10 _ right10

end Go.Proofs.Ytoiijpphfckdjaa
