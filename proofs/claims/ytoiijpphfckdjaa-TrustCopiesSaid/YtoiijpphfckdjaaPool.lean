/- A part of the walk. -/
import Derived.Test.YtoiijpphfckdjaaBegins2
namespace Go.Proofs.Ytoiijpphfckdjaa
open Go Go.Proofs.Ytoiijpphfckdjaa.Ev
set_option linter.unusedVariables false
set_option linter.unusedSimpArgs false
set_option linter.unnecessarySimpa false
/-- May a line be? -/
def lineT (p q r s l : Int) : Bool := decide (0 ≤ p) && (decide (p ≤ 1099511627776) && (decide (0 ≤ q) && (decide (q ≤ 1099511627776) && (decide (0 ≤ r) && (decide (r ≤ 1099511627776) && (decide (0 ≤ s) && (decide (s ≤ 1099511627776) && (decide (0 ≤ l) && decide (l ≤ 12)))))))))
theorem cond_lt0 {α : Type} {x : Int} {a b : α} : (bif decide (x < 0) then a else b) = bif decide (0 ≤ x) then b else a := by
  by_cases h : x < 0
  · rw [decide_eq_true h, decide_eq_false (show ¬ 0 ≤ x by omega)]; rfl
  · rw [decide_eq_false h, decide_eq_true (show 0 ≤ x by omega)]; rfl
theorem cond_gt {α : Type} {x y : Int} {a b : α} : (bif decide (x > y) then a else b) = bif decide (x ≤ y) then b else a := by
  by_cases h : x > y
  · rw [decide_eq_true h, decide_eq_false (show ¬ x ≤ y by omega)]; rfl
  · rw [decide_eq_false h, decide_eq_true (show x ≤ y by omega)]; rfl
theorem cond_fb {c y : Bool} : (bif c then some [Un.b y] else some [Un.b false]) = some [.b (c && y)] := by cases c <;> rfl
/-! cascade/tape.right -/
noncomputable def N77 : RoadF := ⟨T29.tab, 77, ⟨[.agg [.int .i64, .int .i64, .int .i64, .int .i64, .int .i64, .int .i64, .bool]], [], 0⟩, ⟨[.bool], [], 0⟩, [[0, 1, 0, 1]]⟩
noncomputable def t77 (m : Nat) : Int × Int × Int × Int × Int × Int × Bool → Option (List Un) := fun (a0, a1, a2, a3, a4, a5, a6) =>
  lt ((([a1, a2, a3, a4]).getD 0 0) : Int) fun x1 =>
  bif decide (x1 < 0) then
   some ([.b false])
  else
   bif (decide (x1 > 1099511627776)) then
    some ([.b false])
   else
    lt ((([a1, a2, a3, a4]).getD 1 0) : Int) fun x3 =>
    bif decide (x3 < 0) then
     some ([.b false])
    else
     bif (decide (x3 > 1099511627776)) then
      some ([.b false])
     else
      lt ((([a1, a2, a3, a4]).getD 2 0) : Int) fun x5 =>
      bif decide (x5 < 0) then
       some ([.b false])
      else
       bif (decide (x5 > 1099511627776)) then
        some ([.b false])
       else
        lt ((([a1, a2, a3, a4]).getD 3 0) : Int) fun x7 =>
        bif decide (x7 < 0) then
         some ([.b false])
        else
         bif (decide (x7 > 1099511627776)) then
          some ([.b false])
         else
          bif decide (a5 ≥ 0) then
           some ([.b (decide (a5 ≤ 12))])
          else
           some ([.b false])
noncomputable def f77 : Int × Int × Int × Int × Int × Int × Bool → Bool × List Un := fun (a0, a1, a2, a3, a4, a5, a6) => (true, [.b (lineT a1 a2 a3 a4 a5)])
theorem spec77 (a0 : Int) (a1 : Int) (a2 : Int) (a3 : Int) (a4 : Int) (a5 : Int) (a6 : Bool) : ∃ m, t77 m (a0, a1, a2, a3, a4, a5, a6) = some ([.b (lineT a1 a2 a3 a4 a5)]) := by
  refine ⟨0, ?_⟩
  unfold t77 lineT
  simp only [lt_eq, List.getD_cons_zero, List.getD_cons_succ, cond_lt0, cond_gt]
  simp only [ge_iff_le, cond_fb]
theorem right77 : ER 77 (mkE N77.en N77.ex f77) := right_of KN_none T29.right (fun m => []) (t := t77) (by kernel_rfl) (fun m => all0) (fun m a => by kernel_rfl) fun (a0, a1, a2, a3, a4, a5, a6) hc => spec77 a0 a1 a2 a3 a4 a5 a6
noncomputable def T77 : Tb Try.prog LQ TE := T29.add 77 _ right77
/-- May a tape be? -/
def tapeS : Int → List Dat → Bool
  | _, [] => true
  | last, d :: l => if d.i 0 ≤ last then false else if lineT (d.i 1) (d.i 2) (d.i 3) (d.i 4) (d.i 5) then tapeS (d.i 0) l else false
def tapeV (l : List Dat) : Bool := decide (l.length ≤ 64) && tapeS 0 l
/-! cascade/tape.Right -/
noncomputable def N62 : RoadF := ⟨T77.tab, 62, ⟨[.recs [.int .i64, .int .i64, .int .i64, .int .i64, .int .i64, .int .i64, .bool]], [], 0⟩, ⟨[.bool], [], 0⟩, []⟩
abbrev A62_0 : Type := Int × List Dat × Int × Int
noncomputable def L62_0s (m : Nat) (k : A62_0 → Option (List Un)) : A62_0 → Option (List Un) := fun (a0, a1, a2, a3) =>
  bif decide (a3 < a2) then
   chk (inb a3 a1.length) <|
   chk (decide (a3.toNat < a1.length)) <|
   lt (rowD a1 a3.toNat : Dat) fun d2 =>
   bif decide ((d2.i 0) ≤ a0) then
    some ([.b false])
   else
    bif !(lineT (d2.i 1) (d2.i 2) (d2.i 3) (d2.i 4) (d2.i 5)) then
     some ([.b false])
    else
     k ((d2.i 0), a1, a2, (w64 (a3 + 1)))
  else
   some ([.b true])
noncomputable def L62_0 (m : Nat) : Nat → A62_0 → Option (List Un) := iterA (L62_0s m)
theorem L62_0_succ (m : Nat) (n : Nat) : L62_0 m (n + 1) = L62_0s m (L62_0 m n) := rfl
noncomputable def S62_0 (F : A62_0 → Option (List Un)) : StopS := ⟨[.lp [0, 1, 0, 1, 1, 1], .blk 0, .code [1, 1, 1, 1]], ⟨frm 27 [(3, .int .i64), (9, .recs [.int .i64, .int .i64, .int .i64, .int .i64, .int .i64, .int .i64, .bool]), (10, .int .i64), (11, .int .i64)], [], 0⟩, onU F⟩
theorem H62_0 (m : Nat) : ∀ n, HO N62 (S62_0 (L62_0 m n)) := loop_holds KN_none T77.right (fun k => [S62_0 k]) (fun k h => (all1 h all0)) fun k a => by kernel_rfl
noncomputable def t62 (m : Nat) : List Dat → Option (List Un) := fun a0 =>
  bif (decide ((a0.length : Int) > 64)) then
   some ([.b false])
  else
   L62_0 m m (0, a0, (a0.length : Int), 0)
theorem tapeL (m : Nat) : ∀ (rest pre : List Dat) (n : Nat) (last : Int), rest.length < n → (pre ++ rest).length ≤ 64 →
    L62_0 m n (last, pre ++ rest, ((pre ++ rest).length : Int), (pre.length : Int)) = some [.b (tapeS last rest)] := by
  intro rest
  induction rest with
  | nil =>
    intro pre n last hn hl
    obtain ⟨n, rfl⟩ := one_more n (by simp at hn; omega)
    rw [L62_0_succ]; unfold L62_0s; dsimp only
    simp [cond_df, tapeS]
  | cons x rest ih =>
    intro pre n last hn hl
    obtain ⟨n, rfl⟩ := one_more n (by simp at hn; omega)
    simp only [List.length_cons, List.length_append] at hn hl
    have := ih (pre ++ [x]) n (x.i 0) (by omega) (by simp; omega)
    rw [L62_0_succ]; unfold L62_0s; dsimp only
    simp only [List.length_append, List.length_cons, List.length_nil, List.length_replicate, List.length_set, List.length_map, List.length_range, Int.natCast_add, Int.cast_ofNat_Int, Int.toNat_natCast, Int.add_assoc, Nat.zero_add, Int.zero_add, List.append_assoc, List.cons_append, List.nil_append] at this ⊢
    unfold tapeS
    by_cases h1 : x.i 0 ≤ last
    · simp (disch := omega) only [lt_eq, chk_dec, chk_tt, chk_and, chk_inb, chk_fits, chk_make, chkn_dec, cond_dt, cond_df, cond_bt, cond_bf, cond_nt, cond_nf, cond_not, cond_and, cond_or, cond_tt, cond_ff, wrap_id, min_if', max_if', List.length_append, List.length_cons, List.length_nil, List.length_replicate, List.length_set, List.length_map, List.length_range, Int.natCast_add, Int.cast_ofNat_Int, Int.toNat_natCast, Int.add_assoc, Nat.zero_add, Int.zero_add, List.append_assoc, List.cons_append, List.nil_append, rowD_mid]
      rw [if_pos h1]
    · rw [if_neg h1]
      by_cases h2 : lineT (x.i 1) (x.i 2) (x.i 3) (x.i 4) (x.i 5) = true
      · rw [if_pos h2]
        simp (disch := omega) only [lt_eq, chk_dec, chk_tt, chk_and, chk_inb, chk_fits, chk_make, chkn_dec, cond_dt, cond_df, cond_bt, cond_bf, cond_nt, cond_nf, cond_not, cond_and, cond_or, cond_tt, cond_ff, wrap_id, min_if', max_if', List.length_append, List.length_cons, List.length_nil, List.length_replicate, List.length_set, List.length_map, List.length_range, Int.natCast_add, Int.cast_ofNat_Int, Int.toNat_natCast, Int.add_assoc, Nat.zero_add, Int.zero_add, List.append_assoc, List.cons_append, List.nil_append, rowD_mid, h2]
        exact this
      · rw [if_neg h2]
        have h2 : lineT (x.i 1) (x.i 2) (x.i 3) (x.i 4) (x.i 5) = false := by simpa using h2
        simp (disch := omega) only [lt_eq, chk_dec, chk_tt, chk_and, chk_inb, chk_fits, chk_make, chkn_dec, cond_dt, cond_df, cond_bt, cond_bf, cond_nt, cond_nf, cond_not, cond_and, cond_or, cond_tt, cond_ff, wrap_id, min_if', max_if', List.length_append, List.length_cons, List.length_nil, List.length_replicate, List.length_set, List.length_map, List.length_range, Int.natCast_add, Int.cast_ofNat_Int, Int.toNat_natCast, Int.add_assoc, Nat.zero_add, Int.zero_add, List.append_assoc, List.cons_append, List.nil_append, rowD_mid, h2]
noncomputable def f62 : List Dat → Bool × List Un := fun a0 => (true, [.b (tapeV a0)])
theorem spec62 (a0 : List Dat) : ∃ m, t62 m a0 = some ([.b (tapeV a0)]) := by
  unfold tapeV
  by_cases h : a0.length ≤ 64
  · refine ⟨a0.length + 1, ?_⟩
    have := tapeL (a0.length + 1) a0 [] (a0.length + 1) 0 (by omega) (by simpa using h)
    unfold t62
    rw [cond_df (by omega), decide_eq_true h, Bool.true_and]
    exact this
  · refine ⟨0, ?_⟩
    unfold t62
    rw [cond_dt (by omega), decide_eq_false h]
    rfl
theorem right62 : ER 62 (mkE N62.en N62.ex f62) := right_of KN_none T77.right (fun m => [S62_0 (L62_0 m m)]) (t := t62) (by kernel_rfl) (fun m => (all1 (H62_0 m m) all0)) (fun m a => by kernel_rfl) fun a0 hc => spec62 a0
noncomputable def T62 : Tb Try.prog LQ TE := T77.add 62 _ right62
/-- May a line be done? -/
def mayV (bal lost : Int) (over : Bool) (pr pp it rc lt : Int) (df : Bool) : Bool :=
  bif over then (pr == 0) && ((pp == 0) && ((it == 0) && ((lt == 0) && (!df && decide (rc ≤ lost)))))
  else bif decide (w64 (w64 (bal - pr) - pp) < 0) then false
  else bif df then (bif decide (rc ≤ w64 (lost + w64 (w64 (bal - pr) - pp))) then true else rc == 0) else rc == 0
theorem cond_some {c x y : Bool} : (bif c then some [Un.b x] else some [Un.b y]) = some [.b (bif c then x else y)] := by cases c <;> rfl
/-! (cascade/pool.Loan).may -/
noncomputable def N64 : RoadF := ⟨T62.tab, 64, ⟨[.agg [.int .i64, .int .i64, .int .i64, .int .i64, .bool], .agg [.int .i64, .int .i64, .int .i64, .int .i64, .int .i64, .int .i64, .bool]], [], 0⟩, ⟨[.bool], [], 0⟩, []⟩
noncomputable def t64 (m : Nat) : Int × Int × Int × Int × Bool × Int × Int × Int × Int × Int × Int × Bool → Option (List Un) := fun (a0, a1, a2, a3, a4, a5, a6, a7, a8, a9, a10, a11) =>
  bif a4 then
   bif a6 == 0 then
    bif a7 == 0 then
     bif a8 == 0 then
      bif a10 == 0 then
       bif !a11 then
        some ([.b (decide (a9 ≤ a2))])
       else
        some ([.b false])
      else
       some ([.b false])
     else
      some ([.b false])
    else
     some ([.b false])
   else
    some ([.b false])
  else
   lt ((w64 ((w64 (a1 - a6)) - a7)) : Int) fun x1 =>
   bif decide (x1 < 0) then
    some ([.b false])
   else
    bif a11 then
     bif (decide (a9 ≤ (w64 (a2 + x1)))) then
      some ([.b true])
     else
      some ([.b (a9 == 0)])
    else
     some ([.b (a9 == 0)])
noncomputable def f64 : Int × Int × Int × Int × Bool × Int × Int × Int × Int × Int × Int × Bool → Bool × List Un := fun (a0, a1, a2, a3, a4, a5, a6, a7, a8, a9, a10, a11) => (true, [.b (mayV a1 a2 a4 a6 a7 a8 a9 a10 a11)])
theorem spec64 (a0 : Int) (a1 : Int) (a2 : Int) (a3 : Int) (a4 : Bool) (a5 : Int) (a6 : Int) (a7 : Int) (a8 : Int) (a9 : Int) (a10 : Int) (a11 : Bool) : ∃ m, t64 m (a0, a1, a2, a3, a4, a5, a6, a7, a8, a9, a10, a11) = some ([.b (mayV a1 a2 a4 a6 a7 a8 a9 a10 a11)]) := by
  refine ⟨0, ?_⟩
  unfold t64 mayV
  simp only [lt_eq, cond_some]
  cases a4 <;> simp only [cond_true, cond_false]
  cases (a6 == 0) <;> cases (a7 == 0) <;> cases (a8 == 0) <;> cases (a10 == 0) <;> cases a11 <;> rfl
theorem right64 : ER 64 (mkE N64.en N64.ex f64) := right_of KN_none T62.right (fun m => []) (t := t64) (by kernel_rfl) (fun m => all0) (fun m a => by kernel_rfl) fun (a0, a1, a2, a3, a4, a5, a6, a7, a8, a9, a10, a11) hc => spec64 a0 a1 a2 a3 a4 a5 a6 a7 a8 a9 a10 a11
noncomputable def T64 : Tb Try.prog LQ TE := T62.add 64 _ right64
/-- A loan behind a line, and what it came to. -/
def dnBal (bal pr pp : Int) (df : Bool) : Int := bif df then 0 else w64 (bal - w64 (pr + pp))
def dnLoss (bal pr pp : Int) (df : Bool) : Int := bif df then w64 (bal - w64 (pr + pp)) else 0
def dnLost (bal lost pr pp rc : Int) (df : Bool) : Int := bif df then w64 (w64 (lost + w64 (bal - w64 (pr + pp))) - rc) else w64 (lost - rc)
def dnLate (bal : Int) (over : Bool) (pr pp lt : Int) (df : Bool) : Int := bif df then 0 else bif over then 0 else bif w64 (bal - w64 (pr + pp)) == 0 then 0 else lt
/-! (cascade/pool.Loan).done -/
noncomputable def N65 : RoadF := ⟨T64.tab, 65, ⟨[.agg [.int .i64, .int .i64, .int .i64, .int .i64, .bool], .agg [.int .i64, .int .i64, .int .i64, .int .i64, .int .i64, .int .i64, .bool]], [], 0⟩, ⟨[.agg [.int .i64, .int .i64, .int .i64, .int .i64, .bool], .agg [.int .i64, .int .i64, .int .i64, .int .i64]], [], 0⟩, []⟩
noncomputable def t65 (m : Nat) : Int × Int × Int × Int × Bool × Int × Int × Int × Int × Int × Int × Bool → Option (List Un) := fun (a0, a1, a2, a3, a4, a5, a6, a7, a8, a9, a10, a11) =>
  lt ((w64 (a1 - (w64 (a6 + a7)))) : Int) fun x1 =>
  bif a11 then
   some ([.i a0, .i 0, .i (w64 ((w64 (a2 + x1)) - a9)), .i 0, .b true, .i (w64 (a6 + a7)), .i a8, .i x1, .i a9])
  else
   bif a4 then
    some ([.i a0, .i x1, .i (w64 (a2 - a9)), .i 0, .b a4, .i (w64 (a6 + a7)), .i a8, .i 0, .i a9])
   else
    bif x1 == 0 then
     some ([.i a0, .i x1, .i (w64 (a2 - a9)), .i 0, .b a4, .i (w64 (a6 + a7)), .i a8, .i 0, .i a9])
    else
     some ([.i a0, .i x1, .i (w64 (a2 - a9)), .i a10, .b a4, .i (w64 (a6 + a7)), .i a8, .i 0, .i a9])
noncomputable def f65 : Int × Int × Int × Int × Bool × Int × Int × Int × Int × Int × Int × Bool → Bool × List Un := fun (a0, a1, a2, a3, a4, a5, a6, a7, a8, a9, a10, a11) => (true, [.i (a0), .i (dnBal a1 a6 a7 a11), .i (dnLost a1 a2 a6 a7 a9 a11), .i (dnLate a1 a4 a6 a7 a10 a11), .b ((a11 || a4)), .i (w64 (a6 + a7)), .i (a8), .i (dnLoss a1 a6 a7 a11), .i (a9)])
theorem spec65 (a0 : Int) (a1 : Int) (a2 : Int) (a3 : Int) (a4 : Bool) (a5 : Int) (a6 : Int) (a7 : Int) (a8 : Int) (a9 : Int) (a10 : Int) (a11 : Bool) : ∃ m, t65 m (a0, a1, a2, a3, a4, a5, a6, a7, a8, a9, a10, a11) = some ([.i (a0), .i (dnBal a1 a6 a7 a11), .i (dnLost a1 a2 a6 a7 a9 a11), .i (dnLate a1 a4 a6 a7 a10 a11), .b ((a11 || a4)), .i (w64 (a6 + a7)), .i (a8), .i (dnLoss a1 a6 a7 a11), .i (a9)]) := by
  refine ⟨0, ?_⟩
  unfold t65 dnBal dnLost dnLate dnLoss
  simp only [lt_eq]
  cases a11 <;> cases a4 <;> simp only [cond_true, cond_false, Bool.or_true, Bool.or_false] <;> first | rfl | (cases (w64 (a1 - w64 (a6 + a7)) == 0) <;> rfl)
theorem right65 : ER 65 (mkE N65.en N65.ex f65) := right_of KN_none T64.right (fun m => []) (t := t65) (by kernel_rfl) (fun m => all0) (fun m a => by kernel_rfl) fun (a0, a1, a2, a3, a4, a5, a6, a7, a8, a9, a10, a11) hc => spec65 a0 a1 a2 a3 a4 a5 a6 a7 a8 a9 a10 a11
noncomputable def T65 : Tb Try.prog LQ TE := T64.add 65 _ right65
/-- Where a loan of a number stands; -1: nowhere. -/
def idxV (id : Int) : Int → List Dat → Int
  | _, [] => -1
  | i, d :: l => if d.i 0 = id then i else idxV id (i + 1) l
/-! slices.IndexFunc[[]cascade/pool.Loan,cascade/pool.Loan] -/
noncomputable def N78 : RoadF := ⟨T65.tab, 78, ⟨[.recs [.int .i64, .int .i64, .int .i64, .int .i64, .bool], .fn 79 [] [.ptr 0 0 0]], [.cells [.int .i64]], 1⟩, ⟨[.int .i64], [.cells [.int .i64]], 1⟩, []⟩
abbrev A78_0 : Type := List Dat × Int × Int × Int
noncomputable def L78_0s (m : Nat) (k : A78_0 → Option (List Un)) : A78_0 → Option (List Un) := fun (a0, a1, a2, a3) =>
  bif decide (a2 < a1) then
   chk (inb a2 a0.length) <|
   chk (decide (a2.toNat < a0.length)) <|
   bif ((rowD a0 a2.toNat).i 0) == a3 then
    some ([.i a2, .i a3])
   else
    k (a0, a1, (w64 (a2 + 1)), a3)
  else
   some ([.i (-1), .i a3])
noncomputable def L78_0 (m : Nat) : Nat → A78_0 → Option (List Un) := iterA (L78_0s m)
theorem L78_0_succ (m : Nat) (n : Nat) : L78_0 m (n + 1) = L78_0s m (L78_0 m n) := rfl
noncomputable def S78_0 (F : A78_0 → Option (List Un)) : StopS := ⟨[.lp [0, 1, 0, 1], .blk 0, .code [1, 1]], ⟨frm 19 [(0, .recs [.int .i64, .int .i64, .int .i64, .int .i64, .bool]), (1, .fn 79 [] [.ptr 0 0 0]), (7, .int .i64), (8, .int .i64)], [.cells [.int .i64]], 1⟩, onU F⟩
theorem H78_0 (m : Nat) : ∀ n, HO N78 (S78_0 (L78_0 m n)) := loop_holds KN_none T65.right (fun k => [S78_0 k]) (fun k h => (all1 h all0)) fun k a => by kernel_rfl
noncomputable def t78 (m : Nat) : List Dat × Int → Option (List Un) := fun (a0, a1) =>
  L78_0 m m (a0, (a0.length : Int), 0, a1)
theorem idxPL (m : Nat) (id : Int) : ∀ (rest pre : List Dat) (n : Nat), rest.length < n → (pre ++ rest).length < 1000000 →
    L78_0 m n (pre ++ rest, ((pre ++ rest).length : Int), (pre.length : Int), id) = some [.i (idxV id pre.length rest), .i id] := by
  intro rest
  induction rest with
  | nil =>
    intro pre n hn hl
    obtain ⟨n, rfl⟩ := one_more n (by simp at hn; omega)
    rw [L78_0_succ]; unfold L78_0s; dsimp only
    simp [cond_df, idxV]
  | cons x rest ih =>
    intro pre n hn hl
    obtain ⟨n, rfl⟩ := one_more n (by simp at hn; omega)
    simp only [List.length_cons, List.length_append] at hn hl
    have := ih (pre ++ [x]) n (by omega) (by simp; omega)
    rw [L78_0_succ]; unfold L78_0s; dsimp only
    simp only [List.length_append, List.length_cons, List.length_nil, List.length_replicate, List.length_set, List.length_map, List.length_range, Int.natCast_add, Int.cast_ofNat_Int, Int.toNat_natCast, Int.add_assoc, Nat.zero_add, Int.zero_add, List.append_assoc, List.cons_append, List.nil_append] at this ⊢
    unfold idxV
    by_cases h1 : x.i 0 = id
    · simp (disch := omega) only [lt_eq, chk_dec, chk_tt, chk_and, chk_inb, chk_fits, chk_make, chkn_dec, cond_dt, cond_df, cond_bt, cond_bf, cond_nt, cond_nf, cond_not, cond_and, cond_or, cond_tt, cond_ff, wrap_id, min_if', max_if', List.length_append, List.length_cons, List.length_nil, List.length_replicate, List.length_set, List.length_map, List.length_range, Int.natCast_add, Int.cast_ofNat_Int, Int.toNat_natCast, Int.add_assoc, Nat.zero_add, Int.zero_add, List.append_assoc, List.cons_append, List.nil_append, rowD_mid]
      rw [if_pos h1]
    · rw [if_neg h1]
      simp (disch := omega) only [lt_eq, chk_dec, chk_tt, chk_and, chk_inb, chk_fits, chk_make, chkn_dec, cond_dt, cond_df, cond_bt, cond_bf, cond_nt, cond_nf, cond_not, cond_and, cond_or, cond_tt, cond_ff, wrap_id, min_if', max_if', List.length_append, List.length_cons, List.length_nil, List.length_replicate, List.length_set, List.length_map, List.length_range, Int.natCast_add, Int.cast_ofNat_Int, Int.toNat_natCast, Int.add_assoc, Nat.zero_add, Int.zero_add, List.append_assoc, List.cons_append, List.nil_append, rowD_mid]
      exact this
noncomputable def f78 : List Dat × Int → Bool × List Un := fun (a0, a1) => (decide (a0.length < 1000000), [.i (idxV a1 0 a0), .i (a1)])
theorem spec78 (a0 : List Dat) (a1 : Int) (hc : (decide (a0.length < 1000000)) = true) : ∃ m, t78 m (a0, a1) = some ([.i (idxV a1 0 a0), .i (a1)]) := by
  have h := of_decide_eq_true hc
  exact ⟨a0.length + 1, idxPL _ a1 a0 [] _ (by omega) (by simpa using h)⟩
theorem right78 : ER 78 (mkE N78.en N78.ex f78) := right_of KN_none T65.right (fun m => [S78_0 (L78_0 m m)]) (t := t78) (by kernel_rfl) (fun m => (all1 (H78_0 m m) all0)) (fun m a => by kernel_rfl) fun (a0, a1) hc => spec78 a0 a1 hc
noncomputable def T78 : Tb Try.prog LQ TE := T65.add 78 _ right78
/-- A loan behind a line. -/
def doneR (x d : Dat) : Dat := .r [.n (x.i 0), .n (dnBal (x.i 1) (d.i 1) (d.i 2) (d.b 6)), .n (dnLost (x.i 1) (x.i 2) (d.i 1) (d.i 2) (d.i 4) (d.b 6)), .n (dnLate (x.i 1) (x.b 4) (d.i 1) (d.i 2) (d.i 5) (d.b 6)), .n (bI (d.b 6 || x.b 4))]
structure AppR where
  p : Int
  q : Int
  l : Int
  r : Int
  e : Int
  pool : List Dat
def mayD (x d : Dat) : Bool := mayV (x.i 1) (x.i 2) (x.b 4) (d.i 1) (d.i 2) (d.i 3) (d.i 4) (d.i 5) (d.b 6)
/-- A pool behind a tape's lines. -/
def applyS : List Dat → Int → Int → Int → Int → List Dat → Option AppR
  | l, p, q, s, r, [] => some ⟨p, q, s, r, 0, l⟩
  | l, p, q, s, r, d :: t => if idxV (d.i 0) 0 l < 0 then none else
    if mayD (rowD l (idxV (d.i 0) 0 l).toNat) d = true then
      applyS (l.set (idxV (d.i 0) 0 l).toNat (doneR (rowD l (idxV (d.i 0) 0 l).toNat) d)) (w64 (p + w64 (d.i 1 + d.i 2))) (w64 (q + d.i 3)) (w64 (s + dnLoss ((rowD l (idxV (d.i 0) 0 l).toNat).i 1) (d.i 1) (d.i 2) (d.b 6))) (w64 (r + d.i 4)) t
    else none
def applyV (lines l : List Dat) : AppR := if tapeV lines = true then (applyS l 0 0 0 0 lines).getD ⟨0, 0, 0, 0, 3, l⟩ else ⟨0, 0, 0, 0, 3, l⟩
theorem idxV_in (id : Int) : ∀ (l : List Dat) (i : Int), idxV id i l = -1 ∨ (i ≤ idxV id i l ∧ idxV id i l < i + l.length)
  | [], i => .inl rfl
  | d :: l, i => by
    unfold idxV
    by_cases h : d.i 0 = id
    · rw [if_pos h]; exact .inr ⟨by omega, by simp; omega⟩
    · rw [if_neg h]
      rcases idxV_in id l (i + 1) with h | ⟨h1, h2⟩
      · exact .inl h
      · refine .inr ⟨by omega, ?_⟩
        simp only [List.length_cons]; omega
theorem applyS_len : ∀ (t l : List Dat) (p q s r : Int) (x : AppR), applyS l p q s r t = some x → x.pool.length = l.length
  | [], l, p, q, s, r, x, h => by simp only [applyS, Option.some.injEq] at h; rw [← h]
  | d :: t, l, p, q, s, r, x, h => by
    unfold applyS at h
    split at h
    · cases h
    · split at h
      · rw [applyS_len t _ _ _ _ _ x h, List.length_set]
      · cases h
theorem applyV_len (t l : List Dat) : (applyV t l).pool.length = l.length := by
  unfold applyV
  split
  · cases h : applyS l 0 0 0 0 t with
    | none => rfl
    | some x => exact applyS_len t l 0 0 0 0 x h
  · rfl
/-! (*cascade/pool.Pool).Apply -/
noncomputable def N33 : RoadF := ⟨T78.tab, 33, ⟨[.ptr 0 0 0, .recs [.int .i64, .int .i64, .int .i64, .int .i64, .int .i64, .int .i64, .bool]], [.cells [.buf 1 5], .recs [.int .i64, .int .i64, .int .i64, .int .i64, .bool]], 0⟩, ⟨[.agg [.int .i64, .int .i64, .int .i64, .int .i64], .int .i64], [.cells [.buf 2 5], .gone, .recs [.int .i64, .int .i64, .int .i64, .int .i64, .bool]], 0⟩, []⟩
abbrev A33_0 : Type := List Dat × Int × Int × Int × Int × Int × Int × Int × Int × Int × Int × List Dat × List Dat
noncomputable def L33_0s (m : Nat) (k : A33_0 → Option (List Un)) : A33_0 → Option (List Un) := fun (a0, a1, a2, a3, a4, a5, a6, a7, a8, a9, a10, a11, a12) =>
  bif decide (a2 < a1) then
   chk (inb a2 a0.length) <|
   chk (decide (a2.toNat < a0.length)) <|
   lt (rowD a0 a2.toNat : Dat) fun d1 =>
   chk (decide (a12.length < 1000000)) <|
   bif (decide ((idxV (d1.i 0) 0 a12) < 0)) then
    some ([.i 0, .i 0, .i 0, .i 0, .i 3, .d a11])
   else
    chk (inb (idxV (d1.i 0) 0 a12) a12.length) <|
    chk (decide ((idxV (d1.i 0) 0 a12).toNat < a12.length)) <|
    lt (rowD a12 ((idxV (d1.i 0) 0 a12).toNat) : Dat) fun d3 =>
    bif !(mayV (d3.i 1) (d3.i 2) (d3.b 4) (d1.i 1) (d1.i 2) (d1.i 3) (d1.i 4) (d1.i 5) (d1.b 6)) then
     some ([.i 0, .i 0, .i 0, .i 0, .i 3, .d a11])
    else
     chk (inb (idxV (d1.i 0) 0 a12) a12.length) <|
     chk (decide ((idxV (d1.i 0) 0 a12).toNat < a12.length)) <|
     lt (rowD a12 ((idxV (d1.i 0) 0 a12).toNat) : Dat) fun d5 =>
     chk (inb (idxV (d1.i 0) 0 a12) a12.length) <|
     chk (decide ((idxV (d1.i 0) 0 a12).toNat < a12.length)) <|
     k (a0, a1, (w64 (a2 + 1)), a3, a4, a5, a6, (w64 (a7 + (w64 ((d1.i 1) + (d1.i 2))))), (w64 (a8 + (d1.i 3))), (w64 (a9 + (dnLoss (d5.i 1) (d1.i 1) (d1.i 2) (d1.b 6)))), (w64 (a10 + (d1.i 4))), a11, (List.set a12 ((idxV (d1.i 0) 0 a12).toNat) (.r [.n (d5.i 0), .n (dnBal (d5.i 1) (d1.i 1) (d1.i 2) (d1.b 6)), .n (dnLost (d5.i 1) (d5.i 2) (d1.i 1) (d1.i 2) (d1.i 4) (d1.b 6)), .n (dnLate (d5.i 1) (d5.b 4) (d1.i 1) (d1.i 2) (d1.i 5) (d1.b 6)), .n (bI ((d1.b 6) || (d5.b 4)))])))
  else
   some ([.i a7, .i a8, .i a9, .i a10, .i 0, .d a12])
noncomputable def L33_0 (m : Nat) : Nat → A33_0 → Option (List Un) := iterA (L33_0s m)
theorem L33_0_succ (m : Nat) (n : Nat) : L33_0 m (n + 1) = L33_0s m (L33_0 m n) := rfl
noncomputable def S33_0 (F : A33_0 → Option (List Un)) : StopS := ⟨[.lp [0, 1, 0, 1, 1, 1, 1], .blk 0, .code [1, 1, 1, 1, 1]], ⟨frm 89 [(0, .ptr 0 0 0), (4, .ptr 2 0 0), (6, .ptr 3 0 0), (7, .ptr 4 0 0), (18, .recs [.int .i64, .int .i64, .int .i64, .int .i64, .int .i64, .int .i64, .bool]), (19, .int .i64), (20, .int .i64)], [.cells [.buf 5 5], .gone, .cells [.int .i64, .int .i64, .int .i64, .int .i64], .cells [.buf 6 5], .cells [.int .i64, .int .i64, .int .i64, .int .i64], .recs [.int .i64, .int .i64, .int .i64, .int .i64, .bool], .recs [.int .i64, .int .i64, .int .i64, .int .i64, .bool]], 0⟩, onU F⟩
theorem H33_0 (m : Nat) : ∀ n, HO N33 (S33_0 (L33_0 m n)) := loop_holds KN_none T78.right (fun k => [S33_0 k]) (fun k h => (all1 h all0)) fun k a => by kernel_rfl
noncomputable def t33 (m : Nat) : List Dat × List Dat → Option (List Un) := fun (a0, a1) =>
  bif !(tapeV a0) then
   some ([.i 0, .i 0, .i 0, .i 0, .i 3, .d a1])
  else
   chk (decide (a1.length < 1000000)) <|
   L33_0 m m (a0, (a0.length : Int), 0, 0, 0, 0, 0, 0, 0, 0, 0, a1, a1)
def appOut (l0 : List Dat) (o : Option AppR) : List Un := match o with | some x => [.i x.p, .i x.q, .i x.l, .i x.r, .i x.e, .d x.pool] | none => [.i 0, .i 0, .i 0, .i 0, .i 3, .d l0]
theorem applyL (m : Nat) (l0 : List Dat) : ∀ (rest pre : List Dat) (n : Nat) (p q s r : Int) (l : List Dat), rest.length < n → (pre ++ rest).length ≤ 64 → l.length < 1000000 →
    L33_0 m n (pre ++ rest, ((pre ++ rest).length : Int), (pre.length : Int), 0, 0, 0, 0, p, q, s, r, l0, l) = some (appOut l0 (applyS l p q s r rest)) := by
  intro rest
  induction rest with
  | nil =>
    intro pre n p q s r l hn hl hll
    obtain ⟨n, rfl⟩ := one_more n (by simp at hn; omega)
    rw [L33_0_succ]; unfold L33_0s; dsimp only
    simp [cond_df, applyS, appOut]
  | cons x rest ih =>
    intro pre n p q s r l hn hl hll
    obtain ⟨n, rfl⟩ := one_more n (by simp at hn; omega)
    simp only [List.length_cons, List.length_append] at hn hl
    rw [L33_0_succ]; unfold L33_0s; dsimp only
    simp (disch := omega) only [lt_eq, chk_dec, chk_tt, chk_and, chk_inb, chk_fits, chk_make, chkn_dec, cond_dt, cond_df, cond_bt, cond_bf, cond_nt, cond_nf, cond_not, cond_and, cond_or, cond_tt, cond_ff, wrap_id, min_if', max_if', List.length_append, List.length_cons, List.length_nil, List.length_replicate, List.length_set, List.length_map, List.length_range, Int.natCast_add, Int.cast_ofNat_Int, Int.toNat_natCast, Int.add_assoc, Nat.zero_add, Int.zero_add, List.append_assoc, List.cons_append, List.nil_append, rowD_mid]
    unfold applyS
    rcases idxV_in (x.i 0) l 0 with h1 | ⟨h1, h2⟩
    · rw [cond_dt (by omega), if_pos (by omega)]
      rfl
    · rw [cond_df (by omega), if_neg (by omega)]
      simp (disch := omega) only [lt_eq, chk_dec, chk_tt, chk_and, chk_inb, chk_fits, chk_make, chkn_dec, cond_dt, cond_df, cond_bt, cond_bf, cond_nt, cond_nf, cond_not, cond_and, cond_or, cond_tt, cond_ff, wrap_id, min_if', max_if', List.length_append, List.length_cons, List.length_nil, List.length_replicate, List.length_set, List.length_map, List.length_range, Int.natCast_add, Int.cast_ofNat_Int, Int.toNat_natCast, Int.add_assoc, Nat.zero_add, Int.zero_add, List.append_assoc, List.cons_append, List.nil_append, rowD_mid]
      by_cases h3 : mayD (rowD l (idxV (x.i 0) 0 l).toNat) x = true
      · rw [if_pos h3]
        have h4 := h3
        unfold mayD at h4
        rw [h4]
        have := ih (pre ++ [x]) n (w64 (p + w64 (x.i 1 + x.i 2))) (w64 (q + x.i 3)) (w64 (s + dnLoss ((rowD l (idxV (x.i 0) 0 l).toNat).i 1) (x.i 1) (x.i 2) (x.b 6))) (w64 (r + x.i 4)) (l.set (idxV (x.i 0) 0 l).toNat (doneR (rowD l (idxV (x.i 0) 0 l).toNat) x)) (by omega) (by simp; omega) (by simpa using hll)
        try simp (disch := omega) only [lt_eq, chk_dec, chk_tt, chk_and, chk_inb, chk_fits, chk_make, chkn_dec, cond_dt, cond_df, cond_bt, cond_bf, cond_nt, cond_nf, cond_not, cond_and, cond_or, cond_tt, cond_ff, wrap_id, min_if', max_if', List.length_append, List.length_cons, List.length_nil, List.length_replicate, List.length_set, List.length_map, List.length_range, Int.natCast_add, Int.cast_ofNat_Int, Int.toNat_natCast, Int.add_assoc, Nat.zero_add, Int.zero_add, List.append_assoc, List.cons_append, List.nil_append, rowD_mid]
        simp only [List.length_append, List.length_cons, List.length_nil, List.length_replicate, List.length_set, List.length_map, List.length_range, Int.natCast_add, Int.cast_ofNat_Int, Int.toNat_natCast, Int.add_assoc, Nat.zero_add, Int.zero_add, List.append_assoc, List.cons_append, List.nil_append] at this ⊢
        exact this
      · rw [if_neg h3]
        have h4 := h3
        unfold mayD at h4
        rw [show mayV _ _ _ _ _ _ _ _ _ = false from Bool.eq_false_iff.2 h4]
        rfl
noncomputable def f33 : List Dat × List Dat → Bool × List Un := fun (a0, a1) => (decide (a1.length < 1000000), [.i ((applyV a0 a1).p), .i ((applyV a0 a1).q), .i ((applyV a0 a1).l), .i ((applyV a0 a1).r), .i ((applyV a0 a1).e), .d ((applyV a0 a1).pool)])
theorem spec33 (a0 : List Dat) (a1 : List Dat) (hc : (decide (a1.length < 1000000)) = true) : ∃ m, t33 m (a0, a1) = some ([.i ((applyV a0 a1).p), .i ((applyV a0 a1).q), .i ((applyV a0 a1).l), .i ((applyV a0 a1).r), .i ((applyV a0 a1).e), .d ((applyV a0 a1).pool)]) := by
  have h := of_decide_eq_true hc
  unfold applyV
  cases ht : tapeV a0 with
  | false =>
    refine ⟨0, ?_⟩
    unfold t33
    dsimp only
    rw [ht]
    rfl
  | true =>
    have hl : a0.length ≤ 64 := by
      simp only [tapeV, Bool.and_eq_true, decide_eq_true_eq] at ht
      exact ht.1
    refine ⟨a0.length + 1, ?_⟩
    have := applyL (a0.length + 1) a1 a0 [] (a0.length + 1) 0 0 0 0 a1 (by omega) (by simpa using hl) h
    unfold t33
    dsimp only
    rw [ht]
    simp only [Bool.not_true, cond_false, if_true]
    rw [chk_dec h]
    refine this.trans ?_
    cases applyS a1 0 0 0 0 a0 <;> rfl
theorem right33 : ER 33 (mkE N33.en N33.ex f33) := right_of KN_none T78.right (fun m => [S33_0 (L33_0 m m)]) (t := t33) (by kernel_rfl) (fun m => (all1 (H33_0 m m) all0)) (fun m a => by kernel_rfl) fun (a0, a1) hc => spec33 a0 a1 hc
noncomputable def T33 : Tb Try.prog LQ TE := T78.add 33 _ right33
/-- A line of a loan that is there still. -/
def ofLive (p q r s t u : List Int) (i : Int) (x : Dat) : Dat :=
  let y := within (pickV p i) 0 (x.i 1 / 4)
  let z := if within (pickV q i) 0 (2 * (x.i 1 - y)) > x.i 1 - y then 0 else within (pickV q i) 0 (2 * (x.i 1 - y))
  let w := within (pickV t i) 0 24
  .r [.n (x.i 0), .n y, .n z, .n (within (pickV r i) 0 (1 + x.i 1 / 50)), .n (if w64 ((BitVec.ofInt 64 (pickV u i) &&& BitVec.ofInt 64 7).toNat) = 7 then within (pickV s i) 0 (x.i 1 - y - z) else 0), .n (if 0 < w - 12 then w - 12 else 0), .n (bI (decide (w64 ((BitVec.ofInt 64 (pickV u i) &&& BitVec.ofInt 64 7).toNat) = 7)))]
def ofGone (s lost : List Int) (i : Int) (x : Dat) : Dat :=
  .r [.n (x.i 0), .n 0, .n 0, .n 0, .n (if i < (lost.length : Int) ∧ 0 < lost.getD i.toNat 0 then within (pickV s i) 0 (lost.getD i.toNat 0) else 0), .n 0, .n (bI false)]
/-- The lines of a tape that may be. -/
def ofL (p q r s t u lost : List Int) : Int → List Dat → List Dat
  | _, [] => []
  | i, x :: l => (if w64 ((BitVec.ofInt 64 (pickV t i) &&& BitVec.ofInt 64 15).toNat) = 15 then [] else if 0 < x.i 1 then [ofLive p q r s t u i x] else [ofGone s lost i x]) ++ ofL p q r s t u lost (i + 1) l
theorem ofL_len (p q r s t u lost : List Int) : ∀ (l : List Dat) (i : Int), (ofL p q r s t u lost i l).length ≤ l.length
  | [], _ => Nat.le_refl _
  | x :: l, i => by
    have := ofL_len p q r s t u lost l (i + 1)
    unfold ofL
    split
    · simp; omega
    · split <;> (simp; omega)
/-! (cascade/cascadekeep.Tape).Of -/
noncomputable def N34 : RoadF := ⟨T33.tab, 34, ⟨[.agg [.ints .i64, .ints .i64, .ints .i64, .ints .i64, .ints .i64, .ints .i64], .recs [.int .i64, .int .i64], .ints .i64], [], 0⟩, ⟨[.buf 0 7], [.recs [.int .i64, .int .i64, .int .i64, .int .i64, .int .i64, .int .i64, .bool]], 0⟩, []⟩
abbrev A34_0 : Type := List Int × List Dat × Int × Int × List Int × List Int × List Int × List Int × List Int × List Int × List Dat
noncomputable def L34_0s (m : Nat) (k : A34_0 → Option (List Un)) : A34_0 → Option (List Un) := fun (a0, a1, a2, a3, a4, a5, a6, a7, a8, a9, a10) =>
  bif decide (a3 < a2) then
   chk (inb a3 a1.length) <|
   chk (decide (a3.toNat < a1.length)) <|
   lt (rowD a1 a3.toNat : Dat) fun d1 =>
   chk (decide (0 ≤ a3)) <|
   bif (w64 ((BitVec.ofInt 64 (pickV a8 a3) &&& BitVec.ofInt 64 15).toNat)) == 15 then
    k (a0, a1, a2, (w64 (a3 + 1)), a4, a5, a6, a7, a8, a9, a10)
   else
    bif decide ((d1.i 1) > 0) then
     chk (decide (0 ≤ a3)) <|
     bif decide (-2305843009213693952 ≤ 0 ∧ 0 ≤ (w64 ((d1.i 1).tdiv 4)) ∧ (w64 ((d1.i 1).tdiv 4)) ≤ 2305843009213693952) then
      lt ((within (pickV a4 a3) 0 (w64 ((d1.i 1).tdiv 4))) : Int) fun x3 =>
      chk (decide (0 ≤ a3)) <|
      lt ((w64 (2 * (w64 ((d1.i 1) - x3)))) : Int) fun x4 =>
      bif decide (-2305843009213693952 ≤ 0 ∧ 0 ≤ x4 ∧ x4 ≤ 2305843009213693952) then
       lt ((within (pickV a5 a3) 0 x4) : Int) fun x5 =>
       bif (decide (x5 > (w64 ((d1.i 1) - x3)))) then
        chk (decide (0 ≤ a3)) <|
        lt ((w64 ((d1.i 1).tdiv 50)) : Int) fun x7 =>
        bif decide (-2305843009213693952 ≤ 0 ∧ 0 ≤ (w64 (1 + x7)) ∧ (w64 (1 + x7)) ≤ 2305843009213693952) then
         lt ((within (pickV a6 a3) 0 (w64 (1 + x7))) : Int) fun x8 =>
         chk (decide (0 ≤ a3)) <|
         lt ((within (pickV a8 a3) 0 24) : Int) fun x9 =>
         lt ((if 0 < (w64 (x9 - 12)) then (w64 (x9 - 12)) else 0) : Int) fun x10 =>
         chk (decide (0 ≤ a3)) <|
         bif (w64 ((BitVec.ofInt 64 (pickV a9 a3) &&& BitVec.ofInt 64 7).toNat)) == 7 then
          chk (decide (0 ≤ a3)) <|
          lt ((w64 ((w64 ((d1.i 1) - x3)) - 0)) : Int) fun x12 =>
          bif decide (-2305843009213693952 ≤ 0 ∧ 0 ≤ x12 ∧ x12 ≤ 2305843009213693952) then
           chk (fits (a10.length + 1) 56) <|
           k (a0, a1, a2, (w64 (a3 + 1)), a4, a5, a6, a7, a8, a9, (a10 ++ ([.r [.n (d1.i 0), .n x3, .n 0, .n x8, .n (within (pickV a7 a3) 0 x12), .n x10, .n (bI true)]])))
          else
           none
         else
          chk (fits (a10.length + 1) 56) <|
          k (a0, a1, a2, (w64 (a3 + 1)), a4, a5, a6, a7, a8, a9, (a10 ++ ([.r [.n (d1.i 0), .n x3, .n 0, .n x8, .n 0, .n x10, .n (bI false)]])))
        else
         none
       else
        chk (decide (0 ≤ a3)) <|
        lt ((w64 ((d1.i 1).tdiv 50)) : Int) fun x16 =>
        bif decide (-2305843009213693952 ≤ 0 ∧ 0 ≤ (w64 (1 + x16)) ∧ (w64 (1 + x16)) ≤ 2305843009213693952) then
         lt ((within (pickV a6 a3) 0 (w64 (1 + x16))) : Int) fun x17 =>
         chk (decide (0 ≤ a3)) <|
         lt ((within (pickV a8 a3) 0 24) : Int) fun x18 =>
         lt ((if 0 < (w64 (x18 - 12)) then (w64 (x18 - 12)) else 0) : Int) fun x19 =>
         chk (decide (0 ≤ a3)) <|
         bif (w64 ((BitVec.ofInt 64 (pickV a9 a3) &&& BitVec.ofInt 64 7).toNat)) == 7 then
          chk (decide (0 ≤ a3)) <|
          lt ((w64 ((w64 ((d1.i 1) - x3)) - x5)) : Int) fun x21 =>
          bif decide (-2305843009213693952 ≤ 0 ∧ 0 ≤ x21 ∧ x21 ≤ 2305843009213693952) then
           chk (fits (a10.length + 1) 56) <|
           k (a0, a1, a2, (w64 (a3 + 1)), a4, a5, a6, a7, a8, a9, (a10 ++ ([.r [.n (d1.i 0), .n x3, .n x5, .n x17, .n (within (pickV a7 a3) 0 x21), .n x19, .n (bI true)]])))
          else
           none
         else
          chk (fits (a10.length + 1) 56) <|
          k (a0, a1, a2, (w64 (a3 + 1)), a4, a5, a6, a7, a8, a9, (a10 ++ ([.r [.n (d1.i 0), .n x3, .n x5, .n x17, .n 0, .n x19, .n (bI false)]])))
        else
         none
      else
       none
     else
      none
    else
     bif (decide (a3 < (a0.length : Int))) then
      chk (inb a3 a0.length) <|
      chk (decide (a3.toNat < a0.length)) <|
      bif (decide ((a0.getD a3.toNat 0) > 0)) then
       chk (decide (0 ≤ a3)) <|
       chk (inb a3 a0.length) <|
       chk (decide (a3.toNat < a0.length)) <|
       bif decide (-2305843009213693952 ≤ 0 ∧ 0 ≤ (a0.getD a3.toNat 0) ∧ (a0.getD a3.toNat 0) ≤ 2305843009213693952) then
        chk (fits (a10.length + 1) 56) <|
        k (a0, a1, a2, (w64 (a3 + 1)), a4, a5, a6, a7, a8, a9, (a10 ++ ([.r [.n (d1.i 0), .n 0, .n 0, .n 0, .n (within (pickV a7 a3) 0 (a0.getD a3.toNat 0)), .n 0, .n (bI false)]])))
       else
        none
      else
       chk (fits (a10.length + 1) 56) <|
       k (a0, a1, a2, (w64 (a3 + 1)), a4, a5, a6, a7, a8, a9, (a10 ++ ([.r [.n (d1.i 0), .n 0, .n 0, .n 0, .n 0, .n 0, .n (bI false)]])))
     else
      chk (fits (a10.length + 1) 56) <|
      k (a0, a1, a2, (w64 (a3 + 1)), a4, a5, a6, a7, a8, a9, (a10 ++ ([.r [.n (d1.i 0), .n 0, .n 0, .n 0, .n 0, .n 0, .n (bI false)]])))
  else
   some ([.d a10])
noncomputable def L34_0 (m : Nat) : Nat → A34_0 → Option (List Un) := iterA (L34_0s m)
theorem L34_0_succ (m : Nat) (n : Nat) : L34_0 m (n + 1) = L34_0s m (L34_0 m n) := rfl
noncomputable def S34_0 (F : A34_0 → Option (List Un)) : StopS := ⟨[.lp [0, 1, 0, 1, 1], .blk 0, .code [1, 1, 1]], ⟨frm 126 [(2, .ints .i64), (3, .ptr 0 0 0), (7, .buf 1 7), (11, .recs [.int .i64, .int .i64]), (12, .int .i64), (13, .int .i64)], [.cells [.ints .i64, .ints .i64, .ints .i64, .ints .i64, .ints .i64, .ints .i64], .recs [.int .i64, .int .i64, .int .i64, .int .i64, .int .i64, .int .i64, .bool]], 0⟩, onU F⟩
theorem H34_0 (m : Nat) : ∀ n, HO N34 (S34_0 (L34_0 m n)) := loop_holds KN_none T33.right (fun k => [S34_0 k]) (fun k h => (all1 h all0)) fun k a => by kernel_rfl
noncomputable def t34 (m : Nat) : List Int × List Int × List Int × List Int × List Int × List Int × List Dat × List Int → Option (List Un) := fun (a0, a1, a2, a3, a4, a5, a6, a7) =>
  L34_0 m m (a7, a6, (a6.length : Int), 0, a0, a1, a2, a3, a4, a5, [])
set_option maxHeartbeats 4000000 in
theorem ofTL (m : Nat) (p q r s t u lost : List Int) (hlost : ∀ y ∈ lost, y ≤ 2305843009213693952) : ∀ (rest pre acc : List Dat) (n : Nat), rest.length < n → (pre ++ rest).length < 1000000 → acc.length ≤ pre.length → (∀ d ∈ rest, d.i 1 ≤ 1152921504606846976) →
    L34_0 m n (lost, pre ++ rest, ((pre ++ rest).length : Int), (pre.length : Int), p, q, r, s, t, u, acc) = some [.d (acc ++ ofL p q r s t u lost pre.length rest)] := by
  intro rest
  induction rest with
  | nil =>
    intro pre acc n hn hl ha hb
    obtain ⟨n, rfl⟩ := one_more n (by simp at hn; omega)
    rw [L34_0_succ]; unfold L34_0s; dsimp only
    simp [cond_df, ofL]
  | cons x rest ih =>
    intro pre acc n hn hl ha hb
    obtain ⟨n, rfl⟩ := one_more n (by simp at hn; omega)
    simp only [List.length_cons, List.length_append] at hn hl
    have hx := hb x (by simp)
    have K : ∀ out : List Dat, out.length ≤ acc.length + 1 → L34_0 m n (lost, pre ++ x :: rest, (pre.length : Int) + ((rest.length : Int) + 1), (pre.length : Int) + 1, p, q, r, s, t, u, out) = some [.d (out ++ ofL p q r s t u lost ((pre.length : Int) + 1) rest)] := by
      intro out ho
      have := ih (pre ++ [x]) out n (by omega) (by simp; omega) (by simp; omega) (fun d hd => hb d (by simp [hd]))
      simp only [List.length_append, List.length_cons, List.length_nil, List.length_replicate, List.length_set, List.length_map, List.length_range, Int.natCast_add, Int.cast_ofNat_Int, Int.toNat_natCast, Int.add_assoc, Nat.zero_add, Int.zero_add, List.append_assoc, List.cons_append, List.nil_append] at this ⊢
      exact this
    rw [L34_0_succ]; unfold L34_0s; dsimp only
    unfold ofL
    generalize hi : (pre.length : Int) = i at K ⊢
    have hi0 : 0 ≤ i ∧ i < 1000000 := by omega
    by_cases h15 : w64 ((BitVec.ofInt 64 (pickV t i) &&& BitVec.ofInt 64 15).toNat) = 15
    · rw [if_pos h15]
      subst hi
      simp (disch := omega) only [lt_eq, chk_dec, chk_tt, chk_and, chk_inb, chk_fits, chk_make, chkn_dec, cond_dt, cond_df, cond_bt, cond_bf, cond_nt, cond_nf, cond_not, cond_and, cond_or, cond_tt, cond_ff, wrap_id, min_if', max_if', List.length_append, List.length_cons, List.length_nil, List.length_replicate, List.length_set, List.length_map, List.length_range, Int.natCast_add, Int.cast_ofNat_Int, Int.toNat_natCast, Int.add_assoc, Nat.zero_add, Int.zero_add, List.append_assoc, List.cons_append, List.nil_append, rowD_mid]
      rw [K _ (by omega)]
    · rw [if_neg h15]
      by_cases hx0 : 0 < x.i 1
      · rw [if_pos hx0]
        have e4 : (x.i 1).tdiv 4 = x.i 1 / 4 := Int.tdiv_eq_ediv_of_nonneg (by omega)
        have e50 : (x.i 1).tdiv 50 = x.i 1 / 50 := Int.tdiv_eq_ediv_of_nonneg (by omega)
        have k1 : 0 ≤ within (pickV p i) 0 (x.i 1 / 4) ∧ within (pickV p i) 0 (x.i 1 / 4) ≤ x.i 1 / 4 := within_le (by omega)
        have k2 : 0 ≤ within (pickV t i) 0 24 ∧ within (pickV t i) 0 24 ≤ 24 := within_le (by omega)
        unfold ofLive
        dsimp only
        subst hi
        have k3 : 0 ≤ within (pickV q (pre.length : Int)) 0 (2 * (x.i 1 - within (pickV p (pre.length : Int)) 0 (x.i 1 / 4))) := (within_le (by omega)).1
        by_cases hq : within (pickV q (pre.length : Int)) 0 (2 * (x.i 1 - within (pickV p (pre.length : Int)) 0 (x.i 1 / 4))) > x.i 1 - within (pickV p (pre.length : Int)) 0 (x.i 1 / 4) <;>
          by_cases h7 : w64 ((BitVec.ofInt 64 (pickV u (pre.length : Int)) &&& BitVec.ofInt 64 7).toNat) = 7
        · rw [if_pos hq, if_pos h7, decide_eq_true h7]
          simp (disch := omega) only [lt_eq, chk_dec, chk_tt, chk_and, chk_inb, chk_fits, chk_make, chkn_dec, cond_dt, cond_df, cond_bt, cond_bf, cond_nt, cond_nf, cond_not, cond_and, cond_or, cond_tt, cond_ff, wrap_id, min_if', max_if', List.length_append, List.length_cons, List.length_nil, List.length_replicate, List.length_set, List.length_map, List.length_range, Int.natCast_add, Int.cast_ofNat_Int, Int.toNat_natCast, Int.add_assoc, Nat.zero_add, Int.zero_add, List.append_assoc, List.cons_append, List.nil_append, rowD_mid, e4, e50]
          rw [K _ (by simp)]
          simp
        · rw [if_pos hq, if_neg h7, decide_eq_false h7]
          simp (disch := omega) only [lt_eq, chk_dec, chk_tt, chk_and, chk_inb, chk_fits, chk_make, chkn_dec, cond_dt, cond_df, cond_bt, cond_bf, cond_nt, cond_nf, cond_not, cond_and, cond_or, cond_tt, cond_ff, wrap_id, min_if', max_if', List.length_append, List.length_cons, List.length_nil, List.length_replicate, List.length_set, List.length_map, List.length_range, Int.natCast_add, Int.cast_ofNat_Int, Int.toNat_natCast, Int.add_assoc, Nat.zero_add, Int.zero_add, List.append_assoc, List.cons_append, List.nil_append, rowD_mid, e4, e50]
          rw [K _ (by simp)]
          simp
        · rw [if_neg hq, if_pos h7, decide_eq_true h7]
          simp (disch := omega) only [lt_eq, chk_dec, chk_tt, chk_and, chk_inb, chk_fits, chk_make, chkn_dec, cond_dt, cond_df, cond_bt, cond_bf, cond_nt, cond_nf, cond_not, cond_and, cond_or, cond_tt, cond_ff, wrap_id, min_if', max_if', List.length_append, List.length_cons, List.length_nil, List.length_replicate, List.length_set, List.length_map, List.length_range, Int.natCast_add, Int.cast_ofNat_Int, Int.toNat_natCast, Int.add_assoc, Nat.zero_add, Int.zero_add, List.append_assoc, List.cons_append, List.nil_append, rowD_mid, e4, e50]
          rw [K _ (by simp)]
          simp
        · rw [if_neg hq, if_neg h7, decide_eq_false h7]
          simp (disch := omega) only [lt_eq, chk_dec, chk_tt, chk_and, chk_inb, chk_fits, chk_make, chkn_dec, cond_dt, cond_df, cond_bt, cond_bf, cond_nt, cond_nf, cond_not, cond_and, cond_or, cond_tt, cond_ff, wrap_id, min_if', max_if', List.length_append, List.length_cons, List.length_nil, List.length_replicate, List.length_set, List.length_map, List.length_range, Int.natCast_add, Int.cast_ofNat_Int, Int.toNat_natCast, Int.add_assoc, Nat.zero_add, Int.zero_add, List.append_assoc, List.cons_append, List.nil_append, rowD_mid, e4, e50]
          rw [K _ (by simp)]
          simp
      · rw [if_neg hx0]
        unfold ofGone
        subst hi
        by_cases hlt : (pre.length : Int) < (lost.length : Int)
        · by_cases hp : 0 < lost.getD pre.length 0
          · have hle : lost.getD pre.length 0 ≤ 2305843009213693952 := by
              rw [List.getD_eq_getElem?_getD, List.getElem?_eq_getElem (by omega)]
              exact hlost _ (List.getElem_mem _)
            rw [if_pos ⟨hlt, by simpa using hp⟩]
            simp (disch := omega) only [lt_eq, chk_dec, chk_tt, chk_and, chk_inb, chk_fits, chk_make, chkn_dec, cond_dt, cond_df, cond_bt, cond_bf, cond_nt, cond_nf, cond_not, cond_and, cond_or, cond_tt, cond_ff, wrap_id, min_if', max_if', List.length_append, List.length_cons, List.length_nil, List.length_replicate, List.length_set, List.length_map, List.length_range, Int.natCast_add, Int.cast_ofNat_Int, Int.toNat_natCast, Int.add_assoc, Nat.zero_add, Int.zero_add, List.append_assoc, List.cons_append, List.nil_append, rowD_mid]
            rw [K _ (by simp)]
            simp
          · rw [if_neg (fun h => hp (by simpa using h.2))]
            simp (disch := omega) only [lt_eq, chk_dec, chk_tt, chk_and, chk_inb, chk_fits, chk_make, chkn_dec, cond_dt, cond_df, cond_bt, cond_bf, cond_nt, cond_nf, cond_not, cond_and, cond_or, cond_tt, cond_ff, wrap_id, min_if', max_if', List.length_append, List.length_cons, List.length_nil, List.length_replicate, List.length_set, List.length_map, List.length_range, Int.natCast_add, Int.cast_ofNat_Int, Int.toNat_natCast, Int.add_assoc, Nat.zero_add, Int.zero_add, List.append_assoc, List.cons_append, List.nil_append, rowD_mid]
            rw [K _ (by simp)]
            simp
        · rw [if_neg (fun h => hlt h.1)]
          simp (disch := omega) only [lt_eq, chk_dec, chk_tt, chk_and, chk_inb, chk_fits, chk_make, chkn_dec, cond_dt, cond_df, cond_bt, cond_bf, cond_nt, cond_nf, cond_not, cond_and, cond_or, cond_tt, cond_ff, wrap_id, min_if', max_if', List.length_append, List.length_cons, List.length_nil, List.length_replicate, List.length_set, List.length_map, List.length_range, Int.natCast_add, Int.cast_ofNat_Int, Int.toNat_natCast, Int.add_assoc, Nat.zero_add, Int.zero_add, List.append_assoc, List.cons_append, List.nil_append, rowD_mid]
          rw [K _ (by simp)]
          simp
noncomputable def f34 : List Int × List Int × List Int × List Int × List Int × List Int × List Dat × List Int → Bool × List Un := fun (a0, a1, a2, a3, a4, a5, a6, a7) => (decide (a6.length < 1000000) && (a6.all (fun d => decide (d.i 1 ≤ 1152921504606846976)) && a7.all fun y => decide (y ≤ 2305843009213693952)), [.d (ofL a0 a1 a2 a3 a4 a5 a7 0 a6)])
theorem spec34 (a0 : List Int) (a1 : List Int) (a2 : List Int) (a3 : List Int) (a4 : List Int) (a5 : List Int) (a6 : List Dat) (a7 : List Int) (hc : (decide (a6.length < 1000000) && (a6.all (fun d => decide (d.i 1 ≤ 1152921504606846976)) && a7.all fun y => decide (y ≤ 2305843009213693952))) = true) : ∃ m, t34 m (a0, a1, a2, a3, a4, a5, a6, a7) = some ([.d (ofL a0 a1 a2 a3 a4 a5 a7 0 a6)]) := by
  simp only [Bool.and_eq_true, decide_eq_true_eq, List.all_eq_true] at hc
  exact ⟨a6.length + 1, ofTL _ _ _ _ _ _ _ _ (fun y hy => hc.2.2 y hy) a6 [] [] _ (by omega) (by simpa using hc.1) (by simp) (fun d hd => hc.2.1 d hd)⟩
theorem right34 : ER 34 (mkE N34.en N34.ex f34) := right_of KN_none T33.right (fun m => [S34_0 (L34_0 m m)]) (t := t34) (by kernel_rfl) (fun m => (all1 (H34_0 m m) all0)) (fun m a => by kernel_rfl) fun (a0, a1, a2, a3, a4, a5, a6, a7) hc => spec34 a0 a1 a2 a3 a4 a5 a6 a7 hc
noncomputable def T34 : Tb Try.prog LQ TE := T33.add 34 _ right34
/-! (*cascade/trust.Trust).Copy -/
noncomputable def N31 : RoadF := ⟨T34.tab, 31, ⟨[.np 0 0 0], [.cells [.int .i64, .int .i64, .int .i64, .buf 1 2, .buf 2 3, .int .i64, .int .i64, .int .i64, .int .i64, .int .i64, .int .i64, .int .i64, .int .i64, .int .i64, .int .i64, .buf 3 2, .buf 4 2, .buf 5 2, .ptr 6 0 0, .buf 8 7, .int .i64, .int .i64, .int .i64, .int .i64, .int .i64, .int .i64, .int .i64, .int .i64, .int .i64, .bool], .recs [.int .i64, .int .i64], .recs [.int .i64, .int .i64, .int .i64], .recs [.int .i64, .int .i64], .recs [.int .i64, .int .i64], .recs [.int .i64, .int .i64], .cells [.buf 7 5], .recs [.int .i64, .int .i64, .int .i64, .int .i64, .bool], .recs [.int .i64, .int .i64, .int .i64, .int .i64, .int .i64, .int .i64, .int .i64]], 9⟩, ⟨[.ptr 9 0 0], [.cells [.int .i64, .int .i64, .int .i64, .buf 1 2, .buf 2 3, .int .i64, .int .i64, .int .i64, .int .i64, .int .i64, .int .i64, .int .i64, .int .i64, .int .i64, .int .i64, .buf 3 2, .buf 4 2, .buf 5 2, .ptr 6 0 0, .buf 8 7, .int .i64, .int .i64, .int .i64, .int .i64, .int .i64, .int .i64, .int .i64, .int .i64, .int .i64, .bool], .recs [.int .i64, .int .i64], .recs [.int .i64, .int .i64, .int .i64], .recs [.int .i64, .int .i64], .recs [.int .i64, .int .i64], .recs [.int .i64, .int .i64], .cells [.buf 7 5], .recs [.int .i64, .int .i64, .int .i64, .int .i64, .bool], .recs [.int .i64, .int .i64, .int .i64, .int .i64, .int .i64, .int .i64, .int .i64], .cells [.int .i64, .int .i64, .int .i64, .buf 10 2, .buf 11 3, .int .i64, .int .i64, .int .i64, .int .i64, .int .i64, .int .i64, .int .i64, .int .i64, .int .i64, .int .i64, .buf 12 2, .buf 13 2, .buf 14 2, .ptr 15 0 0, .buf 17 7, .int .i64, .int .i64, .int .i64, .int .i64, .int .i64, .int .i64, .int .i64, .int .i64, .int .i64, .bool], .recs [.int .i64, .int .i64], .recs [.int .i64, .int .i64, .int .i64], .recs [.int .i64, .int .i64], .recs [.int .i64, .int .i64], .recs [.int .i64, .int .i64], .cells [.buf 16 5], .recs [.int .i64, .int .i64, .int .i64, .int .i64, .bool], .recs [.int .i64, .int .i64, .int .i64, .int .i64, .int .i64, .int .i64, .int .i64]], 9⟩, []⟩
noncomputable def t31 (m : Nat) : Int × DealA × DealB × TrustN × List Dat × List Dat × List Dat × List Dat × List Dat × List Dat × List Dat → Option (List Un) := fun (a0, a1, a2, a3, a4, a5, a6, a7, a8, a9, a10) =>
  chk (decide (0 ≤ a0)) <|
  chk (decide (0 ≤ a0)) <|
  chk (decide ((⟨a1, a4, a5, a2, a6, a7, a8⟩ : ADeal).loans.length < 1000000 ∧ (⟨a1, a4, a5, a2, a6, a7, a8⟩ : ADeal).notes.length < 1000000 ∧ (⟨a1, a4, a5, a2, a6, a7, a8⟩ : ADeal).s0.length < 1000000 ∧ (⟨a1, a4, a5, a2, a6, a7, a8⟩ : ADeal).s1.length < 1000000 ∧ (⟨a1, a4, a5, a2, a6, a7, a8⟩ : ADeal).s2.length < 1000000)) <|
  chk (decide (0 ≤ a0)) <|
  chk (decide (a9.length < 1000000)) <|
  chk (decide (0 ≤ a0)) <|
  chk (decide (a10.length < 1000000)) <|
  some (Uns.enc (a1 : DealA) ++ Uns.enc (a2 : DealB) ++ Uns.enc (a3 : TrustN) ++ [.d a4, .d a5, .d a6, .d a7, .d a8, .d a9, .d a10] ++ Uns.enc (((⟨a1, a4, a5, a2, a6, a7, a8⟩ : ADeal).a) : DealA) ++ Uns.enc (((⟨a1, a4, a5, a2, a6, a7, a8⟩ : ADeal).b) : DealB) ++ Uns.enc (a3 : TrustN) ++ [.d ((⟨a1, a4, a5, a2, a6, a7, a8⟩ : ADeal).loans), .d ((⟨a1, a4, a5, a2, a6, a7, a8⟩ : ADeal).notes), .d ((⟨a1, a4, a5, a2, a6, a7, a8⟩ : ADeal).s0), .d ((⟨a1, a4, a5, a2, a6, a7, a8⟩ : ADeal).s1), .d ((⟨a1, a4, a5, a2, a6, a7, a8⟩ : ADeal).s2), .d a9, .d a10])
noncomputable def f31 : Int × DealA × DealB × TrustN × List Dat × List Dat × List Dat × List Dat × List Dat × List Dat × List Dat → Bool × List Un := fun (a0, a1, a2, a3, a4, a5, a6, a7, a8, a9, a10) => (decide (0 ≤ a0) && decide (a4.length < 1000000 ∧ a5.length < 1000000 ∧ a6.length < 1000000 ∧ a7.length < 1000000 ∧ a8.length < 1000000 ∧ a9.length < 1000000 ∧ a10.length < 1000000), Uns.enc ((a1) : DealA) ++ Uns.enc ((a2) : DealB) ++ Uns.enc ((a3) : TrustN) ++ [.d (a4), .d (a5), .d (a6), .d (a7), .d (a8), .d (a9), .d (a10)] ++ Uns.enc ((a1) : DealA) ++ Uns.enc ((a2) : DealB) ++ Uns.enc ((a3) : TrustN) ++ [.d (a4), .d (a5), .d (a6), .d (a7), .d (a8), .d (a9), .d (a10)])
theorem spec31 (a0 : Int) (a1 : DealA) (a2 : DealB) (a3 : TrustN) (a4 : List Dat) (a5 : List Dat) (a6 : List Dat) (a7 : List Dat) (a8 : List Dat) (a9 : List Dat) (a10 : List Dat) (hc : (decide (0 ≤ a0) && decide (a4.length < 1000000 ∧ a5.length < 1000000 ∧ a6.length < 1000000 ∧ a7.length < 1000000 ∧ a8.length < 1000000 ∧ a9.length < 1000000 ∧ a10.length < 1000000)) = true) : ∃ m, t31 m (a0, a1, a2, a3, a4, a5, a6, a7, a8, a9, a10) = some (Uns.enc ((a1) : DealA) ++ Uns.enc ((a2) : DealB) ++ Uns.enc ((a3) : TrustN) ++ [.d (a4), .d (a5), .d (a6), .d (a7), .d (a8), .d (a9), .d (a10)] ++ Uns.enc ((a1) : DealA) ++ Uns.enc ((a2) : DealB) ++ Uns.enc ((a3) : TrustN) ++ [.d (a4), .d (a5), .d (a6), .d (a7), .d (a8), .d (a9), .d (a10)]) := by
  simp only [Bool.and_eq_true, decide_eq_true_eq] at hc
  obtain ⟨h0, h1, h2, h3, h4, h5, h6, h7⟩ := hc
  refine ⟨0, ?_⟩
  unfold t31
  dsimp only
  simp (disch := omega) only [lt_eq, chk_dec, chk_tt]
theorem right31 : ER 31 (mkE N31.en N31.ex f31) := right_of KN_none T34.right (fun m => []) (t := t31) (by kernel_rfl) (fun m => all0) (fun m a => by kernel_rfl) fun (a0, a1, a2, a3, a4, a5, a6, a7, a8, a9, a10) hc => spec31 a0 a1 a2 a3 a4 a5 a6 a7 a8 a9 a10 hc
noncomputable def T31 : Tb Try.prog LQ TE := T34.add 31 _ right31
/-! (*cascade/purse.Purse).Put -/
noncomputable def N32 : RoadF := ⟨T31.tab, 32, ⟨[.np 0 0 20, .int .i64], [.cells [.int .i64, .int .i64, .int .i64, .buf 1 2, .buf 2 3, .int .i64, .int .i64, .int .i64, .int .i64, .int .i64, .int .i64, .int .i64, .int .i64, .int .i64, .int .i64, .buf 3 2, .buf 4 2, .buf 5 2, .ptr 6 0 0, .buf 8 7, .int .i64, .int .i64, .int .i64, .int .i64, .int .i64, .int .i64, .int .i64, .int .i64, .int .i64, .bool], .recs [.int .i64, .int .i64], .recs [.int .i64, .int .i64, .int .i64], .recs [.int .i64, .int .i64], .recs [.int .i64, .int .i64], .recs [.int .i64, .int .i64], .cells [.buf 7 5], .recs [.int .i64, .int .i64, .int .i64, .int .i64, .bool], .recs [.int .i64, .int .i64, .int .i64, .int .i64, .int .i64, .int .i64, .int .i64]], 0⟩, ⟨[.bool], [.cells [.int .i64, .int .i64, .int .i64, .buf 1 2, .buf 2 3, .int .i64, .int .i64, .int .i64, .int .i64, .int .i64, .int .i64, .int .i64, .int .i64, .int .i64, .int .i64, .buf 3 2, .buf 4 2, .buf 5 2, .ptr 6 0 0, .buf 8 7, .int .i64, .int .i64, .int .i64, .int .i64, .int .i64, .int .i64, .int .i64, .int .i64, .int .i64, .bool], .recs [.int .i64, .int .i64], .recs [.int .i64, .int .i64, .int .i64], .recs [.int .i64, .int .i64], .recs [.int .i64, .int .i64], .recs [.int .i64, .int .i64], .cells [.buf 7 5], .recs [.int .i64, .int .i64, .int .i64, .int .i64, .bool], .recs [.int .i64, .int .i64, .int .i64, .int .i64, .int .i64, .int .i64, .int .i64]], 0⟩, []⟩
noncomputable def t32 (m : Nat) : Int × Int × DealA × DealB × TrustN × List Dat × List Dat × List Dat × List Dat × List Dat × List Dat × List Dat → Option (List Un) := fun (a0, a1, a2, a3, a4, a5, a6, a7, a8, a9, a10, a11) =>
  chk (decide (0 ≤ a0)) <|
  lt ((([a4.rin, a1]).getD 0 0) : Int) fun x1 =>
  bif decide (x1 < 0) then
   some ([.b false] ++ Uns.enc (a2 : DealA) ++ Uns.enc (a3 : DealB) ++ Uns.enc (a4 : TrustN) ++ [.d a5, .d a6, .d a7, .d a8, .d a9, .d a10, .d a11])
  else
   bif (decide (x1 > 1152921504606846976)) then
    some ([.b false] ++ Uns.enc (a2 : DealA) ++ Uns.enc (a3 : DealB) ++ Uns.enc (a4 : TrustN) ++ [.d a5, .d a6, .d a7, .d a8, .d a9, .d a10, .d a11])
   else
    lt ((([a4.rin, a1]).getD 1 0) : Int) fun x3 =>
    bif decide (x3 < 0) then
     some ([.b false] ++ Uns.enc (a2 : DealA) ++ Uns.enc (a3 : DealB) ++ Uns.enc (a4 : TrustN) ++ [.d a5, .d a6, .d a7, .d a8, .d a9, .d a10, .d a11])
    else
     bif decide (x3 > (w64 (1152921504606846976 - (w64 (0 + x1))))) then
      some ([.b false] ++ Uns.enc (a2 : DealA) ++ Uns.enc (a3 : DealB) ++ Uns.enc (a4 : TrustN) ++ [.d a5, .d a6, .d a7, .d a8, .d a9, .d a10, .d a11])
     else
      chk (decide (0 ≤ a0)) <|
      some ([.b true] ++ Uns.enc (a2 : DealA) ++ Uns.enc (a3 : DealB) ++ Uns.enc (({ a4 with rin := (w64 ((w64 (0 + x1)) + x3)) } : TrustN) : TrustN) ++ [.d a5, .d a6, .d a7, .d a8, .d a9, .d a10, .d a11])
noncomputable def f32 : Int × Int × DealA × DealB × TrustN × List Dat × List Dat × List Dat × List Dat × List Dat × List Dat × List Dat → Bool × List Un := fun (a0, a1, a2, a3, a4, a5, a6, a7, a8, a9, a10, a11) => (decide (0 ≤ a0) && decide ((0 : Int) ≤ a4.rin ∧ (0 : Int) ≤ a1 ∧ a4.rin + a1 ≤ (1152921504606846976 : Int)), [.b (true)] ++ Uns.enc ((a2) : DealA) ++ Uns.enc ((a3) : DealB) ++ Uns.enc (({ a4 with rin := a4.rin + a1 }) : TrustN) ++ [.d (a5), .d (a6), .d (a7), .d (a8), .d (a9), .d (a10), .d (a11)])
theorem spec32 (a0 : Int) (a1 : Int) (a2 : DealA) (a3 : DealB) (a4 : TrustN) (a5 : List Dat) (a6 : List Dat) (a7 : List Dat) (a8 : List Dat) (a9 : List Dat) (a10 : List Dat) (a11 : List Dat) (hc : (decide (0 ≤ a0) && decide ((0 : Int) ≤ a4.rin ∧ (0 : Int) ≤ a1 ∧ a4.rin + a1 ≤ (1152921504606846976 : Int))) = true) : ∃ m, t32 m (a0, a1, a2, a3, a4, a5, a6, a7, a8, a9, a10, a11) = some ([.b (true)] ++ Uns.enc ((a2) : DealA) ++ Uns.enc ((a3) : DealB) ++ Uns.enc (({ a4 with rin := a4.rin + a1 }) : TrustN) ++ [.d (a5), .d (a6), .d (a7), .d (a8), .d (a9), .d (a10), .d (a11)]) := by
  simp only [Bool.and_eq_true, decide_eq_true_eq] at hc
  obtain ⟨h0, h1, h2, h3⟩ := hc
  refine ⟨0, ?_⟩
  unfold t32
  dsimp only
  simp only [lt_eq, List.getD_cons_zero, List.getD_cons_succ]
  simp (disch := omega) only [lt_eq, chk_dec, chk_tt, chk_and, chk_inb, chk_fits, chk_make, chkn_dec, cond_dt, cond_df, cond_bt, cond_bf, cond_nt, cond_nf, cond_not, cond_and, cond_or, cond_tt, cond_ff, wrap_id, min_if', max_if', Int.zero_add]
theorem right32 : ER 32 (mkE N32.en N32.ex f32) := right_of KN_none T31.right (fun m => []) (t := t32) (by kernel_rfl) (fun m => all0) (fun m a => by kernel_rfl) fun (a0, a1, a2, a3, a4, a5, a6, a7, a8, a9, a10, a11) hc => spec32 a0 a1 a2 a3 a4 a5 a6 a7 a8 a9 a10 a11 hc
noncomputable def T32 : Tb Try.prog LQ TE := T31.add 32 _ right32

end Go.Proofs.Ytoiijpphfckdjaa
