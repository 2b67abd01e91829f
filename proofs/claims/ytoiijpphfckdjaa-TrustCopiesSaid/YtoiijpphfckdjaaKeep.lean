/- A part of the walk. -/
import Derived.Test.YtoiijpphfckdjaaCivil
import Derived.Test.YtoiijpphfckdjaaF19
namespace Go.Proofs.Ytoiijpphfckdjaa
open Go Go.Proofs.Ytoiijpphfckdjaa.Ev
set_option linter.unusedVariables false
set_option linter.unusedSimpArgs false
set_option linter.unnecessarySimpa false
def LQ : List FuncId := [14, 16, 17, 18, 32, 33, 98]
def teL : List (FuncId × (List Value → Option (Bool × Value))) := [(3, e3), (15, e15), (30, e30), (58, e58), (59, e59), (76, e76)]
def TE : Tab := tabOf teL
def KN : FuncId → Bool := knOf teL
theorem TE_right : Known.right Try.prog TE := tab_right (all1 right3 (all1 right15 (all1 right30 (all1 right58 (all1 right59 (all1 right76 all0))))))
theorem KN_none : ∀ g, KN g = false → ∀ args, ofTab TE g args = none := knOf_none
noncomputable def T0 : Tb Try.prog LQ TE := .nil
abbrev HO (F : RoadF) (t : StopS) : Prop := F.Holds Try.prog LQ (ofTab TE) t
abbrev ER (g : FuncId) (e : EntS) : Prop := EntSRight Try.prog LQ (ofTab TE) g e
/-- One of a list's numbers, over and over. -/
def pickV (l : List Int) (i : Int) : Int := if l = [] then 0 else l.getD (i % (l.length : Int)).toNat 0
def loanV (i : Nat) (x : Int) : Dat := .r [.n (2 * i + 1), .n (within x 0 100000)]
def loansF : Nat → List Int → List Dat
  | _, [] => []
  | i, x :: l => loanV i x :: loansF (i + 1) l
/-- Loans made of numbers. -/
def loansV (l : List Int) : List Dat := loansF 0 (l.take 10)
/-! cascade/cascadekeep.pick -/
noncomputable def N46 : RoadF := ⟨T0.tab, 46, ⟨[.ints .i64, .int .i64], [], 0⟩, ⟨[.int .i64], [], 0⟩, []⟩
noncomputable def t46 (m : Nat) : List Int × Int → Option (List Un) := fun (a0, a1) =>
  bif (a0.length : Int) == 0 then
   some ([.i 0])
  else
   chkn (decide ((a0.length : Int) = 0)) <|
   lt ((a1.tmod (a0.length : Int)) : Int) fun x1 =>
   chk (inb x1 a0.length) <|
   chk (decide (x1.toNat < a0.length)) <|
   some ([.i (a0.getD x1.toNat 0)])
noncomputable def f46 : List Int × Int → Bool × List Un := fun (a0, a1) => (decide (0 ≤ a1), [.i (pickV a0 a1)])
theorem spec46 (a0 : List Int) (a1 : Int) (hc : (decide (0 ≤ a1)) = true) : ∃ m, t46 m (a0, a1) = some ([.i (pickV a0 a1)]) := by
  simp only [decide_eq_true_eq] at hc
  refine ⟨0, ?_⟩
  unfold t46 pickV
  cases a0 with
  | nil => simp [cond_bt]
  | cons x l =>
    have e := Int.emod_nonneg a1 (show ((x :: l).length : Int) ≠ 0 by simp; omega)
    have e2 := Int.emod_lt_of_pos a1 (show (0 : Int) < ((x :: l).length : Int) by simp)
    rw [if_neg (by simp)]
    dsimp only
    simp only [tm _ hc]
    generalize a1 % _ = z at *
    simp (disch := omega) only [lt_eq, chk_dec, chk_tt, chk_and, chk_inb, chk_fits, chk_make, chkn_dec, cond_dt, cond_df, cond_bt, cond_bf, cond_nt, cond_nf, cond_not, cond_and, cond_or, cond_tt, cond_ff, wrap_id, min_if', max_if']
theorem right46 : ER 46 (mkE N46.en N46.ex f46) := right_of KN_none T0.right (fun m => []) (t := t46) (by kernel_rfl) (fun m => all0) (fun m a => by kernel_rfl) fun (a0, a1) hc => spec46 a0 a1 hc
noncomputable def T46 : Tb Try.prog LQ TE := T0.add 46 _ right46
/-! cascade/cascadekeep.Loans -/
noncomputable def N45 : RoadF := ⟨T46.tab, 45, ⟨[.ints .i64], [], 0⟩, ⟨[.buf 0 2], [.recs [.int .i64, .int .i64]], 0⟩, []⟩
abbrev A45_0 : Type := List Int × Int × List Dat
noncomputable def L45_0s (m : Nat) (k : A45_0 → Option (List Un)) : A45_0 → Option (List Un) := fun (a0, a1, a2) =>
  bif (decide (a1 < (a0.length : Int))) then
   bif decide (a1 < 10) then
    chk (inb a1 a0.length) <|
    chk (decide (a1.toNat < a0.length)) <|
    chk (fits (a2.length + 1) 16) <|
    k (a0, (w64 (a1 + 1)), (a2 ++ ([.r [.n (w64 ((w64 (2 * a1)) + 1)), .n (within (a0.getD a1.toNat 0) 0 100000)]])))
   else
    some ([.d a2])
  else
   some ([.d a2])
noncomputable def L45_0 (m : Nat) : Nat → A45_0 → Option (List Un) := iterA (L45_0s m)
theorem L45_0_succ (m : Nat) (n : Nat) : L45_0 m (n + 1) = L45_0s m (L45_0 m n) := rfl
noncomputable def S45_0 (F : A45_0 → Option (List Un)) : StopS := ⟨[.lp [0, 1, 0, 1, 1], .blk 0, .code [1, 1, 1]], ⟨frm 28 [(0, .ints .i64), (3, .buf 0 2), (4, .int .i64)], [.recs [.int .i64, .int .i64]], 0⟩, onU F⟩
theorem H45_0 (m : Nat) : ∀ n, HO N45 (S45_0 (L45_0 m n)) := loop_holds KN_none T46.right (fun k => [S45_0 k]) (fun k h => (all1 h all0)) fun k a => by kernel_rfl
noncomputable def t45 (m : Nat) : List Int → Option (List Un) := fun a0 =>
  L45_0 m m (a0, 0, [])
theorem loansL (m : Nat) : ∀ (rest pre : List Int) (acc : List Dat) (n : Nat), rest.length < n → acc.length = pre.length → pre.length ≤ 10 →
    L45_0 m n (pre ++ rest, (pre.length : Int), acc) = some [.d (acc ++ loansF pre.length (rest.take (10 - pre.length)))] := by
  intro rest
  induction rest with
  | nil =>
    intro pre acc n hn hl hp
    obtain ⟨n, rfl⟩ := one_more n (by simp at hn; omega)
    rw [L45_0_succ]; unfold L45_0s; dsimp only
    simp [cond_df, loansF]
  | cons x rest ih =>
    intro pre acc n hn hl hp
    obtain ⟨n, rfl⟩ := one_more n (by simp at hn; omega)
    simp only [List.length_cons] at hn
    rw [L45_0_succ]; unfold L45_0s; dsimp only
    by_cases h : pre.length < 10
    · have := ih (pre ++ [x]) (acc ++ [loanV pre.length x]) n (by omega) (by simp; omega) (by simp; omega)
      obtain ⟨k, hk⟩ : ∃ k, 10 - pre.length = k + 1 := ⟨9 - pre.length, by omega⟩
      have hk2 : 10 - (pre.length + 1) = k := by omega
      simp only [hk2, hk, List.take_succ_cons, loansF, loanV, List.length_append, List.length_cons, List.length_nil, List.append_assoc, List.cons_append, List.nil_append, Int.natCast_add] at this ⊢
      simp (disch := omega) only [lt_eq, chk_dec, chk_tt, chk_and, chk_inb, chk_fits, chk_make, chkn_dec, cond_dt, cond_df, cond_bt, cond_bf, cond_nt, cond_nf, cond_not, cond_and, cond_or, cond_tt, cond_ff, wrap_id, min_if', max_if', List.length_append, List.length_cons, List.length_nil, List.length_replicate, List.length_set, List.length_map, List.length_range, Int.natCast_add, Int.cast_ofNat_Int, Int.toNat_natCast, Int.add_assoc, Nat.zero_add, Int.zero_add, List.append_assoc, List.cons_append, List.nil_append, getD_mid]
      exact this
    · simp only [show 10 - pre.length = 0 by omega, List.take_zero, loansF, List.append_nil]
      simp (disch := omega) only [lt_eq, chk_dec, chk_tt, chk_and, chk_inb, chk_fits, chk_make, chkn_dec, cond_dt, cond_df, cond_bt, cond_bf, cond_nt, cond_nf, cond_not, cond_and, cond_or, cond_tt, cond_ff, wrap_id, min_if', max_if', List.length_append, List.length_cons, List.length_nil, List.length_replicate, List.length_set, List.length_map, List.length_range, Int.natCast_add, Int.cast_ofNat_Int, Int.toNat_natCast, Int.add_assoc, Nat.zero_add, Int.zero_add, List.append_assoc, List.cons_append, List.nil_append, getD_mid]
noncomputable def f45 : List Int → Bool × List Un := fun a0 => (true, [.d (loansV a0)])
theorem spec45 (a0 : List Int) : ∃ m, t45 m a0 = some ([.d (loansV a0)]) := by
  refine ⟨a0.length + 1, ?_⟩
  have := loansL (a0.length + 1) a0 [] [] (a0.length + 1) (by omega) rfl (by simp)
  simpa [loansV, t45] using this
theorem right45 : ER 45 (mkE N45.en N45.ex f45) := right_of KN_none T46.right (fun m => [S45_0 (L45_0 m m)]) (t := t45) (by kernel_rfl) (fun m => (all1 (H45_0 m m) all0)) (fun m a => by kernel_rfl) fun a0 hc => spec45 a0
noncomputable def T45 : Tb Try.prog LQ TE := T46.add 45 _ right45
@[ext] structure DealA where
  year : Int
  month : Int
  basis : Int
noncomputable instance : Uns DealA := Uns.via (B := Int × Int × Int) (fun x => (x.year, x.month, x.basis)) (fun x => match x with | (year, month, basis) => ⟨year, month, basis⟩) (fun _ => rfl)
@[ext] structure DealB where
  fee : Int
  reserve : Int
  target : Int
  advance : Int
  cure : Int
  oc : Int
  ic : Int
  late : Int
  loss : Int
  clean : Int
noncomputable instance : Uns DealB := Uns.via (B := Int × Int × Int × Int × Int × Int × Int × Int × Int × Int) (fun x => (x.fee, x.reserve, x.target, x.advance, x.cure, x.oc, x.ic, x.late, x.loss, x.clean)) (fun x => match x with | (fee, reserve, target, advance, cure, oc, ic, late, loss, clean) => ⟨fee, reserve, target, advance, cure, oc, ic, late, loss, clean⟩) (fun _ => rfl)
@[ext] structure ADeal where
  a : DealA
  loans : List Dat
  notes : List Dat
  b : DealB
  s0 : List Dat
  s1 : List Dat
  s2 : List Dat
noncomputable instance : Uns ADeal := Uns.via (B := DealA × List Dat × List Dat × DealB × List Dat × List Dat × List Dat) (fun x => (x.a, x.loans, x.notes, x.b, x.s0, x.s1, x.s2)) (fun x => match x with | (a, loans, notes, b, s0, s1, s2) => ⟨a, loans, notes, b, s0, s1, s2⟩) (fun _ => rfl)
@[ext] structure KDeal where
  a : DealA
  b : DealB
  loans : List Int
  notes : List Int
  ranks : List Int
  rates : List Int
  s0 : List Int
  s1 : List Int
  s2 : List Int
noncomputable instance : Uns KDeal := Uns.via (B := DealA × DealB × List Int × List Int × List Int × List Int × List Int × List Int × List Int) (fun x => (x.a, x.b, x.loans, x.notes, x.ranks, x.rates, x.s0, x.s1, x.s2)) (fun x => match x with | (a, b, loans, notes, ranks, rates, s0, s1, s2) => ⟨a, b, loans, notes, ranks, rates, s0, s1, s2⟩) (fun _ => rfl)
def sumI (j : Nat) : List Dat → Int
  | [] => 0
  | d :: l => d.i j + sumI j l
/-- A deal made of numbers: its loans, its notes, its steps. -/
def kLoans (k : KDeal) : List Dat := loansV k.loans ++ [.r [.n 99, .n 50000]]
def kPool (k : KDeal) : Int := sumI 1 (kLoans k)
def noteV (k : KDeal) (p : Int) (i : Nat) : Dat := .r [.n (within (pickV k.ranks i) 0 3), .n (1 + within (pickV k.notes i) 0 (p / 6)), .n (within (pickV k.rates i) 0 1200)]
def kNotes (k : KDeal) : List Dat := (List.range (min 5 (1 + k.notes.length))).map (noteV k (kPool k))
def stepR (x : Int) : Int := if within x 1 7 = 3 then within (w64 (x.tdiv 7)) 0 3 else 0
def hasStep (l : List Dat) (a b : Int) : Bool := l.any fun d => d.i 0 == a && d.i 1 == b
def stepsF : List Dat → List Int → List Dat
  | acc, [] => acc
  | acc, x :: r => stepsF (if hasStep acc (within x 1 7) (stepR x) then acc else acc ++ [.r [.n (within x 1 7), .n (stepR x)]]) r
def stepsD : List Dat := [.r [.n 1, .n 0], .r [.n 3, .n 0], .r [.n 3, .n 1], .r [.n 4, .n 0], .r [.n 2, .n 0], .r [.n 6, .n 0]]
def stepsV (l : List Int) : List Dat := if (stepsF [] (l.take 12)).length = 0 then stepsD else stepsF [] (l.take 12)
def dealV (k : KDeal) : ADeal := ⟨⟨within k.a.year 1990 2040, within k.a.month 1 12, within k.a.basis 0 2⟩, kLoans k, kNotes k,
  ⟨within k.b.fee 0 200, within k.b.reserve 0 5000, within k.b.target 0 500, within k.b.advance 0 3000, within k.b.cure 0 3, within k.b.oc 0 12000, within k.b.ic 0 15000, within k.b.late 0 5000, within k.b.loss 0 5000, within k.b.clean 0 3000⟩,
  stepsV k.s0, stepsV k.s1, stepsV k.s2⟩
theorem loansF_mem : ∀ (l : List Int) (i : Nat), ∀ d ∈ loansF i l, 0 ≤ d.i 1 ∧ d.i 1 ≤ 100000
  | [], i => by simp [loansF]
  | x :: l, i => by
    simp only [loansF, List.mem_cons, forall_eq_or_imp]
    exact ⟨within_le (by decide), loansF_mem l _⟩
theorem loansF_len : ∀ (l : List Int) (i : Nat), (loansF i l).length = l.length
  | [], i => rfl
  | x :: l, i => by simp [loansF, loansF_len l]
theorem kLoans_len (k : KDeal) : (kLoans k).length ≤ 11 := by simp [kLoans, loansV, loansF_len]; omega
theorem kLoans_mem (k : KDeal) : ∀ d ∈ kLoans k, 0 ≤ d.i 1 ∧ d.i 1 ≤ 100000 := by
  simp only [kLoans, loansV, List.mem_append, List.mem_singleton]
  rintro d (h | rfl)
  · exact loansF_mem _ _ d h
  · decide
theorem sumI_le (j : Nat) (b : Int) : ∀ (l : List Dat), (∀ d ∈ l, 0 ≤ d.i j ∧ d.i j ≤ b) → 0 ≤ sumI j l ∧ sumI j l ≤ b * l.length
  | [], _ => by simp [sumI]
  | x :: l, h => by
    have h1 := h x (by simp)
    have h2 := sumI_le j b l fun d hd => h d (by simp [hd])
    simp only [sumI, List.length_cons, Int.natCast_add, Int.mul_add]
    omega
theorem kPool_le (k : KDeal) : 50000 ≤ kPool k ∧ kPool k ≤ 1100000 := by
  have h1 := sumI_le 1 100000 (kLoans k) (kLoans_mem k)
  have h2 := kLoans_len k
  refine ⟨?_, by unfold kPool; omega⟩
  have h3 : ∀ (a b : List Dat), sumI 1 (a ++ b) = sumI 1 a + sumI 1 b := by
    intro a b
    induction a with
    | nil => simp [sumI]
    | cons x a ih => simp only [List.cons_append, sumI, ih]; omega
  have h4 := sumI_le 1 100000 (loansV k.loans) (loansF_mem _ _)
  rw [kPool, kLoans, h3]
  have : sumI 1 [Dat.r [.n 99, .n 50000]] = 50000 := by decide
  omega
theorem hasStep_snoc (l : List Dat) (x : Dat) (a b : Int) : hasStep (l ++ [x]) a b = (hasStep l a b || (x.i 0 == a && x.i 1 == b)) := by simp [hasStep]
theorem stepsF_len : ∀ (l : List Int) (acc : List Dat), (stepsF acc l).length ≤ acc.length + l.length
  | [], acc => by simp [stepsF]
  | x :: l, acc => by
    have := stepsF_len l (if hasStep acc (within x 1 7) (stepR x) then acc else acc ++ [.r [.n (within x 1 7), .n (stepR x)]])
    simp only [stepsF, List.length_cons]
    split at this <;> rename_i h
    · rw [if_pos h]; omega
    · rw [if_neg h]; simp at this ⊢; omega
/-! (cascade/cascadekeep.Deal).Deal -/
noncomputable def N13 : RoadF := ⟨T45.tab, 13, ⟨[.agg [.int .i64, .int .i64, .int .i64, .int .i64, .int .i64, .int .i64, .int .i64, .int .i64, .int .i64, .int .i64, .int .i64, .int .i64, .int .i64, .ints .i64, .ints .i64, .ints .i64, .ints .i64, .ints .i64, .ints .i64, .ints .i64]], [], 0⟩, ⟨[.agg [.int .i64, .int .i64, .int .i64, .buf 0 2, .buf 1 3, .int .i64, .int .i64, .int .i64, .int .i64, .int .i64, .int .i64, .int .i64, .int .i64, .int .i64, .int .i64, .buf 2 2, .buf 3 2, .buf 4 2]], [.recs [.int .i64, .int .i64], .recs [.int .i64, .int .i64, .int .i64], .recs [.int .i64, .int .i64], .recs [.int .i64, .int .i64], .recs [.int .i64, .int .i64]], 0⟩, []⟩
abbrev A13_4 : Type := Int × Int × Bool × Int × Int × Int × KDeal × DealA × DealB × DealA × DealB × List Dat × Int × Int × List Dat × List Dat × List Dat × List Dat × List Dat × List Dat × List Dat × List Dat × List Dat × List Dat
abbrev A13_3 : Type := Int × Int × Int × KDeal × DealA × DealB × DealA × DealB × List Dat × List Dat × List Dat × List Dat × List Dat × List Dat × List Dat × List Dat × List Dat × List Dat × List Dat
abbrev A13_2 : Type := Int × KDeal × DealA × DealB × DealA × DealB × List Dat × List Dat × List Dat × List Dat × List Dat × List Dat × List Dat × List Dat × List Dat × List Dat
abbrev A13_1 : Type := Int × Int × KDeal × DealA × DealB × DealA × DealB × List Dat × List Dat × List Dat × List Dat × List Dat × List Dat × List Dat × List Dat × List Dat × List Dat
abbrev A13_0 : Type := Int × Int × Int × KDeal × DealA × DealB × DealA × DealB × List Dat × List Dat × List Dat × List Dat × List Dat × List Dat × List Dat × List Dat × List Dat × List Dat
noncomputable def L13_4s (m : Nat) (k2 : A13_2 → Option (List Un)) (k3 : A13_3 → Option (List Un)) (k : A13_4 → Option (List Un)) : A13_4 → Option (List Un) := fun (a0, a1, a2, a3, a4, a5, a6, a7, a8, a9, a10, a11, a12, a13, a14, a15, a16, a17, a18, a19, a20, a21, a22, a23) =>
  bif decide (a5 < a4) then
   chk (inb a5 a11.length) <|
   chk (decide (a5.toNat < a11.length)) <|
   lt (rowD a11 a5.toNat : Dat) fun d22 =>
   bif a2 then
    k (a0, a1, true, a3, a4, (w64 (a5 + 1)), a6, a7, a8, a9, a10, a11, a12, a13, a14, a15, a16, a17, a18, a19, a20, a21, a22, a23)
   else
    k (a0, a1, (((d22.i 0) == a12) && (((d22.i 1) == a13) && true)), a3, a4, (w64 (a5 + 1)), a6, a7, a8, a9, a10, a11, a12, a13, a14, a15, a16, a17, a18, a19, a20, a21, a22, a23)
  else
   bif !a2 then
    chk (fits (a11.length + 1) 16) <|
    k3 (a0, (w64 (a1 + 1)), a3, a6, a7, a8, a9, a10, (a11 ++ ([.r [.n a12, .n a13]])), a14, a15, a16, a17, a18, a19, a20, a21, a22, a23)
   else
    k3 (a0, (w64 (a1 + 1)), a3, a6, a7, a8, a9, a10, a11, a14, a15, a16, a17, a18, a19, a20, a21, a22, a23)
noncomputable def L13_4 (m : Nat) (k2 : A13_2 → Option (List Un)) (k3 : A13_3 → Option (List Un)) : Nat → A13_4 → Option (List Un) := iterA (L13_4s m k2 k3)
theorem L13_4_succ (m : Nat) (k2 : A13_2 → Option (List Un)) (k3 : A13_3 → Option (List Un)) (n : Nat) : L13_4 m k2 k3 (n + 1) = L13_4s m k2 k3 (L13_4 m k2 k3 n) := rfl
noncomputable def S13_4 (F : A13_4 → Option (List Un)) : StopS := ⟨[.lp [0, 1, 0, 1, 1, 1, 0, 0, 1, 0, 0, 1, 0, 1, 1, 0, 0, 1, 1, 0, 0, 1, 0, 1, 1, 1, 1, 1, 1, 1], .blk 8, .code [1, 1, 1, 1, 0, 0, 1, 0, 0, 1, 0, 1, 1, 0, 0, 1, 1, 0, 0, 1, 0, 1, 1, 1, 1, 1, 1, 1], .blk 7, .code [1, 1, 0, 0, 1, 0, 1, 1, 0, 0, 1, 1, 0, 0, 1, 0, 1, 1, 1, 1, 1, 1, 1], .lp [0, 1, 0, 1, 1, 0, 0, 1, 1, 0, 0, 1, 0, 1, 1, 1, 1, 1, 1, 1], .blk 6, .code [1, 1, 1, 0, 0, 1, 1, 0, 0, 1, 0, 1, 1, 1, 1, 1, 1, 1], .blk 5, .code [1, 1, 1, 0, 0, 1, 0, 1, 1, 1, 1, 1, 1, 1], .lp [0, 1, 0, 1, 1, 1, 1, 1, 1, 1], .blk 4, .code [1, 1, 1, 1, 1, 1, 1, 1]], ⟨frm 192 [(1, .ptr 0 0 0), (2, .ptr 1 0 0), (3, .ptr 2 0 0), (9, .int .i64), (10, .buf 3 2), (11, .int .i64), (12, .ptr 4 0 0), (13, .bool), (119, .int .i64), (157, .buf 3 2), (158, .int .i64), (159, .int .i64)], [.cells [.int .i64, .int .i64, .int .i64, .int .i64, .int .i64, .int .i64, .int .i64, .int .i64, .int .i64, .int .i64, .int .i64, .int .i64, .int .i64, .ints .i64, .ints .i64, .ints .i64, .ints .i64, .ints .i64, .ints .i64, .ints .i64], .cells [.int .i64, .int .i64, .int .i64, .buf 5 2, .buf 6 3, .int .i64, .int .i64, .int .i64, .int .i64, .int .i64, .int .i64, .int .i64, .int .i64, .int .i64, .int .i64, .buf 7 2, .buf 8 2, .buf 9 2], .cells [.int .i64, .int .i64, .int .i64, .buf 10 2, .buf 11 3, .int .i64, .int .i64, .int .i64, .int .i64, .int .i64, .int .i64, .int .i64, .int .i64, .int .i64, .int .i64, .buf 12 2, .buf 13 2, .buf 14 2], .recs [.int .i64, .int .i64], .cells [.int .i64, .int .i64], .recs [.int .i64, .int .i64], .recs [.int .i64, .int .i64, .int .i64], .recs [.int .i64, .int .i64], .recs [.int .i64, .int .i64], .recs [.int .i64, .int .i64], .recs [.int .i64, .int .i64], .recs [.int .i64, .int .i64, .int .i64], .recs [.int .i64, .int .i64], .recs [.int .i64, .int .i64], .recs [.int .i64, .int .i64]], 0⟩, onU F⟩
noncomputable def L13_3s (m : Nat) (k2 : A13_2 → Option (List Un)) (k : A13_3 → Option (List Un)) : A13_3 → Option (List Un) := fun (a0, a1, a2, a3, a4, a5, a6, a7, a8, a9, a10, a11, a12, a13, a14, a15, a16, a17, a18) =>
  chk (inb a0 3) <|
  chk (decide (a0.toNat < 3)) <|
  bif (decide (a1 < ((List.getD [a3.s0, a3.s1, a3.s2] a0.toNat []).length : Int))) then
   bif decide (a1 < 12) then
    chk (inb a0 3) <|
    chk (decide (a0.toNat < 3)) <|
    chk (inb a1 ((List.getD [a3.s0, a3.s1, a3.s2] a0.toNat []).length)) <|
    chk (decide (a1.toNat < (List.getD [a3.s0, a3.s1, a3.s2] a0.toNat []).length)) <|
    lt (((List.getD [a3.s0, a3.s1, a3.s2] a0.toNat []).getD a1.toNat 0) : Int) fun x19 =>
    bif (within x19 1 7) == 3 then
     chk (inb a0 3) <|
     chk (decide (a0.toNat < 3)) <|
     chk (inb a1 ((List.getD [a3.s0, a3.s1, a3.s2] a0.toNat []).length)) <|
     chk (decide (a1.toNat < (List.getD [a3.s0, a3.s1, a3.s2] a0.toNat []).length)) <|
     L13_4 m k2 k m (a0, a1, false, a2, (a8.length : Int), 0, a3, a4, a5, a6, a7, a8, (within x19 1 7), (within (w64 (((List.getD [a3.s0, a3.s1, a3.s2] a0.toNat []).getD a1.toNat 0).tdiv 7)) 0 3), a9, a10, a11, a12, a13, a14, a15, a16, a17, a18)
    else
     L13_4 m k2 k m (a0, a1, false, a2, (a8.length : Int), 0, a3, a4, a5, a6, a7, a8, (within x19 1 7), 0, a9, a10, a11, a12, a13, a14, a15, a16, a17, a18)
   else
    bif (a8.length : Int) == 0 then
     bif decide (a0 = 0) then
      k2 ((w64 (a2 + 1)), a3, a4, a5, a6, a7, a9, a10, a11, a12, a13, a14, a15, ([.r [.n 1, .n 0], .r [.n 3, .n 0], .r [.n 3, .n 1], .r [.n 4, .n 0], .r [.n 2, .n 0], .r [.n 6, .n 0]] : List Dat), a17, a18)
     else
      bif decide (a0 = 1) then
       k2 ((w64 (a2 + 1)), a3, a4, a5, a6, a7, a9, a10, a11, a12, a13, a14, a15, a16, ([.r [.n 1, .n 0], .r [.n 3, .n 0], .r [.n 3, .n 1], .r [.n 4, .n 0], .r [.n 2, .n 0], .r [.n 6, .n 0]] : List Dat), a18)
      else
       bif decide (a0 = 2) then
        k2 ((w64 (a2 + 1)), a3, a4, a5, a6, a7, a9, a10, a11, a12, a13, a14, a15, a16, a17, ([.r [.n 1, .n 0], .r [.n 3, .n 0], .r [.n 3, .n 1], .r [.n 4, .n 0], .r [.n 2, .n 0], .r [.n 6, .n 0]] : List Dat))
       else
        none
    else
     bif decide (a0 = 0) then
      k2 ((w64 (a2 + 1)), a3, a4, a5, a6, a7, a9, a10, a11, a12, a13, a14, a15, a8, a17, a18)
     else
      bif decide (a0 = 1) then
       k2 ((w64 (a2 + 1)), a3, a4, a5, a6, a7, a9, a10, a11, a12, a13, a14, a15, a16, a8, a18)
      else
       bif decide (a0 = 2) then
        k2 ((w64 (a2 + 1)), a3, a4, a5, a6, a7, a9, a10, a11, a12, a13, a14, a15, a16, a17, a8)
       else
        none
  else
   bif (a8.length : Int) == 0 then
    bif decide (a0 = 0) then
     k2 ((w64 (a2 + 1)), a3, a4, a5, a6, a7, a9, a10, a11, a12, a13, a14, a15, ([.r [.n 1, .n 0], .r [.n 3, .n 0], .r [.n 3, .n 1], .r [.n 4, .n 0], .r [.n 2, .n 0], .r [.n 6, .n 0]] : List Dat), a17, a18)
    else
     bif decide (a0 = 1) then
      k2 ((w64 (a2 + 1)), a3, a4, a5, a6, a7, a9, a10, a11, a12, a13, a14, a15, a16, ([.r [.n 1, .n 0], .r [.n 3, .n 0], .r [.n 3, .n 1], .r [.n 4, .n 0], .r [.n 2, .n 0], .r [.n 6, .n 0]] : List Dat), a18)
     else
      bif decide (a0 = 2) then
       k2 ((w64 (a2 + 1)), a3, a4, a5, a6, a7, a9, a10, a11, a12, a13, a14, a15, a16, a17, ([.r [.n 1, .n 0], .r [.n 3, .n 0], .r [.n 3, .n 1], .r [.n 4, .n 0], .r [.n 2, .n 0], .r [.n 6, .n 0]] : List Dat))
      else
       none
   else
    bif decide (a0 = 0) then
     k2 ((w64 (a2 + 1)), a3, a4, a5, a6, a7, a9, a10, a11, a12, a13, a14, a15, a8, a17, a18)
    else
     bif decide (a0 = 1) then
      k2 ((w64 (a2 + 1)), a3, a4, a5, a6, a7, a9, a10, a11, a12, a13, a14, a15, a16, a8, a18)
     else
      bif decide (a0 = 2) then
       k2 ((w64 (a2 + 1)), a3, a4, a5, a6, a7, a9, a10, a11, a12, a13, a14, a15, a16, a17, a8)
      else
       none
noncomputable def L13_3 (m : Nat) (k2 : A13_2 → Option (List Un)) : Nat → A13_3 → Option (List Un) := iterA (L13_3s m k2)
theorem L13_3_succ (m : Nat) (k2 : A13_2 → Option (List Un)) (n : Nat) : L13_3 m k2 (n + 1) = L13_3s m k2 (L13_3 m k2 n) := rfl
noncomputable def S13_3 (F : A13_3 → Option (List Un)) : StopS := ⟨[.lp [0, 1, 0, 1, 1, 0, 0, 1, 1, 0, 0, 1, 0, 1, 1, 1, 1, 1, 1, 1], .blk 6, .code [1, 1, 1, 0, 0, 1, 1, 0, 0, 1, 0, 1, 1, 1, 1, 1, 1, 1], .blk 5, .code [1, 1, 1, 0, 0, 1, 0, 1, 1, 1, 1, 1, 1, 1], .lp [0, 1, 0, 1, 1, 1, 1, 1, 1, 1], .blk 4, .code [1, 1, 1, 1, 1, 1, 1, 1]], ⟨frm 192 [(1, .ptr 0 0 0), (2, .ptr 1 0 0), (3, .ptr 2 0 0), (9, .int .i64), (10, .buf 3 2), (11, .int .i64), (119, .int .i64)], [.cells [.int .i64, .int .i64, .int .i64, .int .i64, .int .i64, .int .i64, .int .i64, .int .i64, .int .i64, .int .i64, .int .i64, .int .i64, .int .i64, .ints .i64, .ints .i64, .ints .i64, .ints .i64, .ints .i64, .ints .i64, .ints .i64], .cells [.int .i64, .int .i64, .int .i64, .buf 4 2, .buf 5 3, .int .i64, .int .i64, .int .i64, .int .i64, .int .i64, .int .i64, .int .i64, .int .i64, .int .i64, .int .i64, .buf 6 2, .buf 7 2, .buf 8 2], .cells [.int .i64, .int .i64, .int .i64, .buf 9 2, .buf 10 3, .int .i64, .int .i64, .int .i64, .int .i64, .int .i64, .int .i64, .int .i64, .int .i64, .int .i64, .int .i64, .buf 11 2, .buf 12 2, .buf 13 2], .recs [.int .i64, .int .i64], .recs [.int .i64, .int .i64], .recs [.int .i64, .int .i64, .int .i64], .recs [.int .i64, .int .i64], .recs [.int .i64, .int .i64], .recs [.int .i64, .int .i64], .recs [.int .i64, .int .i64], .recs [.int .i64, .int .i64, .int .i64], .recs [.int .i64, .int .i64], .recs [.int .i64, .int .i64], .recs [.int .i64, .int .i64]], 0⟩, onU F⟩
noncomputable def L13_2s (m : Nat) (k : A13_2 → Option (List Un)) : A13_2 → Option (List Un) := fun (a0, a1, a2, a3, a4, a5, a6, a7, a8, a9, a10, a11, a12, a13, a14, a15) =>
  bif decide (a0 < 3) then
   L13_3 m k m (a0, 0, a0, a1, a2, a3, a4, a5, [], a6, a7, a8, a9, a10, a11, a12, a13, a14, a15)
  else
   some (Uns.enc (a4 : DealA) ++ Uns.enc (a5 : DealB) ++ [.d a11, .d a12, .d a13, .d a14, .d a15])
noncomputable def L13_2 (m : Nat) : Nat → A13_2 → Option (List Un) := iterA (L13_2s m)
theorem L13_2_succ (m : Nat) (n : Nat) : L13_2 m (n + 1) = L13_2s m (L13_2 m n) := rfl
noncomputable def S13_2 (F : A13_2 → Option (List Un)) : StopS := ⟨[.lp [0, 1, 0, 1, 1, 1, 1, 1, 1, 1], .blk 4, .code [1, 1, 1, 1, 1, 1, 1, 1]], ⟨frm 192 [(1, .ptr 0 0 0), (2, .ptr 1 0 0), (3, .ptr 2 0 0), (119, .int .i64)], [.cells [.int .i64, .int .i64, .int .i64, .int .i64, .int .i64, .int .i64, .int .i64, .int .i64, .int .i64, .int .i64, .int .i64, .int .i64, .int .i64, .ints .i64, .ints .i64, .ints .i64, .ints .i64, .ints .i64, .ints .i64, .ints .i64], .cells [.int .i64, .int .i64, .int .i64, .buf 3 2, .buf 4 3, .int .i64, .int .i64, .int .i64, .int .i64, .int .i64, .int .i64, .int .i64, .int .i64, .int .i64, .int .i64, .buf 5 2, .buf 6 2, .buf 7 2], .cells [.int .i64, .int .i64, .int .i64, .buf 8 2, .buf 9 3, .int .i64, .int .i64, .int .i64, .int .i64, .int .i64, .int .i64, .int .i64, .int .i64, .int .i64, .int .i64, .buf 10 2, .buf 11 2, .buf 12 2], .recs [.int .i64, .int .i64], .recs [.int .i64, .int .i64, .int .i64], .recs [.int .i64, .int .i64], .recs [.int .i64, .int .i64], .recs [.int .i64, .int .i64], .recs [.int .i64, .int .i64], .recs [.int .i64, .int .i64, .int .i64], .recs [.int .i64, .int .i64], .recs [.int .i64, .int .i64], .recs [.int .i64, .int .i64]], 0⟩, onU F⟩
noncomputable def L13_1s (m : Nat) (k : A13_1 → Option (List Un)) : A13_1 → Option (List Un) := fun (a0, a1, a2, a3, a4, a5, a6, a7, a8, a9, a10, a11, a12, a13, a14, a15, a16) =>
  bif decide (a1 < (w64 (1 + (a2.notes.length : Int)))) then
   bif decide (a1 < 5) then
    chk (decide (0 ≤ a1)) <|
    bif decide (-2305843009213693952 ≤ 0 ∧ 0 ≤ (w64 (a0.tdiv 6)) ∧ (w64 (a0.tdiv 6)) ≤ 2305843009213693952) then
     chk (decide (0 ≤ a1)) <|
     chk (decide (0 ≤ a1)) <|
     chk (fits (a13.length + 1) 24) <|
     k (a0, (w64 (a1 + 1)), a2, a3, a4, a5, a6, a7, a8, a9, a10, a11, a12, (a13 ++ ([.r [.n (within (pickV a2.ranks a1) 0 3), .n (w64 (1 + (within (pickV a2.notes a1) 0 (w64 (a0.tdiv 6))))), .n (within (pickV a2.rates a1) 0 1200)]])), a14, a15, a16)
    else
     none
   else
    L13_2 m m (0, a2, a3, a4, a5, a6, a7, a8, a9, a10, a11, a12, a13, a14, a15, a16)
  else
   L13_2 m m (0, a2, a3, a4, a5, a6, a7, a8, a9, a10, a11, a12, a13, a14, a15, a16)
noncomputable def L13_1 (m : Nat) : Nat → A13_1 → Option (List Un) := iterA (L13_1s m)
theorem L13_1_succ (m : Nat) (n : Nat) : L13_1 m (n + 1) = L13_1s m (L13_1 m n) := rfl
noncomputable def S13_1 (F : A13_1 → Option (List Un)) : StopS := ⟨[.lp [0, 1, 0, 1, 1, 1, 1, 1, 1], .blk 2, .code [1, 1, 1, 1, 1, 1, 1]], ⟨frm 192 [(1, .ptr 0 0 0), (2, .ptr 1 0 0), (3, .ptr 2 0 0), (4, .int .i64), (7, .int .i64)], [.cells [.int .i64, .int .i64, .int .i64, .int .i64, .int .i64, .int .i64, .int .i64, .int .i64, .int .i64, .int .i64, .int .i64, .int .i64, .int .i64, .ints .i64, .ints .i64, .ints .i64, .ints .i64, .ints .i64, .ints .i64, .ints .i64], .cells [.int .i64, .int .i64, .int .i64, .buf 3 2, .buf 4 3, .int .i64, .int .i64, .int .i64, .int .i64, .int .i64, .int .i64, .int .i64, .int .i64, .int .i64, .int .i64, .buf 5 2, .buf 6 2, .buf 7 2], .cells [.int .i64, .int .i64, .int .i64, .buf 8 2, .buf 9 3, .int .i64, .int .i64, .int .i64, .int .i64, .int .i64, .int .i64, .int .i64, .int .i64, .int .i64, .int .i64, .buf 10 2, .buf 11 2, .buf 12 2], .recs [.int .i64, .int .i64], .recs [.int .i64, .int .i64, .int .i64], .recs [.int .i64, .int .i64], .recs [.int .i64, .int .i64], .recs [.int .i64, .int .i64], .recs [.int .i64, .int .i64], .recs [.int .i64, .int .i64, .int .i64], .recs [.int .i64, .int .i64], .recs [.int .i64, .int .i64], .recs [.int .i64, .int .i64]], 0⟩, onU F⟩
noncomputable def L13_0s (m : Nat) (k : A13_0 → Option (List Un)) : A13_0 → Option (List Un) := fun (a0, a1, a2, a3, a4, a5, a6, a7, a8, a9, a10, a11, a12, a13, a14, a15, a16, a17) =>
  bif decide (a2 < a1) then
   chk (inb a2 a8.length) <|
   chk (decide (a2.toNat < a8.length)) <|
   k ((w64 (a0 + ((rowD a8 a2.toNat).i 1))), a1, (w64 (a2 + 1)), a3, a4, a5, a6, a7, a8, a9, a10, a11, a12, a13, a14, a15, a16, a17)
  else
   L13_1 m m (a0, 0, a3, a4, a5, a6, a7, a9, a10, a11, a12, a13, a8, a14, a15, a16, a17)
noncomputable def L13_0 (m : Nat) : Nat → A13_0 → Option (List Un) := iterA (L13_0s m)
theorem L13_0_succ (m : Nat) (n : Nat) : L13_0 m (n + 1) = L13_0s m (L13_0 m n) := rfl
noncomputable def S13_0 (F : A13_0 → Option (List Un)) : StopS := ⟨[.lp [0, 1, 0, 1, 1, 1, 1, 1], .blk 0, .code [1, 1, 1, 1, 1, 1]], ⟨frm 192 [(1, .ptr 0 0 0), (2, .ptr 1 0 0), (3, .ptr 2 0 0), (4, .int .i64), (71, .buf 3 2), (72, .int .i64), (73, .int .i64)], [.cells [.int .i64, .int .i64, .int .i64, .int .i64, .int .i64, .int .i64, .int .i64, .int .i64, .int .i64, .int .i64, .int .i64, .int .i64, .int .i64, .ints .i64, .ints .i64, .ints .i64, .ints .i64, .ints .i64, .ints .i64, .ints .i64], .cells [.int .i64, .int .i64, .int .i64, .buf 4 2, .buf 5 3, .int .i64, .int .i64, .int .i64, .int .i64, .int .i64, .int .i64, .int .i64, .int .i64, .int .i64, .int .i64, .buf 6 2, .buf 7 2, .buf 8 2], .cells [.int .i64, .int .i64, .int .i64, .buf 3 2, .buf 9 3, .int .i64, .int .i64, .int .i64, .int .i64, .int .i64, .int .i64, .int .i64, .int .i64, .int .i64, .int .i64, .buf 10 2, .buf 11 2, .buf 12 2], .recs [.int .i64, .int .i64], .recs [.int .i64, .int .i64], .recs [.int .i64, .int .i64, .int .i64], .recs [.int .i64, .int .i64], .recs [.int .i64, .int .i64], .recs [.int .i64, .int .i64], .recs [.int .i64, .int .i64, .int .i64], .recs [.int .i64, .int .i64], .recs [.int .i64, .int .i64], .recs [.int .i64, .int .i64]], 0⟩, onU F⟩
theorem H13_4 (m : Nat) (k2 : A13_2 → Option (List Un)) (h2 : HO N13 (S13_2 k2)) (k3 : A13_3 → Option (List Un)) (h3 : HO N13 (S13_3 k3)) : ∀ n, HO N13 (S13_4 (L13_4 m k2 k3 n)) := loop_holds KN_none T45.right (fun k => [S13_3 k3, S13_4 k]) (fun k h => (all1 h3 (all1 h all0))) fun k a => by kernel_rfl
theorem H13_3 (m : Nat) (k2 : A13_2 → Option (List Un)) (h2 : HO N13 (S13_2 k2)) : ∀ n, HO N13 (S13_3 (L13_3 m k2 n)) := loop_holds KN_none T45.right (fun k => [S13_2 k2, S13_4 (L13_4 m k2 (k) m)]) (fun k h => (all1 h2 (all1 (H13_4 m _ h2 _ h m) all0))) fun k a => by kernel_rfl
theorem H13_2 (m : Nat) : ∀ n, HO N13 (S13_2 (L13_2 m n)) := loop_holds KN_none T45.right (fun k => [S13_3 (L13_3 m (k) m)]) (fun k h => (all1 (H13_3 m _ h m) all0)) fun k a => by kernel_rfl
theorem H13_1 (m : Nat) : ∀ n, HO N13 (S13_1 (L13_1 m n)) := loop_holds KN_none T45.right (fun k => [S13_1 k, S13_2 (L13_2 m m)]) (fun k h => (all1 h (all1 (H13_2 m m) all0))) fun k a => by kernel_rfl
theorem H13_0 (m : Nat) : ∀ n, HO N13 (S13_0 (L13_0 m n)) := loop_holds KN_none T45.right (fun k => [S13_0 k, S13_1 (L13_1 m m)]) (fun k h => (all1 h (all1 (H13_1 m m) all0))) fun k a => by kernel_rfl
noncomputable def t13 (m : Nat) : KDeal → Option (List Un) := fun a0 =>
  chk (fits ((loansV a0.loans).length + 1) 16) <|
  lt (((loansV a0.loans) ++ ([.r [.n 99, .n 50000]])) : List Dat) fun l11 =>
  L13_0 m m (0, (l11.length : Int), 0, a0, (⟨0, 0, 0⟩ : DealA), (⟨0, 0, 0, 0, 0, 0, 0, 0, 0, 0⟩ : DealB), (⟨(within a0.a.year 1990 2040), (within a0.a.month 1 12), (within a0.a.basis 0 2)⟩ : DealA), (⟨(within a0.b.fee 0 200), (within a0.b.reserve 0 5000), (within a0.b.target 0 500), (within a0.b.advance 0 3000), (within a0.b.cure 0 3), (within a0.b.oc 0 12000), (within a0.b.ic 0 15000), (within a0.b.late 0 5000), (within a0.b.loss 0 5000), (within a0.b.clean 0 3000)⟩ : DealB), l11, [], [], [], [], [], [], [], [], [])
section
variable (m : Nat) (k : KDeal) (za da : DealA) (zb db : DealB) (x1 x2 x3 x4 x5 x6 x7 x8 x9 : List Dat)
theorem dealL0 : ∀ (rest pre : List Dat) (n : Nat) (p : Int), rest.length < n → (∀ d ∈ rest, 0 ≤ d.i 1 ∧ d.i 1 ≤ 100000) → (pre ++ rest).length ≤ 11 → 0 ≤ p → p ≤ 100000 * pre.length →
    L13_0 m n (p, ((pre ++ rest).length : Int), (pre.length : Int), k, za, zb, da, db, pre ++ rest, x1, x2, x3, x4, x5, x6, x7, x8, x9) = L13_1 m m (p + sumI 1 rest, 0, k, za, zb, da, db, x1, x2, x3, x4, x5, pre ++ rest, x6, x7, x8, x9) := by
  intro rest
  induction rest with
  | nil =>
    intro pre n p hn hm hl h0 h1
    obtain ⟨n, rfl⟩ := one_more n (by simp at hn; omega)
    rw [L13_0_succ]; unfold L13_0s; dsimp only
    simp [cond_df, sumI]
  | cons x rest ih =>
    intro pre n p hn hm hl h0 h1
    obtain ⟨n, rfl⟩ := one_more n (by simp at hn; omega)
    simp only [List.length_cons] at hn
    rw [L13_0_succ]; unfold L13_0s; dsimp only
    have hx := hm x (by simp)
    have := ih (pre ++ [x]) n (p + x.i 1) (by omega) (fun d hd => hm d (by simp [hd])) (by simpa using hl) (by omega) (by simp; omega)
    simp only [List.length_append, List.length_cons] at hl
    simp only [sumI]
    simp (disch := omega) only [lt_eq, chk_dec, chk_tt, chk_and, chk_inb, chk_fits, chk_make, chkn_dec, cond_dt, cond_df, cond_bt, cond_bf, cond_nt, cond_nf, cond_not, cond_and, cond_or, cond_tt, cond_ff, wrap_id, min_if', max_if', List.length_append, List.length_cons, List.length_nil, List.length_replicate, List.length_set, List.length_map, List.length_range, Int.natCast_add, Int.cast_ofNat_Int, Int.toNat_natCast, Int.add_assoc, Nat.zero_add, Int.zero_add, List.append_assoc, List.cons_append, List.nil_append, rowD_mid]
    simp only [List.length_append, List.length_cons, List.length_nil, List.length_replicate, List.length_set, List.length_map, List.length_range, Int.natCast_add, Int.cast_ofNat_Int, Int.toNat_natCast, Int.add_assoc, Nat.zero_add, Int.zero_add, List.append_assoc, List.cons_append, List.nil_append] at this ⊢
    exact this
theorem dealL1 (hs : k.notes.length ≤ 140737488355328) (p : Int) (hp : 0 ≤ p) (hp2 : p ≤ 1100000) : ∀ (c i n : Nat), i + c = min 5 (1 + k.notes.length) → c < n →
    L13_1 m n (p, (i : Int), k, za, zb, da, db, x1, x2, x3, x4, x5, x6, (List.range i).map (noteV k p), x7, x8, x9) = L13_2 m m (0, k, za, zb, da, db, x1, x2, x3, x4, x5, x6, (List.range (min 5 (1 + k.notes.length))).map (noteV k p), x7, x8, x9) := by
  intro c
  induction c with
  | zero =>
    intro i n hi hn
    obtain ⟨n, rfl⟩ := one_more n (by omega)
    rw [← hi]
    rw [L13_1_succ]; unfold L13_1s; dsimp only
    by_cases h : k.notes.length + 1 < 5
    · have : ¬ (i : Int) < 1 + (k.notes.length : Int) := by omega
      simp (disch := omega) only [lt_eq, chk_dec, chk_tt, chk_and, chk_inb, chk_fits, chk_make, chkn_dec, cond_dt, cond_df, cond_bt, cond_bf, cond_nt, cond_nf, cond_not, cond_and, cond_or, cond_tt, cond_ff, wrap_id, min_if', max_if', List.length_append, List.length_cons, List.length_nil, List.length_replicate, List.length_set, List.length_map, List.length_range, Int.natCast_add, Int.cast_ofNat_Int, Int.toNat_natCast, Int.add_assoc, Nat.zero_add, Int.zero_add, List.append_assoc, List.cons_append, List.nil_append, rowD_mid]
      rfl
    · have : ¬ (i : Int) < 5 := by omega
      simp only [cond_df this, cond_same]
      rfl
  | succ c ih =>
    intro i n hi hn
    obtain ⟨n, rfl⟩ := one_more n (by omega)
    have := ih (i + 1) n (by omega) (by omega)
    rw [List.range_succ, List.map_append] at this
    rw [L13_1_succ]; unfold L13_1s; dsimp only
    have hq : 0 ≤ within (pickV k.notes i) 0 (p / 6) ∧ within (pickV k.notes i) 0 (p / 6) ≤ p / 6 := within_le (by omega)
    simp (disch := omega) only [td, wrap_id]
    simp (disch := omega) only [lt_eq, chk_dec, chk_tt, chk_and, chk_inb, chk_fits, chk_make, chkn_dec, cond_dt, cond_df, cond_bt, cond_bf, cond_nt, cond_nf, cond_not, cond_and, cond_or, cond_tt, cond_ff, wrap_id, min_if', max_if', List.length_append, List.length_cons, List.length_nil, List.length_replicate, List.length_set, List.length_map, List.length_range, Int.natCast_add, Int.cast_ofNat_Int, Int.toNat_natCast, Int.add_assoc, Nat.zero_add, Int.zero_add, List.append_assoc, List.cons_append, List.nil_append, rowD_mid]
    simp only [List.length_append, List.length_cons, List.length_nil, List.length_replicate, List.length_set, List.length_map, List.length_range, Int.natCast_add, Int.cast_ofNat_Int, Int.toNat_natCast, Int.add_assoc, Nat.zero_add, Int.zero_add, List.append_assoc, List.cons_append, List.nil_append] at this ⊢
    exact this
theorem dealL4 (x10 : List Dat) (k2 : A13_2 → Option (List Un)) (k3 : A13_3 → Option (List Un)) (mi i m2 a b : Int) : ∀ (rest pre : List Dat) (n : Nat), rest.length < n → (pre ++ rest).length ≤ 12 →
    L13_4 m k2 k3 n (mi, i, hasStep pre a b, m2, ((pre ++ rest).length : Int), (pre.length : Int), k, za, zb, da, db, pre ++ rest, a, b, x1, x2, x3, x4, x5, x6, x7, x8, x9, x10) = k3 (mi, w64 (i + 1), m2, k, za, zb, da, db, (if hasStep (pre ++ rest) a b then pre ++ rest else pre ++ rest ++ [.r [.n a, .n b]]), x1, x2, x3, x4, x5, x6, x7, x8, x9, x10) := by
  intro rest
  induction rest with
  | nil =>
    intro pre n hn hl
    obtain ⟨n, rfl⟩ := one_more n (by simp at hn; omega)
    simp only [List.append_nil] at hl ⊢
    rw [L13_4_succ]; unfold L13_4s; dsimp only
    cases h : hasStep pre a b <;> simp (disch := omega) only [lt_eq, chk_dec, chk_tt, chk_and, chk_inb, chk_fits, chk_make, chkn_dec, cond_dt, cond_df, cond_bt, cond_bf, cond_nt, cond_nf, cond_not, cond_and, cond_or, cond_tt, cond_ff, wrap_id, min_if', max_if', List.length_append, List.length_cons, List.length_nil, List.length_replicate, List.length_set, List.length_map, List.length_range, Int.natCast_add, Int.cast_ofNat_Int, Int.toNat_natCast, Int.add_assoc, Nat.zero_add, Int.zero_add, List.append_assoc, List.cons_append, List.nil_append, rowD_mid] <;> simp
  | cons x rest ih =>
    intro pre n hn hl
    obtain ⟨n, rfl⟩ := one_more n (by simp at hn; omega)
    simp only [List.length_cons, List.length_append] at hn hl
    rw [L13_4_succ]; unfold L13_4s; dsimp only
    have := ih (pre ++ [x]) n (by omega) (by simp; omega)
    rw [hasStep_snoc] at this
    cases h : hasStep pre a b <;> rw [h] at this <;> simp (disch := omega) only [lt_eq, chk_dec, chk_tt, chk_and, chk_inb, chk_fits, chk_make, chkn_dec, cond_dt, cond_df, cond_bt, cond_bf, cond_nt, cond_nf, cond_not, cond_and, cond_or, cond_tt, cond_ff, wrap_id, min_if', max_if', List.length_append, List.length_cons, List.length_nil, List.length_replicate, List.length_set, List.length_map, List.length_range, Int.natCast_add, Int.cast_ofNat_Int, Int.toNat_natCast, Int.add_assoc, Nat.zero_add, Int.zero_add, List.append_assoc, List.cons_append, List.nil_append, rowD_mid] <;> simp only [List.length_append, List.length_cons, List.length_nil, List.length_replicate, List.length_set, List.length_map, List.length_range, Int.natCast_add, Int.cast_ofNat_Int, Int.toNat_natCast, Int.add_assoc, Nat.zero_add, Int.zero_add, List.append_assoc, List.cons_append, List.nil_append] at this ⊢ <;> simpa using this
theorem dealL3 (x10 : List Dat) (k2 : A13_2 → Option (List Un)) (mi m2 : Int) (h0 : 0 ≤ mi) (h1 : mi < 3) (hm : 12 < m) (l : List Int) (hl : List.getD [k.s0, k.s1, k.s2] mi.toNat [] = l) : ∀ (rest pre : List Int) (acc : List Dat) (n : Nat), rest.length < n → l.take 12 = pre ++ rest → acc.length ≤ pre.length →
    L13_3 m k2 n (mi, (pre.length : Int), m2, k, za, zb, da, db, acc, x1, x2, x3, x4, x5, x6, x7, x8, x9, x10) =
      bif decide (mi = 0) then k2 (w64 (m2 + 1), k, za, zb, da, db, x1, x2, x3, x4, x5, x6, x7, (if (stepsF acc rest).length = 0 then stepsD else stepsF acc rest), x9, x10)
      else bif decide (mi = 1) then k2 (w64 (m2 + 1), k, za, zb, da, db, x1, x2, x3, x4, x5, x6, x7, x8, (if (stepsF acc rest).length = 0 then stepsD else stepsF acc rest), x10)
      else bif decide (mi = 2) then k2 (w64 (m2 + 1), k, za, zb, da, db, x1, x2, x3, x4, x5, x6, x7, x8, x9, (if (stepsF acc rest).length = 0 then stepsD else stepsF acc rest)) else none := by
  intro rest
  induction rest with
  | nil =>
    intro pre acc n hn hp ha
    obtain ⟨n, rfl⟩ := one_more n (by simp at hn; omega)
    have hpl : min 12 l.length = pre.length := by have := congrArg List.length hp; simpa using this
    rw [L13_3_succ]; unfold L13_3s; dsimp only
    simp only [hl, stepsF]
    by_cases hz : acc.length = 0
    · simp only [hz, if_true]
      by_cases h : l.length < 12
      · have : ¬ (pre.length : Int) < (l.length : Int) := by omega
        simp (disch := omega) only [lt_eq, chk_dec, chk_tt, chk_and, chk_inb, chk_fits, chk_make, chkn_dec, cond_dt, cond_df, cond_bt, cond_bf, cond_nt, cond_nf, cond_not, cond_and, cond_or, cond_tt, cond_ff, wrap_id, min_if', max_if', List.length_append, List.length_cons, List.length_nil, List.length_replicate, List.length_set, List.length_map, List.length_range, Int.natCast_add, Int.cast_ofNat_Int, Int.toNat_natCast, Int.add_assoc, Nat.zero_add, Int.zero_add, List.append_assoc, List.cons_append, List.nil_append, rowD_mid]
        rfl
      · have : ¬ (pre.length : Int) < 12 := by omega
        by_cases h' : (pre.length : Int) < (l.length : Int)
        · simp (disch := omega) only [lt_eq, chk_dec, chk_tt, chk_and, chk_inb, chk_fits, chk_make, chkn_dec, cond_dt, cond_df, cond_bt, cond_bf, cond_nt, cond_nf, cond_not, cond_and, cond_or, cond_tt, cond_ff, wrap_id, min_if', max_if', List.length_append, List.length_cons, List.length_nil, List.length_replicate, List.length_set, List.length_map, List.length_range, Int.natCast_add, Int.cast_ofNat_Int, Int.toNat_natCast, Int.add_assoc, Nat.zero_add, Int.zero_add, List.append_assoc, List.cons_append, List.nil_append, rowD_mid]
          rfl
        · simp (disch := omega) only [lt_eq, chk_dec, chk_tt, chk_and, chk_inb, chk_fits, chk_make, chkn_dec, cond_dt, cond_df, cond_bt, cond_bf, cond_nt, cond_nf, cond_not, cond_and, cond_or, cond_tt, cond_ff, wrap_id, min_if', max_if', List.length_append, List.length_cons, List.length_nil, List.length_replicate, List.length_set, List.length_map, List.length_range, Int.natCast_add, Int.cast_ofNat_Int, Int.toNat_natCast, Int.add_assoc, Nat.zero_add, Int.zero_add, List.append_assoc, List.cons_append, List.nil_append, rowD_mid]
          rfl
    · simp only [hz, if_false]
      by_cases h : l.length < 12
      · have : ¬ (pre.length : Int) < (l.length : Int) := by omega
        simp (disch := omega) only [lt_eq, chk_dec, chk_tt, chk_and, chk_inb, chk_fits, chk_make, chkn_dec, cond_dt, cond_df, cond_bt, cond_bf, cond_nt, cond_nf, cond_not, cond_and, cond_or, cond_tt, cond_ff, wrap_id, min_if', max_if', List.length_append, List.length_cons, List.length_nil, List.length_replicate, List.length_set, List.length_map, List.length_range, Int.natCast_add, Int.cast_ofNat_Int, Int.toNat_natCast, Int.add_assoc, Nat.zero_add, Int.zero_add, List.append_assoc, List.cons_append, List.nil_append, rowD_mid]
      · have : ¬ (pre.length : Int) < 12 := by omega
        by_cases h' : (pre.length : Int) < (l.length : Int)
        · simp (disch := omega) only [lt_eq, chk_dec, chk_tt, chk_and, chk_inb, chk_fits, chk_make, chkn_dec, cond_dt, cond_df, cond_bt, cond_bf, cond_nt, cond_nf, cond_not, cond_and, cond_or, cond_tt, cond_ff, wrap_id, min_if', max_if', List.length_append, List.length_cons, List.length_nil, List.length_replicate, List.length_set, List.length_map, List.length_range, Int.natCast_add, Int.cast_ofNat_Int, Int.toNat_natCast, Int.add_assoc, Nat.zero_add, Int.zero_add, List.append_assoc, List.cons_append, List.nil_append, rowD_mid]
        · simp (disch := omega) only [lt_eq, chk_dec, chk_tt, chk_and, chk_inb, chk_fits, chk_make, chkn_dec, cond_dt, cond_df, cond_bt, cond_bf, cond_nt, cond_nf, cond_not, cond_and, cond_or, cond_tt, cond_ff, wrap_id, min_if', max_if', List.length_append, List.length_cons, List.length_nil, List.length_replicate, List.length_set, List.length_map, List.length_range, Int.natCast_add, Int.cast_ofNat_Int, Int.toNat_natCast, Int.add_assoc, Nat.zero_add, Int.zero_add, List.append_assoc, List.cons_append, List.nil_append, rowD_mid]
  | cons x rest ih =>
    intro pre acc n hn hp ha
    obtain ⟨n, rfl⟩ := one_more n (by simp at hn; omega)
    simp only [List.length_cons] at hn
    have hpl : min 12 l.length = pre.length + (rest.length + 1) := by have := congrArg List.length hp; simpa using this
    have hx : l.getD pre.length 0 = x := by
      have : (l.take 12)[pre.length]? = some x := by rw [hp]; simp
      rw [List.getElem?_take, if_pos (by omega)] at this
      simp [this]
    have := ih (pre ++ [x]) (if hasStep acc (within x 1 7) (stepR x) then acc else acc ++ [.r [.n (within x 1 7), .n (stepR x)]]) n (by omega) (by simpa using hp) (by split <;> simp <;> omega)
    refine Eq.trans ?_ this
    have h4 := fun a b => dealL4 m k za da zb db x1 x2 x3 x4 x5 x6 x7 x8 x9 x10 k2 (L13_3 m k2 n) mi (pre.length : Int) m2 a b acc [] m (by omega) (by simp; omega)
    rw [L13_3_succ]; unfold L13_3s; dsimp only
    simp only [List.nil_append, show ∀ a b, hasStep [] a b = false from fun _ _ => rfl] at h4
    simp only [hl, Int.toNat_natCast, hx]
    have e1 : (pre.length : Int) < (l.length : Int) := by omega
    have e2 : (pre.length : Int) < 12 := by omega
    by_cases h3 : within x 1 7 = 3
    · have hr : stepR x = within (w64 (x.tdiv 7)) 0 3 := by unfold stepR; rw [if_pos h3]
      simp (disch := omega) only [lt_eq, chk_dec, chk_tt, chk_and, chk_inb, chk_fits, chk_make, chkn_dec, cond_dt, cond_df, cond_bt, cond_bf, cond_nt, cond_nf, cond_not, cond_and, cond_or, cond_tt, cond_ff, wrap_id, min_if', max_if', List.length_append, List.length_cons, List.length_nil, List.length_replicate, List.length_set, List.length_map, List.length_range, Int.natCast_add, Int.cast_ofNat_Int, Int.toNat_natCast, Int.add_assoc, Nat.zero_add, Int.zero_add, List.append_assoc, List.cons_append, List.nil_append, rowD_mid]
      refine (h4 _ _).trans ?_
      rw [hr, wrap_id (by omega) (by omega)]
    · have hr : stepR x = 0 := by unfold stepR; rw [if_neg h3]
      simp (disch := omega) only [lt_eq, chk_dec, chk_tt, chk_and, chk_inb, chk_fits, chk_make, chkn_dec, cond_dt, cond_df, cond_bt, cond_bf, cond_nt, cond_nf, cond_not, cond_and, cond_or, cond_tt, cond_ff, wrap_id, min_if', max_if', List.length_append, List.length_cons, List.length_nil, List.length_replicate, List.length_set, List.length_map, List.length_range, Int.natCast_add, Int.cast_ofNat_Int, Int.toNat_natCast, Int.add_assoc, Nat.zero_add, Int.zero_add, List.append_assoc, List.cons_append, List.nil_append, rowD_mid]
      refine (h4 _ _).trans ?_
      rw [hr, wrap_id (by omega) (by omega)]
end
noncomputable def f13 : KDeal → Bool × List Un := fun a0 => (decide (a0.notes.length ≤ 140737488355328), Uns.enc (((dealV a0).a) : DealA) ++ Uns.enc (((dealV a0).b) : DealB) ++ [.d ((dealV a0).loans), .d ((dealV a0).notes), .d ((dealV a0).s0), .d ((dealV a0).s1), .d ((dealV a0).s2)])
set_option maxHeartbeats 1000000 in
theorem spec13 (a0 : KDeal) (hc : (decide (a0.notes.length ≤ 140737488355328)) = true) : ∃ m, t13 m a0 = some (Uns.enc (((dealV a0).a) : DealA) ++ Uns.enc (((dealV a0).b) : DealB) ++ [.d ((dealV a0).loans), .d ((dealV a0).notes), .d ((dealV a0).s0), .d ((dealV a0).s1), .d ((dealV a0).s2)]) := by
  have hs := of_decide_eq_true hc
  refine ⟨20, ?_⟩
  unfold t13
  have h1 := kLoans_len a0
  have h2 := kPool_le a0
  dsimp only [lt]
  change chk (fits ((loansV a0.loans).length + 1) 16) (L13_0 20 20 (0, ((kLoans a0).length : Int), 0, a0, _, _, _, _, kLoans a0, [], [], [], [], [], [], [], [], [])) = _
  rw [chk_fits (by simp [kLoans] at h1; omega) (by simp [kLoans] at h1; omega)]
  have e0 := dealL0 20 a0 ⟨0, 0, 0⟩ ⟨within a0.a.year 1990 2040, within a0.a.month 1 12, within a0.a.basis 0 2⟩ ⟨0, 0, 0, 0, 0, 0, 0, 0, 0, 0⟩ (dealV a0).b [] [] [] [] [] [] [] [] [] (kLoans a0) [] 20 0 (by omega) (kLoans_mem a0) h1 (by omega) (by simp)
  have e1 := dealL1 20 a0 ⟨0, 0, 0⟩ ⟨within a0.a.year 1990 2040, within a0.a.month 1 12, within a0.a.basis 0 2⟩ ⟨0, 0, 0, 0, 0, 0, 0, 0, 0, 0⟩ (dealV a0).b [] [] [] [] [] (kLoans a0) [] [] [] hs (kPool a0) (by omega) (by omega) (min 5 (1 + a0.notes.length)) 0 20 (by omega) (by omega)
  have e3 := fun k2 mi m2 g0 g1 l hl l8 l9 l10 => dealL3 20 a0 ⟨0, 0, 0⟩ ⟨within a0.a.year 1990 2040, within a0.a.month 1 12, within a0.a.basis 0 2⟩ ⟨0, 0, 0, 0, 0, 0, 0, 0, 0, 0⟩ (dealV a0).b [] [] [] [] [] (kLoans a0) (kNotes a0) l8 l9 l10 k2 mi m2 g0 g1 (by omega) l hl (l.take 12) [] [] 20 (by simp; omega) rfl (by simp)
  simp only [List.nil_append, Int.zero_add] at e0
  refine e0.trans (e1.trans ?_)
  have q1 : ∀ {α : Type} (u v w : α), (bif decide ((0 : Int) = 0) then u else bif decide ((0 : Int) = 1) then v else w) = u := fun _ _ _ => rfl
  have q2 : ∀ {α : Type} (u v w : α), (bif decide ((1 : Int) = 0) then u else bif decide ((1 : Int) = 1) then v else w) = v := fun _ _ _ => rfl
  have q3 : ∀ {α : Type} (u v w x : α), (bif decide ((2 : Int) = 0) then u else bif decide ((2 : Int) = 1) then v else bif decide ((2 : Int) = 2) then w else x) = w := fun _ _ _ _ => rfl
  have w1 : w64 (0 + 1) = 1 := by decide
  have w2 : w64 (1 + 1) = 2 := by decide
  have w3 : w64 (2 + 1) = 3 := by decide
  rw [show L13_2 20 20 = L13_2 20 (16 + 4) from rfl, L13_2_succ]
  unfold L13_2s
  dsimp only
  rw [cond_dt (by decide)]
  refine (e3 _ 0 0 (by decide) (by decide) a0.s0 rfl [] [] []).trans ?_
  rw [q1, w1, L13_2_succ]
  unfold L13_2s
  dsimp only
  rw [cond_dt (by decide)]
  refine (e3 _ 1 1 (by decide) (by decide) a0.s1 rfl _ [] []).trans ?_
  rw [q2, w2, L13_2_succ]
  unfold L13_2s
  dsimp only
  rw [cond_dt (by decide)]
  refine (e3 _ 2 2 (by decide) (by decide) a0.s2 rfl _ _ []).trans ?_
  rw [q3, w3, L13_2_succ]
  unfold L13_2s
  dsimp only
  rw [cond_df (by decide)]
  rfl
theorem right13 : ER 13 (mkE N13.en N13.ex f13) := right_of KN_none T45.right (fun m => [S13_0 (L13_0 m m)]) (t := t13) (by kernel_rfl) (fun m => (all1 (H13_0 m m) all0)) (fun m a => by kernel_rfl) fun a0 hc => spec13 a0 hc
noncomputable def T13 : Tb Try.prog LQ TE := T45.add 13 _ right13

end Go.Proofs.Ytoiijpphfckdjaa
