/- A part of the walk. -/
import Derived.Test.YtoiijpphfckdjaaPool
namespace Go.Proofs.Ytoiijpphfckdjaa
open Go Go.Proofs.Ytoiijpphfckdjaa.Ev
set_option linter.unusedVariables false
set_option linter.unusedSimpArgs false
set_option linter.unnecessarySimpa false
theorem numsLen (n : TrustN) (pool notes : List Dat) : (numbersV n pool notes).length = 10 + 5 * pool.length + 3 * notes.length := by
  have e1 : ∀ l : List Dat, (l.flatMap loanQ).length = 5 * l.length := by
    intro l; induction l with
    | nil => rfl
    | cons x l ih => simp only [List.flatMap_cons, List.length_append, ih, List.length_cons]; simp [loanQ]; omega
  have e2 : ∀ l : List Dat, (l.flatMap noteQ).length = 3 * l.length := by
    intro l; induction l with
    | nil => rfl
    | cons x l ih => simp only [List.flatMap_cons, List.length_append, ih, List.length_cons]; simp [noteQ]; omega
  unfold numbersV
  simp only [List.length_append, e1, e2, List.length_cons, List.length_nil]
theorem nums_first {a d : TrustN} {b c e f : List Dat} (h : a.period ≠ d.period) : sameI (numbersV a b c) (numbersV d e f) = false := by
  unfold numbersV
  simp only [List.cons_append, sameI, beq_f h, Bool.false_and]
theorem sumI_set (i : Nat) (y : Dat) : ∀ (l : List Dat) (j : Nat), j < l.length → sumI i (l.set j y) = sumI i l - (rowD l j).i i + y.i i
  | [], j, h => by simp at h
  | d :: l, 0, h => by simp only [List.set_cons_zero, sumI, rowD, List.getD_cons_zero]; omega
  | d :: l, j + 1, h => by
    have := sumI_set i y l j (by simpa using h)
    simp only [rowD] at this
    simp only [List.set_cons_succ, sumI, rowD, List.getD_cons_succ, this]
    omega
theorem rowD_set {l : List Dat} {j : Nat} {y : Dat} (h : j < l.length) : rowD (l.set j y) j = y := by
  unfold rowD
  rw [List.getD_eq_getElem?_getD, List.getElem?_set_self h]
  rfl
theorem trN_56 : ∀ l : List Dat, sumI 5 (l.map noteN) = 0 ∧ sumI 6 (l.map noteN) = 0
  | [] => ⟨rfl, rfl⟩
  | d :: l => by
    obtain ⟨h1, h2⟩ := trN_56 l
    simp only [List.map_cons, sumI, h1, h2, noteN, fld_i5, fld_i6]
    decide
theorem copies_notes {T : List Dat} {j : Nat} (hj : j < T.length) (hT : ∀ d ∈ T, noteG d = true) (h5 : sumI 5 T = 0) (h6 : sumI 6 T = 0) (hr5 : (rowD T j).i 5 = 0) (hr6 : (rowD T j).i 6 = 0) {p w o : Int} (hp : 0 ≤ p ∧ p ≤ 9000) (hw : 0 ≤ w ∧ w ≤ 9000) (ho : 0 ≤ o ∧ o ≤ 9000) :
    noteG (rowD T j) = true ∧ noteG (payD p (rowD T j)) = true ∧ noteG (writeD w (payD p (rowD T j))) = true ∧ (∀ d ∈ T.set j (oweD o (writeD w (payD p (rowD T j)))), noteG d = true) ∧
    sumF balD (T.set j (oweD o (writeD w (payD p (rowD T j))))) = sumF balD T - payV p (rowD T j) - payV w (payD p (rowD T j)) ∧ sumI 5 (T.set j (oweD o (writeD w (payD p (rowD T j))))) = o ∧
    sumI 6 (T.set j (oweD o (writeD w (payD p (rowD T j))))) = payV w (payD p (rowD T j)) ∧ sumF unD (T.set j (oweD o (writeD w (payD p (rowD T j))))) = sumF balD T - payV p (rowD T j) ∧
    (0 ≤ payV p (rowD T j) ∧ payV p (rowD T j) ≤ 9000) ∧ (0 ≤ payV w (payD p (rowD T j)) ∧ payV w (payD p (rowD T j)) ≤ 9000) := by
  have g0 := hT _ (rowD_mem hj)
  have g1 := noteG_pay p g0
  have g2 := noteG_write w g1
  have hz : (writeD w (payD p (rowD T j))).i 5 = 0 := hr5
  have g3 : noteG (oweD o (writeD w (payD p (rowD T j)))) = true := by
    have := noteG_at g2
    refine decide_eq_true ?_
    generalize writeD w (payD p (rowD T j)) = d at *
    simp only [oweD, fld_i1, fld_i3, fld_i4, fld_i5, fld_i6]
    omega
  have hall := all_set (p := fun d => noteG d = true) (j := j) hT g3
  have s1 : sumF balD (T.set j (oweD o (writeD w (payD p (rowD T j))))) = sumF balD T - payV p (rowD T j) - payV w (payD p (rowD T j)) := by
    rw [sumF_set _ _ _ _ hj]
    have e1 : balD (oweD o (writeD w (payD p (rowD T j)))) = balD (payD p (rowD T j)) - payV w (payD p (rowD T j)) := by
      generalize payD p (rowD T j) = d
      simp only [balD, oweD, writeD, fld_i1, fld_i3, fld_i4, fld_i6]; omega
    rw [e1, balD_pay]; omega
  have s5 : sumI 5 (T.set j (oweD o (writeD w (payD p (rowD T j))))) = o := by
    rw [sumI_set _ _ _ _ hj, h5, hr5]
    have : (oweD o (writeD w (payD p (rowD T j)))).i 5 = (writeD w (payD p (rowD T j))).i 5 + o := by simp only [oweD, fld_i5]
    omega
  have s6 : sumI 6 (T.set j (oweD o (writeD w (payD p (rowD T j))))) = payV w (payD p (rowD T j)) := by
    rw [sumI_set _ _ _ _ hj, h6, hr6]
    have : (oweD o (writeD w (payD p (rowD T j)))).i 6 = (rowD T j).i 6 + payV w (payD p (rowD T j)) := by
      generalize hd : rowD T j = d
      have e : (payD p d).i 6 = d.i 6 := by simp only [payD, fld_i6]
      simp only [oweD, writeD, fld_i6, e]
    omega
  have hs := sums_le _ hall
  refine ⟨g0, g1, g2, hall, s1, s5, s6, by omega, ?_, ?_⟩
  · unfold payV; omega
  · unfold payV; omega
def RTrustCopies : List Par := [(true, [.int .i64, .int .i64, .int .i64, .int .i64, .int .i64, .int .i64, .int .i64, .int .i64, .int .i64, .int .i64, .int .i64, .int .i64, .int .i64, .ints .i64, .ints .i64, .ints .i64, .ints .i64, .ints .i64, .ints .i64, .ints .i64]), (false, [.int .i64]), (false, [.int .i64]), (false, [.int .i64]), (false, [.int .i64]), (true, [.ints .i64, .ints .i64, .ints .i64, .ints .i64, .ints .i64, .ints .i64])]
/-! cascade/cascadelaw20.TrustCopies -/
noncomputable def N7 : RoadF := ⟨T32.tab, 7, ⟨List.map Par.vp RTrustCopies, [], 0⟩, ⟨[.bool], [], 0⟩, []⟩
noncomputable def t7 (m : Nat) : KDeal × Int × Int × Int × Int × List Int × List Int × List Int × List Int × List Int × List Int → Option (List Un) := fun (a0, a1, a2, a3, a4, a5, a6, a7, a8, a9, a10) =>
  chk (decide (a0.notes.length ≤ 140737488355328)) <|
  chk (decide ((dealV a0).loans.length < 1000000 ∧ (dealV a0).notes.length < 1000000 ∧ (dealV a0).s0.length < 1000000 ∧ (dealV a0).s1.length < 1000000 ∧ (dealV a0).s2.length < 1000000)) <|
  lt (((if (sumsW (dealV a0)).isSome then 0 else -1) : Int) : Int) fun x1 =>
  bif ((decide (x1 < 0)) && true) then
   some ([.b false])
  else
   bif ((if (sumsW (dealV a0)).isSome then 0 else 2) : Int) != 0 then
    some ([.b false])
   else
    chk (decide (0 ≤ x1)) <|
    chk (decide (0 ≤ x1)) <|
    bif ((((newW (dealV a0)).tr).length : Int) != (((dealV a0).notes).length : Int)) then
     some ([.b false])
    else
     chk (decide (0 ≤ x1)) <|
     bif ((((newW (dealV a0)).notes).length : Int) != (((dealV a0).notes).length : Int)) then
      some ([.b false])
     else
      chk (decide (0 ≤ x1) && decide (((newW (dealV a0)).loans).length < 1000000 ∧ ((newW (dealV a0)).notes).length < 1000000 ∧ ((newW (dealV a0)).s0).length < 1000000 ∧ ((newW (dealV a0)).s1).length < 1000000 ∧ ((newW (dealV a0)).s2).length < 1000000 ∧ ((newW (dealV a0)).pool).length < 1000000 ∧ ((newW (dealV a0)).tr).length < 1000000)) <|
      chk (decide (0 ≤ x1) && decide (((newW (dealV a0)).pool).length < 1000000 ∧ ((newW (dealV a0)).tr).length < 1000000)) <|
      lt ((numbersV ((newW (dealV a0)).n) ((newW (dealV a0)).pool) ((newW (dealV a0)).tr)) : List Int) fun l6 =>
      chk (decide (0 ≤ x1)) <|
      lt ((w64 ((((newW (dealV a0)).tr).length : Int) - 1)) : Int) fun x7 =>
      bif decide (-2305843009213693952 ≤ 0 ∧ 0 ≤ x7 ∧ x7 ≤ 2305843009213693952) then
       chk (decide (0 ≤ x1)) <|
       chk (inb (within a1 0 x7) (((newW (dealV a0)).tr).length)) <|
       chk (decide (0 ≤ ((within a1 0 x7).toNat : Int) ∧ ((within a1 0 x7).toNat : Int).toNat < ((newW (dealV a0)).tr).length) && noteG (rowD ((newW (dealV a0)).tr) ((within a1 0 x7).toNat : Int).toNat)) <|
       lt ((payV (within a2 0 9000) (rowD ((newW (dealV a0)).tr) ((within a1 0 x7).toNat : Int).toNat)) : Int) fun x8 =>
       lt ((((newW (dealV a0)).tr).set ((within a1 0 x7).toNat : Int).toNat (payD (within a2 0 9000) (rowD ((newW (dealV a0)).tr) ((within a1 0 x7).toNat : Int).toNat))) : List Dat) fun l9 =>
       chk (decide (0 ≤ x1)) <|
       chk (inb (within a1 0 x7) l9.length) <|
       chk (decide (0 ≤ ((within a1 0 x7).toNat : Int) ∧ ((within a1 0 x7).toNat : Int).toNat < l9.length) && noteG (rowD l9 ((within a1 0 x7).toNat : Int).toNat)) <|
       lt ((payV (within a3 0 9000) (rowD l9 ((within a1 0 x7).toNat : Int).toNat)) : Int) fun x10 =>
       lt ((l9.set ((within a1 0 x7).toNat : Int).toNat (writeD (within a3 0 9000) (rowD l9 ((within a1 0 x7).toNat : Int).toNat))) : List Dat) fun l11 =>
       chk (decide (0 ≤ x1)) <|
       chk (inb (within a1 0 x7) l11.length) <|
       chk (decide (0 ≤ (within a4 0 9000) ∧ (within a4 0 9000) ≤ 1125899906842624) && (decide (0 ≤ ((within a1 0 x7).toNat : Int) ∧ ((within a1 0 x7).toNat : Int).toNat < l11.length) && noteG (rowD l11 ((within a1 0 x7).toNat : Int).toNat))) <|
       lt ((l11.set ((within a1 0 x7).toNat : Int).toNat (oweD (within a4 0 9000) (rowD l11 ((within a1 0 x7).toNat : Int).toNat))) : List Dat) fun l12 =>
       chk (decide (0 ≤ x1)) <|
       lt (((newW (dealV a0)).n).period : Int) fun x13 =>
       chk (decide (0 ≤ x1)) <|
       chk (decide (0 ≤ x1)) <|
       chk (decide (0 ≤ 0) && decide ((0 : Int) ≤ ({ ((newW (dealV a0)).n) with period := (w64 (x13 + 1)) } : TrustN).rin ∧ (0 : Int) ≤ 5 ∧ ({ ((newW (dealV a0)).n) with period := (w64 (x13 + 1)) } : TrustN).rin + 5 ≤ (1152921504606846976 : Int))) <|
       lt (({ ({ ((newW (dealV a0)).n) with period := (w64 (x13 + 1)) } : TrustN) with rin := ({ ((newW (dealV a0)).n) with period := (w64 (x13 + 1)) } : TrustN).rin + 5 }) : TrustN) fun g14 =>
       chk (decide (0 ≤ x1)) <|
       chk (inb 0 (((newW (dealV a0)).notes).length)) <|
       chk (decide (0 < ((newW (dealV a0)).notes).length)) <|
       chk (inb 0 (((newW (dealV a0)).notes).length)) <|
       chk (decide (0 < ((newW (dealV a0)).notes).length)) <|
       chk (decide (0 ≤ x1)) <|
       chk (decide (((dealV a0).loans).length < 1000000) && (((dealV a0).loans).all (fun d => decide (d.i 1 ≤ 1152921504606846976)) && ([] : List Int).all fun y => decide (y ≤ 2305843009213693952))) <|
       lt ((ofL a5 a6 a7 a8 a9 a10 ([] : List Int) 0 ((dealV a0).loans)) : List Dat) fun l18 =>
       chk (decide (((newW (dealV a0)).pool).length < 1000000)) <|
       chk (decide (0 ≤ x1) && (decide (l12.length ≤ 1000) && l12.all noteG)) <|
       lt ((((sumsW (dealV a0)).getD (0, 0)).2) : Int) fun x19 =>
       bif (sumF balD l12) != (w64 ((w64 (x19 - x8)) - x10)) then
        some ([.b false])
       else
        bif ((sumI 5 l12) != (within a4 0 9000)) then
         some ([.b false])
        else
         bif (sumI 6 l12) != x10 then
          some ([.b false])
         else
          bif ((sumF unD l12) != (w64 (x19 - x8))) then
           some ([.b false])
          else
           chk (decide (0 ≤ x1)) <|
           lt (((newW (dealV a0)).a).year : Int) fun x23 =>
           chk (decide (0 ≤ x1)) <|
           lt (((newW (dealV a0)).a).month : Int) fun x24 =>
           chk (decide (0 ≤ x1)) <|
           chk (decide (0 ≤ x1)) <|
           chk (decide (0 ≤ 0) && decide (((newW (dealV a0)).pool).length < 1000000 ∧ ((newW (dealV a0)).tr).length < 1000000)) <|
           lt ((numbersV ((newW (dealV a0)).n) ((newW (dealV a0)).pool) ((newW (dealV a0)).tr)) : List Int) fun l31 =>
           chk (decide (l31.length < 1099511627776)) <|
           bif (sameI l31 l6) then
            chk (decide ((⟨(newW (dealV a0)).a, (newW (dealV a0)).loans, (newW (dealV a0)).notes, (newW (dealV a0)).b, (newW (dealV a0)).s0, (newW (dealV a0)).s1, (newW (dealV a0)).s2⟩ : ADeal).loans.length < 1000000 ∧ (⟨(newW (dealV a0)).a, (newW (dealV a0)).loans, (newW (dealV a0)).notes, (newW (dealV a0)).b, (newW (dealV a0)).s0, (newW (dealV a0)).s1, (newW (dealV a0)).s2⟩ : ADeal).notes.length < 1000000 ∧ (⟨(newW (dealV a0)).a, (newW (dealV a0)).loans, (newW (dealV a0)).notes, (newW (dealV a0)).b, (newW (dealV a0)).s0, (newW (dealV a0)).s1, (newW (dealV a0)).s2⟩ : ADeal).s0.length < 1000000 ∧ (⟨(newW (dealV a0)).a, (newW (dealV a0)).loans, (newW (dealV a0)).notes, (newW (dealV a0)).b, (newW (dealV a0)).s0, (newW (dealV a0)).s1, (newW (dealV a0)).s2⟩ : ADeal).s1.length < 1000000 ∧ (⟨(newW (dealV a0)).a, (newW (dealV a0)).loans, (newW (dealV a0)).notes, (newW (dealV a0)).b, (newW (dealV a0)).s0, (newW (dealV a0)).s1, (newW (dealV a0)).s2⟩ : ADeal).s2.length < 1000000)) <|
            bif (dealsV (⟨(newW (dealV a0)).a, (newW (dealV a0)).loans, (newW (dealV a0)).notes, (newW (dealV a0)).b, (newW (dealV a0)).s0, (newW (dealV a0)).s1, (newW (dealV a0)).s2⟩ : ADeal) (dealV a0)) then
             bif (((shiftY x23 x24 1 g14.period) == (shiftY (((dealV a0).a).year) (((dealV a0).a).month) 1 1)) && (((shiftM x23 x24 1 g14.period) == (shiftM (((dealV a0).a).year) (((dealV a0).a).month) 1 1)) && (((shiftD x23 x24 1 g14.period) == (shiftD (((dealV a0).a).year) (((dealV a0).a).month) 1 1)) && true))) then
              bif (((shiftY x23 x24 1 (w64 (g14.period + 1))) == (shiftY (((dealV a0).a).year) (((dealV a0).a).month) 1 2)) && (((shiftM x23 x24 1 (w64 (g14.period + 1))) == (shiftM (((dealV a0).a).year) (((dealV a0).a).month) 1 2)) && (((shiftD x23 x24 1 (w64 (g14.period + 1))) == (shiftD (((dealV a0).a).year) (((dealV a0).a).month) 1 2)) && true))) then
               chk (decide (0 ≤ x1) && decide (((applyV l18 ((newW (dealV a0)).pool)).pool).length < 1000000 ∧ l12.length < 1000000)) <|
               lt ((numbersV g14 ((applyV l18 ((newW (dealV a0)).pool)).pool) l12) : List Int) fun l41 =>
               chk (decide (l41.length < 1099511627776)) <|
               bif !(sameI l41 l6) then
                chk (decide (a0.notes.length ≤ 140737488355328)) <|
                chk (decide ((dealV a0).loans.length < 1000000 ∧ (dealV a0).notes.length < 1000000 ∧ (dealV a0).s0.length < 1000000 ∧ (dealV a0).s1.length < 1000000 ∧ (dealV a0).s2.length < 1000000)) <|
                bif (dealsV (dealV a0) (dealV a0)) then
                 some ([.b true])
                else
                 some ([.b false])
               else
                some ([.b false])
              else
               some ([.b false])
             else
              some ([.b false])
            else
             some ([.b false])
           else
            some ([.b false])
      else
       none
set_option maxHeartbeats 4000000 in
theorem spec7 (b0 : Int) (wb0 : (Lit.int .i64 b0).wf = true) (b1 : Int) (wb1 : (Lit.int .i64 b1).wf = true) (b2 : Int) (wb2 : (Lit.int .i64 b2).wf = true) (b3 : Int) (wb3 : (Lit.int .i64 b3).wf = true) (b4 : Int) (wb4 : (Lit.int .i64 b4).wf = true) (b5 : Int) (wb5 : (Lit.int .i64 b5).wf = true) (b6 : Int) (wb6 : (Lit.int .i64 b6).wf = true) (b7 : Int) (wb7 : (Lit.int .i64 b7).wf = true) (b8 : Int) (wb8 : (Lit.int .i64 b8).wf = true) (b9 : Int) (wb9 : (Lit.int .i64 b9).wf = true) (b10 : Int) (wb10 : (Lit.int .i64 b10).wf = true) (b11 : Int) (wb11 : (Lit.int .i64 b11).wf = true) (b12 : Int) (wb12 : (Lit.int .i64 b12).wf = true) (b13 : List Int) (wb13 : b13.length ≤ 140737488355328 ∧ ∀ x ∈ b13, (Lit.int .i64 x).wf = true) (b14 : List Int) (wb14 : b14.length ≤ 140737488355328 ∧ ∀ x ∈ b14, (Lit.int .i64 x).wf = true) (b15 : List Int) (wb15 : b15.length ≤ 140737488355328 ∧ ∀ x ∈ b15, (Lit.int .i64 x).wf = true) (b16 : List Int) (wb16 : b16.length ≤ 140737488355328 ∧ ∀ x ∈ b16, (Lit.int .i64 x).wf = true) (b17 : List Int) (wb17 : b17.length ≤ 140737488355328 ∧ ∀ x ∈ b17, (Lit.int .i64 x).wf = true) (b18 : List Int) (wb18 : b18.length ≤ 140737488355328 ∧ ∀ x ∈ b18, (Lit.int .i64 x).wf = true) (b19 : List Int) (wb19 : b19.length ≤ 140737488355328 ∧ ∀ x ∈ b19, (Lit.int .i64 x).wf = true) (b20 : Int) (wb20 : (Lit.int .i64 b20).wf = true) (b21 : Int) (wb21 : (Lit.int .i64 b21).wf = true) (b22 : Int) (wb22 : (Lit.int .i64 b22).wf = true) (b23 : Int) (wb23 : (Lit.int .i64 b23).wf = true) (b24 : List Int) (wb24 : b24.length ≤ 140737488355328 ∧ ∀ x ∈ b24, (Lit.int .i64 x).wf = true) (b25 : List Int) (wb25 : b25.length ≤ 140737488355328 ∧ ∀ x ∈ b25, (Lit.int .i64 x).wf = true) (b26 : List Int) (wb26 : b26.length ≤ 140737488355328 ∧ ∀ x ∈ b26, (Lit.int .i64 x).wf = true) (b27 : List Int) (wb27 : b27.length ≤ 140737488355328 ∧ ∀ x ∈ b27, (Lit.int .i64 x).wf = true) (b28 : List Int) (wb28 : b28.length ≤ 140737488355328 ∧ ∀ x ∈ b28, (Lit.int .i64 x).wf = true) (b29 : List Int) (wb29 : b29.length ≤ 140737488355328 ∧ ∀ x ∈ b29, (Lit.int .i64 x).wf = true) : ∃ m, t7 m ((⟨(⟨b0, b1, b2⟩ : DealA), (⟨b3, b4, b5, b6, b7, b8, b9, b10, b11, b12⟩ : DealB), b13, b14, b15, b16, b17, b18, b19⟩ : KDeal), b20, b21, b22, b23, b24, b25, b26, b27, b28, b29) = some [.b true] := by
  have hn : (⟨⟨b0, b1, b2⟩, ⟨b3, b4, b5, b6, b7, b8, b9, b10, b11, b12⟩, b13, b14, b15, b16, b17, b18, b19⟩ : KDeal).notes.length ≤ 140737488355328 := wb14.1
  generalize (⟨⟨b0, b1, b2⟩, ⟨b3, b4, b5, b6, b7, b8, b9, b10, b11, b12⟩, b13, b14, b15, b16, b17, b18, b19⟩ : KDeal) = k at hn
  have hr := dealV_right k
  have hl := kNotes_len k
  have hp := kPool_le k
  have hw : newW (dealV k) = trustV (dealV k) := by simp only [newW, hr, Option.isSome_some, if_true]
  have hd : (⟨(trustV (dealV k)).a, (trustV (dealV k)).loans, (trustV (dealV k)).notes, (trustV (dealV k)).b, (trustV (dealV k)).s0, (trustV (dealV k)).s1, (trustV (dealV k)).s2⟩ : ADeal) = dealV k := rfl
  have hsh := dealV_short k
  have htm := kTerms k
  simp only [termsV, Bool.and_eq_true, decide_eq_true_eq] at htm
  refine ⟨0, ?_⟩
  unfold t7
  dsimp only
  rw [chk_dec hn, chk_dec (dealV_short k)]
  have hT1 := trN_mem k
  have hT2 : (trustV (dealV k)).tr.length = (dealV k).notes.length := by simp [trustV]
  have hT0 : (dealV k).notes.length = (kNotes k).length := rfl
  have hT3 : sumF balD (trustV (dealV k)).tr = sumI 1 (kNotes k) := trN_bal _
  obtain ⟨hT5, hT6⟩ : sumI 5 (trustV (dealV k)).tr = 0 ∧ sumI 6 (trustV (dealV k)).tr = 0 := trN_56 _
  have hZ : ∀ d ∈ (trustV (dealV k)).tr, d.i 5 = 0 ∧ d.i 6 = 0 := by
    intro d hd
    obtain ⟨x, _, rfl⟩ := List.mem_map.1 (show d ∈ (dealV k).notes.map noteN from hd)
    simp only [noteN, fld_i5, fld_i6, and_self]
  have hQ2 : (trustV (dealV k)).pool.length ≤ 11 := by have := kLoans_len k; simpa [trustV, dealV] using this
  have hLL : (dealV k).loans.all (fun d => decide (d.i 1 ≤ 1152921504606846976)) = true := List.all_eq_true.2 fun d hd => decide_eq_true (by have := kLoans_mem k d hd; omega)
  have hF : (trustV (dealV k)).loans.length < 1000000 ∧ (trustV (dealV k)).notes.length < 1000000 ∧ (trustV (dealV k)).s0.length < 1000000 ∧ (trustV (dealV k)).s1.length < 1000000 ∧ (trustV (dealV k)).s2.length < 1000000 := hsh
  have hN : (trustV (dealV k)).notes.length = (dealV k).notes.length := rfl
  simp only [hr, hw, hd, Option.isSome_some, if_true, lt_eq, Option.getD_some, Bool.and_true]
  simp only [show (trustV (dealV k)).n.period = 0 from rfl, show (trustV (dealV k)).n.rin = (dealV k).b.reserve from rfl, show (trustV (dealV k)).a = (dealV k).a from rfl]
  have hsum := sums_le _ hT1
  have hb := within_le (a := b20) (show (0 : Int) ≤ ((trustV (dealV k)).tr.length : Int) - 1 by omega)
  have h2 := within_le (a := b21) (show (0 : Int) ≤ 9000 by decide)
  have h3 := within_le (a := b22) (show (0 : Int) ≤ 9000 by decide)
  have h4 := within_le (a := b23) (show (0 : Int) ≤ 9000 by decide)
  rw [show w64 (((trustV (dealV k)).tr.length : Int) - 1) = ((trustV (dealV k)).tr.length : Int) - 1 by rw [wrap_id (by omega) (by omega)]]
  generalize within b20 0 (((trustV (dealV k)).tr.length : Int) - 1) = i at *
  obtain ⟨j, rfl⟩ : ∃ j : Nat, i = (j : Int) := ⟨i.toNat, by omega⟩
  have hj : j < (trustV (dealV k)).tr.length := by omega
  obtain ⟨z5, z6⟩ := hZ _ (rowD_mem hj)
  simp only [Int.toNat_natCast]
  generalize within b21 0 9000 = p at *
  generalize within b22 0 9000 = w at *
  generalize within b23 0 9000 = o at *
  obtain ⟨c0, c1, c2, c3, c4, c5, c6, c7, c8, c9⟩ := copies_notes hj hT1 hT5 hT6 z5 z6 h2 h3 h4
  generalize (trustV (dealV k)).tr = T at *
  generalize (trustV (dealV k)).pool = Q at *
  simp only [rowD_set hj, rowD_set (show j < (T.set j (payD p (rowD T j))).length by rw [List.length_set]; exact hj), List.set_set, List.length_set]
  have hA := applyV_len (ofL b24 b25 b26 b27 b28 b29 [] 0 (dealV k).loans) Q
  have hnum : ∀ (n n' : TrustN) (a b c d : List Dat), n.period ≠ n'.period → sameI (numbersV n a b) (numbersV n' c d) = false := fun n n' a b c d h => nums_first h
  have e0 : (true && true) = true := rfl
  have e1 : ([] : List Int).all (fun y => decide (y ≤ 2305843009213693952)) = true := rfl
  have e2 : (T.set j (oweD o (writeD w (payD p (rowD T j))))).all noteG = true := List.all_eq_true.2 c3
  have e3 : decide ((0 : Int) ≤ 0) = true := rfl
  have e4 : w64 (0 + 1) = (1 : Int) := by decide
  have e5 : w64 (1 + 1) = (2 : Int) := by decide
  have hTl : T.length ≤ 5 := by omega
  have hC1 : (dealV k).loans.length < 1000000 := hsh.1
  simp only [c0, c1, c2, e1, e2, e3, e4, e5, hLL, Bool.and_self, Bool.and_true, Bool.true_and, chk_tt, dealsV_refl, sameI_refl, beq_self_eq_true, cond_tt, Int.zero_add]
  have e6 : w64 1 = (1 : Int) := by decide
  simp only [e6, e5, beq_self_eq_true, Bool.and_self, cond_tt]
  have hs : ∀ n' : TrustN, n'.period = 1 → ∀ a b, sameI (numbersV n' a b) (numbersV (trustV (dealV k)).n Q T) = false := fun n' h a b => nums_first (by rw [h]; show (1 : Int) ≠ 0; decide)
  rw [hs _ rfl]
  have hN2 : (trustV (dealV k)).notes.length = (kNotes k).length := rfl
  obtain ⟨f1, f2, f3, f4, f5⟩ := hF
  obtain ⟨f6, f7, f8, f9, f10⟩ := hsh
  simp (disch := omega) only [cond_df, cond_dt, cond_bt, cond_bf, cond_nf, chk_dec, chk_inb, chk_and, wrap_id, chk_tt, cond_tt, cond_ff, Bool.not_false, numsLen, hA, List.length_set, c4, c5, c6, c7]
set_option maxRecDepth 20000 in
theorem walkTrustCopies {HH : Type} {enc : TypeId × Value → HH} {w : World} {base : Nat} {vs : List Value} {ds : List (DataW HH)} {ps : List MemPlace} (hsh : w.ShapedOpen Try.prog)
    (hd : DataW.TrodAll enc Try.prog w 0 (fun _ => true) true Try.f7.params.toList vs ds ps) {us' : List TypeId} {gs : List (DataW HH)} (hz : (DataW.weightsEach Try.prog (Try.f7.params.toList ++ us') (ds ++ gs)).all (· ≤ reachBytes) = true) (hval : ∀ (j : Nat) t v, Try.f7.params.toList[j]? = some t → vs[j]? = some v → Value.okWide Try.prog w .any base t v) :
    Calls Try.prog 7 vs.toArray w fun e w' => e = .returned (.bool true) ∧ RowKit.Below w.heap.size w w' :=
  law_args Seat.mix Seat.names TE_right (pars := RTrustCopies) (by kernel_rfl) (fun us h => by
    change WfU [.int .i64, .int .i64, .int .i64, .int .i64, .int .i64, .int .i64, .int .i64, .int .i64, .int .i64, .int .i64, .int .i64, .int .i64, .int .i64, .ints .i64, .ints .i64, .ints .i64, .ints .i64, .ints .i64, .ints .i64, .ints .i64, .int .i64, .int .i64, .int .i64, .int .i64, .ints .i64, .ints .i64, .ints .i64, .ints .i64, .ints .i64, .ints .i64] us at h
    obtain ⟨b0, u, rfl, wb0, h⟩ := wf_int h
    obtain ⟨b1, u, rfl, wb1, h⟩ := wf_int h
    obtain ⟨b2, u, rfl, wb2, h⟩ := wf_int h
    obtain ⟨b3, u, rfl, wb3, h⟩ := wf_int h
    obtain ⟨b4, u, rfl, wb4, h⟩ := wf_int h
    obtain ⟨b5, u, rfl, wb5, h⟩ := wf_int h
    obtain ⟨b6, u, rfl, wb6, h⟩ := wf_int h
    obtain ⟨b7, u, rfl, wb7, h⟩ := wf_int h
    obtain ⟨b8, u, rfl, wb8, h⟩ := wf_int h
    obtain ⟨b9, u, rfl, wb9, h⟩ := wf_int h
    obtain ⟨b10, u, rfl, wb10, h⟩ := wf_int h
    obtain ⟨b11, u, rfl, wb11, h⟩ := wf_int h
    obtain ⟨b12, u, rfl, wb12, h⟩ := wf_int h
    obtain ⟨b13, u, rfl, wb13, h⟩ := wf_ints h
    obtain ⟨b14, u, rfl, wb14, h⟩ := wf_ints h
    obtain ⟨b15, u, rfl, wb15, h⟩ := wf_ints h
    obtain ⟨b16, u, rfl, wb16, h⟩ := wf_ints h
    obtain ⟨b17, u, rfl, wb17, h⟩ := wf_ints h
    obtain ⟨b18, u, rfl, wb18, h⟩ := wf_ints h
    obtain ⟨b19, u, rfl, wb19, h⟩ := wf_ints h
    obtain ⟨b20, u, rfl, wb20, h⟩ := wf_int h
    obtain ⟨b21, u, rfl, wb21, h⟩ := wf_int h
    obtain ⟨b22, u, rfl, wb22, h⟩ := wf_int h
    obtain ⟨b23, u, rfl, wb23, h⟩ := wf_int h
    obtain ⟨b24, u, rfl, wb24, h⟩ := wf_ints h
    obtain ⟨b25, u, rfl, wb25, h⟩ := wf_ints h
    obtain ⟨b26, u, rfl, wb26, h⟩ := wf_ints h
    obtain ⟨b27, u, rfl, wb27, h⟩ := wf_ints h
    obtain ⟨b28, u, rfl, wb28, h⟩ := wf_ints h
    obtain ⟨b29, u, rfl, wb29, h⟩ := wf_ints h
    obtain rfl := wf_nil h
    obtain ⟨m, hm⟩ := spec7 b0 wb0 b1 wb1 b2 wb2 b3 wb3 b4 wb4 b5 wb5 b6 wb6 b7 wb7 b8 wb8 b9 wb9 b10 wb10 b11 wb11 b12 wb12 b13 wb13 b14 wb14 b15 wb15 b16 wb16 b17 wb17 b18 wb18 b19 wb19 b20 wb20 b21 wb21 b22 wb22 b23 wb23 b24 wb24 b25 wb25 b26 wb26 b27 wb27 b28 wb28 b29 wb29
    have G : N7.road Try.prog LQ KN (Uns.enc ((⟨(⟨b0, b1, b2⟩ : DealA), (⟨b3, b4, b5, b6, b7, b8, b9, b10, b11, b12⟩ : DealB), b13, b14, b15, b16, b17, b18, b19⟩ : KDeal), b20, b21, b22, b23, b24, b25, b26, b27, b28, b29)) ([]) = t7 m ((⟨(⟨b0, b1, b2⟩ : DealA), (⟨b3, b4, b5, b6, b7, b8, b9, b10, b11, b12⟩ : DealB), b13, b14, b15, b16, b17, b18, b19⟩ : KDeal), b20, b21, b22, b23, b24, b25, b26, b27, b28, b29) := by kernel_rfl
    exact N7.tells KN_none T32.right (W := []) (by kernel_rfl) (by kernel_rfl) (by kernel_rfl) all0 (G.trans hm)) hsh hd hz hval
end Go.Proofs.Ytoiijpphfckdjaa
