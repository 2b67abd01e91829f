/- A part of the walk. -/
import Derived.Test.YtncgbpajngakpaaFlowPlain
namespace Go.Proofs.Ytncgbpajngakpaa
open Go Go.Proofs.Ytncgbpajngakpaa.Ev
set_option linter.unusedVariables false
set_option linter.unusedSimpArgs false
set_option linter.unnecessarySimpa false
def RFlowTells : List Par := [(false, [.ints .i64]), (true, [.int .i64, .int .i64, .int .i64, .int .i64, .int .i64, .int .i64, .int .i64, .int .i64, .int .i64, .int .i64, .int .i64, .int .i64, .int .i64, .ints .i64, .ints .i64, .ints .i64, .ints .i64, .ints .i64, .ints .i64, .ints .i64]), (false, [.int .i64]), (false, [.int .i64])]
/-! cascade/cascadelaw17.FlowTells -/
noncomputable def N4 : RoadF := ⟨T12.tab, 4, ⟨List.map Par.vp RFlowTells, []⟩, ⟨[.bool], []⟩, []⟩
abbrev A4_1 : Type := Int × Int × Int × List Dat × Int × Int × Int × Int × Int × Int × Int × Int × List Dat × List Dat
abbrev A4_0 : Type := Int × Int × Int × List Dat × Int × Int × Int × Int × List Dat × Int × Int × Int × Int × List Dat × List Dat
noncomputable def L4_1s (m : Nat) (k : A4_1 → Option (List Un)) : A4_1 → Option (List Un) := fun (a0, a1, a2, a3, a4, a5, a6, a7, a8, a9, a10, a11, a12, a13) =>
  bif decide (a2 < a1) then
   chk (inb a2 a12.length) <|
   chk (decide (a2.toNat < a12.length)) <|
   lt (rowD a12 a2.toNat : Dat) fun d56 =>
   chk (inb a2 a13.length) <|
   chk (decide (a2.toNat < a13.length)) <|
   lt (rowD a13 a2.toNat : Dat) fun d57 =>
   bif (!(((d56.i 0) == (d57.i 0)) && (((d56.i 1) == (d57.i 1)) && (((d56.i 2) == (d57.i 2)) && true)))) then
    some ([.b false])
   else
    k (a0, a1, (w64 (a2 + 1)), a3, a4, a5, a6, a7, a8, a9, a10, a11, a12, a13)
  else
   chk (decide (a3.length ≤ 1000000) && a3.all paidG) <|
   bif (sumI 3 a3) == a0 then
    bif a4 == a8 then
     bif a5 == a9 then
      bif a6 == a10 then
       bif a7 == a11 then
        some ([.b true])
       else
        some ([.b false])
      else
       some ([.b false])
     else
      some ([.b false])
    else
     some ([.b false])
   else
    some ([.b false])
noncomputable def L4_1 (m : Nat) : Nat → A4_1 → Option (List Un) := iterA (L4_1s m)
theorem L4_1_succ (m : Nat) (n : Nat) : L4_1 m (n + 1) = L4_1s m (L4_1 m n) := rfl
noncomputable def S4_1 (F : A4_1 → Option (List Un)) : StopS := ⟨[.lp [0, 1, 0, 1, 1, 1, 1, 1, 1, 1, 1, 1, 1], .blk 2, .code [1, 1, 1, 1, 1, 1, 1, 1, 1, 1, 1]], ⟨frm 162 [(14, .buf 0 4), (16, .ptr 1 0 0), (19, .ptr 2 0 0), (20, .int .i64), (111, .int .i64), (112, .int .i64)], [.recs [.int .i64, .int .i64, .int .i64, .int .i64], .cells [.int .i64, .int .i64, .int .i64, .int .i64, .buf 3 3], .cells [.int .i64, .int .i64, .int .i64, .int .i64, .buf 4 3], .recs [.int .i64, .int .i64, .int .i64], .recs [.int .i64, .int .i64, .int .i64]]⟩, onU F⟩
noncomputable def L4_0s (m : Nat) (k : A4_0 → Option (List Un)) : A4_0 → Option (List Un) := fun (a0, a1, a2, a3, a4, a5, a6, a7, a8, a9, a10, a11, a12, a13, a14) =>
  bif decide (a2 < a1) then
   chk (inb a2 a3.length) <|
   chk (decide (a2.toNat < a3.length)) <|
   lt (rowD a3 a2.toNat : Dat) fun d52 =>
   chk (inb a2 a8.length) <|
   chk (decide (a2.toNat < a8.length)) <|
   lt (rowD a8 a2.toNat : Dat) fun d53 =>
   bif (!(((d52.i 0) == (d53.i 0)) && (((d52.i 1) == (d53.i 1)) && (((d52.i 2) == (d53.i 2)) && (((d52.i 3) == (d53.i 3)) && true))))) then
    some ([.b false])
   else
    chk (inb a2 a3.length) <|
    chk (decide (a2.toNat < a3.length)) <|
    k ((w64 (a0 + ((rowD a3 a2.toNat).i 3))), a1, (w64 (a2 + 1)), a3, a4, a5, a6, a7, a8, a9, a10, a11, a12, a13, a14)
  else
   L4_1 m m (a0, (a13.length : Int), 0, a3, a4, a5, a6, a7, a9, a10, a11, a12, a13, a14)
noncomputable def L4_0 (m : Nat) : Nat → A4_0 → Option (List Un) := iterA (L4_0s m)
theorem L4_0_succ (m : Nat) (n : Nat) : L4_0 m (n + 1) = L4_0s m (L4_0 m n) := rfl
noncomputable def S4_0 (F : A4_0 → Option (List Un)) : StopS := ⟨[.lp [0, 1, 0, 1, 1, 1, 1, 1, 1, 1, 1, 1], .blk 0, .code [1, 1, 1, 1, 1, 1, 1, 1, 1, 1]], ⟨frm 162 [(14, .buf 0 4), (16, .ptr 1 0 0), (17, .buf 2 4), (19, .ptr 3 0 0), (20, .int .i64), (88, .int .i64), (89, .int .i64)], [.recs [.int .i64, .int .i64, .int .i64, .int .i64], .cells [.int .i64, .int .i64, .int .i64, .int .i64, .buf 4 3], .recs [.int .i64, .int .i64, .int .i64, .int .i64], .cells [.int .i64, .int .i64, .int .i64, .int .i64, .buf 5 3], .recs [.int .i64, .int .i64, .int .i64], .recs [.int .i64, .int .i64, .int .i64]]⟩, onU F⟩
theorem H4_1 (m : Nat) : ∀ n, HO N4 (S4_1 (L4_1 m n)) := loop_holds KN_none T12.right (fun k => [S4_1 k]) (fun k h => (all1 h all0)) fun k a => by kernel_rfl
theorem H4_0 (m : Nat) : ∀ n, HO N4 (S4_0 (L4_0 m n)) := loop_holds KN_none T12.right (fun k => [S4_0 k, S4_1 (L4_1 m m)]) (fun k h => (all1 h (all1 (H4_1 m m) all0))) fun k a => by kernel_rfl
noncomputable def t4 (m : Nat) : List Int × KDeal × Int × Int → Option (List Un) := fun (a0, a1, a2, a3) =>
  chk (decide (a1.notes.length ≤ 140737488355328)) <|
  bif decide ((within a2 0 2) = 0) then
   chk (fits (0 + (workC a0).length) 24) <|
   chk (decide (((dealV a1).s0).length ≤ 1000000) && (runG ⟨(within a3 0 20000), (nextV a0 0 300), (nextV a0 1 900), (nextV a0 2 5000), (nextV a0 3 700)⟩ && claimsG (workC a0))) <|
   lt (((runV 0 ((dealV a1).s0) ⟨(within a3 0 20000), (nextV a0 0 300), (nextV a0 1 900), (nextV a0 2 5000), (nextV a0 3 700)⟩ (workC a0)).2.2) : List Dat) fun l6 =>
   lt (((runV 0 ((dealV a1).s0) ⟨(within a3 0 20000), (nextV a0 0 300), (nextV a0 1 900), (nextV a0 2 5000), (nextV a0 3 700)⟩ (workC a0)).2.1) : List Dat) fun l7 =>
   chk (decide (((dealV a1).s0).length ≤ 1000000) && (runG ⟨(within a3 0 20000), (nextV a0 0 300), (nextV a0 1 900), (nextV a0 2 5000), (nextV a0 3 700)⟩ && claimsG (workC a0))) <|
   lt (((runV 0 ((dealV a1).s0) ⟨(within a3 0 20000), (nextV a0 0 300), (nextV a0 1 900), (nextV a0 2 5000), (nextV a0 3 700)⟩ (workC a0)).2.2) : List Dat) fun l13 =>
   lt (((runV 0 ((dealV a1).s0) ⟨(within a3 0 20000), (nextV a0 0 300), (nextV a0 1 900), (nextV a0 2 5000), (nextV a0 3 700)⟩ (workC a0)).2.1) : List Dat) fun l14 =>
   bif ((l6.length : Int) != (l13.length : Int)) then
    some ([.b false])
   else
    bif ((runV 0 ((dealV a1).s0) ⟨(within a3 0 20000), (nextV a0 0 300), (nextV a0 1 900), (nextV a0 2 5000), (nextV a0 3 700)⟩ (workC a0)).1.cash) != ((runV 0 ((dealV a1).s0) ⟨(within a3 0 20000), (nextV a0 0 300), (nextV a0 1 900), (nextV a0 2 5000), (nextV a0 3 700)⟩ (workC a0)).1.cash) then
     some ([.b false])
    else
     bif ((l7.length : Int) != (l14.length : Int)) then
      some ([.b false])
     else
      chk (decide (0 ≤ (nextV a0 0 300) ∧ (nextV a0 0 300) ≤ 1125899906842624 ∧ 0 ≤ (nextV a0 1 900) ∧ (nextV a0 1 900) ≤ 1125899906842624 ∧ 0 ≤ (nextV a0 2 5000) ∧ (nextV a0 2 5000) ≤ 1125899906842624 ∧ 0 ≤ (nextV a0 3 700) ∧ (nextV a0 3 700) ≤ 1125899906842624 ∧ (workC a0).length ≤ 8) && (claimsG (workC a0) && (workC a0).all rankG)) <|
      chk (decide ((workC a0).length < 1099511627776)) <|
      bif !(sameR 3 (workC a0) (workC a0)) then
       some ([.b false])
      else
       L4_0 m m (0, (l6.length : Int), 0, l6, ((runV 0 ((dealV a1).s0) ⟨(within a3 0 20000), (nextV a0 0 300), (nextV a0 1 900), (nextV a0 2 5000), (nextV a0 3 700)⟩ (workC a0)).1.fee), ((runV 0 ((dealV a1).s0) ⟨(within a3 0 20000), (nextV a0 0 300), (nextV a0 1 900), (nextV a0 2 5000), (nextV a0 3 700)⟩ (workC a0)).1.recoup), ((runV 0 ((dealV a1).s0) ⟨(within a3 0 20000), (nextV a0 0 300), (nextV a0 1 900), (nextV a0 2 5000), (nextV a0 3 700)⟩ (workC a0)).1.principal), ((runV 0 ((dealV a1).s0) ⟨(within a3 0 20000), (nextV a0 0 300), (nextV a0 1 900), (nextV a0 2 5000), (nextV a0 3 700)⟩ (workC a0)).1.room), l13, ((runV 0 ((dealV a1).s0) ⟨(within a3 0 20000), (nextV a0 0 300), (nextV a0 1 900), (nextV a0 2 5000), (nextV a0 3 700)⟩ (workC a0)).1.fee), ((runV 0 ((dealV a1).s0) ⟨(within a3 0 20000), (nextV a0 0 300), (nextV a0 1 900), (nextV a0 2 5000), (nextV a0 3 700)⟩ (workC a0)).1.recoup), ((runV 0 ((dealV a1).s0) ⟨(within a3 0 20000), (nextV a0 0 300), (nextV a0 1 900), (nextV a0 2 5000), (nextV a0 3 700)⟩ (workC a0)).1.principal), ((runV 0 ((dealV a1).s0) ⟨(within a3 0 20000), (nextV a0 0 300), (nextV a0 1 900), (nextV a0 2 5000), (nextV a0 3 700)⟩ (workC a0)).1.room), l7, l14)
  else
   bif decide ((within a2 0 2) = 1) then
    chk (fits (0 + (workC a0).length) 24) <|
    chk (decide (((dealV a1).s1).length ≤ 1000000) && (runG ⟨(within a3 0 20000), (nextV a0 0 300), (nextV a0 1 900), (nextV a0 2 5000), (nextV a0 3 700)⟩ && claimsG (workC a0))) <|
    lt (((runV 0 ((dealV a1).s1) ⟨(within a3 0 20000), (nextV a0 0 300), (nextV a0 1 900), (nextV a0 2 5000), (nextV a0 3 700)⟩ (workC a0)).2.2) : List Dat) fun l23 =>
    lt (((runV 0 ((dealV a1).s1) ⟨(within a3 0 20000), (nextV a0 0 300), (nextV a0 1 900), (nextV a0 2 5000), (nextV a0 3 700)⟩ (workC a0)).2.1) : List Dat) fun l24 =>
    chk (decide (((dealV a1).s1).length ≤ 1000000) && (runG ⟨(within a3 0 20000), (nextV a0 0 300), (nextV a0 1 900), (nextV a0 2 5000), (nextV a0 3 700)⟩ && claimsG (workC a0))) <|
    lt (((runV 0 ((dealV a1).s1) ⟨(within a3 0 20000), (nextV a0 0 300), (nextV a0 1 900), (nextV a0 2 5000), (nextV a0 3 700)⟩ (workC a0)).2.2) : List Dat) fun l30 =>
    lt (((runV 0 ((dealV a1).s1) ⟨(within a3 0 20000), (nextV a0 0 300), (nextV a0 1 900), (nextV a0 2 5000), (nextV a0 3 700)⟩ (workC a0)).2.1) : List Dat) fun l31 =>
    bif ((l23.length : Int) != (l30.length : Int)) then
     some ([.b false])
    else
     bif ((runV 0 ((dealV a1).s1) ⟨(within a3 0 20000), (nextV a0 0 300), (nextV a0 1 900), (nextV a0 2 5000), (nextV a0 3 700)⟩ (workC a0)).1.cash) != ((runV 0 ((dealV a1).s1) ⟨(within a3 0 20000), (nextV a0 0 300), (nextV a0 1 900), (nextV a0 2 5000), (nextV a0 3 700)⟩ (workC a0)).1.cash) then
      some ([.b false])
     else
      bif ((l24.length : Int) != (l31.length : Int)) then
       some ([.b false])
      else
       chk (decide (0 ≤ (nextV a0 0 300) ∧ (nextV a0 0 300) ≤ 1125899906842624 ∧ 0 ≤ (nextV a0 1 900) ∧ (nextV a0 1 900) ≤ 1125899906842624 ∧ 0 ≤ (nextV a0 2 5000) ∧ (nextV a0 2 5000) ≤ 1125899906842624 ∧ 0 ≤ (nextV a0 3 700) ∧ (nextV a0 3 700) ≤ 1125899906842624 ∧ (workC a0).length ≤ 8) && (claimsG (workC a0) && (workC a0).all rankG)) <|
       chk (decide ((workC a0).length < 1099511627776)) <|
       bif !(sameR 3 (workC a0) (workC a0)) then
        some ([.b false])
       else
        L4_0 m m (0, (l23.length : Int), 0, l23, ((runV 0 ((dealV a1).s1) ⟨(within a3 0 20000), (nextV a0 0 300), (nextV a0 1 900), (nextV a0 2 5000), (nextV a0 3 700)⟩ (workC a0)).1.fee), ((runV 0 ((dealV a1).s1) ⟨(within a3 0 20000), (nextV a0 0 300), (nextV a0 1 900), (nextV a0 2 5000), (nextV a0 3 700)⟩ (workC a0)).1.recoup), ((runV 0 ((dealV a1).s1) ⟨(within a3 0 20000), (nextV a0 0 300), (nextV a0 1 900), (nextV a0 2 5000), (nextV a0 3 700)⟩ (workC a0)).1.principal), ((runV 0 ((dealV a1).s1) ⟨(within a3 0 20000), (nextV a0 0 300), (nextV a0 1 900), (nextV a0 2 5000), (nextV a0 3 700)⟩ (workC a0)).1.room), l30, ((runV 0 ((dealV a1).s1) ⟨(within a3 0 20000), (nextV a0 0 300), (nextV a0 1 900), (nextV a0 2 5000), (nextV a0 3 700)⟩ (workC a0)).1.fee), ((runV 0 ((dealV a1).s1) ⟨(within a3 0 20000), (nextV a0 0 300), (nextV a0 1 900), (nextV a0 2 5000), (nextV a0 3 700)⟩ (workC a0)).1.recoup), ((runV 0 ((dealV a1).s1) ⟨(within a3 0 20000), (nextV a0 0 300), (nextV a0 1 900), (nextV a0 2 5000), (nextV a0 3 700)⟩ (workC a0)).1.principal), ((runV 0 ((dealV a1).s1) ⟨(within a3 0 20000), (nextV a0 0 300), (nextV a0 1 900), (nextV a0 2 5000), (nextV a0 3 700)⟩ (workC a0)).1.room), l24, l31)
   else
    bif decide ((within a2 0 2) = 2) then
     chk (fits (0 + (workC a0).length) 24) <|
     chk (decide (((dealV a1).s2).length ≤ 1000000) && (runG ⟨(within a3 0 20000), (nextV a0 0 300), (nextV a0 1 900), (nextV a0 2 5000), (nextV a0 3 700)⟩ && claimsG (workC a0))) <|
     lt (((runV 0 ((dealV a1).s2) ⟨(within a3 0 20000), (nextV a0 0 300), (nextV a0 1 900), (nextV a0 2 5000), (nextV a0 3 700)⟩ (workC a0)).2.2) : List Dat) fun l40 =>
     lt (((runV 0 ((dealV a1).s2) ⟨(within a3 0 20000), (nextV a0 0 300), (nextV a0 1 900), (nextV a0 2 5000), (nextV a0 3 700)⟩ (workC a0)).2.1) : List Dat) fun l41 =>
     chk (decide (((dealV a1).s2).length ≤ 1000000) && (runG ⟨(within a3 0 20000), (nextV a0 0 300), (nextV a0 1 900), (nextV a0 2 5000), (nextV a0 3 700)⟩ && claimsG (workC a0))) <|
     lt (((runV 0 ((dealV a1).s2) ⟨(within a3 0 20000), (nextV a0 0 300), (nextV a0 1 900), (nextV a0 2 5000), (nextV a0 3 700)⟩ (workC a0)).2.2) : List Dat) fun l47 =>
     lt (((runV 0 ((dealV a1).s2) ⟨(within a3 0 20000), (nextV a0 0 300), (nextV a0 1 900), (nextV a0 2 5000), (nextV a0 3 700)⟩ (workC a0)).2.1) : List Dat) fun l48 =>
     bif ((l40.length : Int) != (l47.length : Int)) then
      some ([.b false])
     else
      bif ((runV 0 ((dealV a1).s2) ⟨(within a3 0 20000), (nextV a0 0 300), (nextV a0 1 900), (nextV a0 2 5000), (nextV a0 3 700)⟩ (workC a0)).1.cash) != ((runV 0 ((dealV a1).s2) ⟨(within a3 0 20000), (nextV a0 0 300), (nextV a0 1 900), (nextV a0 2 5000), (nextV a0 3 700)⟩ (workC a0)).1.cash) then
       some ([.b false])
      else
       bif ((l41.length : Int) != (l48.length : Int)) then
        some ([.b false])
       else
        chk (decide (0 ≤ (nextV a0 0 300) ∧ (nextV a0 0 300) ≤ 1125899906842624 ∧ 0 ≤ (nextV a0 1 900) ∧ (nextV a0 1 900) ≤ 1125899906842624 ∧ 0 ≤ (nextV a0 2 5000) ∧ (nextV a0 2 5000) ≤ 1125899906842624 ∧ 0 ≤ (nextV a0 3 700) ∧ (nextV a0 3 700) ≤ 1125899906842624 ∧ (workC a0).length ≤ 8) && (claimsG (workC a0) && (workC a0).all rankG)) <|
        chk (decide ((workC a0).length < 1099511627776)) <|
        bif !(sameR 3 (workC a0) (workC a0)) then
         some ([.b false])
        else
         L4_0 m m (0, (l40.length : Int), 0, l40, ((runV 0 ((dealV a1).s2) ⟨(within a3 0 20000), (nextV a0 0 300), (nextV a0 1 900), (nextV a0 2 5000), (nextV a0 3 700)⟩ (workC a0)).1.fee), ((runV 0 ((dealV a1).s2) ⟨(within a3 0 20000), (nextV a0 0 300), (nextV a0 1 900), (nextV a0 2 5000), (nextV a0 3 700)⟩ (workC a0)).1.recoup), ((runV 0 ((dealV a1).s2) ⟨(within a3 0 20000), (nextV a0 0 300), (nextV a0 1 900), (nextV a0 2 5000), (nextV a0 3 700)⟩ (workC a0)).1.principal), ((runV 0 ((dealV a1).s2) ⟨(within a3 0 20000), (nextV a0 0 300), (nextV a0 1 900), (nextV a0 2 5000), (nextV a0 3 700)⟩ (workC a0)).1.room), l47, ((runV 0 ((dealV a1).s2) ⟨(within a3 0 20000), (nextV a0 0 300), (nextV a0 1 900), (nextV a0 2 5000), (nextV a0 3 700)⟩ (workC a0)).1.fee), ((runV 0 ((dealV a1).s2) ⟨(within a3 0 20000), (nextV a0 0 300), (nextV a0 1 900), (nextV a0 2 5000), (nextV a0 3 700)⟩ (workC a0)).1.recoup), ((runV 0 ((dealV a1).s2) ⟨(within a3 0 20000), (nextV a0 0 300), (nextV a0 1 900), (nextV a0 2 5000), (nextV a0 3 700)⟩ (workC a0)).1.principal), ((runV 0 ((dealV a1).s2) ⟨(within a3 0 20000), (nextV a0 0 300), (nextV a0 1 900), (nextV a0 2 5000), (nextV a0 3 700)⟩ (workC a0)).1.room), l41, l48)
    else
     none
section
variable (m : Nat) (f r p o : Int) (ys c zs : List Dat)
theorem tellsL1 (sum : Int) (hs : sum = sumI 3 ys) (hy : (decide (ys.length ≤ 1000000) && ys.all paidG) = true) : ∀ (rest pre : List Dat) (n : Nat), rest.length < n → (pre ++ rest).length ≤ 1000 →
    L4_1 m n (sum, ((pre ++ rest).length : Int), (pre.length : Int), ys, f, r, p, o, f, r, p, o, pre ++ rest, pre ++ rest) = some [.b true] := by
  intro rest
  induction rest with
  | nil =>
    intro pre n hn hl
    obtain ⟨n, rfl⟩ := one_more n (by simp at hn; omega)
    rw [L4_1_succ]; unfold L4_1s; dsimp only
    simp only [List.append_nil] at hl ⊢
    rw [cond_df (by omega), hy, chk_tt, cond_bt hs.symm, cond_bt rfl, cond_bt rfl, cond_bt rfl, cond_bt rfl]
  | cons x rest ih =>
    intro pre n hn hl
    obtain ⟨n, rfl⟩ := one_more n (by simp at hn; omega)
    simp only [List.length_cons, List.length_append] at hn hl
    have := ih (pre ++ [x]) n (by omega) (by simp; omega)
    rw [L4_1_succ]; unfold L4_1s; dsimp only
    simp (disch := omega) only [lt_eq, chk_dec, chk_tt, chk_and, chk_inb, chk_fits, chk_make, chkn_dec, cond_dt, cond_df, cond_bt, cond_bf, cond_nt, cond_nf, cond_not, cond_and, cond_or, cond_tt, cond_ff, wrap_id, min_if', max_if', List.length_append, List.length_cons, List.length_nil, List.length_replicate, List.length_set, List.length_map, List.length_range, Int.natCast_add, Int.cast_ofNat_Int, Int.toNat_natCast, Int.add_assoc, Nat.zero_add, Int.zero_add, List.append_assoc, List.cons_append, List.nil_append, rowD_mid, beq_self_eq_true, Bool.and_self, Bool.not_true]
    simp only [List.length_append, List.length_cons, List.length_nil, List.length_replicate, List.length_set, List.length_map, List.length_range, Int.natCast_add, Int.cast_ofNat_Int, Int.toNat_natCast, Int.add_assoc, Nat.zero_add, Int.zero_add, List.append_assoc, List.cons_append, List.nil_append] at this ⊢
    exact this
theorem tellsL0 (hm : c.length < m) (hcl : c.length ≤ 1000) : ∀ (rest pre : List Dat) (n : Nat), rest.length < n → (pre ++ rest).length ≤ 1000000 → (∀ d ∈ pre ++ rest, 0 ≤ d.i 3 ∧ d.i 3 ≤ 1000000000) →
    L4_0 m n (sumI 3 pre, ((pre ++ rest).length : Int), (pre.length : Int), pre ++ rest, f, r, p, o, pre ++ rest, f, r, p, o, c, c) = some [.b true] := by
  intro rest
  induction rest with
  | nil =>
    intro pre n hn hl hp
    obtain ⟨n, rfl⟩ := one_more n (by simp at hn; omega)
    rw [L4_0_succ]; unfold L4_0s; dsimp only
    simp only [List.append_nil] at hl hp ⊢
    rw [cond_df (by omega)]
    refine tellsL1 m f r p o pre (sumI 3 pre) rfl ?_ c [] m hm (by simpa using hcl)
    simp only [Bool.and_eq_true, decide_eq_true_eq, List.all_eq_true, paidG]
    exact ⟨hl, fun d hd => by have := hp d hd; omega⟩
  | cons x rest ih =>
    intro pre n hn hl hp
    obtain ⟨n, rfl⟩ := one_more n (by simp at hn; omega)
    simp only [List.length_cons, List.length_append] at hn hl
    have hx := hp x (by simp)
    have hb := sumI_le 3 1000000000 pre (fun d hd => hp d (by simp [hd]))
    have := ih (pre ++ [x]) n (by omega) (by simp; omega) (fun d hd => hp d (by simpa using hd))
    rw [sumI_app] at this
    simp only [sumI, Int.add_zero] at this
    rw [L4_0_succ]; unfold L4_0s; dsimp only
    simp (disch := omega) only [lt_eq, chk_dec, chk_tt, chk_and, chk_inb, chk_fits, chk_make, chkn_dec, cond_dt, cond_df, cond_bt, cond_bf, cond_nt, cond_nf, cond_not, cond_and, cond_or, cond_tt, cond_ff, wrap_id, min_if', max_if', List.length_append, List.length_cons, List.length_nil, List.length_replicate, List.length_set, List.length_map, List.length_range, Int.natCast_add, Int.cast_ofNat_Int, Int.toNat_natCast, Int.add_assoc, Nat.zero_add, Int.zero_add, List.append_assoc, List.cons_append, List.nil_append, rowD_mid, beq_self_eq_true, Bool.and_self, Bool.not_true]
    simp only [List.length_append, List.length_cons, List.length_nil, List.length_replicate, List.length_set, List.length_map, List.length_range, Int.natCast_add, Int.cast_ofNat_Int, Int.toNat_natCast, Int.add_assoc, Nat.zero_add, Int.zero_add, List.append_assoc, List.cons_append, List.nil_append] at this ⊢
    exact this
end
set_option maxHeartbeats 4000000 in
theorem spec4 (b0 : List Int) (wb0 : b0.length ≤ 140737488355328 ∧ ∀ x ∈ b0, (Lit.int .i64 x).wf = true) (b1 : Int) (wb1 : (Lit.int .i64 b1).wf = true) (b2 : Int) (wb2 : (Lit.int .i64 b2).wf = true) (b3 : Int) (wb3 : (Lit.int .i64 b3).wf = true) (b4 : Int) (wb4 : (Lit.int .i64 b4).wf = true) (b5 : Int) (wb5 : (Lit.int .i64 b5).wf = true) (b6 : Int) (wb6 : (Lit.int .i64 b6).wf = true) (b7 : Int) (wb7 : (Lit.int .i64 b7).wf = true) (b8 : Int) (wb8 : (Lit.int .i64 b8).wf = true) (b9 : Int) (wb9 : (Lit.int .i64 b9).wf = true) (b10 : Int) (wb10 : (Lit.int .i64 b10).wf = true) (b11 : Int) (wb11 : (Lit.int .i64 b11).wf = true) (b12 : Int) (wb12 : (Lit.int .i64 b12).wf = true) (b13 : Int) (wb13 : (Lit.int .i64 b13).wf = true) (b14 : List Int) (wb14 : b14.length ≤ 140737488355328 ∧ ∀ x ∈ b14, (Lit.int .i64 x).wf = true) (b15 : List Int) (wb15 : b15.length ≤ 140737488355328 ∧ ∀ x ∈ b15, (Lit.int .i64 x).wf = true) (b16 : List Int) (wb16 : b16.length ≤ 140737488355328 ∧ ∀ x ∈ b16, (Lit.int .i64 x).wf = true) (b17 : List Int) (wb17 : b17.length ≤ 140737488355328 ∧ ∀ x ∈ b17, (Lit.int .i64 x).wf = true) (b18 : List Int) (wb18 : b18.length ≤ 140737488355328 ∧ ∀ x ∈ b18, (Lit.int .i64 x).wf = true) (b19 : List Int) (wb19 : b19.length ≤ 140737488355328 ∧ ∀ x ∈ b19, (Lit.int .i64 x).wf = true) (b20 : List Int) (wb20 : b20.length ≤ 140737488355328 ∧ ∀ x ∈ b20, (Lit.int .i64 x).wf = true) (b21 : Int) (wb21 : (Lit.int .i64 b21).wf = true) (b22 : Int) (wb22 : (Lit.int .i64 b22).wf = true) : ∃ m, t4 m (b0, (⟨(⟨b1, b2, b3⟩ : DealA), (⟨b4, b5, b6, b7, b8, b9, b10, b11, b12, b13⟩ : DealB), b14, b15, b16, b17, b18, b19, b20⟩ : KDeal), b21, b22) = some [.b true] := by
  have hn : (⟨⟨b1, b2, b3⟩, ⟨b4, b5, b6, b7, b8, b9, b10, b11, b12, b13⟩, b14, b15, b16, b17, b18, b19, b20⟩ : KDeal).notes.length ≤ 140737488355328 := wb15.1
  generalize (⟨⟨b1, b2, b3⟩, ⟨b4, b5, b6, b7, b8, b9, b10, b11, b12, b13⟩, b14, b15, b16, b17, b18, b19, b20⟩ : KDeal) = k at hn
  have hi := within_le (a := b21) (show (0 : Int) ≤ 2 by decide)
  have hw := within_le (a := b22) (show (0 : Int) ≤ 20000 by decide)
  have hx := workR_ok b0 (cash := within b22 0 20000) (by omega)
  have hc := workC_ok b0
  have hcl := workC_len b0
  have h0 := nextV_le b0 0 (show (0 : Int) ≤ 300 by decide)
  have h1 := nextV_le b0 1 (show (0 : Int) ≤ 900 by decide)
  have h2 := nextV_le b0 2 (show (0 : Int) ≤ 5000 by decide)
  have h3 := nextV_le b0 3 (show (0 : Int) ≤ 700 by decide)
  have hrk : (workC b0).all rankG = true := List.all_eq_true.2 fun d hd => by have := workC_mem b0 d hd; exact decide_eq_true (by omega)
  unfold workR at hx
  generalize hX : (⟨within b22 0 20000, nextV b0 0 300, nextV b0 1 900, nextV b0 2 5000, nextV b0 3 700⟩ : RunN) = X at hx
  have hXc : X.cash ≤ 1000000000 := by rw [← hX]; show within b22 0 20000 ≤ _; omega
  refine ⟨1000000, ?_⟩
  unfold t4
  dsimp only
  rw [chk_dec hn]
  simp only [hX]
  by_cases h0 : within b21 0 2 = 0
  · rw [cond_dt h0]
    have hsl : ((dealV k).s0).length ≤ 12 := (stepsV_short k.s0).2
    generalize (dealV k).s0 = st at hsl
    have hr := runV_ok st 0 X (workC b0) hx hc
    have hp := runV_paid (l := st) (a := 0) hx hc hXc
    rw [chk_fits (by omega) (by omega), hx, hc, Bool.and_self, Bool.and_true, chk_dec (by omega)]
    generalize runV 0 st X (workC b0) = R at *
    simp only [lt_eq, hrk, hc, Bool.and_self, Bool.and_true, sameR_refl, Bool.not_true]
    rw [cond_nf rfl, cond_nf rfl, cond_nf rfl, chk_dec (by omega), chk_dec (by omega), cond_ff, chk_dec (by omega)]
    exact tellsL0 1000000 R.1.fee R.1.recoup R.1.principal R.1.room R.2.1 (by omega) (by omega) R.2.2 [] 1000000 (by omega) (by simp; omega) (by simpa using hp)
  · rw [cond_df h0]
    by_cases h1 : within b21 0 2 = 1
    · rw [cond_dt h1]
      have hsl : ((dealV k).s1).length ≤ 12 := (stepsV_short k.s1).2
      generalize (dealV k).s1 = st at hsl
      have hr := runV_ok st 0 X (workC b0) hx hc
      have hp := runV_paid (l := st) (a := 0) hx hc hXc
      rw [chk_fits (by omega) (by omega), hx, hc, Bool.and_self, Bool.and_true, chk_dec (by omega)]
      generalize runV 0 st X (workC b0) = R at *
      simp only [lt_eq, hrk, hc, Bool.and_self, Bool.and_true, sameR_refl, Bool.not_true]
      rw [cond_nf rfl, cond_nf rfl, cond_nf rfl, chk_dec (by omega), chk_dec (by omega), cond_ff, chk_dec (by omega)]
      exact tellsL0 1000000 R.1.fee R.1.recoup R.1.principal R.1.room R.2.1 (by omega) (by omega) R.2.2 [] 1000000 (by omega) (by simp; omega) (by simpa using hp)
    · rw [cond_df h1]
      by_cases h2 : within b21 0 2 = 2
      · rw [cond_dt h2]
        have hsl : ((dealV k).s2).length ≤ 12 := (stepsV_short k.s2).2
        generalize (dealV k).s2 = st at hsl
        have hr := runV_ok st 0 X (workC b0) hx hc
        have hp := runV_paid (l := st) (a := 0) hx hc hXc
        rw [chk_fits (by omega) (by omega), hx, hc, Bool.and_self, Bool.and_true, chk_dec (by omega)]
        generalize runV 0 st X (workC b0) = R at *
        simp only [lt_eq, hrk, hc, Bool.and_self, Bool.and_true, sameR_refl, Bool.not_true]
        rw [cond_nf rfl, cond_nf rfl, cond_nf rfl, chk_dec (by omega), chk_dec (by omega), cond_ff, chk_dec (by omega)]
        exact tellsL0 1000000 R.1.fee R.1.recoup R.1.principal R.1.room R.2.1 (by omega) (by omega) R.2.2 [] 1000000 (by omega) (by simp; omega) (by simpa using hp)
      · rw [cond_df h2]
        omega
set_option maxRecDepth 20000 in
theorem walkFlowTells {HH : Type} {enc : TypeId × Value → HH} {w : World} {base : Nat} {vs : List Value} {ds : List (DataW HH)} {ps : List MemPlace} (hsh : w.ShapedOpen Try.prog)
    (hd : DataW.TrodAll enc Try.prog w 0 (fun _ => true) true Try.f4.params.toList vs ds ps) {us' : List TypeId} {gs : List (DataW HH)} (hz : (DataW.weightsEach Try.prog (Try.f4.params.toList ++ us') (ds ++ gs)).all (· ≤ reachBytes) = true) (hval : ∀ (j : Nat) t v, Try.f4.params.toList[j]? = some t → vs[j]? = some v → Value.okWide Try.prog w .any base t v) :
    Calls Try.prog 4 vs.toArray w fun e w' => e = .returned (.bool true) ∧ RowKit.Below w.heap.size w w' :=
  law_args Seat.mix Seat.names TE_right (pars := RFlowTells) (by kernel_rfl) (fun us h => by
    change WfU [.ints .i64, .int .i64, .int .i64, .int .i64, .int .i64, .int .i64, .int .i64, .int .i64, .int .i64, .int .i64, .int .i64, .int .i64, .int .i64, .int .i64, .ints .i64, .ints .i64, .ints .i64, .ints .i64, .ints .i64, .ints .i64, .ints .i64, .int .i64, .int .i64] us at h
    obtain ⟨b0, u, rfl, wb0, h⟩ := wf_ints h
    obtain ⟨b1, u, rfl, wb1, h⟩ := wf_int h
    obtain ⟨b2, u, rfl, wb2, h⟩ := wf_int h
    obtain ⟨b3, u, rfl, wb3, h⟩ := wf_int h
    obtain ⟨b4, u, rfl, wb4, h⟩ := wf_int h
    obtain ⟨b5, u, rfl, wb5, h⟩ := wf_int h
    obtain ⟨b6, u, rfl, wb6, h⟩ := wf_int h
    obtain ⟨b7, u, rfl, wb7, h⟩ := wf_int h
    obtain ⟨b8, u, rfl, wb8, h⟩ := wf_int h
    obtain ⟨b9, u, rfl, wb9, h⟩ := wf_int h
    obtain ⟨b10, u, rfl, wb10, h⟩ := wf_int h
    obtain ⟨b11, u, rfl, wb11, h⟩ := wf_int h
    obtain ⟨b12, u, rfl, wb12, h⟩ := wf_int h
    obtain ⟨b13, u, rfl, wb13, h⟩ := wf_int h
    obtain ⟨b14, u, rfl, wb14, h⟩ := wf_ints h
    obtain ⟨b15, u, rfl, wb15, h⟩ := wf_ints h
    obtain ⟨b16, u, rfl, wb16, h⟩ := wf_ints h
    obtain ⟨b17, u, rfl, wb17, h⟩ := wf_ints h
    obtain ⟨b18, u, rfl, wb18, h⟩ := wf_ints h
    obtain ⟨b19, u, rfl, wb19, h⟩ := wf_ints h
    obtain ⟨b20, u, rfl, wb20, h⟩ := wf_ints h
    obtain ⟨b21, u, rfl, wb21, h⟩ := wf_int h
    obtain ⟨b22, u, rfl, wb22, h⟩ := wf_int h
    obtain rfl := wf_nil h
    obtain ⟨m, hm⟩ := spec4 b0 wb0 b1 wb1 b2 wb2 b3 wb3 b4 wb4 b5 wb5 b6 wb6 b7 wb7 b8 wb8 b9 wb9 b10 wb10 b11 wb11 b12 wb12 b13 wb13 b14 wb14 b15 wb15 b16 wb16 b17 wb17 b18 wb18 b19 wb19 b20 wb20 b21 wb21 b22 wb22
    have G : N4.road Try.prog LQ KN (Uns.enc (b0, (⟨(⟨b1, b2, b3⟩ : DealA), (⟨b4, b5, b6, b7, b8, b9, b10, b11, b12, b13⟩ : DealB), b14, b15, b16, b17, b18, b19, b20⟩ : KDeal), b21, b22)) ([S4_0 (L4_0 m m)]) = t4 m (b0, (⟨(⟨b1, b2, b3⟩ : DealA), (⟨b4, b5, b6, b7, b8, b9, b10, b11, b12, b13⟩ : DealB), b14, b15, b16, b17, b18, b19, b20⟩ : KDeal), b21, b22) := by kernel_rfl
    exact N4.tells KN_none T12.right (W := [S4_0 (L4_0 m m)]) (by kernel_rfl) (by kernel_rfl) (by kernel_rfl) (all1 (H4_0 m m) all0) (G.trans hm)) hsh hd hz hval
end Go.Proofs.Ytncgbpajngakpaa
