/- A part of the walk. -/
import Derived.Test.YtncgbpajngakpaaFlowPlain2
namespace Go.Proofs.Ytncgbpajngakpaa
open Go Go.Proofs.Ytncgbpajngakpaa.Ev
set_option linter.unusedVariables false
set_option linter.unusedSimpArgs false
set_option linter.unnecessarySimpa false
def RFlowParts : List Par := [(false, [.ints .i64]), (true, [.int .i64, .int .i64, .int .i64, .int .i64, .int .i64, .int .i64, .int .i64, .int .i64, .int .i64, .int .i64, .int .i64, .int .i64, .int .i64, .ints .i64, .ints .i64, .ints .i64, .ints .i64, .ints .i64, .ints .i64, .ints .i64]), (false, [.int .i64]), (false, [.int .i64]), (false, [.int .i64])]
/-! cascade/cascadelaw17.FlowParts -/
noncomputable def N8 : RoadF := ⟨T12.tab, 8, ⟨List.map Par.vp RFlowParts, []⟩, ⟨[.bool], []⟩, []⟩
abbrev A8_0 : Type := Int × Int × Int × Int × Int × List Dat × Int × Int × Int × Int × List Dat × List Dat × Int × Int × Int × Int × List Dat × List Dat
noncomputable def L8_0s (m : Nat) (k : A8_0 → Option (List Un)) : A8_0 → Option (List Un) := fun (a0, a1, a2, a3, a4, a5, a6, a7, a8, a9, a10, a11, a12, a13, a14, a15, a16, a17) =>
  bif decide (a4 < a3) then
   chk (inb a4 a11.length) <|
   chk (decide (a4.toNat < a11.length)) <|
   chk (inb a4 a11.length) <|
   chk (decide (a4.toNat < a11.length)) <|
   lt (rowD a11 a4.toNat : Dat) fun d68 =>
   k (a0, a1, a2, a3, (w64 (a4 + 1)), a5, a6, a7, a8, a9, a10, (List.set a11 a4.toNat (.r [.n (w64 (((rowD a11 a4.toNat).i 0) + a0)), .n (d68.i 1), .n (d68.i 2), .n (d68.i 3)])), a12, a13, a14, a15, a16, a17)
  else
   chk (fits (0 + a10.length) 32) <|
   chk (fits (a10.length + a11.length) 32) <|
   chk (decide ((a10 ++ a11).length < 1099511627776)) <|
   bif (sameR 4 (a10 ++ a11) a5) then
    bif a2 == a1 then
     chk (decide (a17.length < 1099511627776)) <|
     bif (sameR 3 a17 a16) then
      bif a12 == a6 then
       bif a13 == a7 then
        bif a14 == a8 then
         bif a15 == a9 then
          some ([.b true])
         else
          some ([.b false])
        else
         some ([.b false])
       else
        some ([.b false])
      else
       some ([.b false])
     else
      some ([.b false])
    else
     some ([.b false])
   else
    some ([.b false])
noncomputable def L8_0 (m : Nat) : Nat → A8_0 → Option (List Un) := iterA (L8_0s m)
theorem L8_0_succ (m : Nat) (n : Nat) : L8_0 m (n + 1) = L8_0s m (L8_0 m n) := rfl
noncomputable def S8_0 (F : A8_0 → Option (List Un)) : StopS := ⟨[.lp [0, 1, 0, 1, 1, 1, 1, 1, 1, 1], .blk 0, .code [1, 1, 1, 1, 1, 1, 1, 1]], ⟨frm 138 [(15, .int .i64), (16, .buf 0 4), (17, .int .i64), (18, .ptr 1 0 0), (19, .buf 2 4), (22, .buf 3 4), (23, .int .i64), (24, .ptr 4 0 0), (72, .int .i64), (73, .int .i64)], [.recs [.int .i64, .int .i64, .int .i64, .int .i64], .cells [.int .i64, .int .i64, .int .i64, .int .i64, .buf 5 3], .recs [.int .i64, .int .i64, .int .i64, .int .i64], .recs [.int .i64, .int .i64, .int .i64, .int .i64], .cells [.int .i64, .int .i64, .int .i64, .int .i64, .buf 6 3], .recs [.int .i64, .int .i64, .int .i64], .recs [.int .i64, .int .i64, .int .i64]]⟩, onU F⟩
theorem H8_0 (m : Nat) : ∀ n, HO N8 (S8_0 (L8_0 m n)) := loop_holds KN_none T12.right (fun k => [S8_0 k]) (fun k h => (all1 h all0)) fun k a => by kernel_rfl
noncomputable def t8 (m : Nat) : List Int × KDeal × Int × Int × Int → Option (List Un) := fun (a0, a1, a2, a3, a4) =>
  chk (decide (a1.notes.length ≤ 140737488355328)) <|
  bif decide ((within a2 0 2) = 0) then
   bif decide (-2305843009213693952 ≤ 0 ∧ 0 ≤ (((dealV a1).s0).length : Int) ∧ (((dealV a1).s0).length : Int) ≤ 2305843009213693952) then
    lt ((within a4 0 (((dealV a1).s0).length : Int)) : Int) fun x1 =>
    chk (decide (((dealV a1).s0).length ≤ 1000000) && (runG ⟨(within a3 0 20000), (nextV a0 0 300), (nextV a0 1 900), (nextV a0 2 5000), (nextV a0 3 700)⟩ && claimsG (workC a0))) <|
    chk (decide (0 ≤ x1) && (true && decide (0 ≤ x1.toNat ∧ x1.toNat ≤ ((dealV a1).s0).length))) <|
    chk (decide ((List.take x1.toNat ((dealV a1).s0)).length ≤ 1000000) && (runG ⟨(within a3 0 20000), (nextV a0 0 300), (nextV a0 1 900), (nextV a0 2 5000), (nextV a0 3 700)⟩ && claimsG (workC a0))) <|
    lt (((runV 0 (List.take x1.toNat ((dealV a1).s0)) ⟨(within a3 0 20000), (nextV a0 0 300), (nextV a0 1 900), (nextV a0 2 5000), (nextV a0 3 700)⟩ (workC a0)).1.cash) : Int) fun x9 =>
    lt (((runV 0 (List.take x1.toNat ((dealV a1).s0)) ⟨(within a3 0 20000), (nextV a0 0 300), (nextV a0 1 900), (nextV a0 2 5000), (nextV a0 3 700)⟩ (workC a0)).1.fee) : Int) fun x10 =>
    lt (((runV 0 (List.take x1.toNat ((dealV a1).s0)) ⟨(within a3 0 20000), (nextV a0 0 300), (nextV a0 1 900), (nextV a0 2 5000), (nextV a0 3 700)⟩ (workC a0)).1.recoup) : Int) fun x11 =>
    lt (((runV 0 (List.take x1.toNat ((dealV a1).s0)) ⟨(within a3 0 20000), (nextV a0 0 300), (nextV a0 1 900), (nextV a0 2 5000), (nextV a0 3 700)⟩ (workC a0)).1.principal) : Int) fun x12 =>
    lt (((runV 0 (List.take x1.toNat ((dealV a1).s0)) ⟨(within a3 0 20000), (nextV a0 0 300), (nextV a0 1 900), (nextV a0 2 5000), (nextV a0 3 700)⟩ (workC a0)).1.room) : Int) fun x13 =>
    lt (((runV 0 (List.take x1.toNat ((dealV a1).s0)) ⟨(within a3 0 20000), (nextV a0 0 300), (nextV a0 1 900), (nextV a0 2 5000), (nextV a0 3 700)⟩ (workC a0)).2.1) : List Dat) fun l15 =>
    chk (true && (decide (0 ≤ x1) && decide (x1.toNat ≤ ((dealV a1).s0).length ∧ ((dealV a1).s0).length ≤ ((dealV a1).s0).length))) <|
    chk (decide ((List.take ((((dealV a1).s0).length) - x1.toNat) (List.drop x1.toNat ((dealV a1).s0))).length ≤ 1000000) && (runG ⟨x9, x10, x11, x12, x13⟩ && claimsG l15)) <|
    lt (((runV 0 (List.take ((((dealV a1).s0).length) - x1.toNat) (List.drop x1.toNat ((dealV a1).s0))) ⟨x9, x10, x11, x12, x13⟩ l15).2.2) : List Dat) fun l21 =>
    L8_0 m m (x1, ((runV 0 ((dealV a1).s0) ⟨(within a3 0 20000), (nextV a0 0 300), (nextV a0 1 900), (nextV a0 2 5000), (nextV a0 3 700)⟩ (workC a0)).1.cash), ((runV 0 (List.take ((((dealV a1).s0).length) - x1.toNat) (List.drop x1.toNat ((dealV a1).s0))) ⟨x9, x10, x11, x12, x13⟩ l15).1.cash), (l21.length : Int), 0, ((runV 0 ((dealV a1).s0) ⟨(within a3 0 20000), (nextV a0 0 300), (nextV a0 1 900), (nextV a0 2 5000), (nextV a0 3 700)⟩ (workC a0)).2.2), ((runV 0 ((dealV a1).s0) ⟨(within a3 0 20000), (nextV a0 0 300), (nextV a0 1 900), (nextV a0 2 5000), (nextV a0 3 700)⟩ (workC a0)).1.fee), ((runV 0 ((dealV a1).s0) ⟨(within a3 0 20000), (nextV a0 0 300), (nextV a0 1 900), (nextV a0 2 5000), (nextV a0 3 700)⟩ (workC a0)).1.recoup), ((runV 0 ((dealV a1).s0) ⟨(within a3 0 20000), (nextV a0 0 300), (nextV a0 1 900), (nextV a0 2 5000), (nextV a0 3 700)⟩ (workC a0)).1.principal), ((runV 0 ((dealV a1).s0) ⟨(within a3 0 20000), (nextV a0 0 300), (nextV a0 1 900), (nextV a0 2 5000), (nextV a0 3 700)⟩ (workC a0)).1.room), ((runV 0 (List.take x1.toNat ((dealV a1).s0)) ⟨(within a3 0 20000), (nextV a0 0 300), (nextV a0 1 900), (nextV a0 2 5000), (nextV a0 3 700)⟩ (workC a0)).2.2), l21, ((runV 0 (List.take ((((dealV a1).s0).length) - x1.toNat) (List.drop x1.toNat ((dealV a1).s0))) ⟨x9, x10, x11, x12, x13⟩ l15).1.fee), ((runV 0 (List.take ((((dealV a1).s0).length) - x1.toNat) (List.drop x1.toNat ((dealV a1).s0))) ⟨x9, x10, x11, x12, x13⟩ l15).1.recoup), ((runV 0 (List.take ((((dealV a1).s0).length) - x1.toNat) (List.drop x1.toNat ((dealV a1).s0))) ⟨x9, x10, x11, x12, x13⟩ l15).1.principal), ((runV 0 (List.take ((((dealV a1).s0).length) - x1.toNat) (List.drop x1.toNat ((dealV a1).s0))) ⟨x9, x10, x11, x12, x13⟩ l15).1.room), ((runV 0 ((dealV a1).s0) ⟨(within a3 0 20000), (nextV a0 0 300), (nextV a0 1 900), (nextV a0 2 5000), (nextV a0 3 700)⟩ (workC a0)).2.1), ((runV 0 (List.take ((((dealV a1).s0).length) - x1.toNat) (List.drop x1.toNat ((dealV a1).s0))) ⟨x9, x10, x11, x12, x13⟩ l15).2.1))
   else
    none
  else
   bif decide ((within a2 0 2) = 1) then
    bif decide (-2305843009213693952 ≤ 0 ∧ 0 ≤ (((dealV a1).s1).length : Int) ∧ (((dealV a1).s1).length : Int) ≤ 2305843009213693952) then
     lt ((within a4 0 (((dealV a1).s1).length : Int)) : Int) fun x23 =>
     chk (decide (((dealV a1).s1).length ≤ 1000000) && (runG ⟨(within a3 0 20000), (nextV a0 0 300), (nextV a0 1 900), (nextV a0 2 5000), (nextV a0 3 700)⟩ && claimsG (workC a0))) <|
     chk (decide (0 ≤ x23) && (true && decide (0 ≤ x23.toNat ∧ x23.toNat ≤ ((dealV a1).s1).length))) <|
     chk (decide ((List.take x23.toNat ((dealV a1).s1)).length ≤ 1000000) && (runG ⟨(within a3 0 20000), (nextV a0 0 300), (nextV a0 1 900), (nextV a0 2 5000), (nextV a0 3 700)⟩ && claimsG (workC a0))) <|
     lt (((runV 0 (List.take x23.toNat ((dealV a1).s1)) ⟨(within a3 0 20000), (nextV a0 0 300), (nextV a0 1 900), (nextV a0 2 5000), (nextV a0 3 700)⟩ (workC a0)).1.cash) : Int) fun x31 =>
     lt (((runV 0 (List.take x23.toNat ((dealV a1).s1)) ⟨(within a3 0 20000), (nextV a0 0 300), (nextV a0 1 900), (nextV a0 2 5000), (nextV a0 3 700)⟩ (workC a0)).1.fee) : Int) fun x32 =>
     lt (((runV 0 (List.take x23.toNat ((dealV a1).s1)) ⟨(within a3 0 20000), (nextV a0 0 300), (nextV a0 1 900), (nextV a0 2 5000), (nextV a0 3 700)⟩ (workC a0)).1.recoup) : Int) fun x33 =>
     lt (((runV 0 (List.take x23.toNat ((dealV a1).s1)) ⟨(within a3 0 20000), (nextV a0 0 300), (nextV a0 1 900), (nextV a0 2 5000), (nextV a0 3 700)⟩ (workC a0)).1.principal) : Int) fun x34 =>
     lt (((runV 0 (List.take x23.toNat ((dealV a1).s1)) ⟨(within a3 0 20000), (nextV a0 0 300), (nextV a0 1 900), (nextV a0 2 5000), (nextV a0 3 700)⟩ (workC a0)).1.room) : Int) fun x35 =>
     lt (((runV 0 (List.take x23.toNat ((dealV a1).s1)) ⟨(within a3 0 20000), (nextV a0 0 300), (nextV a0 1 900), (nextV a0 2 5000), (nextV a0 3 700)⟩ (workC a0)).2.1) : List Dat) fun l37 =>
     chk (true && (decide (0 ≤ x23) && decide (x23.toNat ≤ ((dealV a1).s1).length ∧ ((dealV a1).s1).length ≤ ((dealV a1).s1).length))) <|
     chk (decide ((List.take ((((dealV a1).s1).length) - x23.toNat) (List.drop x23.toNat ((dealV a1).s1))).length ≤ 1000000) && (runG ⟨x31, x32, x33, x34, x35⟩ && claimsG l37)) <|
     lt (((runV 0 (List.take ((((dealV a1).s1).length) - x23.toNat) (List.drop x23.toNat ((dealV a1).s1))) ⟨x31, x32, x33, x34, x35⟩ l37).2.2) : List Dat) fun l43 =>
     L8_0 m m (x23, ((runV 0 ((dealV a1).s1) ⟨(within a3 0 20000), (nextV a0 0 300), (nextV a0 1 900), (nextV a0 2 5000), (nextV a0 3 700)⟩ (workC a0)).1.cash), ((runV 0 (List.take ((((dealV a1).s1).length) - x23.toNat) (List.drop x23.toNat ((dealV a1).s1))) ⟨x31, x32, x33, x34, x35⟩ l37).1.cash), (l43.length : Int), 0, ((runV 0 ((dealV a1).s1) ⟨(within a3 0 20000), (nextV a0 0 300), (nextV a0 1 900), (nextV a0 2 5000), (nextV a0 3 700)⟩ (workC a0)).2.2), ((runV 0 ((dealV a1).s1) ⟨(within a3 0 20000), (nextV a0 0 300), (nextV a0 1 900), (nextV a0 2 5000), (nextV a0 3 700)⟩ (workC a0)).1.fee), ((runV 0 ((dealV a1).s1) ⟨(within a3 0 20000), (nextV a0 0 300), (nextV a0 1 900), (nextV a0 2 5000), (nextV a0 3 700)⟩ (workC a0)).1.recoup), ((runV 0 ((dealV a1).s1) ⟨(within a3 0 20000), (nextV a0 0 300), (nextV a0 1 900), (nextV a0 2 5000), (nextV a0 3 700)⟩ (workC a0)).1.principal), ((runV 0 ((dealV a1).s1) ⟨(within a3 0 20000), (nextV a0 0 300), (nextV a0 1 900), (nextV a0 2 5000), (nextV a0 3 700)⟩ (workC a0)).1.room), ((runV 0 (List.take x23.toNat ((dealV a1).s1)) ⟨(within a3 0 20000), (nextV a0 0 300), (nextV a0 1 900), (nextV a0 2 5000), (nextV a0 3 700)⟩ (workC a0)).2.2), l43, ((runV 0 (List.take ((((dealV a1).s1).length) - x23.toNat) (List.drop x23.toNat ((dealV a1).s1))) ⟨x31, x32, x33, x34, x35⟩ l37).1.fee), ((runV 0 (List.take ((((dealV a1).s1).length) - x23.toNat) (List.drop x23.toNat ((dealV a1).s1))) ⟨x31, x32, x33, x34, x35⟩ l37).1.recoup), ((runV 0 (List.take ((((dealV a1).s1).length) - x23.toNat) (List.drop x23.toNat ((dealV a1).s1))) ⟨x31, x32, x33, x34, x35⟩ l37).1.principal), ((runV 0 (List.take ((((dealV a1).s1).length) - x23.toNat) (List.drop x23.toNat ((dealV a1).s1))) ⟨x31, x32, x33, x34, x35⟩ l37).1.room), ((runV 0 ((dealV a1).s1) ⟨(within a3 0 20000), (nextV a0 0 300), (nextV a0 1 900), (nextV a0 2 5000), (nextV a0 3 700)⟩ (workC a0)).2.1), ((runV 0 (List.take ((((dealV a1).s1).length) - x23.toNat) (List.drop x23.toNat ((dealV a1).s1))) ⟨x31, x32, x33, x34, x35⟩ l37).2.1))
    else
     none
   else
    bif decide ((within a2 0 2) = 2) then
     bif decide (-2305843009213693952 ≤ 0 ∧ 0 ≤ (((dealV a1).s2).length : Int) ∧ (((dealV a1).s2).length : Int) ≤ 2305843009213693952) then
      lt ((within a4 0 (((dealV a1).s2).length : Int)) : Int) fun x45 =>
      chk (decide (((dealV a1).s2).length ≤ 1000000) && (runG ⟨(within a3 0 20000), (nextV a0 0 300), (nextV a0 1 900), (nextV a0 2 5000), (nextV a0 3 700)⟩ && claimsG (workC a0))) <|
      chk (decide (0 ≤ x45) && (true && decide (0 ≤ x45.toNat ∧ x45.toNat ≤ ((dealV a1).s2).length))) <|
      chk (decide ((List.take x45.toNat ((dealV a1).s2)).length ≤ 1000000) && (runG ⟨(within a3 0 20000), (nextV a0 0 300), (nextV a0 1 900), (nextV a0 2 5000), (nextV a0 3 700)⟩ && claimsG (workC a0))) <|
      lt (((runV 0 (List.take x45.toNat ((dealV a1).s2)) ⟨(within a3 0 20000), (nextV a0 0 300), (nextV a0 1 900), (nextV a0 2 5000), (nextV a0 3 700)⟩ (workC a0)).1.cash) : Int) fun x53 =>
      lt (((runV 0 (List.take x45.toNat ((dealV a1).s2)) ⟨(within a3 0 20000), (nextV a0 0 300), (nextV a0 1 900), (nextV a0 2 5000), (nextV a0 3 700)⟩ (workC a0)).1.fee) : Int) fun x54 =>
      lt (((runV 0 (List.take x45.toNat ((dealV a1).s2)) ⟨(within a3 0 20000), (nextV a0 0 300), (nextV a0 1 900), (nextV a0 2 5000), (nextV a0 3 700)⟩ (workC a0)).1.recoup) : Int) fun x55 =>
      lt (((runV 0 (List.take x45.toNat ((dealV a1).s2)) ⟨(within a3 0 20000), (nextV a0 0 300), (nextV a0 1 900), (nextV a0 2 5000), (nextV a0 3 700)⟩ (workC a0)).1.principal) : Int) fun x56 =>
      lt (((runV 0 (List.take x45.toNat ((dealV a1).s2)) ⟨(within a3 0 20000), (nextV a0 0 300), (nextV a0 1 900), (nextV a0 2 5000), (nextV a0 3 700)⟩ (workC a0)).1.room) : Int) fun x57 =>
      lt (((runV 0 (List.take x45.toNat ((dealV a1).s2)) ⟨(within a3 0 20000), (nextV a0 0 300), (nextV a0 1 900), (nextV a0 2 5000), (nextV a0 3 700)⟩ (workC a0)).2.1) : List Dat) fun l59 =>
      chk (true && (decide (0 ≤ x45) && decide (x45.toNat ≤ ((dealV a1).s2).length ∧ ((dealV a1).s2).length ≤ ((dealV a1).s2).length))) <|
      chk (decide ((List.take ((((dealV a1).s2).length) - x45.toNat) (List.drop x45.toNat ((dealV a1).s2))).length ≤ 1000000) && (runG ⟨x53, x54, x55, x56, x57⟩ && claimsG l59)) <|
      lt (((runV 0 (List.take ((((dealV a1).s2).length) - x45.toNat) (List.drop x45.toNat ((dealV a1).s2))) ⟨x53, x54, x55, x56, x57⟩ l59).2.2) : List Dat) fun l65 =>
      L8_0 m m (x45, ((runV 0 ((dealV a1).s2) ⟨(within a3 0 20000), (nextV a0 0 300), (nextV a0 1 900), (nextV a0 2 5000), (nextV a0 3 700)⟩ (workC a0)).1.cash), ((runV 0 (List.take ((((dealV a1).s2).length) - x45.toNat) (List.drop x45.toNat ((dealV a1).s2))) ⟨x53, x54, x55, x56, x57⟩ l59).1.cash), (l65.length : Int), 0, ((runV 0 ((dealV a1).s2) ⟨(within a3 0 20000), (nextV a0 0 300), (nextV a0 1 900), (nextV a0 2 5000), (nextV a0 3 700)⟩ (workC a0)).2.2), ((runV 0 ((dealV a1).s2) ⟨(within a3 0 20000), (nextV a0 0 300), (nextV a0 1 900), (nextV a0 2 5000), (nextV a0 3 700)⟩ (workC a0)).1.fee), ((runV 0 ((dealV a1).s2) ⟨(within a3 0 20000), (nextV a0 0 300), (nextV a0 1 900), (nextV a0 2 5000), (nextV a0 3 700)⟩ (workC a0)).1.recoup), ((runV 0 ((dealV a1).s2) ⟨(within a3 0 20000), (nextV a0 0 300), (nextV a0 1 900), (nextV a0 2 5000), (nextV a0 3 700)⟩ (workC a0)).1.principal), ((runV 0 ((dealV a1).s2) ⟨(within a3 0 20000), (nextV a0 0 300), (nextV a0 1 900), (nextV a0 2 5000), (nextV a0 3 700)⟩ (workC a0)).1.room), ((runV 0 (List.take x45.toNat ((dealV a1).s2)) ⟨(within a3 0 20000), (nextV a0 0 300), (nextV a0 1 900), (nextV a0 2 5000), (nextV a0 3 700)⟩ (workC a0)).2.2), l65, ((runV 0 (List.take ((((dealV a1).s2).length) - x45.toNat) (List.drop x45.toNat ((dealV a1).s2))) ⟨x53, x54, x55, x56, x57⟩ l59).1.fee), ((runV 0 (List.take ((((dealV a1).s2).length) - x45.toNat) (List.drop x45.toNat ((dealV a1).s2))) ⟨x53, x54, x55, x56, x57⟩ l59).1.recoup), ((runV 0 (List.take ((((dealV a1).s2).length) - x45.toNat) (List.drop x45.toNat ((dealV a1).s2))) ⟨x53, x54, x55, x56, x57⟩ l59).1.principal), ((runV 0 (List.take ((((dealV a1).s2).length) - x45.toNat) (List.drop x45.toNat ((dealV a1).s2))) ⟨x53, x54, x55, x56, x57⟩ l59).1.room), ((runV 0 ((dealV a1).s2) ⟨(within a3 0 20000), (nextV a0 0 300), (nextV a0 1 900), (nextV a0 2 5000), (nextV a0 3 700)⟩ (workC a0)).2.1), ((runV 0 (List.take ((((dealV a1).s2).length) - x45.toNat) (List.drop x45.toNat ((dealV a1).s2))) ⟨x53, x54, x55, x56, x57⟩ l59).2.1))
     else
      none
    else
     none
section
variable (m : Nat) (nn e0 : Int) (f r p o : Int) (xs a c : List Dat)
theorem partsLL (hn0 : 0 ≤ nn ∧ nn ≤ 100) (ha : a.length ≤ 200000) (hc : c.length ≤ 1000) : ∀ (rest pre : List Dat) (n : Nat), rest.length < n → (pre ++ rest).length ≤ 200000 → (∀ d ∈ rest, 0 ≤ d.i 0 ∧ d.i 0 ≤ 100) → xs = a ++ (pre ++ rest).map (shiftD nn) →
    L8_0 m n (nn, e0, e0, ((pre ++ rest).length : Int), (pre.length : Int), xs, f, r, p, o, a, pre.map (shiftD nn) ++ rest, f, r, p, o, c, c) = some [.b true] := by
  intro rest
  induction rest with
  | nil =>
    intro pre n hn hl hb hx
    obtain ⟨n, rfl⟩ := one_more n (by simp at hn; omega)
    simp only [List.append_nil] at hl hx ⊢
    have hml : (pre.map (shiftD nn)).length = pre.length := by simp
    rw [L8_0_succ]; unfold L8_0s; dsimp only
    rw [cond_df (by omega), chk_fits (by omega) (by omega), chk_fits (by omega) (by omega), chk_dec (by rw [List.length_append]; omega), hx, sameR_refl, cond_true, cond_bt rfl, chk_dec (by omega), sameR_refl, cond_true, cond_bt rfl, cond_bt rfl, cond_bt rfl, cond_bt rfl]
  | cons x rest ih =>
    intro pre n hn hl hb hx
    obtain ⟨n, rfl⟩ := one_more n (by simp at hn; omega)
    simp only [List.length_cons, List.length_append] at hn hl
    have h0 := hb x (by simp)
    have := ih (pre ++ [x]) n (by omega) (by simp; omega) (fun d hd => hb d (by simp [hd])) (by simpa using hx)
    have hml : (pre.map (shiftD nn)).length = pre.length := by simp
    have hrow : rowD (pre.map (shiftD nn) ++ x :: rest) pre.length = x := by rw [← hml]; exact rowD_mid _ _ _
    have hset : ∀ y, (pre.map (shiftD nn) ++ x :: rest).set pre.length y = pre.map (shiftD nn) ++ y :: rest := fun y => by rw [← hml]; exact set_mid _ _ _ _
    rw [L8_0_succ]; unfold L8_0s; dsimp only
    rw [Int.toNat_natCast]
    simp only [lt_eq, hrow, hset]
    have hll : (pre.map (shiftD nn) ++ x :: rest).length = pre.length + (rest.length + 1) := by simp
    rw [wrap_id (n := x.i 0 + nn) (by omega) (by omega)]
    rw [cond_dt (by simp only [List.length_append, List.length_cons]; omega), chk_inb (by omega) (by omega), chk_dec (by omega), chk_inb (by omega) (by omega), chk_dec (by omega), wrap_id (by omega) (by omega)]
    simp only [List.map_append, List.map_cons, List.map_nil, shiftD] at this
    simp only [List.length_append, List.length_cons, List.length_nil, List.length_replicate, List.length_set, List.length_map, List.length_range, Int.natCast_add, Int.cast_ofNat_Int, Int.toNat_natCast, Int.add_assoc, Nat.zero_add, Int.zero_add, List.append_assoc, List.cons_append, List.nil_append] at this ⊢
    exact this
end
set_option maxHeartbeats 8000000 in
theorem spec8 (b0 : List Int) (wb0 : b0.length ≤ 140737488355328 ∧ ∀ x ∈ b0, (Lit.int .i64 x).wf = true) (b1 : Int) (wb1 : (Lit.int .i64 b1).wf = true) (b2 : Int) (wb2 : (Lit.int .i64 b2).wf = true) (b3 : Int) (wb3 : (Lit.int .i64 b3).wf = true) (b4 : Int) (wb4 : (Lit.int .i64 b4).wf = true) (b5 : Int) (wb5 : (Lit.int .i64 b5).wf = true) (b6 : Int) (wb6 : (Lit.int .i64 b6).wf = true) (b7 : Int) (wb7 : (Lit.int .i64 b7).wf = true) (b8 : Int) (wb8 : (Lit.int .i64 b8).wf = true) (b9 : Int) (wb9 : (Lit.int .i64 b9).wf = true) (b10 : Int) (wb10 : (Lit.int .i64 b10).wf = true) (b11 : Int) (wb11 : (Lit.int .i64 b11).wf = true) (b12 : Int) (wb12 : (Lit.int .i64 b12).wf = true) (b13 : Int) (wb13 : (Lit.int .i64 b13).wf = true) (b14 : List Int) (wb14 : b14.length ≤ 140737488355328 ∧ ∀ x ∈ b14, (Lit.int .i64 x).wf = true) (b15 : List Int) (wb15 : b15.length ≤ 140737488355328 ∧ ∀ x ∈ b15, (Lit.int .i64 x).wf = true) (b16 : List Int) (wb16 : b16.length ≤ 140737488355328 ∧ ∀ x ∈ b16, (Lit.int .i64 x).wf = true) (b17 : List Int) (wb17 : b17.length ≤ 140737488355328 ∧ ∀ x ∈ b17, (Lit.int .i64 x).wf = true) (b18 : List Int) (wb18 : b18.length ≤ 140737488355328 ∧ ∀ x ∈ b18, (Lit.int .i64 x).wf = true) (b19 : List Int) (wb19 : b19.length ≤ 140737488355328 ∧ ∀ x ∈ b19, (Lit.int .i64 x).wf = true) (b20 : List Int) (wb20 : b20.length ≤ 140737488355328 ∧ ∀ x ∈ b20, (Lit.int .i64 x).wf = true) (b21 : Int) (wb21 : (Lit.int .i64 b21).wf = true) (b22 : Int) (wb22 : (Lit.int .i64 b22).wf = true) (b23 : Int) (wb23 : (Lit.int .i64 b23).wf = true) : ∃ m, t8 m (b0, (⟨(⟨b1, b2, b3⟩ : DealA), (⟨b4, b5, b6, b7, b8, b9, b10, b11, b12, b13⟩ : DealB), b14, b15, b16, b17, b18, b19, b20⟩ : KDeal), b21, b22, b23) = some [.b true] := by
  have hn : (⟨⟨b1, b2, b3⟩, ⟨b4, b5, b6, b7, b8, b9, b10, b11, b12, b13⟩, b14, b15, b16, b17, b18, b19, b20⟩ : KDeal).notes.length ≤ 140737488355328 := wb15.1
  generalize (⟨⟨b1, b2, b3⟩, ⟨b4, b5, b6, b7, b8, b9, b10, b11, b12, b13⟩, b14, b15, b16, b17, b18, b19, b20⟩ : KDeal) = k at hn
  have hi := within_le (a := b21) (show (0 : Int) ≤ 2 by decide)
  have hw := within_le (a := b22) (show (0 : Int) ≤ 20000 by decide)
  have hx := workR_ok b0 (cash := within b22 0 20000) (by omega)
  have hc := workC_ok b0
  have hcl := workC_len b0
  unfold workR at hx
  refine ⟨1000000, ?_⟩
  unfold t8
  dsimp only
  rw [chk_dec hn]
  simp only [lt_eq]
  generalize (⟨within b22 0 20000, nextV b0 0 300, nextV b0 1 900, nextV b0 2 5000, nextV b0 3 700⟩ : RunN) = X at *
  by_cases h0 : within b21 0 2 = 0
  · rw [cond_dt h0]
    have hsl : ((dealV k).s0).length ≤ 12 := (stepsV_short k.s0).2
    generalize (dealV k).s0 = st at hsl
    rw [cond_dt (by omega)]
    have hj := within_le (a := b23) (show (0 : Int) ≤ (st.length : Int) by omega)
    generalize within b23 0 (st.length : Int) = j at *
    obtain ⟨t, rfl⟩ : ∃ t : Nat, j = (t : Int) := ⟨j.toNat, by omega⟩
    have e2 : List.take (st.length - t) (List.drop t st) = List.drop t st := List.take_of_length_le (by simp)
    have hl1 : (List.take t st).length = t := by rw [List.length_take]; omega
    have hl2 : (List.drop t st).length ≤ 12 := by rw [List.length_drop]; omega
    simp only [Int.toNat_natCast, e2]
    have ho1 := runV_ok (List.take t st) 0 X (workC b0) hx hc
    have happ := runV_app (List.take t st) (List.drop t st) 0 X (workC b0)
    rw [List.take_append_drop, hl1, Int.zero_add] at happ
    simp only [hx, hc, Bool.and_self, Bool.and_true]
    rw [chk_dec (by omega), chk_t (by simp; omega) rfl, chk_dec (by omega), chk_t (by simp; omega) rfl]
    rw [happ]
    generalize runV 0 (List.take t st) X (workC b0) = R at *
    obtain ⟨x1, c1, p1⟩ := R
    simp only at ho1 ⊢
    have hcl1 : c1.length ≤ 1000 := by omega
    rw [show (⟨x1.cash, x1.fee, x1.recoup, x1.principal, x1.room⟩ : RunN) = x1 from rfl]
    have ho2 := runV_ok (List.drop t st) 0 x1 c1 ho1.1 ho1.2.1
    have hk := (runV_kept (List.drop t st) 0 x1 c1 ho1.1 ho1.2.1).2.1
    have hsh := runV_shift (t : Int) (List.drop t st) 0 x1 c1
    rw [Int.zero_add] at hsh
    rw [hsh, ho1.1, ho1.2.1, Bool.and_self, Bool.and_true, chk_dec (by omega)]
    generalize runV 0 (List.drop t st) x1 c1 = S at *
    exact partsLL 1000000 t S.1.cash S.1.fee S.1.recoup S.1.principal S.1.room (p1 ++ S.2.2.map (shiftD t)) p1 S.2.1 ⟨by omega, by omega⟩ (by omega) (by omega) S.2.2 [] 1000000 (by omega) (by simp; omega) (fun d hd => by have := (hk d hd).1; omega) rfl
  · rw [cond_df h0]
    by_cases h1 : within b21 0 2 = 1
    · rw [cond_dt h1]
      have hsl : ((dealV k).s1).length ≤ 12 := (stepsV_short k.s1).2
      generalize (dealV k).s1 = st at hsl
      rw [cond_dt (by omega)]
      have hj := within_le (a := b23) (show (0 : Int) ≤ (st.length : Int) by omega)
      generalize within b23 0 (st.length : Int) = j at *
      obtain ⟨t, rfl⟩ : ∃ t : Nat, j = (t : Int) := ⟨j.toNat, by omega⟩
      have e2 : List.take (st.length - t) (List.drop t st) = List.drop t st := List.take_of_length_le (by simp)
      have hl1 : (List.take t st).length = t := by rw [List.length_take]; omega
      have hl2 : (List.drop t st).length ≤ 12 := by rw [List.length_drop]; omega
      simp only [Int.toNat_natCast, e2]
      have ho1 := runV_ok (List.take t st) 0 X (workC b0) hx hc
      have happ := runV_app (List.take t st) (List.drop t st) 0 X (workC b0)
      rw [List.take_append_drop, hl1, Int.zero_add] at happ
      simp only [hx, hc, Bool.and_self, Bool.and_true]
      rw [chk_dec (by omega), chk_t (by simp; omega) rfl, chk_dec (by omega), chk_t (by simp; omega) rfl]
      rw [happ]
      generalize runV 0 (List.take t st) X (workC b0) = R at *
      obtain ⟨x1, c1, p1⟩ := R
      simp only at ho1 ⊢
      have hcl1 : c1.length ≤ 1000 := by omega
      rw [show (⟨x1.cash, x1.fee, x1.recoup, x1.principal, x1.room⟩ : RunN) = x1 from rfl]
      have ho2 := runV_ok (List.drop t st) 0 x1 c1 ho1.1 ho1.2.1
      have hk := (runV_kept (List.drop t st) 0 x1 c1 ho1.1 ho1.2.1).2.1
      have hsh := runV_shift (t : Int) (List.drop t st) 0 x1 c1
      rw [Int.zero_add] at hsh
      rw [hsh, ho1.1, ho1.2.1, Bool.and_self, Bool.and_true, chk_dec (by omega)]
      generalize runV 0 (List.drop t st) x1 c1 = S at *
      exact partsLL 1000000 t S.1.cash S.1.fee S.1.recoup S.1.principal S.1.room (p1 ++ S.2.2.map (shiftD t)) p1 S.2.1 ⟨by omega, by omega⟩ (by omega) (by omega) S.2.2 [] 1000000 (by omega) (by simp; omega) (fun d hd => by have := (hk d hd).1; omega) rfl
    · rw [cond_df h1]
      by_cases h2 : within b21 0 2 = 2
      · rw [cond_dt h2]
        have hsl : ((dealV k).s2).length ≤ 12 := (stepsV_short k.s2).2
        generalize (dealV k).s2 = st at hsl
        rw [cond_dt (by omega)]
        have hj := within_le (a := b23) (show (0 : Int) ≤ (st.length : Int) by omega)
        generalize within b23 0 (st.length : Int) = j at *
        obtain ⟨t, rfl⟩ : ∃ t : Nat, j = (t : Int) := ⟨j.toNat, by omega⟩
        have e2 : List.take (st.length - t) (List.drop t st) = List.drop t st := List.take_of_length_le (by simp)
        have hl1 : (List.take t st).length = t := by rw [List.length_take]; omega
        have hl2 : (List.drop t st).length ≤ 12 := by rw [List.length_drop]; omega
        simp only [Int.toNat_natCast, e2]
        have ho1 := runV_ok (List.take t st) 0 X (workC b0) hx hc
        have happ := runV_app (List.take t st) (List.drop t st) 0 X (workC b0)
        rw [List.take_append_drop, hl1, Int.zero_add] at happ
        simp only [hx, hc, Bool.and_self, Bool.and_true]
        rw [chk_dec (by omega), chk_t (by simp; omega) rfl, chk_dec (by omega), chk_t (by simp; omega) rfl]
        rw [happ]
        generalize runV 0 (List.take t st) X (workC b0) = R at *
        obtain ⟨x1, c1, p1⟩ := R
        simp only at ho1 ⊢
        have hcl1 : c1.length ≤ 1000 := by omega
        rw [show (⟨x1.cash, x1.fee, x1.recoup, x1.principal, x1.room⟩ : RunN) = x1 from rfl]
        have ho2 := runV_ok (List.drop t st) 0 x1 c1 ho1.1 ho1.2.1
        have hk := (runV_kept (List.drop t st) 0 x1 c1 ho1.1 ho1.2.1).2.1
        have hsh := runV_shift (t : Int) (List.drop t st) 0 x1 c1
        rw [Int.zero_add] at hsh
        rw [hsh, ho1.1, ho1.2.1, Bool.and_self, Bool.and_true, chk_dec (by omega)]
        generalize runV 0 (List.drop t st) x1 c1 = S at *
        exact partsLL 1000000 t S.1.cash S.1.fee S.1.recoup S.1.principal S.1.room (p1 ++ S.2.2.map (shiftD t)) p1 S.2.1 ⟨by omega, by omega⟩ (by omega) (by omega) S.2.2 [] 1000000 (by omega) (by simp; omega) (fun d hd => by have := (hk d hd).1; omega) rfl
      · rw [cond_df h2]
        omega
set_option maxRecDepth 20000 in
theorem walkFlowParts {HH : Type} {enc : TypeId × Value → HH} {w : World} {base : Nat} {vs : List Value} {ds : List (DataW HH)} {ps : List MemPlace} (hsh : w.ShapedOpen Try.prog)
    (hd : DataW.TrodAll enc Try.prog w 0 (fun _ => true) true Try.f8.params.toList vs ds ps) {us' : List TypeId} {gs : List (DataW HH)} (hz : (DataW.weightsEach Try.prog (Try.f8.params.toList ++ us') (ds ++ gs)).all (· ≤ reachBytes) = true) (hval : ∀ (j : Nat) t v, Try.f8.params.toList[j]? = some t → vs[j]? = some v → Value.okWide Try.prog w .any base t v) :
    Calls Try.prog 8 vs.toArray w fun e w' => e = .returned (.bool true) ∧ RowKit.Below w.heap.size w w' :=
  law_args Seat.mix Seat.names TE_right (pars := RFlowParts) (by kernel_rfl) (fun us h => by
    change WfU [.ints .i64, .int .i64, .int .i64, .int .i64, .int .i64, .int .i64, .int .i64, .int .i64, .int .i64, .int .i64, .int .i64, .int .i64, .int .i64, .int .i64, .ints .i64, .ints .i64, .ints .i64, .ints .i64, .ints .i64, .ints .i64, .ints .i64, .int .i64, .int .i64, .int .i64] us at h
    obtain ⟨b0, u, rfl, wb0, h⟩ := wf_ints h
    obtain ⟨b1, u, rfl, wb1, h⟩ := wf_int h
    obtain ⟨b2, u, rfl, wb2, h⟩ := wf_int h
    obtain ⟨b3, u, rfl, wb3, h⟩ := wf_int h
    obtain ⟨b4, u, rfl, wb4, h⟩ := wf_int h
    obtain ⟨b5, u, rfl, wb5, h⟩ := wf_int h
    obtain ⟨b6, u, rfl, wb6, h⟩ := wf_int h
    obtain ⟨b7, u, rfl, wb7, h⟩ := wf_int h
    obtain ⟨b8, u, rfl, wb8, h⟩ := wf_int h
    obtain ⟨b9, u, rfl, wb9, h⟩ := wf_int h
    obtain ⟨b10, u, rfl, wb10, h⟩ := wf_int h
    obtain ⟨b11, u, rfl, wb11, h⟩ := wf_int h
    obtain ⟨b12, u, rfl, wb12, h⟩ := wf_int h
    obtain ⟨b13, u, rfl, wb13, h⟩ := wf_int h
    obtain ⟨b14, u, rfl, wb14, h⟩ := wf_ints h
    obtain ⟨b15, u, rfl, wb15, h⟩ := wf_ints h
    obtain ⟨b16, u, rfl, wb16, h⟩ := wf_ints h
    obtain ⟨b17, u, rfl, wb17, h⟩ := wf_ints h
    obtain ⟨b18, u, rfl, wb18, h⟩ := wf_ints h
    obtain ⟨b19, u, rfl, wb19, h⟩ := wf_ints h
    obtain ⟨b20, u, rfl, wb20, h⟩ := wf_ints h
    obtain ⟨b21, u, rfl, wb21, h⟩ := wf_int h
    obtain ⟨b22, u, rfl, wb22, h⟩ := wf_int h
    obtain ⟨b23, u, rfl, wb23, h⟩ := wf_int h
    obtain rfl := wf_nil h
    obtain ⟨m, hm⟩ := spec8 b0 wb0 b1 wb1 b2 wb2 b3 wb3 b4 wb4 b5 wb5 b6 wb6 b7 wb7 b8 wb8 b9 wb9 b10 wb10 b11 wb11 b12 wb12 b13 wb13 b14 wb14 b15 wb15 b16 wb16 b17 wb17 b18 wb18 b19 wb19 b20 wb20 b21 wb21 b22 wb22 b23 wb23
    have G : N8.road Try.prog LQ KN (Uns.enc (b0, (⟨(⟨b1, b2, b3⟩ : DealA), (⟨b4, b5, b6, b7, b8, b9, b10, b11, b12, b13⟩ : DealB), b14, b15, b16, b17, b18, b19, b20⟩ : KDeal), b21, b22, b23)) ([S8_0 (L8_0 m m)]) = t8 m (b0, (⟨(⟨b1, b2, b3⟩ : DealA), (⟨b4, b5, b6, b7, b8, b9, b10, b11, b12, b13⟩ : DealB), b14, b15, b16, b17, b18, b19, b20⟩ : KDeal), b21, b22, b23) := by kernel_rfl
    exact N8.tells KN_none T12.right (W := [S8_0 (L8_0 m m)]) (by kernel_rfl) (by kernel_rfl) (by kernel_rfl) (all1 (H8_0 m m) all0) (G.trans hm)) hsh hd hz hval
end Go.Proofs.Ytncgbpajngakpaa
