/- A part of the walk. -/
import Derived.Test.YtncgbpajngakpaaFlowPlain2
namespace Go.Proofs.Ytncgbpajngakpaa
open Go Go.Proofs.Ytncgbpajngakpaa.Ev
set_option linter.unusedVariables false
set_option linter.unusedSimpArgs false
set_option linter.unnecessarySimpa false
def RFlowKeeps : List Par := [(false, [.ints .i64]), (true, [.int .i64, .int .i64, .int .i64, .int .i64, .int .i64, .int .i64, .int .i64, .int .i64, .int .i64, .int .i64, .int .i64, .int .i64, .int .i64, .ints .i64, .ints .i64, .ints .i64, .ints .i64, .ints .i64, .ints .i64, .ints .i64]), (false, [.int .i64]), (false, [.int .i64])]
/-! cascade/cascadelaw17.FlowKeeps -/
noncomputable def N5 : RoadF := ⟨T12.tab, 5, ⟨List.map Par.vp RFlowKeeps, []⟩, ⟨[.bool], []⟩, []⟩
abbrev A5_1 : Type := Int × Int × Int × Int × Int × Int × Int × Int × Int × Int × Int × Int × Int × Int × List Int × List Int × List Dat × List Dat
abbrev A5_0 : Type := Int × Int × Int × Int × Int × Int × Int × Int × Int × Int × List Dat × List Dat × Int × Int × Int × Int × List Int × List Int × List Dat × List Dat
noncomputable def L5_1s (m : Nat) (k : A5_1 → Option (List Un)) : A5_1 → Option (List Un) := fun (a0, a1, a2, a3, a4, a5, a6, a7, a8, a9, a10, a11, a12, a13, a14, a15, a16, a17) =>
  bif decide (a5 < a4) then
   chk (inb a5 a16.length) <|
   chk (decide (a5.toNat < a16.length)) <|
   lt (rowD a16 a5.toNat : Dat) fun d74 =>
   chk (inb a5 a17.length) <|
   chk (decide (a5.toNat < a17.length)) <|
   chk (inb a5 a14.length) <|
   chk (decide (a5.toNat < a14.length)) <|
   bif (d74.i 2) != (w64 (((rowD a17 a5.toNat).i 2) - (a14.getD a5.toNat 0))) then
    some ([.b false])
   else
    chk (inb a5 a17.length) <|
    chk (decide (a5.toNat < a17.length)) <|
    chk (inb a5 a15.length) <|
    chk (decide (a5.toNat < a15.length)) <|
    bif (d74.i 1) != (w64 (((rowD a17 a5.toNat).i 1) - (a15.getD a5.toNat 0))) then
     some ([.b false])
    else
     bif decide ((d74.i 2) < 0) then
      some ([.b false])
     else
      bif decide ((d74.i 1) < 0) then
       some ([.b false])
      else
       chk (inb a5 a17.length) <|
       chk (decide (a5.toNat < a17.length)) <|
       bif (d74.i 0) != ((rowD a17 a5.toNat).i 0) then
        some ([.b false])
       else
        k (a0, a1, a2, a3, a4, (w64 (a5 + 1)), a6, a7, a8, a9, a10, a11, a12, a13, a14, a15, a16, a17)
  else
   bif a10 == (w64 (a6 - a0)) then
    bif a11 == (w64 (a7 - a1)) then
     bif a13 == (w64 (a9 - a2)) then
      bif a12 == (w64 (a8 - a3)) then
       chk (decide (0 ≤ a10 ∧ a10 ≤ 1125899906842624 ∧ 0 ≤ a11 ∧ a11 ≤ 1125899906842624 ∧ 0 ≤ a12 ∧ a12 ≤ 1125899906842624 ∧ 0 ≤ a13 ∧ a13 ≤ 1125899906842624 ∧ a16.length ≤ 8) && (claimsG a16 && a16.all rankG)) <|
       some ([.b true])
      else
       some ([.b false])
     else
      some ([.b false])
    else
     some ([.b false])
   else
    some ([.b false])
noncomputable def L5_1 (m : Nat) : Nat → A5_1 → Option (List Un) := iterA (L5_1s m)
theorem L5_1_succ (m : Nat) (n : Nat) : L5_1 m (n + 1) = L5_1s m (L5_1 m n) := rfl
noncomputable def S5_1 (F : A5_1 → Option (List Un)) : StopS := ⟨[.lp [0, 1, 0, 1, 1, 1, 1, 1, 1, 1, 1, 1], .blk 3, .code [1, 1, 1, 1, 1, 1, 1, 1, 1, 1]], ⟨frm 302 [(9, .ptr 0 0 0), (15, .ptr 1 0 0), (16, .int .i64), (17, .int .i64), (18, .int .i64), (19, .int .i64), (20, .buf 2 1), (21, .buf 3 1), (202, .buf 4 3), (203, .int .i64), (204, .int .i64)], [.cells [.int .i64, .int .i64, .int .i64, .int .i64, .buf 5 3], .cells [.int .i64, .int .i64, .int .i64, .int .i64, .buf 4 3], .ints .i64, .ints .i64, .recs [.int .i64, .int .i64, .int .i64], .recs [.int .i64, .int .i64, .int .i64]]⟩, onU F⟩
noncomputable def L5_0s (m : Nat) (k : A5_0 → Option (List Un)) : A5_0 → Option (List Un) := fun (a0, a1, a2, a3, a4, a5, a6, a7, a8, a9, a10, a11, a12, a13, a14, a15, a16, a17, a18, a19) =>
  bif decide (a5 < a4) then
   chk (inb a5 a11.length) <|
   chk (decide (a5.toNat < a11.length)) <|
   lt (rowD a11 a5.toNat : Dat) fun d37 =>
   bif decide ((d37.i 3) < 1) then
    some ([.b false])
   else
    bif decide ((d37.i 0) < 0) then
     some ([.b false])
    else
     bif (decide ((d37.i 0) ≥ (a10.length : Int))) then
      some ([.b false])
     else
      chk (inb (d37.i 0) a10.length) <|
      chk (decide ((d37.i 0).toNat < a10.length)) <|
      bif ((rowD a10 ((d37.i 0).toNat)).i 0) != (d37.i 1) then
       some ([.b false])
      else
       bif decide (a5 > 0) then
        chk (inb (w64 (a5 - 1)) a11.length) <|
        chk (decide ((w64 (a5 - 1)).toNat < a11.length)) <|
        bif (decide (((rowD a11 ((w64 (a5 - 1)).toNat)).i 0) > (d37.i 0))) then
         some ([.b false])
        else
         bif (decide ((d37.i 2) ≥ (a18.length : Int))) then
          some ([.b false])
         else
          bif (d37.i 1) == 1 then
           bif (!((decide ((d37.i 2) < 0)) == true)) then
            some ([.b false])
           else
            bif (d37.i 1) == 1 then
             k ((w64 (a0 + (d37.i 3))), a1, a2, a3, a4, (w64 (a5 + 1)), a6, a7, a8, a9, a10, a11, a12, a13, a14, a15, a16, a17, a18, a19)
            else
             bif (d37.i 1) == 2 then
              k (a0, (w64 (a1 + (d37.i 3))), a2, a3, a4, (w64 (a5 + 1)), a6, a7, a8, a9, a10, a11, a12, a13, a14, a15, a16, a17, a18, a19)
             else
              bif (d37.i 1) == 6 then
               k (a0, a1, (w64 (a2 + (d37.i 3))), a3, a4, (w64 (a5 + 1)), a6, a7, a8, a9, a10, a11, a12, a13, a14, a15, a16, a17, a18, a19)
              else
               bif (d37.i 1) == 3 then
                chk (inb (d37.i 2) a16.length) <|
                chk (decide ((d37.i 2).toNat < a16.length)) <|
                chk (inb (d37.i 2) a16.length) <|
                chk (decide ((d37.i 2).toNat < a16.length)) <|
                k (a0, a1, a2, a3, a4, (w64 (a5 + 1)), a6, a7, a8, a9, a10, a11, a12, a13, a14, a15, (List.set a16 ((d37.i 2).toNat) (w64 ((a16.getD ((d37.i 2).toNat) 0) + (d37.i 3)))), a17, a18, a19)
               else
                chk (inb (d37.i 2) a17.length) <|
                chk (decide ((d37.i 2).toNat < a17.length)) <|
                chk (inb (d37.i 2) a17.length) <|
                chk (decide ((d37.i 2).toNat < a17.length)) <|
                lt ((List.set a17 ((d37.i 2).toNat) (w64 ((a17.getD ((d37.i 2).toNat) 0) + (d37.i 3)))) : List Int) fun l47 =>
                bif (d37.i 1) != 7 then
                 k (a0, a1, a2, (w64 (a3 + (d37.i 3))), a4, (w64 (a5 + 1)), a6, a7, a8, a9, a10, a11, a12, a13, a14, a15, a16, l47, a18, a19)
                else
                 k (a0, a1, a2, a3, a4, (w64 (a5 + 1)), a6, a7, a8, a9, a10, a11, a12, a13, a14, a15, a16, l47, a18, a19)
          else
           bif (d37.i 1) == 2 then
            bif (!((decide ((d37.i 2) < 0)) == true)) then
             some ([.b false])
            else
             bif (d37.i 1) == 1 then
              k ((w64 (a0 + (d37.i 3))), a1, a2, a3, a4, (w64 (a5 + 1)), a6, a7, a8, a9, a10, a11, a12, a13, a14, a15, a16, a17, a18, a19)
             else
              bif (d37.i 1) == 2 then
               k (a0, (w64 (a1 + (d37.i 3))), a2, a3, a4, (w64 (a5 + 1)), a6, a7, a8, a9, a10, a11, a12, a13, a14, a15, a16, a17, a18, a19)
              else
               bif (d37.i 1) == 6 then
                k (a0, a1, (w64 (a2 + (d37.i 3))), a3, a4, (w64 (a5 + 1)), a6, a7, a8, a9, a10, a11, a12, a13, a14, a15, a16, a17, a18, a19)
               else
                bif (d37.i 1) == 3 then
                 chk (inb (d37.i 2) a16.length) <|
                 chk (decide ((d37.i 2).toNat < a16.length)) <|
                 chk (inb (d37.i 2) a16.length) <|
                 chk (decide ((d37.i 2).toNat < a16.length)) <|
                 k (a0, a1, a2, a3, a4, (w64 (a5 + 1)), a6, a7, a8, a9, a10, a11, a12, a13, a14, a15, (List.set a16 ((d37.i 2).toNat) (w64 ((a16.getD ((d37.i 2).toNat) 0) + (d37.i 3)))), a17, a18, a19)
                else
                 chk (inb (d37.i 2) a17.length) <|
                 chk (decide ((d37.i 2).toNat < a17.length)) <|
                 chk (inb (d37.i 2) a17.length) <|
                 chk (decide ((d37.i 2).toNat < a17.length)) <|
                 lt ((List.set a17 ((d37.i 2).toNat) (w64 ((a17.getD ((d37.i 2).toNat) 0) + (d37.i 3)))) : List Int) fun l52 =>
                 bif (d37.i 1) != 7 then
                  k (a0, a1, a2, (w64 (a3 + (d37.i 3))), a4, (w64 (a5 + 1)), a6, a7, a8, a9, a10, a11, a12, a13, a14, a15, a16, l52, a18, a19)
                 else
                  k (a0, a1, a2, a3, a4, (w64 (a5 + 1)), a6, a7, a8, a9, a10, a11, a12, a13, a14, a15, a16, l52, a18, a19)
           else
            bif (!((decide ((d37.i 2) < 0)) == ((d37.i 1) == 6))) then
             some ([.b false])
            else
             bif (d37.i 1) == 1 then
              k ((w64 (a0 + (d37.i 3))), a1, a2, a3, a4, (w64 (a5 + 1)), a6, a7, a8, a9, a10, a11, a12, a13, a14, a15, a16, a17, a18, a19)
             else
              bif (d37.i 1) == 2 then
               k (a0, (w64 (a1 + (d37.i 3))), a2, a3, a4, (w64 (a5 + 1)), a6, a7, a8, a9, a10, a11, a12, a13, a14, a15, a16, a17, a18, a19)
              else
               bif (d37.i 1) == 6 then
                k (a0, a1, (w64 (a2 + (d37.i 3))), a3, a4, (w64 (a5 + 1)), a6, a7, a8, a9, a10, a11, a12, a13, a14, a15, a16, a17, a18, a19)
               else
                bif (d37.i 1) == 3 then
                 chk (inb (d37.i 2) a16.length) <|
                 chk (decide ((d37.i 2).toNat < a16.length)) <|
                 chk (inb (d37.i 2) a16.length) <|
                 chk (decide ((d37.i 2).toNat < a16.length)) <|
                 k (a0, a1, a2, a3, a4, (w64 (a5 + 1)), a6, a7, a8, a9, a10, a11, a12, a13, a14, a15, (List.set a16 ((d37.i 2).toNat) (w64 ((a16.getD ((d37.i 2).toNat) 0) + (d37.i 3)))), a17, a18, a19)
                else
                 chk (inb (d37.i 2) a17.length) <|
                 chk (decide ((d37.i 2).toNat < a17.length)) <|
                 chk (inb (d37.i 2) a17.length) <|
                 chk (decide ((d37.i 2).toNat < a17.length)) <|
                 lt ((List.set a17 ((d37.i 2).toNat) (w64 ((a17.getD ((d37.i 2).toNat) 0) + (d37.i 3)))) : List Int) fun l57 =>
                 bif (d37.i 1) != 7 then
                  k (a0, a1, a2, (w64 (a3 + (d37.i 3))), a4, (w64 (a5 + 1)), a6, a7, a8, a9, a10, a11, a12, a13, a14, a15, a16, l57, a18, a19)
                 else
                  k (a0, a1, a2, a3, a4, (w64 (a5 + 1)), a6, a7, a8, a9, a10, a11, a12, a13, a14, a15, a16, l57, a18, a19)
       else
        bif (decide ((d37.i 2) ≥ (a18.length : Int))) then
         some ([.b false])
        else
         bif (d37.i 1) == 1 then
          bif (!((decide ((d37.i 2) < 0)) == true)) then
           some ([.b false])
          else
           bif (d37.i 1) == 1 then
            k ((w64 (a0 + (d37.i 3))), a1, a2, a3, a4, (w64 (a5 + 1)), a6, a7, a8, a9, a10, a11, a12, a13, a14, a15, a16, a17, a18, a19)
           else
            bif (d37.i 1) == 2 then
             k (a0, (w64 (a1 + (d37.i 3))), a2, a3, a4, (w64 (a5 + 1)), a6, a7, a8, a9, a10, a11, a12, a13, a14, a15, a16, a17, a18, a19)
            else
             bif (d37.i 1) == 6 then
              k (a0, a1, (w64 (a2 + (d37.i 3))), a3, a4, (w64 (a5 + 1)), a6, a7, a8, a9, a10, a11, a12, a13, a14, a15, a16, a17, a18, a19)
             else
              bif (d37.i 1) == 3 then
               chk (inb (d37.i 2) a16.length) <|
               chk (decide ((d37.i 2).toNat < a16.length)) <|
               chk (inb (d37.i 2) a16.length) <|
               chk (decide ((d37.i 2).toNat < a16.length)) <|
               k (a0, a1, a2, a3, a4, (w64 (a5 + 1)), a6, a7, a8, a9, a10, a11, a12, a13, a14, a15, (List.set a16 ((d37.i 2).toNat) (w64 ((a16.getD ((d37.i 2).toNat) 0) + (d37.i 3)))), a17, a18, a19)
              else
               chk (inb (d37.i 2) a17.length) <|
               chk (decide ((d37.i 2).toNat < a17.length)) <|
               chk (inb (d37.i 2) a17.length) <|
               chk (decide ((d37.i 2).toNat < a17.length)) <|
               lt ((List.set a17 ((d37.i 2).toNat) (w64 ((a17.getD ((d37.i 2).toNat) 0) + (d37.i 3)))) : List Int) fun l63 =>
               bif (d37.i 1) != 7 then
                k (a0, a1, a2, (w64 (a3 + (d37.i 3))), a4, (w64 (a5 + 1)), a6, a7, a8, a9, a10, a11, a12, a13, a14, a15, a16, l63, a18, a19)
               else
                k (a0, a1, a2, a3, a4, (w64 (a5 + 1)), a6, a7, a8, a9, a10, a11, a12, a13, a14, a15, a16, l63, a18, a19)
         else
          bif (d37.i 1) == 2 then
           bif (!((decide ((d37.i 2) < 0)) == true)) then
            some ([.b false])
           else
            bif (d37.i 1) == 1 then
             k ((w64 (a0 + (d37.i 3))), a1, a2, a3, a4, (w64 (a5 + 1)), a6, a7, a8, a9, a10, a11, a12, a13, a14, a15, a16, a17, a18, a19)
            else
             bif (d37.i 1) == 2 then
              k (a0, (w64 (a1 + (d37.i 3))), a2, a3, a4, (w64 (a5 + 1)), a6, a7, a8, a9, a10, a11, a12, a13, a14, a15, a16, a17, a18, a19)
             else
              bif (d37.i 1) == 6 then
               k (a0, a1, (w64 (a2 + (d37.i 3))), a3, a4, (w64 (a5 + 1)), a6, a7, a8, a9, a10, a11, a12, a13, a14, a15, a16, a17, a18, a19)
              else
               bif (d37.i 1) == 3 then
                chk (inb (d37.i 2) a16.length) <|
                chk (decide ((d37.i 2).toNat < a16.length)) <|
                chk (inb (d37.i 2) a16.length) <|
                chk (decide ((d37.i 2).toNat < a16.length)) <|
                k (a0, a1, a2, a3, a4, (w64 (a5 + 1)), a6, a7, a8, a9, a10, a11, a12, a13, a14, a15, (List.set a16 ((d37.i 2).toNat) (w64 ((a16.getD ((d37.i 2).toNat) 0) + (d37.i 3)))), a17, a18, a19)
               else
                chk (inb (d37.i 2) a17.length) <|
                chk (decide ((d37.i 2).toNat < a17.length)) <|
                chk (inb (d37.i 2) a17.length) <|
                chk (decide ((d37.i 2).toNat < a17.length)) <|
                lt ((List.set a17 ((d37.i 2).toNat) (w64 ((a17.getD ((d37.i 2).toNat) 0) + (d37.i 3)))) : List Int) fun l68 =>
                bif (d37.i 1) != 7 then
                 k (a0, a1, a2, (w64 (a3 + (d37.i 3))), a4, (w64 (a5 + 1)), a6, a7, a8, a9, a10, a11, a12, a13, a14, a15, a16, l68, a18, a19)
                else
                 k (a0, a1, a2, a3, a4, (w64 (a5 + 1)), a6, a7, a8, a9, a10, a11, a12, a13, a14, a15, a16, l68, a18, a19)
          else
           bif (!((decide ((d37.i 2) < 0)) == ((d37.i 1) == 6))) then
            some ([.b false])
           else
            bif (d37.i 1) == 1 then
             k ((w64 (a0 + (d37.i 3))), a1, a2, a3, a4, (w64 (a5 + 1)), a6, a7, a8, a9, a10, a11, a12, a13, a14, a15, a16, a17, a18, a19)
            else
             bif (d37.i 1) == 2 then
              k (a0, (w64 (a1 + (d37.i 3))), a2, a3, a4, (w64 (a5 + 1)), a6, a7, a8, a9, a10, a11, a12, a13, a14, a15, a16, a17, a18, a19)
             else
              bif (d37.i 1) == 6 then
               k (a0, a1, (w64 (a2 + (d37.i 3))), a3, a4, (w64 (a5 + 1)), a6, a7, a8, a9, a10, a11, a12, a13, a14, a15, a16, a17, a18, a19)
              else
               bif (d37.i 1) == 3 then
                chk (inb (d37.i 2) a16.length) <|
                chk (decide ((d37.i 2).toNat < a16.length)) <|
                chk (inb (d37.i 2) a16.length) <|
                chk (decide ((d37.i 2).toNat < a16.length)) <|
                k (a0, a1, a2, a3, a4, (w64 (a5 + 1)), a6, a7, a8, a9, a10, a11, a12, a13, a14, a15, (List.set a16 ((d37.i 2).toNat) (w64 ((a16.getD ((d37.i 2).toNat) 0) + (d37.i 3)))), a17, a18, a19)
               else
                chk (inb (d37.i 2) a17.length) <|
                chk (decide ((d37.i 2).toNat < a17.length)) <|
                chk (inb (d37.i 2) a17.length) <|
                chk (decide ((d37.i 2).toNat < a17.length)) <|
                lt ((List.set a17 ((d37.i 2).toNat) (w64 ((a17.getD ((d37.i 2).toNat) 0) + (d37.i 3)))) : List Int) fun l73 =>
                bif (d37.i 1) != 7 then
                 k (a0, a1, a2, (w64 (a3 + (d37.i 3))), a4, (w64 (a5 + 1)), a6, a7, a8, a9, a10, a11, a12, a13, a14, a15, a16, l73, a18, a19)
                else
                 k (a0, a1, a2, a3, a4, (w64 (a5 + 1)), a6, a7, a8, a9, a10, a11, a12, a13, a14, a15, a16, l73, a18, a19)
  else
   L5_1 m m (a0, a1, a2, a3, (a19.length : Int), 0, a6, a7, a8, a9, a12, a13, a14, a15, a16, a17, a19, a18)
noncomputable def L5_0 (m : Nat) : Nat → A5_0 → Option (List Un) := iterA (L5_0s m)
theorem L5_0_succ (m : Nat) (n : Nat) : L5_0 m (n + 1) = L5_0s m (L5_0 m n) := rfl
noncomputable def S5_0 (F : A5_0 → Option (List Un)) : StopS := ⟨[.lp [0, 1, 0, 1, 1, 1, 1, 1, 1, 1, 1], .blk 0, .code [1, 1, 1, 1, 1, 1, 1, 1, 1]], ⟨frm 302 [(9, .ptr 0 0 0), (11, .buf 1 2), (13, .buf 2 4), (15, .ptr 3 0 0), (16, .int .i64), (17, .int .i64), (18, .int .i64), (19, .int .i64), (20, .buf 4 1), (21, .buf 5 1), (74, .buf 2 4), (75, .int .i64), (76, .int .i64)], [.cells [.int .i64, .int .i64, .int .i64, .int .i64, .buf 6 3], .recs [.int .i64, .int .i64], .recs [.int .i64, .int .i64, .int .i64, .int .i64], .cells [.int .i64, .int .i64, .int .i64, .int .i64, .buf 7 3], .ints .i64, .ints .i64, .recs [.int .i64, .int .i64, .int .i64], .recs [.int .i64, .int .i64, .int .i64]]⟩, onU F⟩
theorem H5_1 (m : Nat) : ∀ n, HO N5 (S5_1 (L5_1 m n)) := loop_holds KN_none T12.right (fun k => [S5_1 k]) (fun k h => (all1 h all0)) fun k a => by kernel_rfl
theorem H5_0 (m : Nat) : ∀ n, HO N5 (S5_0 (L5_0 m n)) := loop_holds KN_none T12.right (fun k => [S5_0 k, S5_1 (L5_1 m m)]) (fun k h => (all1 h (all1 (H5_1 m m) all0))) fun k a => by kernel_rfl
noncomputable def t5 (m : Nat) : List Int × KDeal × Int × Int → Option (List Un) := fun (a0, a1, a2, a3) =>
  chk (decide (a1.notes.length ≤ 140737488355328)) <|
  bif decide ((within a2 0 2) = 0) then
   chk (decide (((dealV a1).s0).length ≤ 1000000) && (runG ⟨(within a3 0 20000), (nextV a0 0 300), (nextV a0 1 900), (nextV a0 2 5000), (nextV a0 3 700)⟩ && claimsG (workC a0))) <|
   lt (((runV 0 ((dealV a1).s0) ⟨(within a3 0 20000), (nextV a0 0 300), (nextV a0 1 900), (nextV a0 2 5000), (nextV a0 3 700)⟩ (workC a0)).1.cash) : Int) fun x1 =>
   lt (((runV 0 ((dealV a1).s0) ⟨(within a3 0 20000), (nextV a0 0 300), (nextV a0 1 900), (nextV a0 2 5000), (nextV a0 3 700)⟩ (workC a0)).2.2) : List Dat) fun l6 =>
   lt (((runV 0 ((dealV a1).s0) ⟨(within a3 0 20000), (nextV a0 0 300), (nextV a0 1 900), (nextV a0 2 5000), (nextV a0 3 700)⟩ (workC a0)).2.1) : List Dat) fun l7 =>
   bif decide (x1 < 0) then
    some ([.b false])
   else
    chk (decide (l6.length ≤ 1000000) && l6.all paidG) <|
    bif ((w64 ((sumI 3 l6) + x1)) != (within a3 0 20000)) then
     some ([.b false])
    else
     bif ((l7.length : Int) != ((workC a0).length : Int)) then
      some ([.b false])
     else
      chk (mayMake ((workC a0).length : Int) 8) <|
      chk (mayMake ((workC a0).length : Int) 8) <|
      L5_0 m m (0, 0, 0, 0, (l6.length : Int), 0, (nextV a0 0 300), (nextV a0 1 900), (nextV a0 2 5000), (nextV a0 3 700), (dealV a1).s0, l6, ((runV 0 ((dealV a1).s0) ⟨(within a3 0 20000), (nextV a0 0 300), (nextV a0 1 900), (nextV a0 2 5000), (nextV a0 3 700)⟩ (workC a0)).1.fee), ((runV 0 ((dealV a1).s0) ⟨(within a3 0 20000), (nextV a0 0 300), (nextV a0 1 900), (nextV a0 2 5000), (nextV a0 3 700)⟩ (workC a0)).1.recoup), ((runV 0 ((dealV a1).s0) ⟨(within a3 0 20000), (nextV a0 0 300), (nextV a0 1 900), (nextV a0 2 5000), (nextV a0 3 700)⟩ (workC a0)).1.principal), ((runV 0 ((dealV a1).s0) ⟨(within a3 0 20000), (nextV a0 0 300), (nextV a0 1 900), (nextV a0 2 5000), (nextV a0 3 700)⟩ (workC a0)).1.room), (List.replicate (((workC a0).length : Int).toNat) 0), (List.replicate (((workC a0).length : Int).toNat) 0), (workC a0), l7)
  else
   bif decide ((within a2 0 2) = 1) then
    chk (decide (((dealV a1).s1).length ≤ 1000000) && (runG ⟨(within a3 0 20000), (nextV a0 0 300), (nextV a0 1 900), (nextV a0 2 5000), (nextV a0 3 700)⟩ && claimsG (workC a0))) <|
    lt (((runV 0 ((dealV a1).s1) ⟨(within a3 0 20000), (nextV a0 0 300), (nextV a0 1 900), (nextV a0 2 5000), (nextV a0 3 700)⟩ (workC a0)).1.cash) : Int) fun x13 =>
    lt (((runV 0 ((dealV a1).s1) ⟨(within a3 0 20000), (nextV a0 0 300), (nextV a0 1 900), (nextV a0 2 5000), (nextV a0 3 700)⟩ (workC a0)).2.2) : List Dat) fun l18 =>
    lt (((runV 0 ((dealV a1).s1) ⟨(within a3 0 20000), (nextV a0 0 300), (nextV a0 1 900), (nextV a0 2 5000), (nextV a0 3 700)⟩ (workC a0)).2.1) : List Dat) fun l19 =>
    bif decide (x13 < 0) then
     some ([.b false])
    else
     chk (decide (l18.length ≤ 1000000) && l18.all paidG) <|
     bif ((w64 ((sumI 3 l18) + x13)) != (within a3 0 20000)) then
      some ([.b false])
     else
      bif ((l19.length : Int) != ((workC a0).length : Int)) then
       some ([.b false])
      else
       chk (mayMake ((workC a0).length : Int) 8) <|
       chk (mayMake ((workC a0).length : Int) 8) <|
       L5_0 m m (0, 0, 0, 0, (l18.length : Int), 0, (nextV a0 0 300), (nextV a0 1 900), (nextV a0 2 5000), (nextV a0 3 700), (dealV a1).s1, l18, ((runV 0 ((dealV a1).s1) ⟨(within a3 0 20000), (nextV a0 0 300), (nextV a0 1 900), (nextV a0 2 5000), (nextV a0 3 700)⟩ (workC a0)).1.fee), ((runV 0 ((dealV a1).s1) ⟨(within a3 0 20000), (nextV a0 0 300), (nextV a0 1 900), (nextV a0 2 5000), (nextV a0 3 700)⟩ (workC a0)).1.recoup), ((runV 0 ((dealV a1).s1) ⟨(within a3 0 20000), (nextV a0 0 300), (nextV a0 1 900), (nextV a0 2 5000), (nextV a0 3 700)⟩ (workC a0)).1.principal), ((runV 0 ((dealV a1).s1) ⟨(within a3 0 20000), (nextV a0 0 300), (nextV a0 1 900), (nextV a0 2 5000), (nextV a0 3 700)⟩ (workC a0)).1.room), (List.replicate (((workC a0).length : Int).toNat) 0), (List.replicate (((workC a0).length : Int).toNat) 0), (workC a0), l19)
   else
    bif decide ((within a2 0 2) = 2) then
     chk (decide (((dealV a1).s2).length ≤ 1000000) && (runG ⟨(within a3 0 20000), (nextV a0 0 300), (nextV a0 1 900), (nextV a0 2 5000), (nextV a0 3 700)⟩ && claimsG (workC a0))) <|
     lt (((runV 0 ((dealV a1).s2) ⟨(within a3 0 20000), (nextV a0 0 300), (nextV a0 1 900), (nextV a0 2 5000), (nextV a0 3 700)⟩ (workC a0)).1.cash) : Int) fun x25 =>
     lt (((runV 0 ((dealV a1).s2) ⟨(within a3 0 20000), (nextV a0 0 300), (nextV a0 1 900), (nextV a0 2 5000), (nextV a0 3 700)⟩ (workC a0)).2.2) : List Dat) fun l30 =>
     lt (((runV 0 ((dealV a1).s2) ⟨(within a3 0 20000), (nextV a0 0 300), (nextV a0 1 900), (nextV a0 2 5000), (nextV a0 3 700)⟩ (workC a0)).2.1) : List Dat) fun l31 =>
     bif decide (x25 < 0) then
      some ([.b false])
     else
      chk (decide (l30.length ≤ 1000000) && l30.all paidG) <|
      bif ((w64 ((sumI 3 l30) + x25)) != (within a3 0 20000)) then
       some ([.b false])
      else
       bif ((l31.length : Int) != ((workC a0).length : Int)) then
        some ([.b false])
       else
        chk (mayMake ((workC a0).length : Int) 8) <|
        chk (mayMake ((workC a0).length : Int) 8) <|
        L5_0 m m (0, 0, 0, 0, (l30.length : Int), 0, (nextV a0 0 300), (nextV a0 1 900), (nextV a0 2 5000), (nextV a0 3 700), (dealV a1).s2, l30, ((runV 0 ((dealV a1).s2) ⟨(within a3 0 20000), (nextV a0 0 300), (nextV a0 1 900), (nextV a0 2 5000), (nextV a0 3 700)⟩ (workC a0)).1.fee), ((runV 0 ((dealV a1).s2) ⟨(within a3 0 20000), (nextV a0 0 300), (nextV a0 1 900), (nextV a0 2 5000), (nextV a0 3 700)⟩ (workC a0)).1.recoup), ((runV 0 ((dealV a1).s2) ⟨(within a3 0 20000), (nextV a0 0 300), (nextV a0 1 900), (nextV a0 2 5000), (nextV a0 3 700)⟩ (workC a0)).1.principal), ((runV 0 ((dealV a1).s2) ⟨(within a3 0 20000), (nextV a0 0 300), (nextV a0 1 900), (nextV a0 2 5000), (nextV a0 3 700)⟩ (workC a0)).1.room), (List.replicate (((workC a0).length : Int).toNat) 0), (List.replicate (((workC a0).length : Int).toNat) 0), (workC a0), l31)
    else
     none
section
variable (m : Nat) (w1 w2 w3 w4 e1 e2 e3 e4 : Int) (st c0 c1 : List Dat)
theorem keepsL0 (hst : st.length ≤ 12) (hc : c0.length ≤ 1000) (x0 : Nat → Int) : ∀ (rest pre : List Dat) (n : Nat), rest.length < n → (pre ++ rest).length ≤ 1000000 → (∀ d ∈ pre ++ rest, RunPay c0.length 0 st d) → (∀ d ∈ pre ++ rest, 0 ≤ d.i 3 ∧ d.i 3 ≤ 1000000000) → (pre ++ rest).Pairwise (fun d e => d.i 0 ≤ e.i 0) →
    L5_0 m n (sumW kF pre, sumW kR pre, sumW kT pre, sumW kP pre, ((pre ++ rest).length : Int), (pre.length : Int), w1, w2, w3, w4, st, pre ++ rest, e1, e2, e3, e4, tallyV toI pre c0.length, tallyV toB pre c0.length, c0, c1) = L5_1 m m (sumW kF (pre ++ rest), sumW kR (pre ++ rest), sumW kT (pre ++ rest), sumW kP (pre ++ rest), (c1.length : Int), 0, w1, w2, w3, w4, e1, e2, e3, e4, tallyV toI (pre ++ rest) c0.length, tallyV toB (pre ++ rest) c0.length, c1, c0) := by
  intro rest
  induction rest with
  | nil =>
    intro pre n hn hl hp hb hw
    obtain ⟨n, rfl⟩ := one_more n (by simp at hn; omega)
    rw [L5_0_succ]; unfold L5_0s; dsimp only
    simp only [List.append_nil]
    rw [cond_df (by omega)]
  | cons x rest ih =>
    intro pre n hn hl hp hb hw
    obtain ⟨n, rfl⟩ := one_more n (by simp at hn; omega)
    have hlen := hl
    simp only [List.length_cons, List.length_append] at hn hl
    have ih := ih (pre ++ [x]) n (by omega) (by simp; omega) (fun d hd => hp d (by simpa using hd)) (fun d hd => hb d (by simpa using hd)) (by simpa using hw)
    obtain ⟨⟨q0, q1⟩, _, q2, q3, q4, q5⟩ := hp x (by simp)
    obtain ⟨_, b1⟩ := hb x (by simp)
    rw [Int.zero_add] at q1
    rw [Int.sub_zero] at q2 q5
    have pb := fun f : Dat → Bool => sumW_le f 1000000000 pre (fun d hd => hb d (by simp [hd])) (by decide)
    have f1 := pb kF; have f2 := pb kR; have f3 := pb kT; have f4 := pb kP; have f5 := fun t => pb (toI t); have f6 := fun t => pb (toB t)
    have pred : ∀ R : Option (List Un), (bif decide ((pre.length : Int) > 0) then chk (inb (w64 ((pre.length : Int) - 1)) (pre ++ x :: rest).length) (chk (decide ((w64 ((pre.length : Int) - 1)).toNat < (pre ++ x :: rest).length)) (bif decide ((rowD (pre ++ x :: rest) (w64 ((pre.length : Int) - 1)).toNat).i 0 > x.i 0) then some [.b false] else R)) else R) = R := by
      intro R
      by_cases hz : pre.length = 0
      · rw [cond_df (by omega)]
      · have hpo : 0 < pre.length := by omega
        have hy : rowD (pre ++ x :: rest) (pre.length - 1) = pre[pre.length - 1]'(by omega) := by
          rw [rowD_get (by simp only [List.length_append, List.length_cons]; omega), List.getElem_append_left (by omega)]
        have hle : (pre[pre.length - 1]'(by omega)).i 0 ≤ x.i 0 := (List.pairwise_append.1 hw).2.2 _ (List.getElem_mem _) x (by simp)
        have ew : (w64 ((pre.length : Int) - 1)) = ((pre.length - 1 : Nat) : Int) := by rw [wrap_id (by omega) (by omega)]; omega
        rw [cond_dt (by omega), ew, Int.toNat_natCast, hy, chk_inb (by omega) (by simp only [List.length_append, List.length_cons]; omega), chk_dec (by simp only [List.length_append, List.length_cons]; omega), cond_df (by omega)]
    rw [L5_0_succ]
    unfold L5_0s
    dsimp only
    rw [cond_dt (by simp only [List.length_append, List.length_cons]; omega), chk_inb (by omega) (by simp only [List.length_append, List.length_cons]; omega), chk_dec (by simp only [List.length_append, List.length_cons, Int.toNat_natCast]; omega), lt_eq, Int.toNat_natCast, rowD_mid]
    rw [cond_df (by omega), cond_df (by omega), cond_df (by omega), chk_inb (by omega) (by omega), chk_dec (by omega), cond_nf q2.symm, pred]
    rw [cond_df (by omega)]
    have wi : w64 ((pre.length : Int) + 1) = (pre.length : Int) + 1 := wrap_id (by omega) (by omega)
    have ee : pre ++ [x] ++ rest = pre ++ x :: rest := by simp
    have el : ((pre ++ [x]).length : Int) = (pre.length : Int) + 1 := by simp
    rw [ee, el] at ih
    simp only [sumW_snoc] at ih
    rw [← ih]
    clear ih
    simp only [wi]
    by_cases k1 : x.i 1 = 1
    · have hn : decide (x.i 2 < 0) = true := decide_eq_true (q5.2 (by omega))
      rw [tallyV_skip toI pre c0.length x (fun i => by simp [toI, kI, k1]), tallyV_skip toB pre c0.length x (fun i => by simp [toB, kB, kF, k1])]
      rw [cond_bt k1, cond_bt k1, hn]
      simp only [kF, kR, kT, kP, kB, kI, k1]
      rw [wrap_id (n := sumW kF pre + x.i 3) (by omega) (by omega)]
      simp
    by_cases k2 : x.i 1 = 2
    · have hn : decide (x.i 2 < 0) = true := decide_eq_true (q5.2 (by omega))
      rw [tallyV_skip toI pre c0.length x (fun i => by simp [toI, kI, k2]), tallyV_skip toB pre c0.length x (fun i => by simp [toB, kB, kF, kR, k2])]
      rw [cond_bf k1, cond_bt k2, cond_bf k1, cond_bt k2, hn]
      simp only [kF, kR, kT, kP, kB, kI, k2]
      rw [wrap_id (n := sumW kR pre + x.i 3) (by omega) (by omega)]
      simp
    by_cases k6 : x.i 1 = 6
    · have hn : decide (x.i 2 < 0) = true := decide_eq_true (q5.2 (by omega))
      rw [tallyV_skip toI pre c0.length x (fun i => by simp [toI, kI, k6]), tallyV_skip toB pre c0.length x (fun i => by simp [toB, kB, kF, kR, kT, k6])]
      rw [cond_bf k1, cond_bf k2, hn, cond_bf k1, cond_bf k2, cond_bt k6, beq_t k6]
      simp only [kF, kR, kT, kP, kB, kI, k6]
      rw [wrap_id (n := sumW kT pre + x.i 3) (by omega) (by omega)]
      simp
    have hnn : 0 ≤ x.i 2 := by
      rcases Int.lt_or_le (x.i 2) 0 with h | h
      · have := q5.1 h; omega
      · exact h
    have hn : decide (x.i 2 < 0) = false := decide_eq_false (by omega)
    obtain ⟨t, ht⟩ : ∃ t : Nat, x.i 2 = (t : Int) := ⟨(x.i 2).toNat, by omega⟩
    have htl : t < c0.length := by omega
    have lI := tallyV_len toI pre c0.length
    have lB := tallyV_len toB pre c0.length
    have gI := tallyV_get toI pre htl
    have gB := tallyV_get toB pre htl
    have v5 := f5 t
    have v6 := f6 t
    rw [cond_bf k1, cond_bf k2, hn, beq_f k6, cond_bf k1, cond_bf k2]
    simp only [beq_self_eq_true, Bool.not_true, cond_false]
    by_cases k3 : x.i 1 = 3
    · rw [cond_bt k3, chk_inb (by omega) (by omega), chk_dec (by omega), ht, Int.toNat_natCast]
      have eT : (tallyV toI pre c0.length).set t (w64 ((tallyV toI pre c0.length).getD t 0 + x.i 3)) = tallyV toI (pre ++ [x]) c0.length := by
        rw [wrap_id (by omega) (by omega)]
        exact tallyV_set toI pre c0.length t x htl (fun i => by simp only [toI, kI, k3, ht, beq_self_eq_true, Bool.true_and]; by_cases e : i = t <;> simp [e] <;> omega)
      rw [chk_inb (by omega) (by omega), chk_dec (by omega), eT, tallyV_skip toB pre c0.length x (fun i => by simp [toB, kB, kF, kR, kT, kI, k3])]
      simp only [kF, kR, kT, kP, kB, kI, k3]
      simp
    have eT : (tallyV toB pre c0.length).set t (w64 ((tallyV toB pre c0.length).getD t 0 + x.i 3)) = tallyV toB (pre ++ [x]) c0.length := by
      rw [wrap_id (by omega) (by omega)]
      refine tallyV_set toB pre c0.length t x htl (fun i => ?_)
      have e1 : kB x = true := by simp [kB, kF, kR, kT, kI, k1, k2, k6, k3]
      simp only [toB, e1, ht, Bool.true_and]
      by_cases e : i = t <;> simp [e] <;> omega
    have eB : kB x = true := by simp [kB, kF, kR, kT, kI, k1, k2, k6, k3]
    have eF : kF x = false := by simp [kF, k1]
    have eR : kR x = false := by simp [kR, k2]
    have e6 : kT x = false := by simp [kT, k6]
    rw [cond_bf k3, chk_inb (by omega) (by omega), chk_dec (by omega), chk_inb (by omega) (by omega), chk_dec (by omega), lt_eq, ht, Int.toNat_natCast, eT, tallyV_skip toI pre c0.length x (fun i => by simp [toI, kI, k3])]
    by_cases k7 : x.i 1 = 7
    · have eP : kP x = false := by simp [kP, eB, k7]
      rw [cond_nf k7]
      simp only [eF, eR, e6, eP, cond_false, Int.add_zero]
    · have eP : kP x = true := by simp [kP, eB, k7]
      rw [cond_nt k7, wrap_id (n := sumW kP pre + x.i 3) (by omega) (by omega)]
      simp only [eF, eR, e6, eP, cond_false, cond_true, Int.add_zero]
theorem keepsL1 (ps : List Dat) (hl : c1.length = c0.length) (hc0 : c0.length ≤ 1000) (f r t p : Int)
    (g1 : e1 = w1 - f ∧ e2 = w2 - r ∧ e4 = w4 - t ∧ e3 = w3 - p) (gb : (0 ≤ e1 ∧ e1 ≤ 1000000) ∧ (0 ≤ e2 ∧ e2 ≤ 1000000) ∧ (0 ≤ e3 ∧ e3 ≤ 1000000) ∧ (0 ≤ e4 ∧ e4 ≤ 1000000)) (hlen : c1.length ≤ 8) (hG : claimsG c1 = true) (hR : c1.all rankG = true)
    (hrow : ∀ i, i < c0.length → rowD c1 i = .r [.n ((rowD c0 i).i 0), .n ((rowD c0 i).i 1 - sumW (toB i) ps), .n ((rowD c0 i).i 2 - sumW (toI i) ps)]) : ∀ (c i n : Nat), i + c = c1.length → c < n →
    L5_1 m n (f, r, t, p, (c1.length : Int), (i : Int), w1, w2, w3, w4, e1, e2, e3, e4, tallyV toI ps c0.length, tallyV toB ps c0.length, c1, c0) = some [.b true] := by
  intro c
  induction c with
  | zero =>
    intro i n hi hn
    obtain ⟨n, rfl⟩ := one_more n (by omega)
    rw [L5_1_succ]; unfold L5_1s; dsimp only
    obtain ⟨h1, h2, h3, h4⟩ := g1
    rw [cond_df (by omega), cond_bt (by rw [wrap_id (by omega) (by omega)]; exact h1), cond_bt (by rw [wrap_id (by omega) (by omega)]; exact h2), cond_bt (by rw [wrap_id (by omega) (by omega)]; exact h3), cond_bt (by rw [wrap_id (by omega) (by omega)]; exact h4), hG, hR, Bool.and_self, Bool.and_true, chk_dec (by omega)]
  | succ c ih =>
    intro i n hi hn
    obtain ⟨n, rfl⟩ := one_more n (by omega)
    have := ih (i + 1) n (by omega) (by omega)
    have hr := hrow i (by omega)
    have hg := claimG_at ((claimsG_at hG).2 _ (rowD_in (show i < c1.length by omega)))
    rw [hr] at hg
    simp only [fld_i1, fld_i2] at hg
    have tI := tallyV_get toI ps (show i < c0.length by omega)
    have tB := tallyV_get toB ps (show i < c0.length by omega)
    have lI := tallyV_len toI ps c0.length
    have lB := tallyV_len toB ps c0.length
    have hb : -9223372036854775808 ≤ (rowD c0 i).i 2 - sumW (toI i) ps ∧ (rowD c0 i).i 2 - sumW (toI i) ps ≤ 9223372036854775807 ∧ -9223372036854775808 ≤ (rowD c0 i).i 1 - sumW (toB i) ps ∧ (rowD c0 i).i 1 - sumW (toB i) ps ≤ 9223372036854775807 := by omega
    rw [L5_1_succ]; unfold L5_1s; dsimp only
    rw [Int.toNat_natCast]
    simp (disch := omega) only [cond_dt, chk_inb, chk_dec, lt_eq, hr, fld_i0, fld_i1, fld_i2, tI, tB, wrap_id, cond_nf]
    simp only [Int.natCast_add, Int.cast_ofNat_Int] at this
    exact bif_f (@decide_eq_false _ _ (by omega)) (bif_f (@decide_eq_false _ _ (by omega)) this)
end
set_option maxHeartbeats 8000000 in
theorem spec5 (b0 : List Int) (wb0 : b0.length ≤ 140737488355328 ∧ ∀ x ∈ b0, (Lit.int .i64 x).wf = true) (b1 : Int) (wb1 : (Lit.int .i64 b1).wf = true) (b2 : Int) (wb2 : (Lit.int .i64 b2).wf = true) (b3 : Int) (wb3 : (Lit.int .i64 b3).wf = true) (b4 : Int) (wb4 : (Lit.int .i64 b4).wf = true) (b5 : Int) (wb5 : (Lit.int .i64 b5).wf = true) (b6 : Int) (wb6 : (Lit.int .i64 b6).wf = true) (b7 : Int) (wb7 : (Lit.int .i64 b7).wf = true) (b8 : Int) (wb8 : (Lit.int .i64 b8).wf = true) (b9 : Int) (wb9 : (Lit.int .i64 b9).wf = true) (b10 : Int) (wb10 : (Lit.int .i64 b10).wf = true) (b11 : Int) (wb11 : (Lit.int .i64 b11).wf = true) (b12 : Int) (wb12 : (Lit.int .i64 b12).wf = true) (b13 : Int) (wb13 : (Lit.int .i64 b13).wf = true) (b14 : List Int) (wb14 : b14.length ≤ 140737488355328 ∧ ∀ x ∈ b14, (Lit.int .i64 x).wf = true) (b15 : List Int) (wb15 : b15.length ≤ 140737488355328 ∧ ∀ x ∈ b15, (Lit.int .i64 x).wf = true) (b16 : List Int) (wb16 : b16.length ≤ 140737488355328 ∧ ∀ x ∈ b16, (Lit.int .i64 x).wf = true) (b17 : List Int) (wb17 : b17.length ≤ 140737488355328 ∧ ∀ x ∈ b17, (Lit.int .i64 x).wf = true) (b18 : List Int) (wb18 : b18.length ≤ 140737488355328 ∧ ∀ x ∈ b18, (Lit.int .i64 x).wf = true) (b19 : List Int) (wb19 : b19.length ≤ 140737488355328 ∧ ∀ x ∈ b19, (Lit.int .i64 x).wf = true) (b20 : List Int) (wb20 : b20.length ≤ 140737488355328 ∧ ∀ x ∈ b20, (Lit.int .i64 x).wf = true) (b21 : Int) (wb21 : (Lit.int .i64 b21).wf = true) (b22 : Int) (wb22 : (Lit.int .i64 b22).wf = true) : ∃ m, t5 m (b0, (⟨(⟨b1, b2, b3⟩ : DealA), (⟨b4, b5, b6, b7, b8, b9, b10, b11, b12, b13⟩ : DealB), b14, b15, b16, b17, b18, b19, b20⟩ : KDeal), b21, b22) = some [.b true] := by
  have hn : (⟨⟨b1, b2, b3⟩, ⟨b4, b5, b6, b7, b8, b9, b10, b11, b12, b13⟩, b14, b15, b16, b17, b18, b19, b20⟩ : KDeal).notes.length ≤ 140737488355328 := wb15.1
  generalize (⟨⟨b1, b2, b3⟩, ⟨b4, b5, b6, b7, b8, b9, b10, b11, b12, b13⟩, b14, b15, b16, b17, b18, b19, b20⟩ : KDeal) = k at hn
  have hi := within_le (a := b21) (show (0 : Int) ≤ 2 by decide)
  have hw := within_le (a := b22) (show (0 : Int) ≤ 20000 by decide)
  have hx := workR_ok b0 (cash := within b22 0 20000) (by omega)
  have hc := workC_ok b0
  have hcl := workC_len b0
  have h0 := nextV_le b0 0 (show (0 : Int) ≤ 300 by decide)
  have h1 := nextV_le b0 1 (show (0 : Int) ≤ 900 by decide)
  have h2 := nextV_le b0 2 (show (0 : Int) ≤ 5000 by decide)
  have h3 := nextV_le b0 3 (show (0 : Int) ≤ 700 by decide)
  have hmem := workC_mem b0
  unfold workR at hx
  generalize hX : (⟨within b22 0 20000, nextV b0 0 300, nextV b0 1 900, nextV b0 2 5000, nextV b0 3 700⟩ : RunN) = X at hx
  have hXc : X.cash ≤ 1000000000 := by rw [← hX]; show within b22 0 20000 ≤ _; omega
  have hX0 : X.cash = within b22 0 20000 := by rw [← hX]
  have hX1 : X.fee = nextV b0 0 300 := by rw [← hX]
  have hX2 : X.recoup = nextV b0 1 900 := by rw [← hX]
  have hX3 : X.principal = nextV b0 2 5000 := by rw [← hX]
  have hX4 : X.room = nextV b0 3 700 := by rw [← hX]
  refine ⟨1000000, ?_⟩
  unfold t5
  dsimp only
  rw [chk_dec hn]
  simp only [hX]
  by_cases h0 : within b21 0 2 = 0
  · rw [cond_dt h0]
    have hsl : ((dealV k).s0).length ≤ 12 := (stepsV_short k.s0).2
    generalize (dealV k).s0 = st at hsl
    have hr := runV_ok st 0 X (workC b0) hx hc
    have hp := runV_paid (l := st) (a := 0) hx hc hXc
    have hk := runV_kept st 0 X (workC b0) hx hc
    rw [hx, hc, Bool.and_self, Bool.and_true, chk_dec (by omega)]
    generalize runV 0 st X (workC b0) = R at *
    obtain ⟨hk, hpay, hsort⟩ := hk
    have hR := runG_at hr.1
    have hcash := hk.cash
    have hfee := hk.fee
    have hrec := hk.recoup
    have hroom := hk.room
    have hpri := hk.pri
    simp only [lt_eq]
    have q0 := fun f => sumW_nonneg f R.2.2 (fun d hd => (hp d hd).1)
    have z1 := q0 kF; have z2 := q0 kR; have z3 := q0 kT; have z4 := q0 kP
    have hall : R.2.2.all paidG = true := List.all_eq_true.2 fun d hd => by have := hp d hd; exact decide_eq_true (by omega)
    have hrk : R.2.1.all rankG = true := List.all_eq_true.2 fun d hd => by
      obtain ⟨i, hi, rfl⟩ := mem_rowD hd
      rw [hk.row i (by rw [← hk.len]; exact hi)]
      have := hmem _ (rowD_in (show i < (workC b0).length by rw [← hk.len]; exact hi))
      exact decide_eq_true (by simp only [fld_i0]; omega)
    have hs0 := sumI_nonneg 3 R.2.2 (fun d hd => (hp d hd).1)
    rw [cond_df (by omega), hall, Bool.and_true, chk_dec (by omega), cond_nf (by rw [wrap_id (by omega) (by omega)]; omega), cond_nf (by rw [hk.len])]
    rw [chk_make (by omega) (by omega) (by omega), chk_make (by omega) (by omega) (by omega), Int.toNat_natCast]
    have er : ∀ f, List.replicate (workC b0).length (0 : Int) = tallyV f [] (workC b0).length := fun f => by
      simp only [tallyV, sumW]
      exact (List.map_const' ..).symm ▸ by simp
    have e0 := keepsL0 1000000 (nextV b0 0 300) (nextV b0 1 900) (nextV b0 2 5000) (nextV b0 3 700) R.1.fee R.1.recoup R.1.principal R.1.room st (workC b0) R.2.1 hsl (by omega) (fun _ => 0) R.2.2 [] 1000000 (by omega) (by simp; omega) (by simpa using hpay) (by simpa using hp) (by simpa using hsort)
    simp only [List.nil_append, List.length_nil, Int.cast_ofNat_Int, sumW, ← er] at e0
    refine e0.trans ?_
    exact keepsL1 1000000 _ _ _ _ _ _ _ _ (workC b0) R.2.1 R.2.2 hk.len (by omega) _ _ _ _ (by omega) (by omega) (by omega) hr.2.1 hrk hk.row R.2.1.length 0 1000000 (by omega) (by omega)
  · rw [cond_df h0]
    by_cases h1 : within b21 0 2 = 1
    · rw [cond_dt h1]
      have hsl : ((dealV k).s1).length ≤ 12 := (stepsV_short k.s1).2
      generalize (dealV k).s1 = st at hsl
      have hr := runV_ok st 0 X (workC b0) hx hc
      have hp := runV_paid (l := st) (a := 0) hx hc hXc
      have hk := runV_kept st 0 X (workC b0) hx hc
      rw [hx, hc, Bool.and_self, Bool.and_true, chk_dec (by omega)]
      generalize runV 0 st X (workC b0) = R at *
      obtain ⟨hk, hpay, hsort⟩ := hk
      have hR := runG_at hr.1
      have hcash := hk.cash
      have hfee := hk.fee
      have hrec := hk.recoup
      have hroom := hk.room
      have hpri := hk.pri
      simp only [lt_eq]
      have q0 := fun f => sumW_nonneg f R.2.2 (fun d hd => (hp d hd).1)
      have z1 := q0 kF; have z2 := q0 kR; have z3 := q0 kT; have z4 := q0 kP
      have hall : R.2.2.all paidG = true := List.all_eq_true.2 fun d hd => by have := hp d hd; exact decide_eq_true (by omega)
      have hrk : R.2.1.all rankG = true := List.all_eq_true.2 fun d hd => by
        obtain ⟨i, hi, rfl⟩ := mem_rowD hd
        rw [hk.row i (by rw [← hk.len]; exact hi)]
        have := hmem _ (rowD_in (show i < (workC b0).length by rw [← hk.len]; exact hi))
        exact decide_eq_true (by simp only [fld_i0]; omega)
      have hs0 := sumI_nonneg 3 R.2.2 (fun d hd => (hp d hd).1)
      rw [cond_df (by omega), hall, Bool.and_true, chk_dec (by omega), cond_nf (by rw [wrap_id (by omega) (by omega)]; omega), cond_nf (by rw [hk.len])]
      rw [chk_make (by omega) (by omega) (by omega), chk_make (by omega) (by omega) (by omega), Int.toNat_natCast]
      have er : ∀ f, List.replicate (workC b0).length (0 : Int) = tallyV f [] (workC b0).length := fun f => by
        simp only [tallyV, sumW]
        exact (List.map_const' ..).symm ▸ by simp
      have e0 := keepsL0 1000000 (nextV b0 0 300) (nextV b0 1 900) (nextV b0 2 5000) (nextV b0 3 700) R.1.fee R.1.recoup R.1.principal R.1.room st (workC b0) R.2.1 hsl (by omega) (fun _ => 0) R.2.2 [] 1000000 (by omega) (by simp; omega) (by simpa using hpay) (by simpa using hp) (by simpa using hsort)
      simp only [List.nil_append, List.length_nil, Int.cast_ofNat_Int, sumW, ← er] at e0
      refine e0.trans ?_
      exact keepsL1 1000000 _ _ _ _ _ _ _ _ (workC b0) R.2.1 R.2.2 hk.len (by omega) _ _ _ _ (by omega) (by omega) (by omega) hr.2.1 hrk hk.row R.2.1.length 0 1000000 (by omega) (by omega)
    · rw [cond_df h1]
      by_cases h2 : within b21 0 2 = 2
      · rw [cond_dt h2]
        have hsl : ((dealV k).s2).length ≤ 12 := (stepsV_short k.s2).2
        generalize (dealV k).s2 = st at hsl
        have hr := runV_ok st 0 X (workC b0) hx hc
        have hp := runV_paid (l := st) (a := 0) hx hc hXc
        have hk := runV_kept st 0 X (workC b0) hx hc
        rw [hx, hc, Bool.and_self, Bool.and_true, chk_dec (by omega)]
        generalize runV 0 st X (workC b0) = R at *
        obtain ⟨hk, hpay, hsort⟩ := hk
        have hR := runG_at hr.1
        have hcash := hk.cash
        have hfee := hk.fee
        have hrec := hk.recoup
        have hroom := hk.room
        have hpri := hk.pri
        simp only [lt_eq]
        have q0 := fun f => sumW_nonneg f R.2.2 (fun d hd => (hp d hd).1)
        have z1 := q0 kF; have z2 := q0 kR; have z3 := q0 kT; have z4 := q0 kP
        have hall : R.2.2.all paidG = true := List.all_eq_true.2 fun d hd => by have := hp d hd; exact decide_eq_true (by omega)
        have hrk : R.2.1.all rankG = true := List.all_eq_true.2 fun d hd => by
          obtain ⟨i, hi, rfl⟩ := mem_rowD hd
          rw [hk.row i (by rw [← hk.len]; exact hi)]
          have := hmem _ (rowD_in (show i < (workC b0).length by rw [← hk.len]; exact hi))
          exact decide_eq_true (by simp only [fld_i0]; omega)
        have hs0 := sumI_nonneg 3 R.2.2 (fun d hd => (hp d hd).1)
        rw [cond_df (by omega), hall, Bool.and_true, chk_dec (by omega), cond_nf (by rw [wrap_id (by omega) (by omega)]; omega), cond_nf (by rw [hk.len])]
        rw [chk_make (by omega) (by omega) (by omega), chk_make (by omega) (by omega) (by omega), Int.toNat_natCast]
        have er : ∀ f, List.replicate (workC b0).length (0 : Int) = tallyV f [] (workC b0).length := fun f => by
          simp only [tallyV, sumW]
          exact (List.map_const' ..).symm ▸ by simp
        have e0 := keepsL0 1000000 (nextV b0 0 300) (nextV b0 1 900) (nextV b0 2 5000) (nextV b0 3 700) R.1.fee R.1.recoup R.1.principal R.1.room st (workC b0) R.2.1 hsl (by omega) (fun _ => 0) R.2.2 [] 1000000 (by omega) (by simp; omega) (by simpa using hpay) (by simpa using hp) (by simpa using hsort)
        simp only [List.nil_append, List.length_nil, Int.cast_ofNat_Int, sumW, ← er] at e0
        refine e0.trans ?_
        exact keepsL1 1000000 _ _ _ _ _ _ _ _ (workC b0) R.2.1 R.2.2 hk.len (by omega) _ _ _ _ (by omega) (by omega) (by omega) hr.2.1 hrk hk.row R.2.1.length 0 1000000 (by omega) (by omega)
      · rw [cond_df h2]
        omega
set_option maxRecDepth 20000 in
theorem walkFlowKeeps {HH : Type} {enc : TypeId × Value → HH} {w : World} {base : Nat} {vs : List Value} {ds : List (DataW HH)} {ps : List MemPlace} (hsh : w.ShapedOpen Try.prog)
    (hd : DataW.TrodAll enc Try.prog w 0 (fun _ => true) true Try.f5.params.toList vs ds ps) {us' : List TypeId} {gs : List (DataW HH)} (hz : (DataW.weightsEach Try.prog (Try.f5.params.toList ++ us') (ds ++ gs)).all (· ≤ reachBytes) = true) (hval : ∀ (j : Nat) t v, Try.f5.params.toList[j]? = some t → vs[j]? = some v → Value.okWide Try.prog w .any base t v) :
    Calls Try.prog 5 vs.toArray w fun e w' => e = .returned (.bool true) ∧ RowKit.Below w.heap.size w w' :=
  law_args Seat.mix Seat.names TE_right (pars := RFlowKeeps) (by kernel_rfl) (fun us h => by
    change WfU [.ints .i64, .int .i64, .int .i64, .int .i64, .int .i64, .int .i64, .int .i64, .int .i64, .int .i64, .int .i64, .int .i64, .int .i64, .int .i64, .int .i64, .ints .i64, .ints .i64, .ints .i64, .ints .i64, .ints .i64, .ints .i64, .ints .i64, .int .i64, .int .i64] us at h
    obtain ⟨b0, u, rfl, wb0, h⟩ := wf_ints h
    obtain ⟨b1, u, rfl, wb1, h⟩ := wf_int h
    obtain ⟨b2, u, rfl, wb2, h⟩ := wf_int h
    obtain ⟨b3, u, rfl, wb3, h⟩ := wf_int h
    obtain ⟨b4, u, rfl, wb4, h⟩ := wf_int h
    obtain ⟨b5, u, rfl, wb5, h⟩ := wf_int h
    obtain ⟨b6, u, rfl, wb6, h⟩ := wf_int h
    obtain ⟨b7, u, rfl, wb7, h⟩ := wf_int h
    obtain ⟨b8, u, rfl, wb8, h⟩ := wf_int h
    obtain ⟨b9, u, rfl, wb9, h⟩ := wf_int h
    obtain ⟨b10, u, rfl, wb10, h⟩ := wf_int h
    obtain ⟨b11, u, rfl, wb11, h⟩ := wf_int h
    obtain ⟨b12, u, rfl, wb12, h⟩ := wf_int h
    obtain ⟨b13, u, rfl, wb13, h⟩ := wf_int h
    obtain ⟨b14, u, rfl, wb14, h⟩ := wf_ints h
    obtain ⟨b15, u, rfl, wb15, h⟩ := wf_ints h
    obtain ⟨b16, u, rfl, wb16, h⟩ := wf_ints h
    obtain ⟨b17, u, rfl, wb17, h⟩ := wf_ints h
    obtain ⟨b18, u, rfl, wb18, h⟩ := wf_ints h
    obtain ⟨b19, u, rfl, wb19, h⟩ := wf_ints h
    obtain ⟨b20, u, rfl, wb20, h⟩ := wf_ints h
    obtain ⟨b21, u, rfl, wb21, h⟩ := wf_int h
    obtain ⟨b22, u, rfl, wb22, h⟩ := wf_int h
    obtain rfl := wf_nil h
    obtain ⟨m, hm⟩ := spec5 b0 wb0 b1 wb1 b2 wb2 b3 wb3 b4 wb4 b5 wb5 b6 wb6 b7 wb7 b8 wb8 b9 wb9 b10 wb10 b11 wb11 b12 wb12 b13 wb13 b14 wb14 b15 wb15 b16 wb16 b17 wb17 b18 wb18 b19 wb19 b20 wb20 b21 wb21 b22 wb22
    have G : N5.road Try.prog LQ KN (Uns.enc (b0, (⟨(⟨b1, b2, b3⟩ : DealA), (⟨b4, b5, b6, b7, b8, b9, b10, b11, b12, b13⟩ : DealB), b14, b15, b16, b17, b18, b19, b20⟩ : KDeal), b21, b22)) ([S5_0 (L5_0 m m)]) = t5 m (b0, (⟨(⟨b1, b2, b3⟩ : DealA), (⟨b4, b5, b6, b7, b8, b9, b10, b11, b12, b13⟩ : DealB), b14, b15, b16, b17, b18, b19, b20⟩ : KDeal), b21, b22) := by kernel_rfl
    exact N5.tells KN_none T12.right (W := [S5_0 (L5_0 m m)]) (by kernel_rfl) (by kernel_rfl) (by kernel_rfl) (all1 (H5_0 m m) all0) (G.trans hm)) hsh hd hz hval
end Go.Proofs.Ytncgbpajngakpaa
