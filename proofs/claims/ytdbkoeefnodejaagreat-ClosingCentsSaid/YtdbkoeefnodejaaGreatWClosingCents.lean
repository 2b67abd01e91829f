/- A part of the walk. -/
import Derived.Test.YtdbkoeefnodejaaGreatQ6
set_option linter.unusedVariables false
set_option linter.unusedSimpArgs false
namespace Go.Proofs.YtdbkoeefnodejaaGreat
noncomputable section
open Go Go.Proofs.YtdbkoeefnodejaaGreat.Ev
set_option maxRecDepth 20000
def nw : List Par := [(true, [.int .i64, .int .i64, .int .i64, .int .i64, .int .i64, .int .i64, .int .i64, .int .i64, .int .i64, .int .i64, .int .i64, .int .i64, .int .i64, .ints .i64, .ints .i64, .ints .i64, .ints .i64, .ints .i64, .ints .i64, .ints .i64]), (false, [.ae [.ints .i64, .ints .i64, .ints .i64, .ints .i64, .ints .i64, .ints .i64]])]
def N4 : aF := ⟨T20.tab, 4, ⟨List.map Par.vp nw, [], 0⟩, ⟨[.bool], [], 0⟩, []⟩
abbrev JZ : Type := List Dat × Int × Int × Int × Int × Int × Int × Int × Int × an × aq × an × aq × ai × List Int × List Dat × List Dat × List Dat × List Dat × List Dat × List Dat × List Dat × List Dat × List Dat × List Dat × List Dat × List Dat × List Dat
abbrev Ks : Type := List Dat × Int × Int × Int × Int × Int × Int × Int × an × aq × an × aq × ai × List Int × fW × fc × Int × List Dat × List Dat × List Dat × List Dat × List Dat × List Dat × List Dat × List Dat × List Dat × List Dat × List Dat × List Dat × List Dat × List Dat
abbrev pL : Type := List Dat × Int × Int × Int × Int × Int × an × aq × an × aq × ai × List Int × List Dat × List Dat × List Dat × List Dat × List Dat × List Dat × List Dat × List Dat × List Dat × List Dat × List Dat × List Dat
def Fb (m : Nat) (k0 : pL -> Option (List Un)) (k : JZ -> Option (List Un)) : JZ -> Option (List Un) := fun (a0, a1, a2, a3, a4, a5, a6, a7, a8, a9, a10, a11, a12, a13, a14, a15, a16, a17, a18, a19, a20, a21, a22, a23, a24, a25, a26, a27) =>
 bif decide (a8 < a7) then
 chk (inb a8 a15.length) <|
 chk (decide (a8.toNat < a15.length)) <|
 lt (af a15 a8.toNat : Dat) fun d38 =>
 chk (inb a8 a17.length) <|
 chk (decide (a8.toNat < a17.length)) <|
 chk (inb a8 a14.length) <|
 chk (decide (a8.toNat < a14.length)) <|
 bif ((d38.i 0) != (w64 ((w64 (((af a17 a8.toNat).i 1) - (a14.getD a8.toNat 0))) - (d38.i 2)))) then
 some ([.b false])
 else
 bif decide ((d38.i 0) < 0) then
 some ([.b false])
 else
 bif decide ((d38.i 1) < 0) then
 some ([.b false])
 else
 bif decide ((d38.i 2) < 0) then
 some ([.b false])
 else
 k (a0, a1, a2, a3, a4, a5, (w64 (a6 + (d38.i 2))), a7, (w64 (a8 + 1)), a9, a10, a11, a12, a13, a14, a15, a16, a17, a18, a19, a20, a21, a22, a23, a24, a25, a26, a27)
 else
 chk (decide (0 <= a1)) <|
 chk (decide (0 <= a1)) <|
 bif decide (a6 > (w64 (a13.aK - a13.aT))) then
 some ([.b false])
 else
 chk (decide (0 <= a1)) <|
 chk (decide (0 <= a1)) <|
 bif (decide (a13.aT > a13.aK)) then
 some ([.b false])
 else
 k0 (a0, a1, a2, a3, a4, (w64 (a5 + 1)), a9, a10, a11, a12, a13, a14, a16, a17, a18, a19, a20, a21, a22, a23, a24, a25, a26, a27)
def C3 (m : Nat) (k0 : pL -> Option (List Un)) : Nat -> JZ -> Option (List Un) := bj (Fb m k0)
theorem xx (m : Nat) (k0 : pL -> Option (List Un)) (n : Nat) : C3 m k0 (n + 1) = Fb m k0 (C3 m k0 n) := rfl
def NW (F : JZ -> Option (List Un)) : aR := ⟨[.lp [0, 1, 0, 1, 1, 1, 1, 1, 1, 1, 0, 0, 1, 0, 0, 1, 0, 1, 1, 1, 1, 1, 1, 1], .blk 5, .code [1, 1, 1, 1, 1, 1, 1, 1, 0, 0, 1, 0, 0, 1, 0, 1, 1, 1, 1, 1, 1, 1], .blk 1, .code [1, 1, 0, 0, 1, 0, 1, 1, 1, 1, 1, 1, 1], .lp [0, 1, 0, 1, 1, 1, 1, 1, 1, 1], .blk 0, .code [1, 1, 1, 1, 1, 1, 1, 1]], ⟨frm 261 [(1, .ae [.ints .i64, .ints .i64, .ints .i64, .ints .i64, .ints .i64, .ints .i64]), (5, .ptr 0 0 0), (6, .np 1 0 0), (8, .buf 2 1), (9, .int .i64), (10, .int .i64), (11, .int .i64), (12, .int .i64), (17, .int .i64), (194, .buf 3 3), (195, .int .i64), (196, .int .i64)], [.cells [.int .i64, .int .i64, .int .i64, .buf 4 2, .buf 5 3, .int .i64, .int .i64, .int .i64, .int .i64, .int .i64, .int .i64, .int .i64, .int .i64, .int .i64, .int .i64, .buf 6 2, .buf 7 2, .buf 8 2], .cells [.int .i64, .int .i64, .int .i64, .buf 9 2, .buf 10 3, .int .i64, .int .i64, .int .i64, .int .i64, .int .i64, .int .i64, .int .i64, .int .i64, .int .i64, .int .i64, .buf 11 2, .buf 12 2, .buf 13 2, .ptr 14 0 0, .buf 15 7, .int .i64, .int .i64, .int .i64, .int .i64, .int .i64, .int .i64, .int .i64, .int .i64, .int .i64, .bool], .ints .i64, .ae (sI 3), .ae (sI 2), .ae (sI 3), .ae (sI 2), .ae (sI 2), .ae (sI 2), .ae (sI 2), .ae (sI 3), .ae (sI 2), .ae (sI 2), .ae (sI 2), .cells [.buf 16 5], .ae (sI 7), .ae (sB 4)], 0⟩, onU F⟩
def ED (m : Nat) (k0 : pL -> Option (List Un)) (k : Ks -> Option (List Un)) : Ks -> Option (List Un) := fun (a0, a1, a2, a3, a4, a5, a6, a7, a8, a9, a10, a11, a12, a13, a14, a15, a16, a17, a18, a19, a20, a21, a22, a23, a24, a25, a26, a27, a28, a29, a30) =>
 bif decide (a7 < a6) then
 chk (inb a7 a17.length) <|
 chk (decide (a7.toNat < a17.length)) <|
 lt (af a17 a7.toNat : Dat) fun d33 =>
 bif (d33.i 1) == 6 then
 k (a0, a1, (w64 (a2 + (d33.i 3))), a3, a4, a5, a6, (w64 (a7 + 1)), a8, a9, a10, a11, a12, a13, a14, a15, a16, a17, a18, a19, a20, a21, a22, a23, a24, a25, a26, a27, a28, a29, a30)
 else
 bif (d33.i 1) == 2 then
 k (a0, a1, a2, (w64 (a3 - (d33.i 3))), a4, a5, a6, (w64 (a7 + 1)), a8, a9, a10, a11, a12, a13, a14, a15, a16, a17, a18, a19, a20, a21, a22, a23, a24, a25, a26, a27, a28, a29, a30)
 else
 bif (decide ((d33.i 2) >= (a13.length : Int))) then
 some ([.b false])
 else
 bif decide ((d33.i 2) >= 0) then
 bif (d33.i 1) != 3 then
 chk (inb (d33.i 2) a13.length) <|
 chk (decide ((d33.i 2).toNat < a13.length)) <|
 chk (inb (d33.i 2) a13.length) <|
 chk (decide ((d33.i 2).toNat < a13.length)) <|
 k (a0, a1, a2, a3, a4, a5, a6, (w64 (a7 + 1)), a8, a9, a10, a11, a12, (List.set a13 ((d33.i 2).toNat) (w64 ((a13.getD ((d33.i 2).toNat) 0) + (d33.i 3)))), a14, a15, a16, a17, a18, a19, a20, a21, a22, a23, a24, a25, a26, a27, a28, a29, a30)
 else
 k (a0, a1, a2, a3, a4, a5, a6, (w64 (a7 + 1)), a8, a9, a10, a11, a12, a13, a14, a15, a16, a17, a18, a19, a20, a21, a22, a23, a24, a25, a26, a27, a28, a29, a30)
 else
 k (a0, a1, a2, a3, a4, a5, a6, (w64 (a7 + 1)), a8, a9, a10, a11, a12, a13, a14, a15, a16, a17, a18, a19, a20, a21, a22, a23, a24, a25, a26, a27, a28, a29, a30)
 else
 bif a2 != a15.bs then
 some ([.b false])
 else
 bif a3 != a15.out then
 some ([.b false])
 else
 bif decide (a2 < 0) then
 some ([.b false])
 else
 bif decide (a3 < 0) then
 some ([.b false])
 else
 bif (decide (a3 > a9.advance)) then
 some ([.b false])
 else
 C3 m k0 m (a0, a1, a2, a3, a4, a5, 0, (a29.length : Int), 0, a8, a9, a10, a11, a12, a13, a29, a18, a19, a20, a21, a22, a23, a24, a25, a26, a27, a28, a30)
def F6 (m : Nat) (k0 : pL -> Option (List Un)) : Nat -> Ks -> Option (List Un) := bj (ED m k0)
theorem xE (m : Nat) (k0 : pL -> Option (List Un)) (n : Nat) : F6 m k0 (n + 1) = ED m k0 (F6 m k0 n) := rfl
def NH (F : Ks -> Option (List Un)) : aR := ⟨[.lp [0, 1, 0, 1, 1, 1, 1, 0, 0, 1, 0, 0, 1, 0, 1, 1, 1, 1, 1, 1, 1], .blk 2, .code [1, 1, 1, 1, 1, 0, 0, 1, 0, 0, 1, 0, 1, 1, 1, 1, 1, 1, 1], .blk 1, .code [1, 1, 0, 0, 1, 0, 1, 1, 1, 1, 1, 1, 1], .lp [0, 1, 0, 1, 1, 1, 1, 1, 1, 1], .blk 0, .code [1, 1, 1, 1, 1, 1, 1, 1]], ⟨frm 261 [(1, .ae [.ints .i64, .ints .i64, .ints .i64, .ints .i64, .ints .i64, .ints .i64]), (5, .ptr 0 0 0), (6, .np 1 0 0), (8, .buf 2 1), (9, .int .i64), (10, .int .i64), (11, .int .i64), (12, .int .i64), (13, .ptr 3 0 0), (119, .buf 4 4), (120, .int .i64), (121, .int .i64)], [.cells [.int .i64, .int .i64, .int .i64, .buf 5 2, .buf 6 3, .int .i64, .int .i64, .int .i64, .int .i64, .int .i64, .int .i64, .int .i64, .int .i64, .int .i64, .int .i64, .buf 7 2, .buf 8 2, .buf 9 2], .cells [.int .i64, .int .i64, .int .i64, .buf 10 2, .buf 11 3, .int .i64, .int .i64, .int .i64, .int .i64, .int .i64, .int .i64, .int .i64, .int .i64, .int .i64, .int .i64, .buf 12 2, .buf 13 2, .buf 14 2, .ptr 15 0 0, .buf 16 7, .int .i64, .int .i64, .int .i64, .int .i64, .int .i64, .int .i64, .int .i64, .int .i64, .int .i64, .bool], .ints .i64, .cells [.bool, .int .i64, .int .i64, .int .i64, .int .i64, .int .i64, .int .i64, .int .i64, .int .i64, .int .i64, .int .i64, .buf 4 4, .int .i64, .int .i64, .int .i64, .int .i64, .int .i64, .buf 17 3, .int .i64], .ae (sI 4), .ae (sI 2), .ae (sI 3), .ae (sI 2), .ae (sI 2), .ae (sI 2), .ae (sI 2), .ae (sI 3), .ae (sI 2), .ae (sI 2), .ae (sI 2), .cells [.buf 18 5], .ae (sI 7), .ae (sI 3), .ae (sB 4)], 0⟩, onU F⟩
def FA (m : Nat) (k : pL -> Option (List Un)) : pL -> Option (List Un) := fun (a0, a1, a2, a3, a4, a5, a6, a7, a8, a9, a10, a11, a12, a13, a14, a15, a16, a17, a18, a19, a20, a21, a22, a23) =>
 bif (decide (a5 < (a0.length : Int))) then
 bif decide (a5 < 12) then
 chk (inb a5 a0.length) <|
 chk (decide (a5.toNat < a0.length)) <|
 lt (af a0 a5.toNat : Dat) fun d7 =>
 chk (decide (0 <= a1) && (decide (a23.length < 1000) && a23.all (fun d => decide (d.i 1 <= 1152921504606846976 /\ d.i 2 <= 1152921504606846976)))) <|
 lt ((lW (d7.l 0) (d7.l 1) (d7.l 2) (d7.l 3) (d7.l 4) (d7.l 5) a23) : List Dat) fun l8 =>
 chk (decide (0 <= a1) && jT (⟨a8, a9, a10, a17, a18, a19, a20, a21, a23, a22⟩ : ab)) <|
 lt (((aC (⟨a8, a9, a10, a17, a18, a19, a20, a21, a23, a22⟩ : ab) l8).ra) : fW) fun g9 =>
 lt (((aC (⟨a8, a9, a10, a17, a18, a19, a20, a21, a23, a22⟩ : ab) l8).rb) : fc) fun g10 =>
 lt (((aC (⟨a8, a9, a10, a17, a18, a19, a20, a21, a23, a22⟩ : ab) l8).Aj) : List Dat) fun l23 =>
 lt (((aC (⟨a8, a9, a10, a17, a18, a19, a20, a21, a23, a22⟩ : ab) l8).notes) : List Dat) fun l24 =>
 bif ((aC (⟨a8, a9, a10, a17, a18, a19, a20, a21, a23, a22⟩ : ab) l8).e) != 0 then
 some ([.b false])
 else
 chk (decide (l23.length <= 1000000) && (l23.all rD && decide (ak 3 l23 <= 1152921504606846976))) <|
 bif (w64 ((w64 ((w64 ((w64 (g9.av + g9.me)) + g9.aT)) + g9.draw)) + g9.advance)) != (w64 ((ak 3 l23) + g10.dL)) then
 some ([.b false])
 else
 bif (decide (g10.dL < 0)) then
 some ([.b false])
 else
 bif ((l24.length : Int) != (a11.length : Int)) then
 some ([.b false])
 else
 bif ((w64 (a4 - g10.aI)) != (w64 (g9.av + g9.aK))) then
 some ([.b false])
 else
 F6 m k m (a0, a1, (w64 (a2 - g9.draw)), (w64 (a3 + g9.advance)), g10.aI, a5, (l23.length : Int), 0, a6, a7, ((aC (⟨a8, a9, a10, a17, a18, a19, a20, a21, a23, a22⟩ : ab) l8).t.a), ((aC (⟨a8, a9, a10, a17, a18, a19, a20, a21, a23, a22⟩ : ab) l8).t.b), ((aC (⟨a8, a9, a10, a17, a18, a19, a20, a21, a23, a22⟩ : ab) l8).t.n), a11, g9, g10, ((aC (⟨a8, a9, a10, a17, a18, a19, a20, a21, a23, a22⟩ : ab) l8).next), l23, a12, a13, a14, a15, a16, ((aC (⟨a8, a9, a10, a17, a18, a19, a20, a21, a23, a22⟩ : ab) l8).t.ax), ((aC (⟨a8, a9, a10, a17, a18, a19, a20, a21, a23, a22⟩ : ab) l8).t.notes), ((aC (⟨a8, a9, a10, a17, a18, a19, a20, a21, a23, a22⟩ : ab) l8).t.s0), ((aC (⟨a8, a9, a10, a17, a18, a19, a20, a21, a23, a22⟩ : ab) l8).t.s1), ((aC (⟨a8, a9, a10, a17, a18, a19, a20, a21, a23, a22⟩ : ab) l8).t.s2), ((aC (⟨a8, a9, a10, a17, a18, a19, a20, a21, a23, a22⟩ : ab) l8).t.tr), l24, ((aC (⟨a8, a9, a10, a17, a18, a19, a20, a21, a23, a22⟩ : ab) l8).t.aI))
 else
 some ([.b true])
 else
 some ([.b true])
def AJ (m : Nat) : Nat -> pL -> Option (List Un) := bj (FA m)
theorem xX (m : Nat) (n : Nat) : AJ m (n + 1) = FA m (AJ m n) := rfl
def FL (F : pL -> Option (List Un)) : aR := ⟨[.lp [0, 1, 0, 1, 1, 1, 1, 1, 1, 1], .blk 0, .code [1, 1, 1, 1, 1, 1, 1, 1]], ⟨frm 261 [(1, .ae [.ints .i64, .ints .i64, .ints .i64, .ints .i64, .ints .i64, .ints .i64]), (5, .ptr 0 0 0), (6, .np 1 0 0), (8, .buf 2 1), (9, .int .i64), (10, .int .i64), (11, .int .i64), (12, .int .i64)], [.cells [.int .i64, .int .i64, .int .i64, .buf 3 2, .buf 4 3, .int .i64, .int .i64, .int .i64, .int .i64, .int .i64, .int .i64, .int .i64, .int .i64, .int .i64, .int .i64, .buf 5 2, .buf 6 2, .buf 7 2], .cells [.int .i64, .int .i64, .int .i64, .buf 8 2, .buf 9 3, .int .i64, .int .i64, .int .i64, .int .i64, .int .i64, .int .i64, .int .i64, .int .i64, .int .i64, .int .i64, .buf 10 2, .buf 11 2, .buf 12 2, .ptr 13 0 0, .buf 14 7, .int .i64, .int .i64, .int .i64, .int .i64, .int .i64, .int .i64, .int .i64, .int .i64, .int .i64, .bool], .ints .i64, .ae (sI 2), .ae (sI 3), .ae (sI 2), .ae (sI 2), .ae (sI 2), .ae (sI 2), .ae (sI 3), .ae (sI 2), .ae (sI 2), .ae (sI 2), .cells [.buf 15 5], .ae (sI 7), .ae (sB 4)], 0⟩, onU F⟩
theorem Sz (m : Nat) (k0 : pL -> Option (List Un)) (h0 : HO N4 (FL k0)) : ∀ n, HO N4 (NW (C3 m k0 n)) := au ag T20.right (fun k => [FL k0, NW k]) (fun k h => (aH h0 (aH h aE))) fun k a => by kernel_rfl
theorem Sn (m : Nat) (k0 : pL -> Option (List Un)) (h0 : HO N4 (FL k0)) : ∀ n, HO N4 (NH (F6 m k0 n)) := au ag T20.right (fun k => [NH k, NW (C3 m k0 m)]) (fun k h => (aH h (aH (Sz m _ h0 m) aE))) fun k a => by kernel_rfl
theorem Sd (m : Nat) : ∀ n, HO N4 (FL (AJ m n)) := au ag T20.right (fun k => [NH (F6 m (k) m)]) (fun k h => (aH (Sn m _ h m) aE)) fun k a => by kernel_rfl
def t4 (m : Nat) : bD × List Dat -> Option (List Un) := fun (a0, a1) =>
 chk (decide (a0.notes.length <= 140737488355328)) <|
 chk (decide ((ay a0).ax.length < 1000000 /\ (ay a0).notes.length < 1000000 /\ (ay a0).s0.length < 1000000 /\ (ay a0).s1.length < 1000000 /\ (ay a0).s2.length < 1000000)) <|
 lt (((if (bC (ay a0)).isSome then 0 else -1) : Int) : Int) fun x1 =>
 bif ((decide (x1 < 0)) && true) then
 some ([.b false])
 else
 bif ((if (bC (ay a0)).isSome then 0 else 2) : Int) != 0 then
 some ([.b false])
 else
 chk (decide (0 <= x1)) <|
 chk (jJ (((ay a0).notes).length : Int) 8) <|
 chk (decide (0 <= x1)) <|
 chk (decide (0 < ([.r [.r ((bA (ay a0)).aI)]] : List Dat).length) && (decide (((af ([.r [.r ((bA (ay a0)).aI)]] : List Dat) 0).d 0).length <= 1000) && ((af ([.r [.r ((bA (ay a0)).aI)]] : List Dat) 0).d 0).all cU)) <|
 AJ m m (a1, x1, ((ay a0).b).bs, 0, (ak 1 ((af ([.r [.r ((bA (ay a0)).aI)]] : List Dat) 0).d 0)), 0, ((ay a0).a), ((ay a0).b), ((bA (ay a0)).a), ((bA (ay a0)).b), ((bA (ay a0)).n), (List.replicate ((((ay a0).notes).length : Int).toNat) 0), (ay a0).ax, (ay a0).notes, (ay a0).s0, (ay a0).s1, (ay a0).s2, ((bA (ay a0)).ax), ((bA (ay a0)).notes), ((bA (ay a0)).s0), ((bA (ay a0)).s1), ((bA (ay a0)).s2), ((bA (ay a0)).tr), ((bA (ay a0)).aI))
def mc : List Dat -> List Int -> List Int
 | [], P => P
 | x :: l, P => mc l (if x.i 1 = 6 \/ x.i 1 = 2 \/ x.i 2 < 0 \/ x.i 1 = 3 then P else P.set (x.i 2).toNat (w64 (P.getD (x.i 2).toNat 0 + x.i 3)))
def OH (k : Nat) (x : Dat) : Prop := 1 <= x.i 3 /\ (-1 <= x.i 2 /\ x.i 2 < (k : Int)) /\ (x.i 2 < 0 ↔ (x.i 1 = 1 \/ x.i 1 = 2 \/ x.i 1 = 6))
theorem vt : ∀ (l : List Dat) (P : List Int), (∀ x ∈ l, OH P.length x) -> (∀ i, i < P.length -> 0 <= P.getD i 0 /\ P.getD i 0 + bn (toB i) l <= 1125899906842624) -> (mc l P).length = P.length /\ ∀ i, i < P.length -> (mc l P).getD i 0 = P.getD i 0 + bn (toB i) l
 | [], P, _, _ => ⟨rfl, fun i _ => by simp [mc, bn]⟩
 | x :: l, P, hx, hb => by
  obtain ⟨h1, h2, h3⟩ := hx x (by simp); have hl := fun y hy => hx y (List.mem_cons_of_mem _ hy)
  have n0 := fun f => il f l fun d hd => by have := (hl d hd).1; omega
  have m0 : ∀ f, 0 <= amt f x := fun f => by unfold amt; cases f x <;> simp only [cond_true, cond_false] <;> omega
  unfold mc
  by_cases hc : x.i 1 = 6 \/ x.i 1 = 2 \/ x.i 2 < 0 \/ x.i 1 = 3
  · rw [if_pos hc]; have hz : ∀ i, amt (toB i) x = 0 := fun i => by
     have : kB x = false := by
      rcases hc with h | h | h | h
      · simp [kB, kT, h]
      · simp [kB, kR, h]
      · rcases h3.1 h with h | h | h <;> simp [kB, kF, kR, kT, h]
      · simp [kB, kI, h]
     simp only [amt, toB, this, Bool.false_and, cond_false]
    obtain ⟨i1, i2⟩ := vt l P hl fun i hi => by have := hb i hi; rw [de, hz] at this; omega
    exact ⟨i1, fun i hi => by rw [i2 i hi, de, hz]; omega⟩
  · rw [if_neg hc]; have hj : (x.i 2).toNat < P.length := by omega
    have hkB : kB x = true := by simp only [kB, kF, kR, kT, kI, Bool.and_eq_true, Bool.not_eq_true', beq_eq_false_iff_ne]; omega
    have ha : ∀ i, amt (toB i) x = if i = (x.i 2).toNat then x.i 3 else 0 := fun i => by
     simp only [amt, toB, hkB, Bool.true_and]
     by_cases hi : i = (x.i 2).toNat
     · rw [if_pos hi, yh (by omega)]; rfl
     · rw [if_neg hi, jL (by omega)]; rfl
    generalize (x.i 2).toNat = j at *
    have hbj := hb j hj; rw [de, ha, if_pos rfl] at hbj; have := n0 (toB j); rw [aa (n := P.getD j 0 + x.i 3) (by omega) (by omega)]; have gs : ∀ i, i < P.length -> (P.set j (P.getD j 0 + x.i 3)).getD i 0 = P.getD i 0 + amt (toB i) x := fun i hi => by
     rw [ha, List.getD_eq_getElem?_getD]
     by_cases hij : i = j
     · subst hij; rw [if_pos rfl, List.getElem?_set_self hi]; rfl
     · rw [if_neg hij, List.getElem?_set_ne (by omega), Int.add_zero, <- List.getD_eq_getElem?_getD]
    obtain ⟨i1, i2⟩ := vt l (P.set j (P.getD j 0 + x.i 3)) (by rw [List.length_set]; exact hl) fun i hi => by
     rw [List.length_set] at hi; have := hb i hi; rw [de] at this; rw [gs i hi]; have := m0 (toB i); omega
    rw [List.length_set] at i1 i2; exact ⟨i1, fun i hi => by rw [i2 i hi, gs i hi, de]; omega⟩
section
variable (m : Nat) (k0 : pL -> Option (List Un)) (ts : List Dat) (had i : Int) (xa : an) (xb : aq) (ya : an) (yb : aq) (yn : ai) (dl dn s0 s1 s2 z1 z2 z3 z4 z5 z6 z7 : List Dat)
theorem K1 (re ou : Int) (P : List Int) (nt : List Dat) (hP : P.length = nt.length) (hd : dn.length = nt.length) (hl : nt.length <= 1000)
 (hr : ∀ j, j < nt.length -> (af nt j).i 0 = (af dn j).i 1 - P.getD j 0 - (af nt j).i 2 /\ 0 <= (af nt j).i 0 /\ 0 <= (af nt j).i 1 /\ 0 <= (af nt j).i 2 /\ (0 <= (af dn j).i 1 /\ (af dn j).i 1 <= 1099511627776) /\ (0 <= P.getD j 0 /\ P.getD j 0 <= 1099511627776)) (hx : ak 2 nt <= yn.aK - yn.aT) (hy : 0 <= yn.aT /\ yn.aT <= yn.aK /\ yn.aK <= 1125899906842624) :
 ∀ (k j n : Nat) (s : Int), j + k = nt.length -> k < n -> 0 <= s -> s <= 2199023255552 * j -> s + ak 2 (nt.drop j) = ak 2 nt ->
 C3 m k0 n (ts, 0, re, ou, had, i, s, (nt.length : Int), (j : Int), xa, xb, ya, yb, yn, P, nt, dl, dn, s0, s1, s2, z1, z2, z3, z4, z5, z6, z7) = k0 (ts, 0, re, ou, had, w64 (i + 1), xa, xb, ya, yb, yn, P, dl, dn, s0, s1, s2, z1, z2, z3, z4, z5, z6, z7) := by
 intro k
 induction k with
 | zero =>
  intro j n s hj hn h0 h1 h2; obtain ⟨n, rfl⟩ := al n (by omega); rw [List.drop_eq_nil_of_le (by omega)] at h2; simp only [ak, Int.add_zero] at h2; rw [xx]; unfold Fb; dsimp only; rw [aw (by omega)]; refine bp rfl (bp rfl ?_); rw [aa (n := yn.aK - yn.aT) (by omega) (by omega), aw (by omega)]; refine bp rfl (bp rfl ?_); rw [aw (by omega)]
 | succ k ih =>
  intro j n s hj hn h0 h1 h2; obtain ⟨n, rfl⟩ := al n (by omega); have hjl : j < nt.length := by omega
  obtain ⟨r1, r2, r3, r4, r5, r6⟩ := hr j hjl; rw [qA 2 nt j hjl] at h2; have := ih (j + 1) n (s + (af nt j).i 2) (by omega) (by omega) (by omega) (by omega) (by omega); rw [xx]; unfold Fb; dsimp only; rw [ba (by omega), cy (by omega) (by omega), aG (by omega)]; simp only [lt_eq, Int.toNat_natCast]; rw [cy (by omega) (by omega), aG (by omega), cy (by omega) (by omega), aG (by omega)]; rw [aa (n := (af dn j).i 1 - P.getD j 0) (by omega) (by omega), aa (n := (af dn j).i 1 - P.getD j 0 - (af nt j).i 2) (by omega) (by omega), bN r1, aw (by omega), aw (by omega), aw (by omega), aa (n := s + _) (by omega) (by omega), aa (n := (j : Int) + 1) (by omega) (by omega)]; exact this
theorem J6 (ra : fW) (rb : fc) (nx : Int) (nt : List Dat) (re' ou' : Int) (P' : List Int) (h1 : re' = rb.bs) (h2 : ou' = rb.out) (h3 : 0 <= re') (h4 : 0 <= ou') (h5 : ou' <= xb.advance) (K : Nat) : ∀ (rest pre : List Dat) (n : Nat) (re ou : Int) (P : List Int), rest.length < n -> (pre ++ rest).length <= 1000000 -> P.length = K -> (∀ x ∈ rest, OH K x) -> re + bn kT rest = re' -> ou - bn kR rest = ou' -> mc rest P = P' -> (0 <= re /\ re' <= 1152921504606846976) -> (ou <= 1152921504606846976) ->
 F6 m k0 n (ts, 0, re, ou, had, i, ((pre ++ rest).length : Int), (pre.length : Int), xa, xb, ya, yb, yn, P, ra, rb, nx, pre ++ rest, dl, dn, s0, s1, s2, z1, z2, z3, z4, z5, z6, nt, z7) = C3 m k0 m (ts, 0, re', ou', had, i, 0, (nt.length : Int), 0, xa, xb, ya, yb, yn, P', nt, dl, dn, s0, s1, s2, z1, z2, z3, z4, z5, z6, z7) := by
 intro rest
 induction rest with
 | nil =>
  intro pre n re ou P hn hl hP hx e1 e2 e3 b1 b2; obtain ⟨n, rfl⟩ := al n (by simp at hn; omega); simp only [bn, Int.add_zero, Int.sub_zero] at e1 e2; simp only [mc] at e3; subst e1 e2 e3; rw [xE]; unfold ED; dsimp only; rw [aw (by simp), bN h1, bN h2, aw (by omega), aw (by omega), aw (by omega)]
 | cons x rest ih =>
  intro pre n re ou P hn hl hP hx e1 e2 e3 b1 b2; obtain ⟨n, rfl⟩ := al n (by simp at hn; omega); have hl2 : (pre ++ x :: rest).length = pre.length + (rest.length + 1) := by simp
  rw [hl2] at hl; simp only [List.length_cons] at hn; obtain ⟨x1, x2, x3⟩ := hx x (by simp); have hr := fun y hy => hx y (List.mem_cons_of_mem _ hy)
  have n0 := fun f => il f rest fun d hd => by have := (hr d hd).1; omega
  have nT := n0 kT; have nR := n0 kR; rw [de] at e1 e2; have KK := fun re ou P a b c d e f => ih (pre ++ [x]) n re ou P (by omega) (by simp; omega) a hr b c d e f
  simp only [List.append_assoc, List.cons_append, List.nil_append, List.length_append, List.length_cons, List.length_nil] at KK; rw [xE]; unfold ED; dsimp only; rw [hl2, ba (by omega), cy (by omega) (by omega), aG (by omega), aa (n := (pre.length : Int) + 1) (by omega) (by omega)]; simp only [lt_eq, Int.toNat_natCast, ao]; unfold mc at e3
  by_cases c6 : x.i 1 = 6
  · have a1 : amt kT x = x.i 3 := by simp only [amt, show kT x = true from yh c6, cond_true]
    have a2 : amt kR x = 0 := by simp only [amt, show kR x = false from jL (by omega), cond_false]
    rw [a1] at e1; rw [a2] at e2; rw [if_pos (.inl c6)] at e3; rw [cI c6, aa (n := re + x.i 3) (by omega) (by omega)]; exact KK (re + x.i 3) ou P hP (by omega) (by omega) e3 (by omega) b2
  have a1 : amt kT x = 0 := by simp only [amt, show kT x = false from jL c6, cond_false]
  rw [a1] at e1; rw [eM c6]
  by_cases c2 : x.i 1 = 2
  · have a2 : amt kR x = x.i 3 := by simp only [amt, show kR x = true from yh c2, cond_true]
    rw [a2] at e2; rw [if_pos (.inr (.inl c2))] at e3; rw [cI c2, aa (n := ou - x.i 3) (by omega) (by omega)]; exact KK re (ou - x.i 3) P hP (by omega) (by omega) e3 (by omega) (by omega)
  have a2 : amt kR x = 0 := by simp only [amt, show kR x = false from jL c2, cond_false]
  rw [a2] at e2; rw [eM c2, aw (by omega)]
  by_cases c0 : x.i 2 < 0
  · rw [if_pos (.inr (.inr (.inl c0)))] at e3; rw [aw (by omega)]; exact KK re ou P hP (by omega) (by omega) e3 b1 b2
  rw [ba (by omega)]
  by_cases c3 : x.i 1 = 3
  · rw [if_pos (.inr (.inr (.inr c3)))] at e3; rw [bN c3]; exact KK re ou P hP (by omega) (by omega) e3 b1 b2
  · rw [if_neg (by omega)] at e3; rw [jO c3, cy (by omega) (by omega), aG (by omega), cy (by omega) (by omega), aG (by omega)]; exact KK re ou _ (by rw [List.length_set]; exact hP) (by omega) (by omega) e3 b1 b2
end
theorem MM (m : Nat) (hm : 130000 <= m) (ts : List Dat) : ∀ (c n : Nat) (i : Nat) (T : ab) (P : List Int), i + c = min ts.length 12 -> c < n -> eJ T -> T.n.jl = false -> T.n.period = (i : Int) -> P.length = T.tr.length -> (∀ j, j < T.tr.length -> P.getD j 0 = (af T.tr j).i 3) ->
 AJ m n (ts, 0, T.n.rin - T.n.bk, T.n.out, ak 1 T.aI, (i : Int), T.a, T.b, T.a, T.b, T.n, P, T.ax, T.notes, T.s0, T.s1, T.s2, T.ax, T.notes, T.s0, T.s1, T.s2, T.tr, T.aI) = some [.b true] := by
 intro c
 induction c with
 | zero =>
  intro n i T P hi hn h ho hp hP hPr; obtain ⟨n, rfl⟩ := al n (by omega); rw [xX]; unfold FA; dsimp only
  by_cases h1 : i < ts.length
  · rw [ba (by omega), aw (by omega)]
  · rw [aw (by omega)]
 | succ c ih =>
  intro n i T P hi hn h ho hp hP hPr; obtain ⟨n, rfl⟩ := al n (by omega); rw [xX]; unfold FA; dsimp only; rw [ba (by omega), ba (by omega), cy (by omega) (by omega), aG (by omega)]; refine iD fun d _ => ?_
  refine bp (Bool.and_eq_true_iff.2 ⟨rfl, u6 h⟩) ?_
  refine iD fun l e6 => ?_
  have he : (cP T l).e = 0 := by rw [e6]; exact vA h _ _ _ _ _ _
  have eT : (⟨T.a, T.b, T.n, T.ax, T.notes, T.s0, T.s1, T.s2, T.aI, T.tr⟩ : ab) = T := rfl; rw [eT]; refine bp (Bool.and_eq_true_iff.2 ⟨rfl, fF.2 h⟩) ?_
  obtain ⟨hC, hN, hO, hPd, hM, hX, hD, hR, hQ⟩ := lG h ho (by omega) he; obtain ⟨p1, p2, p3, p4, p5, p6, p7, p8, p9⟩ := kY h he; obtain ⟨m1, m2, m3, m4⟩ := jt h he; obtain ⟨s1, s2, s3, s4, s5, s6⟩ := kS h he; obtain ⟨kp, rp, rg, cg, pl⟩ := jd h he; obtain ⟨r1, r2⟩ := wX h he; have u := kA h he; have D := dz h.qK; have tl := nh h; have bal := gX h; have nq := eX p1; have r0 := h.B3; have re := h.res; have ou := h.out; have rg := px rg; have hw : w64 ((i : Int) + 1) = (i : Int) + 1 := aa (by omega) (by omega); have kc : (bS T l).1.aA = cIn T l + dE T l + jz T l - ak 3 (bS T l).2.2 := kp.aA; have adv : T.b.advance <= 1099511627776 := D.advance.2; dsimp only [lt]; rw [hC, bN (show (aD T l).e = 0 from rfl)]; have hpg : (decide ((bS T l).2.2.length <= 1000000) && ((bS T l).2.2.all rD && decide (ak 3 (bS T l).2.2 <= 1152921504606846976))) = true := by
   rw [Bool.and_eq_true, Bool.and_eq_true, List.all_eq_true]; exact ⟨decide_eq_true (by omega), fun d hd => decide_eq_true (by have := (s1 d hd).1; omega), decide_eq_true (by omega)⟩
  refine bp hpg ?_
  show (bif w64 (w64 (w64 (w64 ((cP T l).p + (cP T l).q) + (cP T l).r) + dE T l) + jz T l) != w64 (ak 3 (bS T l).2.2 + (bS T l).1.aA) then _ else bif decide ((bS T l).1.aA < 0) then _ else bif (((dH T l).map om).length : Int) != (P.length : Int) then _ else bif w64 (ak 1 T.aI - ak 1 (cP T l).aI) != w64 ((cP T l).p + (cP T l).l) then _ else _) = _; have i1 : cIn T l = (cP T l).p + (cP T l).q + (cP T l).r := rfl; rw [aa (n := (cP T l).p + (cP T l).q) (by omega) (by omega), aa (n := (cP T l).p + (cP T l).q + (cP T l).r) (by omega) (by omega), aa (n := (cP T l).p + (cP T l).q + (cP T l).r + dE T l) (by omega) (by omega), aa (n := (cP T l).p + (cP T l).q + (cP T l).r + dE T l + jz T l) (by omega) (by omega), aa (n := ak 3 (bS T l).2.2 + (bS T l).1.aA) (by omega) (by omega)]; rw [bN (by omega), aw (by omega), bN (by rw [List.length_map, r1, hP])]; rw [aa (n := ak 1 T.aI - ak 1 (cP T l).aI) (by omega) (by omega), aa (n := (cP T l).p + (cP T l).l) (by omega) (by omega), bN (by omega)]; have hres : (aD T l).rb.bs = T.n.rin - T.n.bk - dE T l + bn kT (bS T l).2.2 := by
   show (cN2 T l).rin - (cN2 T l).bk = _; rw [u]; simp only; omega
  have hout : (aD T l).rb.out = T.n.out + jz T l - bn kR (bS T l).2.2 := by
   show (cN2 T l).out = _; rw [u]; simp only; omega
  have hrpx : ∀ x ∈ (bS T l).2.2, OH T.tr.length x := fun x hx => by
   obtain ⟨_, _, q1, q2, q3, q4⟩ := rp x hx; rw [<- q1] at q4; exact ⟨q2, q3, q4⟩
  have hrow : ∀ j, j < T.tr.length -> (0 <= (af T.tr j).i 3 /\ (af T.tr j).i 3 + bn (toB j) (bS T l).2.2 <= 1099511627776) /\ (af (dH T l) j).i 3 = (af T.tr j).i 3 + bn (toB j) (bS T l).2.2 := fun j hj => by
   obtain ⟨_, e1, _, e3, e4, _, e6⟩ := r2 j hj; have g0 := bY (bW hj fun x hx => (h.Jj x hx).1); have q := (s6 j hj).1; rw [e6] at q; have : bc (dB T.a T.n.period (af T.tr j)) = bc (af T.tr j) := rfl; rw [this] at q; unfold bc at q; exact ⟨by omega, e3⟩
  obtain ⟨ps1, ps2⟩ := vt (bS T l).2.2 P (by rw [hP]; exact hrpx) fun j hj => by
   rw [hP] at hj; have := (hrow j hj).1; rw [hPr j hj]; omega
  rw [hP] at ps1 ps2; have g2 := (kb h he).1; have hnt : ((dH T l).map om).length = T.tr.length := by rw [List.length_map, r1]
  have hNr := hN.res; have hNo := hN.out; have hNd := hN.down; have hNl := hN.lost; have hNb := gX hN; have hN0 := hN.B3; have eres : (aD T l).rb.bs = (aD T l).t.n.rin - (aD T l).t.n.bk := rfl; have eout : (aD T l).rb.out = (aD T l).t.n.out := rfl; have eadv : (aD T l).t.b.advance = T.b.advance := rfl; have hterm := h.GS; have hdn : ∀ j, j < T.tr.length -> (af T.notes j).i 1 = (af T.tr j).i 1 := fun j hj => by
   have := congrArg (fun l => l[j]?) hterm; simp only [List.getElem?_map, List.getElem?_eq_getElem hj, List.getElem?_eq_getElem (show j < T.notes.length by omega), Option.map_some, Option.some.injEq, Prod.mk.injEq] at this; rw [fp hj, fp (show j < T.notes.length by omega)]; exact this.2.1.symm
  have nx := ih n (i + 1) (aD T l).t (mc (bS T l).2.2 P) (by omega) (by omega) hN hO (by rw [hPd, hp]; omega) (by rw [ps1]; exact r1.symm) (fun j hj => by
   have hj : j < T.tr.length := by have : (aD T l).t.tr.length = T.tr.length := r1; omega
   rw [ps2 j hj, hPr j hj]; exact (hrow j hj).2.symm)
  have hw1 : w64 (T.n.rin - T.n.bk - dE T l) = T.n.rin - T.n.bk - dE T l := aa (by omega) (by omega); have hw2 : w64 (T.n.out + jz T l) = T.n.out + jz T l := aa (by omega) (by omega); refine (J6 m (AJ m n) ts (ak 1 (cP T l).aI) i T.a T.b (aD T l).t.a (aD T l).t.b (aD T l).t.n T.ax T.notes T.s0 T.s1 T.s2 (aD T l).t.ax (aD T l).t.notes (aD T l).t.s0 (aD T l).t.s1 (aD T l).t.s2 (aD T l).t.tr (aD T l).t.aI (aD T l).ra (aD T l).rb (aD T l).next ((dH T l).map om) (aD T l).rb.bs (aD T l).rb.out (mc (bS T l).2.2 P) rfl rfl (by omega) (by omega) (by omega) T.tr.length
   (bS T l).2.2 [] m (w64 (T.n.rin - T.n.bk - dE T l)) (w64 (T.n.out + jz T l)) P (by omega) (by simp; omega) hP hrpx
   (by rw [hw1, hres]) (by rw [hw2, hout]) rfl (by rw [hw1]; omega) (by rw [hw2]; omega)).trans ?_
  refine (K1 m (AJ m n) ts (ak 1 (cP T l).aI) i T.a T.b (aD T l).t.a (aD T l).t.b (aD T l).t.n T.ax T.notes T.s0 T.s1 T.s2 (aD T l).t.ax (aD T l).t.notes (aD T l).t.s0 (aD T l).t.s1 (aD T l).t.s2 (aD T l).t.tr (aD T l).t.aI (aD T l).rb.bs (aD T l).rb.out (mc (bS T l).2.2 P) ((dH T l).map om) (by rw [ps1, hnt]) (by rw [hnt, tl]) (by have := cZ h; omega) (fun j hj => ?_) ?_ (by omega) T.tr.length 0 m 0 (by omega) (by have := cZ h; omega) (by omega) (by simp) (by simp)).trans ?_
  · rw [hnt] at hj; have hj2 : j < (dH T l).length := by omega
    have g0 := bY (bW hj2 g2.2); rw [pb _ hj2, hdn j hj, ps2 j hj, hPr j hj, <- (hrow j hj).2]; obtain ⟨_, e1, _, e3, e4, _, e6⟩ := r2 j hj; have q0 : (om (af (dH T l) j)).i 0 = bc (af (dH T l) j) := rfl; have q1 : (om (af (dH T l) j)).i 1 = (af (dH T l) j).i 5 := rfl; have q2 : (om (af (dH T l) j)).i 2 = (af (dH T l) j).i 6 := rfl; rw [q0, q1, q2, <- e1]; unfold bc; omega
  · have : ak 2 ((dH T l).map om) = ak 6 (dH T l) := by rw [DD, BU, DD]; rfl
    rw [this]; have : ak 6 (aD T l).t.tr = ak 6 (dH T l) := rfl; omega
  · rw [hw]; exact nx
set_option maxHeartbeats 8000000 in
theorem Q9 (b0 : Int) (wb0 : (Lit.int .i64 b0).wf = true) (b1 : Int) (wb1 : (Lit.int .i64 b1).wf = true) (b2 : Int) (wb2 : (Lit.int .i64 b2).wf = true) (b3 : Int) (wb3 : (Lit.int .i64 b3).wf = true) (b4 : Int) (wb4 : (Lit.int .i64 b4).wf = true) (b5 : Int) (wb5 : (Lit.int .i64 b5).wf = true) (b6 : Int) (wb6 : (Lit.int .i64 b6).wf = true) (b7 : Int) (wb7 : (Lit.int .i64 b7).wf = true) (b8 : Int) (wb8 : (Lit.int .i64 b8).wf = true) (b9 : Int) (wb9 : (Lit.int .i64 b9).wf = true) (b10 : Int) (wb10 : (Lit.int .i64 b10).wf = true) (b11 : Int) (wb11 : (Lit.int .i64 b11).wf = true) (b12 : Int) (wb12 : (Lit.int .i64 b12).wf = true) (b13 : List Int) (wb13 : b13.length <= 140737488355328 /\ ∀ x ∈ b13, (Lit.int .i64 x).wf = true) (b14 : List Int) (wb14 : b14.length <= 140737488355328 /\ ∀ x ∈ b14, (Lit.int .i64 x).wf = true) (b15 : List Int) (wb15 : b15.length <= 140737488355328 /\ ∀ x ∈ b15, (Lit.int .i64 x).wf = true) (b16 : List Int) (wb16 : b16.length <= 140737488355328 /\ ∀ x ∈ b16, (Lit.int .i64 x).wf = true) (b17 : List Int) (wb17 : b17.length <= 140737488355328 /\ ∀ x ∈ b17, (Lit.int .i64 x).wf = true) (b18 : List Int) (wb18 : b18.length <= 140737488355328 /\ ∀ x ∈ b18, (Lit.int .i64 x).wf = true) (b19 : List Int) (wb19 : b19.length <= 140737488355328 /\ ∀ x ∈ b19, (Lit.int .i64 x).wf = true) (b20 : List Dat) (wb20 : b20.length <= 140737488355328 /\ ∀ x ∈ b20, WfR [.ints .i64, .ints .i64, .ints .i64, .ints .i64, .ints .i64, .ints .i64] x.sub) : ∃ m, t4 m ((⟨(⟨b0, b1, b2⟩ : an), (⟨b3, b4, b5, b6, b7, b8, b9, b10, b11, b12⟩ : aq), b13, b14, b15, b16, b17, b18, b19⟩ : bD), b20) = some [.b true] := by
 have hn : (⟨⟨b0, b1, b2⟩, ⟨b3, b4, b5, b6, b7, b8, b9, b10, b11, b12⟩, b13, b14, b15, b16, b17, b18, b19⟩ : bD).notes.length <= 140737488355328 := wb14.1; generalize (⟨⟨b0, b1, b2⟩, ⟨b3, b4, b5, b6, b7, b8, b9, b10, b11, b12⟩, b13, b14, b15, b16, b17, b18, b19⟩ : bD) = k at hn; have h := sZ k; have hT : bA (ay k) = aN (ay k) := na k; have hts := cZ h; have htl := nh h; refine ⟨130000, ?_⟩; unfold t4; dsimp only [lt]; rw [aG hn, aG (jF k), fH k, if_pos rfl, if_pos rfl]; have hnl : (ay k).notes.length = (aN (ay k)).notes.length := rfl; refine lZ rfl (lZ rfl (bp rfl (bp ?_ (bp rfl (bp ?_ ?_)))))
 · rw [uk]; omega
 · rw [hT]; exact Bool.and_eq_true_iff.2 ⟨rfl, zo (l := (aN (ay k)).aI) h.wD (by have := fA h; omega)⟩
 rw [hT]; have e0 : (ay k).b.bs = (aN (ay k)).n.rin - (aN (ay k)).n.bk := by show _ = (ay k).b.bs - 0; omega
 rw [e0]; refine MM 130000 (by omega) b20 (min b20.length 12) 130000 0 (aN (ay k)) (List.replicate _ 0) (by omega) (by omega) h rfl rfl (by rw [List.length_replicate, Int.toNat_natCast]; omega) (fun j hj => ?_); have : (af (aN (ay k)).tr j).i 3 = 0 := by
  show (af ((ay k).notes.map oG) j).i 3 = 0; rw [pb _ (by omega)]; rfl
 rw [this, List.getD_eq_getElem?_getD, List.getElem?_replicate]
 split <;> rfl
set_option maxRecDepth 20000 in
theorem qg {HH : Type} {enc : TypeId × Value -> HH} {w : World} {base : Nat} {vs : List Value} {ds : List (DataW HH)} {ps : List MemPlace} (hsh : w.ShapedOpen Tryz.prog)
 (hd : DataW.TrodAll enc Tryz.prog w 0 (fun _ => true) true Tryz.f4.params.toList vs ds ps) {us' : List TypeId} {gs : List (DataW HH)} (hz : (DataW.weightsEach Tryz.prog (Tryz.f4.params.toList ++ us') (ds ++ gs)).all (· <= reachBytes) = true) (hval : ∀ (j : Nat) t v, Tryz.f4.params.toList[j]? = some t -> vs[j]? = some v -> Value.okWide Tryz.prog w .any base t v) :
 Calls Tryz.prog 4 vs.toArray w fun e w' => e = .returned (.bool true) /\ RowKit.Below w.heap.size w w' :=
 o4 Seat.mix Seat.names oJ (pars := nw) (by kernel_rfl) (fun us h => by
  change WfU [.int .i64, .int .i64, .int .i64, .int .i64, .int .i64, .int .i64, .int .i64, .int .i64, .int .i64, .int .i64, .int .i64, .int .i64, .int .i64, .ints .i64, .ints .i64, .ints .i64, .ints .i64, .ints .i64, .ints .i64, .ints .i64, .ae [.ints .i64, .ints .i64, .ints .i64, .ints .i64, .ints .i64, .ints .i64]] us at h; obtain ⟨b0, u, rfl, wb0, h⟩ := bg h; obtain ⟨b1, u, rfl, wb1, h⟩ := bg h; obtain ⟨b2, u, rfl, wb2, h⟩ := bg h; obtain ⟨b3, u, rfl, wb3, h⟩ := bg h; obtain ⟨b4, u, rfl, wb4, h⟩ := bg h; obtain ⟨b5, u, rfl, wb5, h⟩ := bg h; obtain ⟨b6, u, rfl, wb6, h⟩ := bg h; obtain ⟨b7, u, rfl, wb7, h⟩ := bg h; obtain ⟨b8, u, rfl, wb8, h⟩ := bg h; obtain ⟨b9, u, rfl, wb9, h⟩ := bg h; obtain ⟨b10, u, rfl, wb10, h⟩ := bg h; obtain ⟨b11, u, rfl, wb11, h⟩ := bg h; obtain ⟨b12, u, rfl, wb12, h⟩ := bg h; obtain ⟨b13, u, rfl, wb13, h⟩ := bJ h; obtain ⟨b14, u, rfl, wb14, h⟩ := bJ h; obtain ⟨b15, u, rfl, wb15, h⟩ := bJ h; obtain ⟨b16, u, rfl, wb16, h⟩ := bJ h; obtain ⟨b17, u, rfl, wb17, h⟩ := bJ h; obtain ⟨b18, u, rfl, wb18, h⟩ := bJ h; obtain ⟨b19, u, rfl, wb19, h⟩ := bJ h; obtain ⟨b20, u, rfl, wb20, h⟩ := sN h; obtain rfl := ub h; obtain ⟨m, hm⟩ := Q9 b0 wb0 b1 wb1 b2 wb2 b3 wb3 b4 wb4 b5 wb5 b6 wb6 b7 wb7 b8 wb8 b9 wb9 b10 wb10 b11 wb11 b12 wb12 b13 wb13 b14 wb14 b15 wb15 b16 wb16 b17 wb17 b18 wb18 b19 wb19 b20 wb20; have G : N4.wx Tryz.prog LQ KN (Uns.enc ((⟨(⟨b0, b1, b2⟩ : an), (⟨b3, b4, b5, b6, b7, b8, b9, b10, b11, b12⟩ : aq), b13, b14, b15, b16, b17, b18, b19⟩ : bD), b20)) ([FL (AJ m m)]) = t4 m ((⟨(⟨b0, b1, b2⟩ : an), (⟨b3, b4, b5, b6, b7, b8, b9, b10, b11, b12⟩ : aq), b13, b14, b15, b16, b17, b18, b19⟩ : bD), b20) := by kernel_rfl
  exact N4.Ce ag T20.right (W := [FL (AJ m m)]) (by kernel_rfl) (by kernel_rfl) (by kernel_rfl) (aH (Sd m m) aE) (G.trans hm)) hsh hd hz hval
end
end Go.Proofs.YtdbkoeefnodejaaGreat
