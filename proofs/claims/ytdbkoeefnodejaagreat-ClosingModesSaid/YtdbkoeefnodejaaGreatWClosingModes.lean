/- A part of the walk. -/
import Derived.Test.YtdbkoeefnodejaaGreatQ6
set_option linter.unusedVariables false
set_option linter.unusedSimpArgs false
namespace Go.Proofs.YtdbkoeefnodejaaGreat
noncomputable section
open Go Go.Proofs.YtdbkoeefnodejaaGreat.Ev
set_option maxRecDepth 20000
def nz : List Par := [(true, [.int .i64, .int .i64, .int .i64, .int .i64, .int .i64, .int .i64, .int .i64, .int .i64, .int .i64, .int .i64, .int .i64, .int .i64, .int .i64, .ints .i64, .ints .i64, .ints .i64, .ints .i64, .ints .i64, .ints .i64, .ints .i64]), (false, [.ae [.ints .i64, .ints .i64, .ints .i64, .ints .i64, .ints .i64, .ints .i64]])]
def N6 : aF := ⟨T20.tab, 6, ⟨List.map Par.vp nz, [], 0⟩, ⟨[.bool], [], 0⟩, []⟩
abbrev JW : Type := List Dat × Int × Int × Int × Int × Int × an × aq × an × aq × ai × fW × fc × Int × List Dat × List Dat × List Dat × List Dat × List Dat × List Dat × List Dat × List Dat × List Dat × List Dat × List Dat × List Dat × List Dat × List Dat
abbrev zd : Type := List Dat × Int × Int × Int × an × aq × an × aq × ai × List Dat × List Dat × List Dat × List Dat × List Dat × List Dat × List Dat × List Dat × List Dat × List Dat × List Dat × List Dat
def Eo (m : Nat) (k0 : zd -> Option (List Un)) (k : JW -> Option (List Un)) : JW -> Option (List Un) := fun (a0, a1, a2, a3, a4, a5, a6, a7, a8, a9, a10, a11, a12, a13, a14, a15, a16, a17, a18, a19, a20, a21, a22, a23, a24, a25, a26, a27) =>
 bif decide (a5 < a4) then
 chk (inb a5 a14.length) <|
 chk (decide (a5.toNat < a14.length)) <|
 lt (af a14 a5.toNat : Dat) fun d25 =>
 bif decide ((d25.i 0) < 0) then
 some ([.b false])
 else
 bif decide (a2 = 0) then
 bif (decide ((d25.i 0) >= (a17.length : Int))) then
 some ([.b false])
 else
 bif decide (a2 = 0) then
 chk (inb (d25.i 0) a17.length) <|
 chk (decide ((d25.i 0).toNat < a17.length)) <|
 bif ((af a17 ((d25.i 0).toNat)).i 0) != (d25.i 1) then
 some ([.b false])
 else
 k (a0, a1, a2, a3, a4, (w64 (a5 + 1)), a6, a7, a8, a9, a10, a11, a12, a13, a14, a15, a16, a17, a18, a19, a20, a21, a22, a23, a24, a25, a26, a27)
 else
 bif decide (a2 = 1) then
 chk (inb (d25.i 0) a18.length) <|
 chk (decide ((d25.i 0).toNat < a18.length)) <|
 bif ((af a18 ((d25.i 0).toNat)).i 0) != (d25.i 1) then
 some ([.b false])
 else
 k (a0, a1, a2, a3, a4, (w64 (a5 + 1)), a6, a7, a8, a9, a10, a11, a12, a13, a14, a15, a16, a17, a18, a19, a20, a21, a22, a23, a24, a25, a26, a27)
 else
 bif decide (a2 = 2) then
 chk (inb (d25.i 0) a19.length) <|
 chk (decide ((d25.i 0).toNat < a19.length)) <|
 bif ((af a19 ((d25.i 0).toNat)).i 0) != (d25.i 1) then
 some ([.b false])
 else
 k (a0, a1, a2, a3, a4, (w64 (a5 + 1)), a6, a7, a8, a9, a10, a11, a12, a13, a14, a15, a16, a17, a18, a19, a20, a21, a22, a23, a24, a25, a26, a27)
 else
 none
 else
 bif decide (a2 = 1) then
 bif (decide ((d25.i 0) >= (a18.length : Int))) then
 some ([.b false])
 else
 bif decide (a2 = 0) then
 chk (inb (d25.i 0) a17.length) <|
 chk (decide ((d25.i 0).toNat < a17.length)) <|
 bif ((af a17 ((d25.i 0).toNat)).i 0) != (d25.i 1) then
 some ([.b false])
 else
 k (a0, a1, a2, a3, a4, (w64 (a5 + 1)), a6, a7, a8, a9, a10, a11, a12, a13, a14, a15, a16, a17, a18, a19, a20, a21, a22, a23, a24, a25, a26, a27)
 else
 bif decide (a2 = 1) then
 chk (inb (d25.i 0) a18.length) <|
 chk (decide ((d25.i 0).toNat < a18.length)) <|
 bif ((af a18 ((d25.i 0).toNat)).i 0) != (d25.i 1) then
 some ([.b false])
 else
 k (a0, a1, a2, a3, a4, (w64 (a5 + 1)), a6, a7, a8, a9, a10, a11, a12, a13, a14, a15, a16, a17, a18, a19, a20, a21, a22, a23, a24, a25, a26, a27)
 else
 bif decide (a2 = 2) then
 chk (inb (d25.i 0) a19.length) <|
 chk (decide ((d25.i 0).toNat < a19.length)) <|
 bif ((af a19 ((d25.i 0).toNat)).i 0) != (d25.i 1) then
 some ([.b false])
 else
 k (a0, a1, a2, a3, a4, (w64 (a5 + 1)), a6, a7, a8, a9, a10, a11, a12, a13, a14, a15, a16, a17, a18, a19, a20, a21, a22, a23, a24, a25, a26, a27)
 else
 none
 else
 bif decide (a2 = 2) then
 bif (decide ((d25.i 0) >= (a19.length : Int))) then
 some ([.b false])
 else
 bif decide (a2 = 0) then
 chk (inb (d25.i 0) a17.length) <|
 chk (decide ((d25.i 0).toNat < a17.length)) <|
 bif ((af a17 ((d25.i 0).toNat)).i 0) != (d25.i 1) then
 some ([.b false])
 else
 k (a0, a1, a2, a3, a4, (w64 (a5 + 1)), a6, a7, a8, a9, a10, a11, a12, a13, a14, a15, a16, a17, a18, a19, a20, a21, a22, a23, a24, a25, a26, a27)
 else
 bif decide (a2 = 1) then
 chk (inb (d25.i 0) a18.length) <|
 chk (decide ((d25.i 0).toNat < a18.length)) <|
 bif ((af a18 ((d25.i 0).toNat)).i 0) != (d25.i 1) then
 some ([.b false])
 else
 k (a0, a1, a2, a3, a4, (w64 (a5 + 1)), a6, a7, a8, a9, a10, a11, a12, a13, a14, a15, a16, a17, a18, a19, a20, a21, a22, a23, a24, a25, a26, a27)
 else
 bif decide (a2 = 2) then
 chk (inb (d25.i 0) a19.length) <|
 chk (decide ((d25.i 0).toNat < a19.length)) <|
 bif ((af a19 ((d25.i 0).toNat)).i 0) != (d25.i 1) then
 some ([.b false])
 else
 k (a0, a1, a2, a3, a4, (w64 (a5 + 1)), a6, a7, a8, a9, a10, a11, a12, a13, a14, a15, a16, a17, a18, a19, a20, a21, a22, a23, a24, a25, a26, a27)
 else
 none
 else
 none
 else
 k0 (a0, a1, a13, (w64 (a3 + 1)), a6, a7, a8, a9, a10, a15, a16, a17, a18, a19, a20, a21, a22, a23, a24, a25, a27)
def B5 (m : Nat) (k0 : zd -> Option (List Un)) : Nat -> JW -> Option (List Un) := bj (Eo m k0)
theorem yg (m : Nat) (k0 : zd -> Option (List Un)) (n : Nat) : B5 m k0 (n + 1) = Eo m k0 (B5 m k0 n) := rfl
def PY (F : JW -> Option (List Un)) : aR := ⟨[.lp [0, 1, 0, 1, 1, 0, 0, 1, 0, 0, 1, 0, 1, 1, 1, 1, 1], .blk 2, .code [1, 1, 1, 0, 0, 1, 0, 0, 1, 0, 1, 1, 1, 1, 1], .blk 1, .code [1, 1, 0, 0, 1, 0, 1, 1, 1, 1, 1], .lp [0, 1, 0, 1, 1, 1, 1, 1], .blk 0, .code [1, 1, 1, 1, 1, 1]], ⟨frm 137 [(1, .ae [.ints .i64, .ints .i64, .ints .i64, .ints .i64, .ints .i64, .ints .i64]), (5, .ptr 0 0 0), (6, .np 1 0 0), (8, .int .i64), (9, .int .i64), (10, .ptr 2 0 0), (100, .buf 3 4), (101, .int .i64), (102, .int .i64)], [.cells [.int .i64, .int .i64, .int .i64, .buf 4 2, .buf 5 3, .int .i64, .int .i64, .int .i64, .int .i64, .int .i64, .int .i64, .int .i64, .int .i64, .int .i64, .int .i64, .buf 6 2, .buf 7 2, .buf 8 2], .cells [.int .i64, .int .i64, .int .i64, .buf 9 2, .buf 10 3, .int .i64, .int .i64, .int .i64, .int .i64, .int .i64, .int .i64, .int .i64, .int .i64, .int .i64, .int .i64, .buf 11 2, .buf 12 2, .buf 13 2, .ptr 14 0 0, .buf 15 7, .int .i64, .int .i64, .int .i64, .int .i64, .int .i64, .int .i64, .int .i64, .int .i64, .int .i64, .bool], .cells [.bool, .int .i64, .int .i64, .int .i64, .int .i64, .int .i64, .int .i64, .int .i64, .int .i64, .int .i64, .int .i64, .buf 3 4, .int .i64, .int .i64, .int .i64, .int .i64, .int .i64, .buf 16 3, .int .i64], .ae (sI 4), .ae (sI 2), .ae (sI 3), .ae (sI 2), .ae (sI 2), .ae (sI 2), .ae (sI 2), .ae (sI 3), .ae (sI 2), .ae (sI 2), .ae (sI 2), .cells [.buf 17 5], .ae (sI 7), .ae (sI 3), .ae (sB 4)], 0⟩, onU F⟩
def Ei (m : Nat) (k : zd -> Option (List Un)) : zd -> Option (List Un) := fun (a0, a1, a2, a3, a4, a5, a6, a7, a8, a9, a10, a11, a12, a13, a14, a15, a16, a17, a18, a19, a20) =>
 bif (decide (a3 < (a0.length : Int))) then
 bif decide (a3 < 12) then
 chk (inb a3 a0.length) <|
 chk (decide (a3.toNat < a0.length)) <|
 lt (af a0 a3.toNat : Dat) fun d5 =>
 chk (decide (0 <= a1) && (decide (a20.length < 1000) && a20.all (fun d => decide (d.i 1 <= 1152921504606846976 /\ d.i 2 <= 1152921504606846976)))) <|
 lt ((lW (d5.l 0) (d5.l 1) (d5.l 2) (d5.l 3) (d5.l 4) (d5.l 5) a20) : List Dat) fun l6 =>
 chk (decide (0 <= a1) && jT (⟨a6, a7, a8, a14, a15, a16, a17, a18, a20, a19⟩ : ab)) <|
 lt (((aC (⟨a6, a7, a8, a14, a15, a16, a17, a18, a20, a19⟩ : ab) l6).ra) : fW) fun g7 =>
 lt (((aC (⟨a6, a7, a8, a14, a15, a16, a17, a18, a20, a19⟩ : ab) l6).rb) : fc) fun g8 =>
 lt (((aC (⟨a6, a7, a8, a14, a15, a16, a17, a18, a20, a19⟩ : ab) l6).next) : Int) fun x9 =>
 lt (((aC (⟨a6, a7, a8, a14, a15, a16, a17, a18, a20, a19⟩ : ab) l6).t.a) : an) fun g11 =>
 lt (((aC (⟨a6, a7, a8, a14, a15, a16, a17, a18, a20, a19⟩ : ab) l6).t.b) : aq) fun g12 =>
 lt (((aC (⟨a6, a7, a8, a14, a15, a16, a17, a18, a20, a19⟩ : ab) l6).t.n) : ai) fun g13 =>
 lt (((aC (⟨a6, a7, a8, a14, a15, a16, a17, a18, a20, a19⟩ : ab) l6).t.ax) : List Dat) fun l14 =>
 lt (((aC (⟨a6, a7, a8, a14, a15, a16, a17, a18, a20, a19⟩ : ab) l6).t.notes) : List Dat) fun l15 =>
 lt (((aC (⟨a6, a7, a8, a14, a15, a16, a17, a18, a20, a19⟩ : ab) l6).t.s0) : List Dat) fun l16 =>
 lt (((aC (⟨a6, a7, a8, a14, a15, a16, a17, a18, a20, a19⟩ : ab) l6).t.s1) : List Dat) fun l17 =>
 lt (((aC (⟨a6, a7, a8, a14, a15, a16, a17, a18, a20, a19⟩ : ab) l6).t.s2) : List Dat) fun l18 =>
 lt (((aC (⟨a6, a7, a8, a14, a15, a16, a17, a18, a20, a19⟩ : ab) l6).t.aI) : List Dat) fun l19 =>
 lt (((aC (⟨a6, a7, a8, a14, a15, a16, a17, a18, a20, a19⟩ : ab) l6).t.tr) : List Dat) fun l20 =>
 lt (((aC (⟨a6, a7, a8, a14, a15, a16, a17, a18, a20, a19⟩ : ab) l6).Aj) : List Dat) fun l21 =>
 lt (((aC (⟨a6, a7, a8, a14, a15, a16, a17, a18, a20, a19⟩ : ab) l6).notes) : List Dat) fun l22 =>
 bif ((aC (⟨a6, a7, a8, a14, a15, a16, a17, a18, a20, a19⟩ : ab) l6).e) != 0 then
 some ([.b false])
 else
 bif g7.mode != a2 then
 some ([.b false])
 else
 chk (decide (0 <= a1)) <|
 bif x9 != g13.mode then
 some ([.b false])
 else
 bif decide (x9 < 0) then
 some ([.b false])
 else
 bif decide (x9 >= 3) then
 some ([.b false])
 else
 bif a2 == 2 then
 bif x9 != 2 then
 some ([.b false])
 else
 bif (g7.period != (w64 (a3 + 1))) then
 some ([.b false])
 else
 B5 m k m (a0, a1, a2, a3, (l21.length : Int), 0, a4, a5, g11, g12, g13, g7, g8, x9, l21, a9, a10, a11, a12, a13, l14, l15, l16, l17, l18, l20, l22, l19)
 else
 bif (g7.period != (w64 (a3 + 1))) then
 some ([.b false])
 else
 B5 m k m (a0, a1, a2, a3, (l21.length : Int), 0, a4, a5, g11, g12, g13, g7, g8, x9, l21, a9, a10, a11, a12, a13, l14, l15, l16, l17, l18, l20, l22, l19)
 else
 some ([.b true])
 else
 some ([.b true])
def zW (m : Nat) : Nat -> zd -> Option (List Un) := bj (Ei m)
theorem wO (m : Nat) (n : Nat) : zW m (n + 1) = Ei m (zW m n) := rfl
def Ik (F : zd -> Option (List Un)) : aR := ⟨[.lp [0, 1, 0, 1, 1, 1, 1, 1], .blk 0, .code [1, 1, 1, 1, 1, 1]], ⟨frm 137 [(1, .ae [.ints .i64, .ints .i64, .ints .i64, .ints .i64, .ints .i64, .ints .i64]), (5, .ptr 0 0 0), (6, .np 1 0 0), (8, .int .i64), (9, .int .i64)], [.cells [.int .i64, .int .i64, .int .i64, .buf 2 2, .buf 3 3, .int .i64, .int .i64, .int .i64, .int .i64, .int .i64, .int .i64, .int .i64, .int .i64, .int .i64, .int .i64, .buf 4 2, .buf 5 2, .buf 6 2], .cells [.int .i64, .int .i64, .int .i64, .buf 7 2, .buf 8 3, .int .i64, .int .i64, .int .i64, .int .i64, .int .i64, .int .i64, .int .i64, .int .i64, .int .i64, .int .i64, .buf 9 2, .buf 10 2, .buf 11 2, .ptr 12 0 0, .buf 13 7, .int .i64, .int .i64, .int .i64, .int .i64, .int .i64, .int .i64, .int .i64, .int .i64, .int .i64, .bool], .ae (sI 2), .ae (sI 3), .ae (sI 2), .ae (sI 2), .ae (sI 2), .ae (sI 2), .ae (sI 3), .ae (sI 2), .ae (sI 2), .ae (sI 2), .cells [.buf 14 5], .ae (sI 7), .ae (sB 4)], 0⟩, onU F⟩
theorem Sv (m : Nat) (k0 : zd -> Option (List Un)) (h0 : HO N6 (Ik k0)) : ∀ n, HO N6 (PY (B5 m k0 n)) := au ag T20.right (fun k => [Ik k0, PY k]) (fun k h => (aH h0 (aH h aE))) fun k a => by kernel_rfl
theorem Sf (m : Nat) : ∀ n, HO N6 (Ik (zW m n)) := au ag T20.right (fun k => [PY (B5 m (k) m)]) (fun k h => (aH (Sv m _ h m) aE)) fun k a => by kernel_rfl
def t6 (m : Nat) : bD × List Dat -> Option (List Un) := fun (a0, a1) =>
 chk (decide (a0.notes.length <= 140737488355328)) <|
 chk (decide ((ay a0).ax.length < 1000000 /\ (ay a0).notes.length < 1000000 /\ (ay a0).s0.length < 1000000 /\ (ay a0).s1.length < 1000000 /\ (ay a0).s2.length < 1000000)) <|
 lt (((if (bC (ay a0)).isSome then 0 else -1) : Int) : Int) fun x1 =>
 bif ((decide (x1 < 0)) && true) then
 some ([.b false])
 else
 bif ((if (bC (ay a0)).isSome then 0 else 2) : Int) != 0 then
 some ([.b false])
 else
 chk (decide (0 <= x1)) <|
 zW m m (a1, x1, 0, 0, ((ay a0).a), ((ay a0).b), ((bA (ay a0)).a), ((bA (ay a0)).b), ((bA (ay a0)).n), (ay a0).ax, (ay a0).notes, (ay a0).s0, (ay a0).s1, (ay a0).s2, ((bA (ay a0)).ax), ((bA (ay a0)).notes), ((bA (ay a0)).s0), ((bA (ay a0)).s1), ((bA (ay a0)).s2), ((bA (ay a0)).tr), ((bA (ay a0)).aI))
theorem MI (m : Nat) (k0 : zd -> Option (List Un)) (ts : List Dat) (w now i : Int) (d : br) (xa : an) (xb : aq) (ya : an) (yb : aq) (yn : ai) (ra : fW) (rb : fc) (nx : Int) (z1 z2 z3 z4 z5 z6 z7 z8 z9 : List Dat) (hm : 0 <= now /\ now <= 2) (nn : Nat) : ∀ (rest pre : List Dat) (n : Nat), rest.length < n -> (pre ++ rest).length <= 1000000 -> (∀ x ∈ rest, D2 nn 0 (eZ d now) x) ->
 B5 m k0 n (ts, w, now, i, ((pre ++ rest).length : Int), (pre.length : Int), xa, xb, ya, yb, yn, ra, rb, nx, pre ++ rest, d.ax, d.notes, d.s0, d.s1, d.s2, z1, z2, z3, z4, z5, z6, z7, z8) = k0 (ts, w, nx, w64 (i + 1), xa, xb, ya, yb, yn, d.ax, d.notes, d.s0, d.s1, d.s2, z1, z2, z3, z4, z5, z6, z8) := by
 intro rest
 induction rest with
 | nil =>
  intro pre n hn hl hg; obtain ⟨n, rfl⟩ := al n (by simp at hn; omega); rw [yg]; unfold Eo; dsimp only; rw [aw (by simp)]
 | cons x rest ih =>
  intro pre n hn hl hg; obtain ⟨n, rfl⟩ := al n (by simp at hn; omega); simp only [List.length_cons, List.length_append] at hn hl; obtain ⟨⟨p1, p2⟩, _, p3, _⟩ := hg x (by simp); have := ih (pre ++ [x]) n (by omega) (by simp; omega) (fun d hd => hg d (by simp [hd])); rw [Int.sub_zero] at p3; rw [Int.zero_add] at p2; rw [yg]; unfold Eo; dsimp only; have hl2 : ((pre ++ x :: rest).length : Int) = (pre.length : Int) + ((rest.length : Int) + 1) := by simp
  rw [hl2, ba (by omega), cy (by omega) (by rw [hl2]; omega), aG (by simp), aa (n := (pre.length : Int) + 1) (by omega) (by omega)]; simp only [lt_eq, Int.toNat_natCast, ao]; rw [aw (by omega)]; have K := this; simp only [LNl, LNi, Int.cast_ofNat_Int] at K; obtain rfl | rfl | rfl : now = 0 \/ now = 1 \/ now = 2 := by omega
  · have p2 : x.i 0 < (d.s0.length : Int) := p2; have p3 : x.i 1 = (af d.s0 (x.i 0).toNat).i 0 := p3; have z0 : (0 : Int) = 0 := rfl; rw [ba z0, aw (show ¬ x.i 0 >= (d.s0.length : Int) by omega), ba z0, cy p1 p2, aG (by omega), bN p3.symm]; exact K
  · have p2 : x.i 0 < (d.s1.length : Int) := p2; have p3 : x.i 1 = (af d.s1 (x.i 0).toNat).i 0 := p3; have z0 : ¬ (1 : Int) = 0 := by decide
    have z1 : (1 : Int) = 1 := rfl; rw [aw z0, ba z1, aw (show ¬ x.i 0 >= (d.s1.length : Int) by omega), aw z0, ba z1, cy p1 p2, aG (by omega), bN p3.symm]; exact K
  · have p2 : x.i 0 < (d.s2.length : Int) := p2; have p3 : x.i 1 = (af d.s2 (x.i 0).toNat).i 0 := p3; have z0 : ¬ (2 : Int) = 0 := by decide
    have z1 : ¬ (2 : Int) = 1 := by decide
    have z2 : (2 : Int) = 2 := rfl; rw [aw z0, aw z1, ba z2, aw (show ¬ x.i 0 >= (d.s2.length : Int) by omega), aw z0, aw z1, ba z2, cy p1 p2, aG (by omega), bN p3.symm]; exact K
theorem Ko (m : Nat) (hm : 130000 <= m) (ts : List Dat) (xa : an) (xb : aq) : ∀ (c n : Nat) (i : Nat) (T : ab), i + c = min ts.length 12 -> c < n -> eJ T -> T.n.jl = false -> T.n.period = (i : Int) ->
 zW m n (ts, 0, T.n.mode, (i : Int), xa, xb, T.a, T.b, T.n, T.ax, T.notes, T.s0, T.s1, T.s2, T.ax, T.notes, T.s0, T.s1, T.s2, T.tr, T.aI) = some [.b true] := by
 intro c
 induction c with
 | zero =>
  intro n i T hi hn h ho hp; obtain ⟨n, rfl⟩ := al n (by omega); rw [wO]; unfold Ei; dsimp only
  by_cases h1 : i < ts.length
  · rw [ba (by omega), aw (by omega)]
  · rw [aw (by omega)]
 | succ c ih =>
  intro n i T hi hn h ho hp; obtain ⟨n, rfl⟩ := al n (by omega); rw [wO]; unfold Ei; dsimp only; rw [ba (by omega), ba (by omega), cy (by omega) (by omega), aG (by omega)]; refine iD fun d _ => ?_
  refine bp (Bool.and_eq_true_iff.2 ⟨rfl, u6 h⟩) ?_
  refine iD fun l e6 => ?_
  have he : (cP T l).e = 0 := by rw [e6]; exact vA h _ _ _ _ _ _
  have eT : (⟨T.a, T.b, T.n, T.ax, T.notes, T.s0, T.s1, T.s2, T.aI, T.tr⟩ : ab) = T := rfl; rw [eT]; refine bp (Bool.and_eq_true_iff.2 ⟨rfl, fF.2 h⟩) ?_
  obtain ⟨hC, hN, hO, hP, hM, hX, hD, hR, hQ⟩ := lG h ho (by omega) he; dsimp only [lt]; rw [hC, bN (show (aD T l).e = 0 from rfl), bN hR]; refine bp rfl ?_
  rw [bN hM.symm, aw (by omega), aw (by omega)]; have hw : w64 ((i : Int) + 1) = (i : Int) + 1 := aa (by omega) (by omega); have hq : (aD T l).ra.period = w64 ((i : Int) + 1) := by rw [hQ, hp, hw]
  have pl := (jd h he).2.2.2.2; have hin := MI m (zW m n) ts 0 T.n.mode i (gS T) xa xb (aD T l).t.a (aD T l).t.b (aD T l).t.n (aD T l).ra (aD T l).rb (aD T l).next (aD T l).t.ax (aD T l).t.notes (aD T l).t.s0 (aD T l).t.s1 (aD T l).t.s2 (aD T l).t.tr (aD T l).notes (aD T l).t.aI [] h.mode T.tr.length (bS T l).2.2 [] m (by omega) (by simp; omega) (jd h he).2.1; have nx := ih n (i + 1) (aD T l).t (by omega) (by omega) hN hO (by rw [hP, hp]; omega); rw [hM] at nx; have fin : B5 m (zW m n) m (ts, 0, T.n.mode, (i : Int), ((aD T l).Aj.length : Int), 0, xa, xb, (aD T l).t.a, (aD T l).t.b, (aD T l).t.n, (aD T l).ra, (aD T l).rb, (aD T l).next, (aD T l).Aj, T.ax, T.notes, T.s0, T.s1, T.s2, (aD T l).t.ax, (aD T l).t.notes, (aD T l).t.s0, (aD T l).t.s1, (aD T l).t.s2, (aD T l).t.tr, (aD T l).notes, (aD T l).t.aI) = some [.b true] := hin.trans (by rw [hw]; exact nx)
  by_cases h2 : T.n.mode = 2
  · rw [cI h2, bN (hD h2), bN hq]; exact fin
  · rw [eM h2, bN hq]; exact fin
set_option maxHeartbeats 8000000 in
theorem RP (b0 : Int) (wb0 : (Lit.int .i64 b0).wf = true) (b1 : Int) (wb1 : (Lit.int .i64 b1).wf = true) (b2 : Int) (wb2 : (Lit.int .i64 b2).wf = true) (b3 : Int) (wb3 : (Lit.int .i64 b3).wf = true) (b4 : Int) (wb4 : (Lit.int .i64 b4).wf = true) (b5 : Int) (wb5 : (Lit.int .i64 b5).wf = true) (b6 : Int) (wb6 : (Lit.int .i64 b6).wf = true) (b7 : Int) (wb7 : (Lit.int .i64 b7).wf = true) (b8 : Int) (wb8 : (Lit.int .i64 b8).wf = true) (b9 : Int) (wb9 : (Lit.int .i64 b9).wf = true) (b10 : Int) (wb10 : (Lit.int .i64 b10).wf = true) (b11 : Int) (wb11 : (Lit.int .i64 b11).wf = true) (b12 : Int) (wb12 : (Lit.int .i64 b12).wf = true) (b13 : List Int) (wb13 : b13.length <= 140737488355328 /\ ∀ x ∈ b13, (Lit.int .i64 x).wf = true) (b14 : List Int) (wb14 : b14.length <= 140737488355328 /\ ∀ x ∈ b14, (Lit.int .i64 x).wf = true) (b15 : List Int) (wb15 : b15.length <= 140737488355328 /\ ∀ x ∈ b15, (Lit.int .i64 x).wf = true) (b16 : List Int) (wb16 : b16.length <= 140737488355328 /\ ∀ x ∈ b16, (Lit.int .i64 x).wf = true) (b17 : List Int) (wb17 : b17.length <= 140737488355328 /\ ∀ x ∈ b17, (Lit.int .i64 x).wf = true) (b18 : List Int) (wb18 : b18.length <= 140737488355328 /\ ∀ x ∈ b18, (Lit.int .i64 x).wf = true) (b19 : List Int) (wb19 : b19.length <= 140737488355328 /\ ∀ x ∈ b19, (Lit.int .i64 x).wf = true) (b20 : List Dat) (wb20 : b20.length <= 140737488355328 /\ ∀ x ∈ b20, WfR [.ints .i64, .ints .i64, .ints .i64, .ints .i64, .ints .i64, .ints .i64] x.sub) : ∃ m, t6 m ((⟨(⟨b0, b1, b2⟩ : an), (⟨b3, b4, b5, b6, b7, b8, b9, b10, b11, b12⟩ : aq), b13, b14, b15, b16, b17, b18, b19⟩ : bD), b20) = some [.b true] := by
 have hn : (⟨⟨b0, b1, b2⟩, ⟨b3, b4, b5, b6, b7, b8, b9, b10, b11, b12⟩, b13, b14, b15, b16, b17, b18, b19⟩ : bD).notes.length <= 140737488355328 := wb14.1; generalize (⟨⟨b0, b1, b2⟩, ⟨b3, b4, b5, b6, b7, b8, b9, b10, b11, b12⟩, b13, b14, b15, b16, b17, b18, b19⟩ : bD) = k at hn; have h := sZ k; have hT : bA (ay k) = aN (ay k) := na k; refine ⟨130000, ?_⟩; unfold t6; dsimp only [lt]; rw [aG hn, aG (jF k), fH k, if_pos rfl, if_pos rfl]; refine lZ rfl (lZ rfl (bp rfl ?_)); rw [hT]; exact Ko 130000 (by omega) b20 _ _ (min b20.length 12) 130000 0 (aN (ay k)) (by omega) (by omega) h rfl rfl
set_option maxRecDepth 20000 in
theorem pY {HH : Type} {enc : TypeId × Value -> HH} {w : World} {base : Nat} {vs : List Value} {ds : List (DataW HH)} {ps : List MemPlace} (hsh : w.ShapedOpen Tryz.prog)
 (hd : DataW.TrodAll enc Tryz.prog w 0 (fun _ => true) true Tryz.f6.params.toList vs ds ps) {us' : List TypeId} {gs : List (DataW HH)} (hz : (DataW.weightsEach Tryz.prog (Tryz.f6.params.toList ++ us') (ds ++ gs)).all (· <= reachBytes) = true) (hval : ∀ (j : Nat) t v, Tryz.f6.params.toList[j]? = some t -> vs[j]? = some v -> Value.okWide Tryz.prog w .any base t v) :
 Calls Tryz.prog 6 vs.toArray w fun e w' => e = .returned (.bool true) /\ RowKit.Below w.heap.size w w' :=
 o4 Seat.mix Seat.names oJ (pars := nz) (by kernel_rfl) (fun us h => by
  change WfU [.int .i64, .int .i64, .int .i64, .int .i64, .int .i64, .int .i64, .int .i64, .int .i64, .int .i64, .int .i64, .int .i64, .int .i64, .int .i64, .ints .i64, .ints .i64, .ints .i64, .ints .i64, .ints .i64, .ints .i64, .ints .i64, .ae [.ints .i64, .ints .i64, .ints .i64, .ints .i64, .ints .i64, .ints .i64]] us at h; obtain ⟨b0, u, rfl, wb0, h⟩ := bg h; obtain ⟨b1, u, rfl, wb1, h⟩ := bg h; obtain ⟨b2, u, rfl, wb2, h⟩ := bg h; obtain ⟨b3, u, rfl, wb3, h⟩ := bg h; obtain ⟨b4, u, rfl, wb4, h⟩ := bg h; obtain ⟨b5, u, rfl, wb5, h⟩ := bg h; obtain ⟨b6, u, rfl, wb6, h⟩ := bg h; obtain ⟨b7, u, rfl, wb7, h⟩ := bg h; obtain ⟨b8, u, rfl, wb8, h⟩ := bg h; obtain ⟨b9, u, rfl, wb9, h⟩ := bg h; obtain ⟨b10, u, rfl, wb10, h⟩ := bg h; obtain ⟨b11, u, rfl, wb11, h⟩ := bg h; obtain ⟨b12, u, rfl, wb12, h⟩ := bg h; obtain ⟨b13, u, rfl, wb13, h⟩ := bJ h; obtain ⟨b14, u, rfl, wb14, h⟩ := bJ h; obtain ⟨b15, u, rfl, wb15, h⟩ := bJ h; obtain ⟨b16, u, rfl, wb16, h⟩ := bJ h; obtain ⟨b17, u, rfl, wb17, h⟩ := bJ h; obtain ⟨b18, u, rfl, wb18, h⟩ := bJ h; obtain ⟨b19, u, rfl, wb19, h⟩ := bJ h; obtain ⟨b20, u, rfl, wb20, h⟩ := sN h; obtain rfl := ub h; obtain ⟨m, hm⟩ := RP b0 wb0 b1 wb1 b2 wb2 b3 wb3 b4 wb4 b5 wb5 b6 wb6 b7 wb7 b8 wb8 b9 wb9 b10 wb10 b11 wb11 b12 wb12 b13 wb13 b14 wb14 b15 wb15 b16 wb16 b17 wb17 b18 wb18 b19 wb19 b20 wb20; have G : N6.wx Tryz.prog LQ KN (Uns.enc ((⟨(⟨b0, b1, b2⟩ : an), (⟨b3, b4, b5, b6, b7, b8, b9, b10, b11, b12⟩ : aq), b13, b14, b15, b16, b17, b18, b19⟩ : bD), b20)) ([Ik (zW m m)]) = t6 m ((⟨(⟨b0, b1, b2⟩ : an), (⟨b3, b4, b5, b6, b7, b8, b9, b10, b11, b12⟩ : aq), b13, b14, b15, b16, b17, b18, b19⟩ : bD), b20) := by kernel_rfl
  exact N6.Ce ag T20.right (W := [Ik (zW m m)]) (by kernel_rfl) (by kernel_rfl) (by kernel_rfl) (aH (Sf m m) aE) (G.trans hm)) hsh hd hz hval
end
end Go.Proofs.YtdbkoeefnodejaaGreat
