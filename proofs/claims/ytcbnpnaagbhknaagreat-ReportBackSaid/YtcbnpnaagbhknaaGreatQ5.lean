/- Part of a proof: Deal, Right, Trust, Notes, View, Same, Begins, Pool, Pro, Flow, FlowAid, FlowPlain, Loss. Conditions: none. -/
import Derived.Test.YtcbnpnaagbhknaaGreatQ4
set_option linter.unusedVariables false
set_option linter.unusedSimpArgs false
set_option linter.unnecessarySimpa false
set_option linter.unusedSectionVars false
namespace Go.Proofs.YtcbnpnaagbhknaaGreat
noncomputable section
open Go Go.Proofs.YtcbnpnaagbhknaaGreat.Ev
set_option maxRecDepth 20000
def Pp : aC := ⟨T49.tab, 124, ⟨[.int .i64, .int .i64, .int .i64], [], 0⟩, ⟨[.bool], [], 0⟩, []⟩
def t124 (m : Nat) : Int × Int × Int -> Option (List Un) := fun (a0, a1, a2) =>
 bif decide (a0 >= a1) then
 some ([.b (decide (a0 <= a2))])
 else
 some ([.b false])
def f124 : Int × Int × Int -> Bool × List Un := fun (a0, a1, a2) => (true, [.b (decide (a1 <= a0 /\ a0 <= a2))])
theorem KR (a0 : Int) (a1 : Int) (a2 : Int) : ∃ m, t124 m (a0, a1, a2) = some ([.b (decide (a1 <= a0 /\ a0 <= a2))]) := by
 refine ⟨0, ?_⟩; unfold t124
 by_cases h : a1 <= a0 <;> by_cases h2 : a0 <= a2 <;> simp [h, h2]
theorem Hb : ER 124 (mkE Pp.en Pp.ex f124) := an ah T49.right (fun m => []) (t := t124) (by kernel_rfl) (fun m => aA) (fun m a => by kernel_rfl) fun (a0, a1, a2) hc => KR a0 a1 a2
def JG : Tb Tryz.prog LQ TE XX := T49.add 124 _ Hb
def vD (a b : Int) : List Dat -> Int -> Int
 | [], _ => -1
 | d :: l, i => if a = d.i 0 /\ b = d.i 1 then i else vD a b l (i + 1)
theorem zI (a b : Int) : ∀ (l : List Dat) (i : Int), 0 <= i -> (0 <= vD a b l i ↔ gn l a b = true)
 | [], i, h => by simp [vD, gn]
 | d :: l, i, h => by
  have := zI a b l (i + 1) (by omega); simp only [gn, List.any_cons, zbg, zab, zaw] at this ⊢; unfold vD
  by_cases hc : a = d.i 0 /\ b = d.i 1
  . rw [if_pos hc]; exact ⟨fun _ => .inl ⟨hc.1.symm, hc.2.symm⟩, fun _ => h⟩
  . rw [if_neg hc, this]; exact ⟨.inr, fun h => h.resolve_left fun e => hc ⟨e.1.symm, e.2.symm⟩⟩
def Nl : aC := ⟨JG.tab, 136, ⟨[.ai (sI 2), .agg [.int .i64, .int .i64]], [], 0⟩, ⟨[.int .i64], [], 0⟩, []⟩
abbrev zd : Type := List Dat × Int × Int × Int × Int
def rA (m : Nat) (k : zd -> Option (List Un)) : zd -> Option (List Un) := fun (a0, a1, a2, a3, a4) =>
 bif decide (a2 < a1) then
 chk (inb a2 a0.length) <|
 chk (decide (a2.toNat < a0.length)) <|
 lt (ag a0 a2.toNat : Dat) fun d1 =>
 bif ((a3 == (d1.i 0)) && ((a4 == (d1.i 1)) && true)) then
 some ([.i a2])
 else
 k (a0, a1, (w64 (a2 + 1)), a3, a4)
 else
 some ([.i (-1)])
def pF (m : Nat) : Nat -> zd -> Option (List Un) := bp (rA m)
theorem qT (m : Nat) (n : Nat) : pF m (n + 1) = rA m (pF m n) := rfl
def A3 (F : zd -> Option (List Un)) : aW := ⟨[.lp [0, 1, 0, 1], .blk 0, .code [1, 1]], ⟨frm 19 [(0, .ai (sI 2)), (3, .ptr 0 0 0), (7, .int .i64), (8, .int .i64)], [.cells [.int .i64, .int .i64]], 0⟩, onU F⟩
theorem LS (m : Nat) : ∀ n, HO Nl (A3 (pF m n)) := au ah JG.right (fun k => [A3 k]) (fun k h => (aL h aA)) fun k a => by kernel_rfl
def t136 (m : Nat) : List Dat × Int × Int -> Option (List Un) := fun (a0, a1, a2) =>
 pF m m (a0, (a0.length : Int), 0, a1, a2)
theorem QJ (m : Nat) (a b : Int) : ∀ (rest pre : List Dat) (n : Nat), rest.length < n -> (pre ++ rest).length < 1099511627776 ->
 pF m n (pre ++ rest, ((pre ++ rest).length : Int), (pre.length : Int), a, b) = some [.i (vD a b rest pre.length)] := by
 intro rest
 induction rest with
 | nil =>
  intro pre n hn hl; obtain ⟨n, rfl⟩ := al n (by simp at hn; omega); rw [qT]; unfold rA; dsimp only; simp [aF, vD]
 | cons x rest ih =>
  intro pre n hn hl; obtain ⟨n, rfl⟩ := al n (by simp at hn; omega); simp only [zac, zad] at hn hl; have := ih (pre ++ [x]) n (by omega) (by simp; omega); rw [qT]; unfold rA; dsimp only; simp only [vD]
  by_cases h1 : a = x.i 0
  . by_cases h2 : b = x.i 1
    . rw [if_pos ⟨h1, h2⟩]; simp (disch := omega) only [TRa, TRi, aa, LNl, LNi, zaa, ax]
    . rw [if_neg (fun h => h2 h.2)]; simp (disch := omega) only [TRa, TRi, aa, LNl, LNi, zaa, ax]; simp only [LNl, LNi, zaa] at this ⊢; exact this
  . rw [if_neg (fun h => h1 h.1)]; simp (disch := omega) only [TRa, TRi, aa, LNl, LNi, zaa, ax]; simp only [LNl, LNi, zaa] at this ⊢; exact this
def f136 : List Dat × Int × Int -> Bool × List Un := fun (a0, a1, a2) => (decide (a0.length < 1099511627776), [.i (vD a1 a2 a0 0)])
theorem Ke (a0 : List Dat) (a1 : Int) (a2 : Int) (hc : (decide (a0.length < 1099511627776)) = true) : ∃ m, t136 m (a0, a1, a2) = some ([.i (vD a1 a2 a0 0)]) := by
 refine ⟨a0.length + 1, ?_⟩; exact QJ _ a1 a2 a0 [] _ (by omega) (zaj hc)
theorem HT : ER 136 (mkE Nl.en Nl.ex f136) := an ah JG.right (fun m => [A3 (pF m m)]) (t := t136) (by kernel_rfl) (fun m => (aL (LS m m) aA)) (fun m a => by kernel_rfl) fun (a0, a1, a2) hc => Ke a0 a1 a2 hc
def LH : Tb Tryz.prog LQ TE XX := JG.add 136 _ HT
def Pl : aC := ⟨LH.tab, 125, ⟨[.ai (sI 2), .agg [.int .i64, .int .i64]], [], 0⟩, ⟨[.bool], [], 0⟩, []⟩
def t125 (m : Nat) : List Dat × Int × Int -> Option (List Un) := fun (a0, a1, a2) =>
 chk (decide (a0.length < 1099511627776)) <|
 some ([.b (decide ((vD a1 a2 a0 0) >= 0))])
def f125 : List Dat × Int × Int -> Bool × List Un := fun (a0, a1, a2) => (decide (a0.length < 1099511627776), [.b (gn a0 a1 a2)])
theorem Jr (a0 : List Dat) (a1 : Int) (a2 : Int) (hc : (decide (a0.length < 1099511627776)) = true) : ∃ m, t125 m (a0, a1, a2) = some ([.b (gn a0 a1 a2)]) := by
 refine ⟨0, ?_⟩; have e := zI a1 a2 a0 0 (zb9 0); have h := zaj hc; unfold t125; simp (disch := omega) only [TRa, TRi, aa]; cases h : gn a0 a1 a2 <;> simp [h] at e ⊢ <;> omega
theorem F5 : ER 125 (mkE Pl.en Pl.ex f125) := an ah LH.right (fun m => []) (t := t125) (by kernel_rfl) (fun m => aA) (fun m a => by kernel_rfl) fun (a0, a1, a2) hc => Jr a0 a1 a2 hc
def Jb : Tb Tryz.prog LQ TE XX := LH.add 125 _ F5
theorem KG {c y : Bool} : (bif c then some [Un.b y] else some [.b false]) = some [.b (c && y)] := by cases c <;> rfl
def nz (d : bo) : Bool :=
 decide (0 <= d.b.oc /\ d.b.oc <= 100000) && (decide (0 <= d.b.ic /\ d.b.ic <= 100000) && (decide (0 <= d.b.late /\ d.b.late <= 100000) && (decide (0 <= d.b.nQ /\ d.b.nQ <= 100000) && (decide (0 <= d.b.clean /\ d.b.clean <= 100000) &&
 (decide (1 <= d.a.year /\ d.a.year <= 9000) && (decide (1 <= d.a.month /\ d.a.month <= 12) && (decide (0 <= d.a.basis /\ d.a.basis <= 2) && (decide (0 <= d.b.fee /\ d.b.fee <= 5000) && (decide (0 <= d.b.aV /\ d.b.aV <= 1099511627776) &&
 (decide (0 <= d.b.target /\ d.b.target <= 10000) && (decide (0 <= d.b.advance /\ d.b.advance <= 1099511627776) && decide (0 <= d.b.eL /\ d.b.eL <= 600))))))))))))
def N98 : aC := ⟨Jb.tab, 98, ⟨[.agg [.int .i64, .int .i64, .int .i64, .ai (sI 2), .ai (sI 3), .int .i64, .int .i64, .int .i64, .int .i64, .int .i64, .int .i64, .int .i64, .int .i64, .int .i64, .int .i64, .ai (sI 2), .ai (sI 2), .ai (sI 2)]], [], 0⟩, ⟨[.bool], [], 0⟩, []⟩
abbrev CI : Type := Int × Int × bo × List Int
def Cb (m : Nat) (k : CI -> Option (List Un)) : CI -> Option (List Un) := fun (a0, a1, a2, a3) =>
 bif decide (a1 < a0) then
 chk (inb a1 a3.length) <|
 chk (decide (a1.toNat < a3.length)) <|
 bif !(decide (0 <= (a3.getD a1.toNat 0) /\ (a3.getD a1.toNat 0) <= 100000)) then
 some ([.b false])
 else
 k (a0, (w64 (a1 + 1)), a2, a3)
 else
 bif (decide (1 <= a2.a.year /\ a2.a.year <= 9000)) then
 bif (decide (1 <= a2.a.month /\ a2.a.month <= 12)) then
 bif (decide (0 <= a2.a.basis /\ a2.a.basis <= 2)) then
 bif (decide (0 <= a2.b.fee /\ a2.b.fee <= 5000)) then
 bif (decide (0 <= a2.b.aV /\ a2.b.aV <= 1099511627776)) then
 bif (decide (0 <= a2.b.target /\ a2.b.target <= 10000)) then
 bif (decide (0 <= a2.b.advance /\ a2.b.advance <= 1099511627776)) then
 some ([.b (decide (0 <= a2.b.eL /\ a2.b.eL <= 600))])
 else
 some ([.b false])
 else
 some ([.b false])
 else
 some ([.b false])
 else
 some ([.b false])
 else
 some ([.b false])
 else
 some ([.b false])
 else
 some ([.b false])
def th (m : Nat) : Nat -> CI -> Option (List Un) := bp (Cb m)
theorem Ce (m : Nat) (n : Nat) : th m (n + 1) = Cb m (th m n) := rfl
def Hp (F : CI -> Option (List Un)) : aW := ⟨[.lp [0, 1, 0, 1], .blk 0, .code [1, 1]], ⟨frm 68 [(1, .ptr 0 0 0), (20, .buf 1 1), (21, .int .i64), (22, .int .i64)], [.cells [.int .i64, .int .i64, .int .i64, .ai (sI 2), .ai (sI 3), .int .i64, .int .i64, .int .i64, .int .i64, .int .i64, .int .i64, .int .i64, .int .i64, .int .i64, .int .i64, .ai (sI 2), .ai (sI 2), .ai (sI 2)], .ints .i64], 0⟩, onU F⟩
theorem Pk (m : Nat) : ∀ n, HO N98 (Hp (th m n)) := au ah Jb.right (fun k => [Hp k]) (fun k h => (aL h aA)) fun k a => by kernel_rfl
def t98 (m : Nat) : bo -> Option (List Un) := fun a0 =>
 th m m (5, 0, a0, ([a0.b.oc, a0.b.ic, a0.b.late, a0.b.nQ, a0.b.clean] : List Int))
def f98 : bo -> Bool × List Un := fun a0 => (true, [.b (nz a0)])
set_option maxHeartbeats 2000000 in
theorem L6 (a0 : bo) : ∃ m, t98 m a0 = some ([.b (nz a0)]) := by
 refine ⟨6, ?_⟩; unfold t98; rw [show th 6 6 = th 6 (0 + 1 + 1 + 1 + 1 + 1 + 1) from rfl]; simp only [Ce]; unfold Cb; dsimp only; simp (disch := omega) only [TRa, TRi, aa, zac, zay, zaI, zat, Int.reduceToNat, Nat.reduceAdd, za2, Int.reduceAdd, zaU, zaS, Int.reduceLT]; simp only [KG]; rfl
theorem KI : ER 98 (mkE N98.en N98.ex f98) := an ah Jb.right (fun m => [Hp (th m m)]) (t := t98) (by kernel_rfl) (fun m => (aL (Pk m m) aA)) (fun m a => by kernel_rfl) fun a0 hc => L6 a0
def T98 : Tb Tryz.prog LQ TE XX := Jb.add 98 _ KI
def jj : Int -> Int -> List Dat -> Option Int
 | _, all, [] => some all
 | last, all, d :: l => if d.i 0 <= last then none else if 0 <= d.i 1 /\ d.i 1 <= 1099511627776 - all then jj (d.i 0) (all + d.i 1) l else none
def eX (l : List Dat) : Option Int := if 1 <= l.length /\ l.length <= 64 then jj 0 0 l else none
def JV (o : Option Int) : Option (List Un) := some [.i (o.getD 0), .b o.isSome]
def N96 : aC := ⟨T98.tab, 96, ⟨[.ai (sI 2)], [], 0⟩, ⟨[.int .i64, .bool], [], 0⟩, []⟩
abbrev DL : Type := Int × Int × List Dat × Int × Int
def yH (m : Nat) (k : DL -> Option (List Un)) : DL -> Option (List Un) := fun (a0, a1, a2, a3, a4) =>
 bif decide (a4 < a3) then
 chk (inb a4 a2.length) <|
 chk (decide (a4.toNat < a2.length)) <|
 lt (ag a2 a4.toNat : Dat) fun d2 =>
 bif decide ((d2.i 0) <= a0) then
 some ([.i 0, .b false])
 else
 bif !(decide (0 <= (d2.i 1) /\ (d2.i 1) <= (w64 (1099511627776 - a1)))) then
 some ([.i 0, .b false])
 else
 k ((d2.i 0), (w64 (a1 + (d2.i 1))), a2, a3, (w64 (a4 + 1)))
 else
 some ([.i a1, .b true])
def w9 (m : Nat) : Nat -> DL -> Option (List Un) := bp (yH m)
theorem tQ (m : Nat) (n : Nat) : w9 m (n + 1) = yH m (w9 m n) := rfl
def Hu (F : DL -> Option (List Un)) : aW := ⟨[.lp [0, 1, 0, 1, 1, 1], .blk 0, .code [1, 1, 1, 1]], ⟨frm 38 [(4, .int .i64), (5, .int .i64), (12, .ai (sI 2)), (13, .int .i64), (14, .int .i64)], [], 0⟩, onU F⟩
theorem Og (m : Nat) : ∀ n, HO N96 (Hu (w9 m n)) := au ah T98.right (fun k => [Hu k]) (fun k h => (aL h aA)) fun k a => by kernel_rfl
def t96 (m : Nat) : List Dat -> Option (List Un) := fun a0 =>
 bif !(decide (1 <= (a0.length : Int) /\ (a0.length : Int) <= 64)) then
 some ([.i 0, .b false])
 else
 w9 m m (0, 0, a0, (a0.length : Int), 0)
theorem J0 (m : Nat) : ∀ (rest pre : List Dat) (n : Nat) (last all : Int), rest.length < n -> (pre ++ rest).length <= 64 -> 0 <= all -> all <= 1099511627776 ->
 w9 m n (last, all, pre ++ rest, ((pre ++ rest).length : Int), (pre.length : Int)) = JV (jj last all rest) := by
 intro rest
 induction rest with
 | nil =>
  intro pre n last all hn hl h0 h1; obtain ⟨n, rfl⟩ := al n (by simp at hn; omega); rw [tQ]; unfold yH; dsimp only; simp [aF, jj, JV]
 | cons x rest ih =>
  intro pre n last all hn hl h0 h1; obtain ⟨n, rfl⟩ := al n (by simp at hn; omega); simp only [zac, zad] at hn hl; rw [tQ]; unfold yH; dsimp only; simp only [jj]
  by_cases c1 : x.i 0 <= last
  . rw [if_pos c1]; simp (disch := omega) only [TRa, TRi, aa, LNl, LNi, zaa, ax]; rfl
  . rw [if_neg c1]
    by_cases c2 : 0 <= x.i 1 /\ x.i 1 <= 1099511627776 - all
    . rw [if_pos c2]; have := ih (pre ++ [x]) n (x.i 0) (all + x.i 1) (by omega) (by simp; omega) (by omega) (by omega); simp (disch := omega) only [TRa, TRi, aa, LNl, LNi, zaa, ax]; simp only [LNl, LNi, zaa] at this ⊢; exact this
    . rw [if_neg c2]; simp (disch := omega) only [TRa, TRi, aa, LNl, LNi, zaa, ax]; rfl
def f96 : List Dat -> Bool × List Un := fun a0 => (true, [.i ((eX a0).getD 0), .b ((eX a0).isSome)])
theorem MR (a0 : List Dat) : ∃ m, t96 m a0 = some ([.i ((eX a0).getD 0), .b ((eX a0).isSome)]) := by
 refine ⟨65, ?_⟩; unfold t96 eX
 by_cases h : 1 <= a0.length /\ a0.length <= 64
 . rw [if_pos h]; simp (disch := omega) only [TRa, TRi, aa]; exact J0 65 a0 [] 65 0 0 (by omega) h.2 (by omega) (by omega)
 . rw [if_neg h]; simp (disch := omega) only [TRa, TRi, aa]; rfl
theorem Jw : ER 96 (mkE N96.en N96.ex f96) := an ah T98.right (fun m => [Hu (w9 m m)]) (t := t96) (by kernel_rfl) (fun m => (aL (Og m m) aA)) (fun m a => by kernel_rfl) fun a0 hc => MR a0
def T96 : Tb Tryz.prog LQ TE XX := T98.add 96 _ Jw
def mh (most : Int) : Int -> List Dat -> Option Int
 | all, [] => some all
 | all, d :: l => if (0 <= d.i 0 /\ d.i 0 <= 7) /\ (1 <= d.i 1 /\ d.i 1 <= most - all) /\ (0 <= d.i 2 /\ d.i 2 <= 5000) then mh most (all + d.i 1) l else none
def jM (most : Int) (l : List Dat) : Option Int := if 1 <= l.length /\ l.length <= 8 then mh most 0 l else none
def N97 : aC := ⟨T96.tab, 97, ⟨[.ai (sI 3), .int .i64], [], 0⟩, ⟨[.int .i64, .bool], [], 0⟩, []⟩
abbrev D1 : Type := Int × Int × List Dat × Int × Int
def yo (m : Nat) (k : D1 -> Option (List Un)) : D1 -> Option (List Un) := fun (a0, a1, a2, a3, a4) =>
 bif decide (a4 < a3) then
 chk (inb a4 a2.length) <|
 chk (decide (a4.toNat < a2.length)) <|
 lt (ag a2 a4.toNat : Dat) fun d2 =>
 bif !(decide (0 <= (d2.i 0) /\ (d2.i 0) <= 7)) then
 some ([.i 0, .b false])
 else
 bif !(decide (1 <= (d2.i 1) /\ (d2.i 1) <= (w64 (a0 - a1)))) then
 some ([.i 0, .b false])
 else
 bif !(decide (0 <= (d2.i 2) /\ (d2.i 2) <= 5000)) then
 some ([.i 0, .b false])
 else
 k (a0, (w64 (a1 + (d2.i 1))), a2, a3, (w64 (a4 + 1)))
 else
 some ([.i a1, .b true])
def wB (m : Nat) : Nat -> D1 -> Option (List Un) := bp (yo m)
theorem sP (m : Nat) (n : Nat) : wB m (n + 1) = yo m (wB m n) := rfl
def HM (F : D1 -> Option (List Un)) : aW := ⟨[.lp [0, 1, 0, 1, 1, 1], .blk 0, .code [1, 1, 1, 1]], ⟨frm 44 [(1, .int .i64), (6, .int .i64), (13, .ai (sI 3)), (14, .int .i64), (15, .int .i64)], [], 0⟩, onU F⟩
theorem O1 (m : Nat) : ∀ n, HO N97 (HM (wB m n)) := au ah T96.right (fun k => [HM k]) (fun k h => (aL h aA)) fun k a => by kernel_rfl
def t97 (m : Nat) : List Dat × Int -> Option (List Un) := fun (a0, a1) =>
 bif !(decide (1 <= (a0.length : Int) /\ (a0.length : Int) <= 8)) then
 some ([.i 0, .b false])
 else
 wB m m (a1, 0, a0, (a0.length : Int), 0)
theorem KX (m : Nat) (most : Int) (hm : 0 <= most /\ most <= 1099511627776) : ∀ (rest pre : List Dat) (n : Nat) (all : Int), rest.length < n -> (pre ++ rest).length <= 8 -> 0 <= all -> all <= most ->
 wB m n (most, all, pre ++ rest, ((pre ++ rest).length : Int), (pre.length : Int)) = JV (mh most all rest) := by
 intro rest
 induction rest with
 | nil =>
  intro pre n all hn hl h0 h1; obtain ⟨n, rfl⟩ := al n (by simp at hn; omega); rw [sP]; unfold yo; dsimp only; simp [aF, mh, JV]
 | cons x rest ih =>
  intro pre n all hn hl h0 h1; obtain ⟨n, rfl⟩ := al n (by simp at hn; omega); simp only [zac, zad] at hn hl; rw [sP]; unfold yo; dsimp only; simp only [mh]
  by_cases c1 : 0 <= x.i 0 /\ x.i 0 <= 7
  . by_cases c2 : 1 <= x.i 1 /\ x.i 1 <= most - all
    . by_cases c3 : 0 <= x.i 2 /\ x.i 2 <= 5000
      . rw [if_pos ⟨c1, c2, c3⟩]; have := ih (pre ++ [x]) n (all + x.i 1) (by omega) (by simp; omega) (by omega) (by omega); simp (disch := omega) only [TRa, TRi, aa, LNl, LNi, zaa, ax]; simp only [LNl, LNi, zaa] at this ⊢; exact this
      . rw [if_neg (fun h => c3 h.2.2)]; simp (disch := omega) only [TRa, TRi, aa, LNl, LNi, zaa, ax]; rfl
    . rw [if_neg (fun h => c2 h.2.1)]; simp (disch := omega) only [TRa, TRi, aa, LNl, LNi, zaa, ax]; rfl
  . rw [if_neg (fun h => c1 h.1)]; simp (disch := omega) only [TRa, TRi, aa, LNl, LNi, zaa, ax]; rfl
def f97 : List Dat × Int -> Bool × List Un := fun (a0, a1) => (decide (0 <= a1 /\ a1 <= 1099511627776), [.i ((jM a1 a0).getD 0), .b ((jM a1 a0).isSome)])
theorem NJ (a0 : List Dat) (a1 : Int) (hc : (decide (0 <= a1 /\ a1 <= 1099511627776)) = true) : ∃ m, t97 m (a0, a1) = some ([.i ((jM a1 a0).getD 0), .b ((jM a1 a0).isSome)]) := by
 have hm := zaj hc; refine ⟨65, ?_⟩; unfold t97 jM
 by_cases h : 1 <= a0.length /\ a0.length <= 8
 . rw [if_pos h]; simp (disch := omega) only [TRa, TRi, aa]; exact KX 65 a1 hm a0 [] 65 0 (by omega) h.2 (by omega) (by omega)
 . rw [if_neg h]; simp (disch := omega) only [TRa, TRi, aa]; rfl
theorem I7 : ER 97 (mkE N97.en N97.ex f97) := an ah T96.right (fun m => [HM (wB m m)]) (t := t97) (by kernel_rfl) (fun m => (aL (O1 m m) aA)) (fun m a => by kernel_rfl) fun (a0, a1) hc => NJ a0 a1 hc
def T97 : Tb Tryz.prog LQ TE XX := T96.add 97 _ I7
def Gb (d : Dat) : Bool := decide (1 <= d.i 0 /\ d.i 0 <= 7) && decide (0 <= d.i 1 /\ d.i 1 <= (if d.i 0 = 3 then 7 else 0))
def vh : List Dat -> List Dat -> Bool
 | _, [] => true
 | pre, d :: l => Gb d && (!gn pre (d.i 0) (d.i 1) && vh (pre ++ [d]) l)
def ev (l : List Dat) : Bool := decide (1 <= (l.length : Int) /\ (l.length : Int) <= 16) && vh [] l
def N99 : aC := ⟨T97.tab, 99, ⟨[.ai (sI 2)], [], 0⟩, ⟨[.bool], [], 0⟩, []⟩
abbrev CV : Type := List Dat × List Dat × Int × Int
def ye (m : Nat) (k : CV -> Option (List Un)) : CV -> Option (List Un) := fun (a0, a1, a2, a3) =>
 bif decide (a3 < a2) then
 chk (inb a3 a1.length) <|
 chk (decide (a3.toNat < a1.length)) <|
 lt (ag a1 a3.toNat : Dat) fun d2 =>
 bif (d2.i 0) == 3 then
 bif !(decide (1 <= (d2.i 0) /\ (d2.i 0) <= 7)) then
 some ([.b false])
 else
 bif !(decide (0 <= (d2.i 1) /\ (d2.i 1) <= 7)) then
 some ([.b false])
 else
 chk (decide (0 <= a3) && (true && decide (0 <= a3.toNat /\ a3.toNat <= a0.length))) <|
 chk (decide ((List.take a3.toNat a0).length < 1099511627776)) <|
 bif (gn (List.take a3.toNat a0) (d2.i 0) (d2.i 1)) then
 some ([.b false])
 else
 k (a0, a1, a2, (w64 (a3 + 1)))
 else
 bif !(decide (1 <= (d2.i 0) /\ (d2.i 0) <= 7)) then
 some ([.b false])
 else
 bif !(decide (0 <= (d2.i 1) /\ (d2.i 1) <= 0)) then
 some ([.b false])
 else
 chk (decide (0 <= a3) && (true && decide (0 <= a3.toNat /\ a3.toNat <= a0.length))) <|
 chk (decide ((List.take a3.toNat a0).length < 1099511627776)) <|
 bif (gn (List.take a3.toNat a0) (d2.i 0) (d2.i 1)) then
 some ([.b false])
 else
 k (a0, a1, a2, (w64 (a3 + 1)))
 else
 some ([.b true])
def wb (m : Nat) : Nat -> CV -> Option (List Un) := bp (ye m)
theorem uN (m : Nat) (n : Nat) : wb m (n + 1) = ye m (wb m n) := rfl
def FB (F : CV -> Option (List Un)) : aW := ⟨[.lp [0, 1, 0, 1, 1], .blk 0, .code [1, 1, 1]], ⟨frm 39 [(0, .ai (sI 2)), (10, .ai (sI 2)), (11, .int .i64), (12, .int .i64)], [], 0⟩, onU F⟩
theorem PM (m : Nat) : ∀ n, HO N99 (FB (wb m n)) := au ah T97.right (fun k => [FB k]) (fun k h => (aL h aA)) fun k a => by kernel_rfl
def t99 (m : Nat) : List Dat -> Option (List Un) := fun a0 =>
 bif !(decide (1 <= (a0.length : Int) /\ (a0.length : Int) <= 16)) then
 some ([.b false])
 else
 wb m m (a0, a0, (a0.length : Int), 0)
theorem J7 (m : Nat) : ∀ (rest pre : List Dat) (n : Nat), rest.length < n -> (pre ++ rest).length <= 16 ->
 wb m n (pre ++ rest, pre ++ rest, ((pre ++ rest).length : Int), (pre.length : Int)) = some [.b (vh pre rest)] := by
 intro rest
 induction rest with
 | nil =>
  intro pre n hn hl; obtain ⟨n, rfl⟩ := al n (by simp at hn; omega); rw [uN]; unfold ye; dsimp only; simp [aF, vh]
 | cons x rest ih =>
  intro pre n hn hl; obtain ⟨n, rfl⟩ := al n (by simp at hn; omega); simp only [zac, zad] at hn hl; rw [uN]; unfold ye; dsimp only; have := ih (pre ++ [x]) n (by omega) (by simp; omega); simp only [vh, Gb]
  by_cases c1 : 1 <= x.i 0 /\ x.i 0 <= 7
  . by_cases c3 : x.i 0 = 3
    . by_cases c2 : 0 <= x.i 1 /\ x.i 1 <= 7
      . cases h : gn pre (x.i 0) (x.i 1)
        . simp (disch := omega) only [TRa, TRi, aa, LNl, LNi, zaa, ax, zaG]; simp only [List.take_left, h, zao, if_pos c3, zah c1, zah c2, zbh, Bool.not_false]
          (try simp (disch := omega) only [TRa, TRi, aa, LNl, LNi, zaa, ax, zaG])
          simp only [LNl, LNi, zaa] at this ⊢; exact this
        . simp (disch := omega) only [TRa, TRi, aa, LNl, LNi, zaa, ax, zaG]; simp only [List.take_left, h, zaC, if_pos c3, zah c1, zah c2, zbh, zbD, zbF]
      . simp (disch := omega) only [TRa, TRi, aa, LNl, LNi, zaa, ax, zaG]; simp only [if_pos c3, zaQ c2, Bool.and_false, zbF]
    . by_cases c2 : 0 <= x.i 1 /\ x.i 1 <= 0
      . cases h : gn pre (x.i 0) (x.i 1)
        . simp (disch := omega) only [TRa, TRi, aa, LNl, LNi, zaa, ax, zaG]; simp only [List.take_left, h, zao, if_neg c3, zah c1, zah c2, zbh, Bool.not_false]
          (try simp (disch := omega) only [TRa, TRi, aa, LNl, LNi, zaa, ax, zaG])
          simp only [LNl, LNi, zaa] at this ⊢; exact this
        . simp (disch := omega) only [TRa, TRi, aa, LNl, LNi, zaa, ax, zaG]; simp only [List.take_left, h, zaC, if_neg c3, zah c1, zah c2, zbh, zbD, zbF]
      . simp (disch := omega) only [TRa, TRi, aa, LNl, LNi, zaa, ax, zaG]; simp only [if_neg c3, zaQ c2, Bool.and_false, zbF]
  . by_cases c3 : x.i 0 = 3
    . omega
    . simp (disch := omega) only [TRa, TRi, aa, LNl, LNi, zaa, ax, zaG]; simp only [zaQ c1, zbF]
def f99 : List Dat -> Bool × List Un := fun a0 => (true, [.b (ev a0)])
theorem MC (a0 : List Dat) : ∃ m, t99 m a0 = some ([.b (ev a0)]) := by
 refine ⟨17, ?_⟩; unfold t99 ev
 by_cases h : 1 <= (a0.length : Int) /\ (a0.length : Int) <= 16
 . rw [zah h, zbh]; simp (disch := omega) only [TRa, TRi, aa]; exact J7 17 a0 [] 17 (by omega) (by simp; omega)
 . rw [zaQ h, zbF]; simp (disch := omega) only [TRa, TRi, aa]
theorem Ij : ER 99 (mkE N99.en N99.ex f99) := an ah T97.right (fun m => [FB (wb m m)]) (t := t99) (by kernel_rfl) (fun m => (aL (PM m m) aA)) (fun m a => by kernel_rfl) fun a0 hc => MC a0
def T99 : Tb Tryz.prog LQ TE XX := T97.add 99 _ Ij
def cu (d : bo) : Option (Int × Int) :=
 match eX d.bg with
 | none => none
 | some p => match jM p d.notes with
  | none => none
  | some n => if nz d && (ev d.s0 && (ev d.s1 && ev d.s2)) then some (p, n) else none
theorem wP : ∀ (l : List Dat) (last all r : Int), 0 <= all -> all <= 1099511627776 -> jj last all l = some r -> all <= r /\ r <= 1099511627776
 | [], last, all, r, h0, h1, h => by simp [jj] at h; omega
 | d :: l, last, all, r, h0, h1, h => by
  unfold jj at h
  split at h
  . cases h
  . split at h
    . have := wP l _ _ r (by omega) (by omega) h; omega
    . cases h
theorem EH {l : List Dat} {r : Int} (h : eX l = some r) : 0 <= r /\ r <= 1099511627776 := by
 unfold eX at h
 split at h
 . exact wP l 0 0 r (by omega) (by omega) h
 . cases h
def N61 : aC := ⟨T99.tab, 61, ⟨[.agg [.int .i64, .int .i64, .int .i64, .ai (sI 2), .ai (sI 3), .int .i64, .int .i64, .int .i64, .int .i64, .int .i64, .int .i64, .int .i64, .int .i64, .int .i64, .int .i64, .ai (sI 2), .ai (sI 2), .ai (sI 2)]], [], 0⟩, ⟨[.int .i64, .int .i64, .bool], [], 0⟩, [[0, 1, 0, 1, 1, 1, 1]]⟩
def t61 (m : Nat) : bo -> Option (List Un) := fun a0 =>
 chk (decide (0 <= ((eX a0.bg).getD 0) /\ ((eX a0.bg).getD 0) <= 1099511627776)) <|
 bif !((eX a0.bg).isSome) then
 some ([.i 0, .i 0, .b false])
 else
 bif !((jM ((eX a0.bg).getD 0) a0.notes).isSome) then
 some ([.i 0, .i 0, .b false])
 else
 bif !(nz a0) then
 some ([.i 0, .i 0, .b false])
 else
 bif !(ev a0.s0) then
 some ([.i 0, .i 0, .b false])
 else
 bif !(ev a0.s1) then
 some ([.i 0, .i 0, .b false])
 else
 bif !(ev a0.s2) then
 some ([.i 0, .i 0, .b false])
 else
 some ([.i ((eX a0.bg).getD 0), .i ((jM ((eX a0.bg).getD 0) a0.notes).getD 0), .b true])
def f61 : bo -> Bool × List Un := fun a0 => (true, [.i (((cu a0).getD (0, 0)).1), .i (((cu a0).getD (0, 0)).2), .b ((cu a0).isSome)])
theorem Oe (a0 : bo) : ∃ m, t61 m a0 = some ([.i (((cu a0).getD (0, 0)).1), .i (((cu a0).getD (0, 0)).2), .b ((cu a0).isSome)]) := by
 refine ⟨0, ?_⟩; unfold t61 cu; cases hl : eX a0.bg with
 | none => simp [lt, chk]
 | some p =>
  have hb := EH hl; simp only [lt_eq, zbo, Option.isSome_some, zbD, zao]; rw [aO hb]; cases hn : jM p a0.notes with
  | none => simp
  | some n =>
   simp only [Option.isSome_some, zbD, zao, zbo]; cases nz a0 <;> cases ev a0.s0 <;> cases ev a0.s1 <;> cases ev a0.s2 <;> rfl
theorem Jn : ER 61 (mkE N61.en N61.ex f61) := an ah T99.right (fun m => []) (t := t61) (by kernel_rfl) (fun m => aA) (fun m a => by kernel_rfl) fun a0 hc => Oe a0
def T61 : Tb Tryz.prog LQ TE XX := T99.add 61 _ Jn
def N26 : aC := ⟨T61.tab, 26, ⟨[.agg [.int .i64, .int .i64, .int .i64, .ai (sI 2), .ai (sI 3), .int .i64, .int .i64, .int .i64, .int .i64, .int .i64, .int .i64, .int .i64, .int .i64, .int .i64, .int .i64, .ai (sI 2), .ai (sI 2), .ai (sI 2)]], [], 0⟩, ⟨[.bool], [], 0⟩, []⟩
def t26 (m : Nat) : bo -> Option (List Un) := fun a0 =>
 some ([.b ((cu a0).isSome)])
def f26 : bo -> Bool × List Un := fun a0 => (true, [.b ((cu a0).isSome)])
theorem Mf (a0 : bo) : ∃ m, t26 m a0 = some ([.b ((cu a0).isSome)]) := by
 exact ⟨0, rfl⟩
theorem Iu : ER 26 (mkE N26.en N26.ex f26) := an ah T61.right (fun m => []) (t := t26) (by kernel_rfl) (fun m => aA) (fun m a => by kernel_rfl) fun a0 hc => Mf a0
def T26 : Tb Tryz.prog LQ TE XX := T61.add 26 _ Iu
def N89 : aC := ⟨T26.tab, 89, ⟨[.agg [.int .i64, .int .i64, .int .i64, .ai (sI 2), .ai (sI 3), .int .i64, .int .i64, .int .i64, .int .i64, .int .i64, .int .i64, .int .i64, .int .i64, .int .i64, .int .i64, .ai (sI 2), .ai (sI 2), .ai (sI 2)]], [], 0⟩, ⟨[.int .i64], [], 0⟩, []⟩
def t89 (m : Nat) : bo -> Option (List Un) := fun a0 =>
 some ([.i (((cu a0).getD (0, 0)).1)])
def f89 : bo -> Bool × List Un := fun a0 => (true, [.i (((cu a0).getD (0, 0)).1)])
theorem ND (a0 : bo) : ∃ m, t89 m a0 = some ([.i (((cu a0).getD (0, 0)).1)]) := by
 exact ⟨0, rfl⟩
theorem Jt : ER 89 (mkE N89.en N89.ex f89) := an ah T26.right (fun m => []) (t := t89) (by kernel_rfl) (fun m => aA) (fun m a => by kernel_rfl) fun a0 hc => ND a0
def T89 : Tb Tryz.prog LQ TE XX := T26.add 89 _ Jt
def N59 : aC := ⟨T89.tab, 59, ⟨[.ai (sB 4)], [], 0⟩, ⟨[.buf 0 5], [.ai (sB 4)], 0⟩, []⟩
def t59 (m : Nat) : List Dat -> Option (List Un) := fun a0 =>
 bif decide (a0.length = 0) then
 both (
 some ([.d ([])])) (
 chk (fits (0 + a0.length) 40) <|
 some ([.d a0]))
 else
 chk (fits (0 + a0.length) 40) <|
 some ([.d a0])
def f59 : List Dat -> Bool × List Un := fun a0 => (decide (a0.length < 1000000), [.d (a0)])
theorem Mm (a0 : List Dat) (hc : (decide (a0.length < 1000000)) = true) : ∃ m, t59 m a0 = some ([.d (a0)]) := by
 have h := zaj hc; refine ⟨0, ?_⟩; unfold t59; cases a0 with
 | nil => simp (disch := omega) only [TRa, TRi, aa, zay, gN, za5, gQ]
 | cons x l =>
  simp only [zac] at h ⊢; simp (disch := omega) only [TRa, TRi, aa]
theorem I8 : ER 59 (mkE N59.en N59.ex f59) := an ah T89.right (fun m => []) (t := t59) (by kernel_rfl) (fun m => aA) (fun m a => by kernel_rfl) fun a0 hc => Mm a0 hc
def T59 : Tb Tryz.prog LQ TE XX := T89.add 59 _ I8
def N62 : aC := ⟨T59.tab, 62, ⟨[.ai (sI 2)], [], 0⟩, ⟨[.buf 0 2], [.ai (sI 2)], 0⟩, []⟩
def t62 (m : Nat) : List Dat -> Option (List Un) := fun a0 =>
 bif decide (a0.length = 0) then
 both (
 some ([.d ([])])) (
 chk (fits (0 + a0.length) 16) <|
 some ([.d a0]))
 else
 chk (fits (0 + a0.length) 16) <|
 some ([.d a0])
def f62 : List Dat -> Bool × List Un := fun a0 => (decide (a0.length < 1000000), [.d (a0)])
theorem MD (a0 : List Dat) (hc : (decide (a0.length < 1000000)) = true) : ∃ m, t62 m a0 = some ([.d (a0)]) := by
 have h := zaj hc; refine ⟨0, ?_⟩; unfold t62; cases a0 with
 | nil => simp (disch := omega) only [TRa, TRi, aa, zay, gN, za5, gQ]
 | cons x l =>
  simp only [zac] at h ⊢; simp (disch := omega) only [TRa, TRi, aa]
theorem II : ER 62 (mkE N62.en N62.ex f62) := an ah T59.right (fun m => []) (t := t62) (by kernel_rfl) (fun m => aA) (fun m a => by kernel_rfl) fun a0 hc => MD a0 hc
def T62 : Tb Tryz.prog LQ TE XX := T59.add 62 _ II
def N63 : aC := ⟨T62.tab, 63, ⟨[.ai (sI 3)], [], 0⟩, ⟨[.buf 0 3], [.ai (sI 3)], 0⟩, []⟩
def t63 (m : Nat) : List Dat -> Option (List Un) := fun a0 =>
 bif decide (a0.length = 0) then
 both (
 some ([.d ([])])) (
 chk (fits (0 + a0.length) 24) <|
 some ([.d a0]))
 else
 chk (fits (0 + a0.length) 24) <|
 some ([.d a0])
def f63 : List Dat -> Bool × List Un := fun a0 => (decide (a0.length < 1000000), [.d (a0)])
theorem Mb (a0 : List Dat) (hc : (decide (a0.length < 1000000)) = true) : ∃ m, t63 m a0 = some ([.d (a0)]) := by
 have h := zaj hc; refine ⟨0, ?_⟩; unfold t63; cases a0 with
 | nil => simp (disch := omega) only [TRa, TRi, aa, zay, gN, za5, gQ]
 | cons x l =>
  simp only [zac] at h ⊢; simp (disch := omega) only [TRa, TRi, aa]
theorem Li : ER 63 (mkE N63.en N63.ex f63) := an ah T62.right (fun m => []) (t := t63) (by kernel_rfl) (fun m => aA) (fun m a => by kernel_rfl) fun a0 hc => Mb a0 hc
def T63 : Tb Tryz.prog LQ TE XX := T62.add 63 _ Li
def N64 : aC := ⟨T63.tab, 64, ⟨[.ai (sI 2)], [], 0⟩, ⟨[.buf 0 2], [.ai (sI 2)], 0⟩, []⟩
def t64 (m : Nat) : List Dat -> Option (List Un) := fun a0 =>
 bif decide (a0.length = 0) then
 both (
 some ([.d ([])])) (
 chk (fits (0 + a0.length) 16) <|
 some ([.d a0]))
 else
 chk (fits (0 + a0.length) 16) <|
 some ([.d a0])
def f64 : List Dat -> Bool × List Un := fun a0 => (decide (a0.length < 1000000), [.d (a0)])
theorem Mj (a0 : List Dat) (hc : (decide (a0.length < 1000000)) = true) : ∃ m, t64 m a0 = some ([.d (a0)]) := by
 have h := zaj hc; refine ⟨0, ?_⟩; unfold t64; cases a0 with
 | nil => simp (disch := omega) only [TRa, TRi, aa, zay, gN, za5, gQ]
 | cons x l =>
  simp only [zac] at h ⊢; simp (disch := omega) only [TRa, TRi, aa]
theorem Jz : ER 64 (mkE N64.en N64.ex f64) := an ah T63.right (fun m => []) (t := t64) (by kernel_rfl) (fun m => aA) (fun m a => by kernel_rfl) fun a0 hc => Mj a0 hc
def T64 : Tb Tryz.prog LQ TE XX := T63.add 64 _ Jz
def N67 : aC := ⟨T64.tab, 67, ⟨[.ai (sI 7)], [], 0⟩, ⟨[.buf 0 7], [.ai (sI 7)], 0⟩, []⟩
def t67 (m : Nat) : List Dat -> Option (List Un) := fun a0 =>
 bif decide (a0.length = 0) then
 both (
 some ([.d ([])])) (
 chk (fits (0 + a0.length) 56) <|
 some ([.d a0]))
 else
 chk (fits (0 + a0.length) 56) <|
 some ([.d a0])
def f67 : List Dat -> Bool × List Un := fun a0 => (decide (a0.length < 1000000), [.d (a0)])
theorem Ni (a0 : List Dat) (hc : (decide (a0.length < 1000000)) = true) : ∃ m, t67 m a0 = some ([.d (a0)]) := by
 have h := zaj hc; refine ⟨0, ?_⟩; unfold t67; cases a0 with
 | nil => simp (disch := omega) only [TRa, TRi, aa, zay, gN, za5, gQ]
 | cons x l =>
  simp only [zac] at h ⊢; simp (disch := omega) only [TRa, TRi, aa]
theorem Kv : ER 67 (mkE N67.en N67.ex f67) := an ah T64.right (fun m => []) (t := t67) (by kernel_rfl) (fun m => aA) (fun m a => by kernel_rfl) fun a0 hc => Ni a0 hc
def T67 : Tb Tryz.prog LQ TE XX := T64.add 67 _ Kv
def N79 : aC := ⟨T67.tab, 79, ⟨[.ai (sI 3)], [], 0⟩, ⟨[.buf 0 3], [.ai (sI 3)], 0⟩, []⟩
def t79 (m : Nat) : List Dat -> Option (List Un) := fun a0 =>
 bif decide (a0.length = 0) then
 both (
 some ([.d ([])])) (
 chk (fits (0 + a0.length) 24) <|
 some ([.d a0]))
 else
 chk (fits (0 + a0.length) 24) <|
 some ([.d a0])
def f79 : List Dat -> Bool × List Un := fun a0 => (decide (a0.length < 1000000), [.d (a0)])
theorem L8 (a0 : List Dat) (hc : (decide (a0.length < 1000000)) = true) : ∃ m, t79 m a0 = some ([.d (a0)]) := by
 have h := zaj hc; refine ⟨0, ?_⟩; unfold t79; cases a0 with
 | nil => simp (disch := omega) only [TRa, TRi, aa, zay, gN, za5, gQ]
 | cons x l =>
  simp only [zac] at h ⊢; simp (disch := omega) only [TRa, TRi, aa]
theorem K2 : ER 79 (mkE N79.en N79.ex f79) := an ah T67.right (fun m => []) (t := t79) (by kernel_rfl) (fun m => aA) (fun m a => by kernel_rfl) fun a0 hc => L8 a0 hc
def T79 : Tb Tryz.prog LQ TE XX := T67.add 79 _ K2
def N93 : aC := ⟨T79.tab, 93, ⟨[.ints .i64], [], 0⟩, ⟨[.buf 0 1], [.ints .i64], 0⟩, []⟩
def t93 (m : Nat) : List Int -> Option (List Un) := fun a0 =>
 bif decide (a0.length = 0) then
 both (
 some ([.l ([])])) (
 chk (fits (0 + a0.length) 8) <|
 some ([.l a0]))
 else
 chk (fits (0 + a0.length) 8) <|
 some ([.l a0])
def f93 : List Int -> Bool × List Un := fun a0 => (decide (a0.length < 1000000), [.l (a0)])
theorem Ml (a0 : List Int) (hc : (decide (a0.length < 1000000)) = true) : ∃ m, t93 m a0 = some ([.l (a0)]) := by
 have h := zaj hc; refine ⟨0, ?_⟩; unfold t93; cases a0 with
 | nil => simp (disch := omega) only [TRa, TRi, aa, zay, gN, za5, gQ]
 | cons x l =>
  simp only [zac] at h ⊢; simp (disch := omega) only [TRa, TRi, aa]
theorem Jo : ER 93 (mkE N93.en N93.ex f93) := an ah T79.right (fun m => []) (t := t93) (by kernel_rfl) (fun m => aA) (fun m a => by kernel_rfl) fun a0 hc => Ml a0 hc
def T93 : Tb Tryz.prog LQ TE XX := T79.add 93 _ Jo
def N27 : aC := ⟨T93.tab, 27, ⟨[.agg [.int .i64, .int .i64, .int .i64, .ai (sI 2), .ai (sI 3), .int .i64, .int .i64, .int .i64, .int .i64, .int .i64, .int .i64, .int .i64, .int .i64, .int .i64, .int .i64, .ai (sI 2), .ai (sI 2), .ai (sI 2)]], [], 0⟩, ⟨[.agg [.int .i64, .int .i64, .int .i64, .buf 0 2, .buf 1 3, .int .i64, .int .i64, .int .i64, .int .i64, .int .i64, .int .i64, .int .i64, .int .i64, .int .i64, .int .i64, .buf 2 2, .buf 3 2, .buf 4 2]], [.ai (sI 2), .ai (sI 3), .ai (sI 2), .ai (sI 2), .ai (sI 2)], 0⟩, [[0, 1, 0, 1, 1, 1]]⟩
def t27 (m : Nat) : bo -> Option (List Un) := fun a0 =>
 chk (decide (a0.bg.length < 1000000)) <|
 chk (decide (a0.notes.length < 1000000)) <|
 chk (decide (a0.s0.length < 1000000)) <|
 chk (decide (a0.s1.length < 1000000)) <|
 chk (decide (a0.s2.length < 1000000)) <|
 some (Uns.enc (a0.a : aw) ++ Uns.enc (a0.b : az) ++ [.d a0.bg, .d a0.notes, .d a0.s0, .d a0.s1, .d a0.s2])
def f27 : bo -> Bool × List Un := fun a0 => (decide (a0.bg.length < 1000000 /\ a0.notes.length < 1000000 /\ a0.s0.length < 1000000 /\ a0.s1.length < 1000000 /\ a0.s2.length < 1000000), Uns.enc ((a0.a) : aw) ++ Uns.enc ((a0.b) : az) ++ [.d (a0.bg), .d (a0.notes), .d (a0.s0), .d (a0.s1), .d (a0.s2)])
theorem M6 (a0 : bo) (hc : (decide (a0.bg.length < 1000000 /\ a0.notes.length < 1000000 /\ a0.s0.length < 1000000 /\ a0.s1.length < 1000000 /\ a0.s2.length < 1000000)) = true) : ∃ m, t27 m a0 = some (Uns.enc ((a0.a) : aw) ++ Uns.enc ((a0.b) : az) ++ [.d (a0.bg), .d (a0.notes), .d (a0.s0), .d (a0.s1), .d (a0.s2)]) := by
 obtain ⟨h1, h2, h3, h4, h5⟩ := zaj hc; refine ⟨0, ?_⟩; unfold t27; simp (disch := omega) only [TRa, TRi, aa]
theorem KB : ER 27 (mkE N27.en N27.ex f27) := an ah T93.right (fun m => []) (t := t27) (by kernel_rfl) (fun m => aA) (fun m a => by kernel_rfl) fun a0 hc => M6 a0 hc
def T27 : Tb Tryz.prog LQ TE XX := T93.add 27 _ KB
def N29 : aC := ⟨T27.tab, 29, ⟨[.int .i64], [], 0⟩, ⟨[.agg [.int .i64, .int .i64]], [], 0⟩, []⟩
def t29 (m : Nat) : Int -> Option (List Un) := fun a0 =>
 bif (decide ((([0, a0]).getD 0 0) < 0)) then
 some ([.i 0, .i 0])
 else
 bif (decide ((([0, a0]).getD 0 0) > 1152921504606846976)) then
 some ([.i 0, .i 0])
 else
 lt ((w64 (0 + (([0, a0]).getD 0 0))) : Int) fun x3 =>
 bif (decide ((([0, a0]).getD 1 0) < 0)) then
 some ([.i 0, .i 0])
 else
 bif (decide ((([0, a0]).getD 1 0) > (w64 (1152921504606846976 - x3)))) then
 some ([.i 0, .i 0])
 else
 some ([.i (w64 (x3 + (([0, a0]).getD 1 0))), .i 0])
def f29 : Int -> Bool × List Un := fun a0 => (decide (0 <= a0 /\ a0 <= 1152921504606846976), [.i (a0), .i (0)])
theorem MF (a0 : Int) (hc : (decide (0 <= a0 /\ a0 <= 1152921504606846976)) = true) : ∃ m, t29 m a0 = some ([.i (a0), .i (0)]) := by
 have h := zaj hc; refine ⟨0, ?_⟩; unfold t29; simp only [zaI, zat]; simp (disch := omega) only [TRa, TRi, aa, za2, zbm]
theorem ID : ER 29 (mkE N29.en N29.ex f29) := an ah T27.right (fun m => []) (t := t29) (by kernel_rfl) (fun m => aA) (fun m a => by kernel_rfl) fun a0 hc => MF a0 hc
def T29 : Tb Tryz.prog LQ TE XX := T27.add 29 _ ID
def N30 : aC := ⟨T29.tab, 30, ⟨[.agg [.int .i64, .int .i64, .int .i64]], [], 0⟩, ⟨[.agg [.int .i64, .int .i64, .int .i64, .int .i64, .int .i64, .int .i64, .int .i64]], [], 0⟩, []⟩
def t30 (m : Nat) : Int × Int × Int -> Option (List Un) := fun (a0, a1, a2) =>
 some ([.i a0, .i a1, .i a2, .i 0, .i 0, .i 0, .i 0])
def f30 : Int × Int × Int -> Bool × List Un := fun (a0, a1, a2) => (true, [.i (a0), .i (a1), .i (a2), .i (0), .i (0), .i (0), .i (0)])
theorem M7 (a0 : Int) (a1 : Int) (a2 : Int) : ∃ m, t30 m (a0, a1, a2) = some ([.i (a0), .i (a1), .i (a2), .i (0), .i (0), .i (0), .i (0)]) := by
 exact ⟨0, rfl⟩
theorem I3 : ER 30 (mkE N30.en N30.ex f30) := an ah T29.right (fun m => []) (t := t30) (by kernel_rfl) (fun m => aA) (fun m a => by kernel_rfl) fun (a0, a1, a2) hc => M7 a0 a1 a2
def T30 : Tb Tryz.prog LQ TE XX := T29.add 30 _ I3
def gx (d : Dat) : Dat := .r [.n (d.i 0), .n (d.i 1), .n 0, .n 0, .n (bI false)]
def N28 : aC := ⟨T30.tab, 28, ⟨[.ai (sI 2)], [], 0⟩, ⟨[.ptr 0 0 0], [.cells [.buf 1 5], .ai (sB 4)], 0⟩, []⟩
abbrev D3 : Type := List Dat × Int × Int × List Dat
def y9 (m : Nat) (k : D3 -> Option (List Un)) : D3 -> Option (List Un) := fun (a0, a1, a2, a3) =>
 bif decide (a2 < a1) then
 chk (inb a2 a0.length) <|
 chk (decide (a2.toNat < a0.length)) <|
 lt (ag a0 a2.toNat : Dat) fun d1 =>
 chk (fits (a3.length + 1) 40) <|
 k (a0, a1, (w64 (a2 + 1)), (a3 ++ ([.r [.n (d1.i 0), .n (d1.i 1), .n 0, .n 0, .n (bI false)]])))
 else
 some ([.d a3])
def vU (m : Nat) : Nat -> D3 -> Option (List Un) := bp (y9 m)
theorem tV (m : Nat) (n : Nat) : vU m (n + 1) = y9 m (vU m n) := rfl
def Gf (F : D3 -> Option (List Un)) : aW := ⟨[.lp [0, 1, 0, 1, 1], .blk 0, .code [1, 1, 1]], ⟨frm 27 [(3, .ptr 0 0 0), (8, .ai (sI 2)), (9, .int .i64), (10, .int .i64)], [.cells [.buf 1 5], .ai (sB 4)], 0⟩, onU F⟩
theorem P2 (m : Nat) : ∀ n, HO N28 (Gf (vU m n)) := au ah T30.right (fun k => [Gf k]) (fun k h => (aL h aA)) fun k a => by kernel_rfl
def t28 (m : Nat) : List Dat -> Option (List Un) := fun a0 =>
 vU m m (a0, (a0.length : Int), 0, [])
theorem Hq (m : Nat) : ∀ (rest pre : List Dat) (n : Nat), rest.length < n -> (pre ++ rest).length < 1000000 ->
 vU m n (pre ++ rest, ((pre ++ rest).length : Int), (pre.length : Int), pre.map gx) = some [.d ((pre ++ rest).map gx)] := by
 intro rest
 induction rest with
 | nil =>
  intro pre n hn hl; obtain ⟨n, rfl⟩ := al n (by simp at hn; omega); rw [tV]; unfold y9; dsimp only; simp [aF]
 | cons x rest ih =>
  intro pre n hn hl; obtain ⟨n, rfl⟩ := al n (by simp at hn; omega); simp only [zac, zad] at hn hl; rw [tV]; unfold y9; dsimp only; have := ih (pre ++ [x]) n (by omega) (by simp; omega); rw [List.map_append] at this; simp (disch := omega) only [TRa, TRi, aa, LNl, LNi, zaa, ax]; simp only [LNl, LNi, zaa] at this ⊢; exact this
def f28 : List Dat -> Bool × List Un := fun a0 => (decide (a0.length < 1000000), [.d (a0.map gx)])
theorem MJ (a0 : List Dat) (hc : (decide (a0.length < 1000000)) = true) : ∃ m, t28 m a0 = some ([.d (a0.map gx)]) := by
 exact ⟨a0.length + 1, Hq _ a0 [] _ (by omega) (zaj hc)⟩
theorem Iv : ER 28 (mkE N28.en N28.ex f28) := an ah T30.right (fun m => [Gf (vU m m)]) (t := t28) (by kernel_rfl) (fun m => (aL (P2 m m) aA)) (fun m a => by kernel_rfl) fun a0 hc => MJ a0 hc
def T28 : Tb Tryz.prog LQ TE XX := T30.add 28 _ Iv
@[ext] structure ak where
 rin : Int
 bl : Int
 out : Int
 fee : Int
 mode : Int
 bf : Int
 period : Int
 aD : Int
 aK : Int
 oO : Bool
instance : Uns ak := Uns.via (B := Int × Int × Int × Int × Int × Int × Int × Int × Int × Bool) (fun x => (x.rin, x.bl, x.out, x.fee, x.mode, x.bf, x.period, x.aD, x.aK, x.oO)) (fun x => match x with | (rin, bl, out, fee, mode, bf, period, aD, aK, oO) => ⟨rin, bl, out, fee, mode, bf, period, aD, aK, oO⟩) (fun _ => rfl)
def cd (p : Nat) : List BP := [.cells [.int .i64, .int .i64, .int .i64, .buf (p + 1) 2, .buf (p + 2) 3, .int .i64, .int .i64, .int .i64, .int .i64, .int .i64, .int .i64, .int .i64, .int .i64, .int .i64, .int .i64, .buf (p + 3) 2, .buf (p + 4) 2, .buf (p + 5) 2, .ptr (p + 6) 0 0, .buf (p + 8) 7, .int .i64, .int .i64, .int .i64, .int .i64, .int .i64, .int .i64, .int .i64, .int .i64, .int .i64, .bool], .ai (sI 2), .ai (sI 3), .ai (sI 2), .ai (sI 2), .ai (sI 2), .cells [.buf (p + 7) 5], .ai (sB 4), .ai (sI 7)]
structure ae where
 a : aw
 b : az
 n : ak
 bg : List Dat
 notes : List Dat
 s0 : List Dat
 s1 : List Dat
 s2 : List Dat
 aY : List Dat
 tr : List Dat
def qi (d : Dat) : Dat := .r [.n (d.i 0), .n (d.i 1), .n (d.i 2), .n 0, .n 0, .n 0, .n 0]
def cK (d : bo) : ae := ⟨d.a, d.b, ⟨d.b.aV, 0, 0, 0, 0, 0, 0, 0, 0, false⟩, d.bg, d.notes, d.s0, d.s1, d.s2, d.bg.map gx, d.notes.map qi⟩
def iB (d : bo) : ae := if (cu d).isSome then cK d else ⟨⟨0, 0, 0⟩, ⟨0, 0, 0, 0, 0, 0, 0, 0, 0, 0⟩, ⟨0, 0, 0, 0, 0, 0, 0, 0, 0, false⟩, [], [], [], [], [], [], []⟩
theorem vw {d : bo} (h : (cu d).isSome = true) : 0 <= d.b.aV /\ d.b.aV <= 1099511627776 := by
 unfold cu at h
 split at h
 . cases h
 . split at h
   . cases h
   . split at h
     . rename_i hc; simp only [zab, nz, zai] at hc; omega
     . cases h
def N9 : aC := ⟨T28.tab, 9, ⟨[.agg [.int .i64, .int .i64, .int .i64, .ai (sI 2), .ai (sI 3), .int .i64, .int .i64, .int .i64, .int .i64, .int .i64, .int .i64, .int .i64, .int .i64, .int .i64, .int .i64, .ai (sI 2), .ai (sI 2), .ai (sI 2)]], [], 0⟩, ⟨[.np 0 0 0, .int .i64], cd 0, 0⟩, []⟩
abbrev IV : Type := List Dat × Int × Int × aw × az × ak × List Dat × List Dat × List Dat × List Dat × List Dat × List Dat × List Dat
def CF (m : Nat) (k : IV -> Option (List Un)) : IV -> Option (List Un) := fun (a0, a1, a2, a3, a4, a5, a6, a7, a8, a9, a10, a11, a12) =>
 bif decide (a2 < a1) then
 chk (inb a2 a0.length) <|
 chk (decide (a2.toNat < a0.length)) <|
 lt (ag a0 a2.toNat : Dat) fun d1 =>
 chk (fits (a11.length + 1) 56) <|
 k (a0, a1, (w64 (a2 + 1)), a3, a4, a5, a6, a7, a8, a9, a10, (a11 ++ ([.r [.n (d1.i 0), .n (d1.i 1), .n (d1.i 2), .n 0, .n 0, .n 0, .n 0]])), a12)
 else
 some ([.i 0, .i 0] ++ Uns.enc (a3 : aw) ++ Uns.enc (a4 : az) ++ Uns.enc (a5 : ak) ++ [.d a6, .d a7, .d a8, .d a9, .d a10, .d a12, .d a11])
def EK (m : Nat) : Nat -> IV -> Option (List Un) := bp (CF m)
theorem wc (m : Nat) (n : Nat) : EK m (n + 1) = CF m (EK m n) := rfl
def NC (F : IV -> Option (List Un)) : aW := ⟨[.lp [0, 1, 0, 1, 1, 1], .blk 0, .code [1, 1, 1, 1]], ⟨frm 40 [(4, .ptr 0 0 0), (21, .ai (sI 3)), (22, .int .i64), (23, .int .i64)], [.cells [.int .i64, .int .i64, .int .i64, .buf 1 2, .buf 2 3, .int .i64, .int .i64, .int .i64, .int .i64, .int .i64, .int .i64, .int .i64, .int .i64, .int .i64, .int .i64, .buf 3 2, .buf 4 2, .buf 5 2, .ptr 6 0 0, .buf 7 7, .int .i64, .int .i64, .int .i64, .int .i64, .int .i64, .int .i64, .int .i64, .int .i64, .int .i64, .bool], .ai (sI 2), .ai (sI 3), .ai (sI 2), .ai (sI 2), .ai (sI 2), .cells [.buf 8 5], .ai (sI 7), .ai (sB 4)], 0⟩, onU F⟩
theorem Qo (m : Nat) : ∀ n, HO N9 (NC (EK m n)) := au ah T28.right (fun k => [NC k]) (fun k h => (aL h aA)) fun k a => by kernel_rfl
def t9 (m : Nat) : bo -> Option (List Un) := fun a0 =>
 bif !((cu a0).isSome) then
 some ([.i (-1), .i 2] ++ Uns.enc ((⟨0, 0, 0⟩ : aw) : aw) ++ Uns.enc ((⟨0, 0, 0, 0, 0, 0, 0, 0, 0, 0⟩ : az) : az) ++ Uns.enc ((⟨0, 0, 0, 0, 0, 0, 0, 0, 0, false⟩ : ak) : ak) ++ [.d ([]), .d ([]), .d ([]), .d ([]), .d ([]), .d ([]), .d ([])])
 else
 chk (decide (a0.bg.length < 1000000 /\ a0.notes.length < 1000000 /\ a0.s0.length < 1000000 /\ a0.s1.length < 1000000 /\ a0.s2.length < 1000000)) <|
 chk (decide (a0.bg.length < 1000000)) <|
 chk (decide (0 <= a0.b.aV /\ a0.b.aV <= 1152921504606846976)) <|
 EK m m (a0.notes, (a0.notes.length : Int), 0, a0.a, a0.b, (⟨a0.b.aV, 0, 0, 0, 0, 0, 0, 0, 0, false⟩ : ak), a0.bg, a0.notes, a0.s0, a0.s1, a0.s2, [], (a0.bg.map gx))
theorem E1 (m : Nat) (a : aw) (b : az) (n0 : ak) (x1 x2 x3 x4 x5 x6 : List Dat) : ∀ (rest pre : List Dat) (n : Nat), rest.length < n -> (pre ++ rest).length < 1000000 ->
 EK m n (pre ++ rest, ((pre ++ rest).length : Int), (pre.length : Int), a, b, n0, x1, x2, x3, x4, x5, pre.map qi, x6) = some ([.i 0, .i 0] ++ Uns.enc (a : aw) ++ Uns.enc (b : az) ++ Uns.enc (n0 : ak) ++ [.d x1, .d x2, .d x3, .d x4, .d x5, .d x6, .d ((pre ++ rest).map qi)]) := by
 intro rest
 induction rest with
 | nil =>
  intro pre n hn hl; obtain ⟨n, rfl⟩ := al n (by simp at hn; omega); rw [wc]; unfold CF; dsimp only; simp [aF]
 | cons x rest ih =>
  intro pre n hn hl; obtain ⟨n, rfl⟩ := al n (by simp at hn; omega); simp only [zac, zad] at hn hl; rw [wc]; unfold CF; dsimp only; have := ih (pre ++ [x]) n (by omega) (by simp; omega); rw [List.map_append] at this; simp (disch := omega) only [TRa, TRi, aa, LNl, LNi, zaa, ax]; simp only [LNl, LNi, zaa] at this ⊢; exact this
def f9 : bo -> Bool × List Un := fun a0 => (decide (a0.bg.length < 1000000 /\ a0.notes.length < 1000000 /\ a0.s0.length < 1000000 /\ a0.s1.length < 1000000 /\ a0.s2.length < 1000000), [.i (((if (cu a0).isSome then 0 else -1) : Int)), .i (((if (cu a0).isSome then 0 else 2) : Int))] ++ Uns.enc (((iB a0).a) : aw) ++ Uns.enc (((iB a0).b) : az) ++ Uns.enc (((iB a0).n) : ak) ++ [.d ((iB a0).bg), .d ((iB a0).notes), .d ((iB a0).s0), .d ((iB a0).s1), .d ((iB a0).s2), .d ((iB a0).aY), .d ((iB a0).tr)])
theorem Px (a0 : bo) (hc : (decide (a0.bg.length < 1000000 /\ a0.notes.length < 1000000 /\ a0.s0.length < 1000000 /\ a0.s1.length < 1000000 /\ a0.s2.length < 1000000)) = true) : ∃ m, t9 m a0 = some ([.i (((if (cu a0).isSome then 0 else -1) : Int)), .i (((if (cu a0).isSome then 0 else 2) : Int))] ++ Uns.enc (((iB a0).a) : aw) ++ Uns.enc (((iB a0).b) : az) ++ Uns.enc (((iB a0).n) : ak) ++ [.d ((iB a0).bg), .d ((iB a0).notes), .d ((iB a0).s0), .d ((iB a0).s1), .d ((iB a0).s2), .d ((iB a0).aY), .d ((iB a0).tr)]) := by
 have h := zaj hc; refine ⟨a0.notes.length + 1, ?_⟩; unfold t9 iB; cases hs : (cu a0).isSome
 . rfl
 . have hr := vw hs; simp only [zbD, zao, za9]; rw [aO h, aO (by omega), aO (by omega)]; exact E1 _ _ _ _ _ _ _ _ _ _ a0.notes [] _ (by omega) (by simp; omega)
theorem NK : ER 9 (mkE N9.en N9.ex f9) := an ah T28.right (fun m => [NC (EK m m)]) (t := t9) (by kernel_rfl) (fun m => (aL (Qo m m) aA)) (fun m a => by kernel_rfl) fun a0 hc => Px a0 hc
def T9 : Tb Tryz.prog LQ TE XX := T28.add 9 _ NK
def N77 : aC := ⟨T9.tab, 77, ⟨[.agg [.int .i64, .int .i64]], [], 0⟩, ⟨[.int .i64], [], 0⟩, []⟩
def t77 (m : Nat) : Int × Int -> Option (List Un) := fun (a0, a1) =>
 some ([.i (w64 (a0 - a1))])
def f77 : Int × Int -> Bool × List Un := fun (a0, a1) => (true, [.i (w64 (a0 - a1))])
theorem N7 (a0 : Int) (a1 : Int) : ∃ m, t77 m (a0, a1) = some ([.i (w64 (a0 - a1))]) := by
 exact ⟨0, rfl⟩
theorem J3 : ER 77 (mkE N77.en N77.ex f77) := an ah T9.right (fun m => []) (t := t77) (by kernel_rfl) (fun m => aA) (fun m a => by kernel_rfl) fun (a0, a1) hc => N7 a0 a1
def T77 : Tb Tryz.prog LQ TE XX := T9.add 77 _ J3
def N74 : aC := ⟨T77.tab, 74, ⟨[.agg [.int .i64, .int .i64, .int .i64, .int .i64, .int .i64, .int .i64, .int .i64]], [], 0⟩, ⟨[.int .i64], [], 0⟩, []⟩
def t74 (m : Nat) : Int × Int × Int × Int × Int × Int × Int -> Option (List Un) := fun (a0, a1, a2, a3, a4, a5, a6) =>
 some ([.i (w64 ((w64 (a1 - (w64 (a3 - a4)))) - a6))])
def f74 : Int × Int × Int × Int × Int × Int × Int -> Bool × List Un := fun (a0, a1, a2, a3, a4, a5, a6) => (true, [.i (w64 (w64 (a1 - w64 (a3 - a4)) - a6))])
theorem NG (a0 : Int) (a1 : Int) (a2 : Int) (a3 : Int) (a4 : Int) (a5 : Int) (a6 : Int) : ∃ m, t74 m (a0, a1, a2, a3, a4, a5, a6) = some ([.i (w64 (w64 (a1 - w64 (a3 - a4)) - a6))]) := by
 exact ⟨0, rfl⟩
theorem I0 : ER 74 (mkE N74.en N74.ex f74) := an ah T77.right (fun m => []) (t := t74) (by kernel_rfl) (fun m => aA) (fun m a => by kernel_rfl) fun (a0, a1, a2, a3, a4, a5, a6) hc => NG a0 a1 a2 a3 a4 a5 a6
def T74 : Tb Tryz.prog LQ TE XX := T77.add 74 _ I0
def bk (d : Dat) : Int := d.i 1 - (d.i 3 - d.i 4) - d.i 6
def aI (d : Dat) : Bool := decide (0 <= d.i 1 /\ d.i 1 <= 1099511627776 /\ 0 <= d.i 3 /\ d.i 4 = 0 /\ 0 <= d.i 6 /\ d.i 3 + d.i 6 <= d.i 1 /\ 0 <= d.i 5 /\ d.i 5 <= 1125899906842624)
def mF (c : Int) (d : Dat) : Int := max (min c (bk d)) 0
def rm (c : Int) (d : Dat) : Dat := .r [.n (d.i 0), .n (d.i 1), .n (d.i 2), .n (d.i 3 + mF c d), .n (d.i 4), .n (d.i 5), .n (d.i 6)]
def dJ (c : Int) (d : Dat) : Dat := .r [.n (d.i 0), .n (d.i 1), .n (d.i 2), .n (d.i 3), .n (d.i 4), .n (d.i 5), .n (d.i 6 + mF c d)]
def mB (c : Int) (d : Dat) : Int := max (min c (d.i 6)) 0
def fy (c : Int) (d : Dat) : Dat := .r [.n (d.i 0), .n (d.i 1), .n (d.i 2), .n (d.i 3), .n (d.i 4), .n (d.i 5), .n (d.i 6 - mB c d)]
def yG (c : Int) (d : Dat) : Dat := .r [.n (d.i 0), .n (d.i 1), .n (d.i 2), .n (d.i 3), .n (d.i 4), .n (d.i 5 + c), .n (d.i 6)]
def N83 : aC := ⟨T74.tab, 83, ⟨[.np 0 7 0, .int .i64], [.ai (sI 7)], 0⟩, ⟨[.int .i64], [.ai (sI 7)], 0⟩, []⟩
def t83 (m : Nat) : Int × Int × List Dat -> Option (List Un) := fun (a0, a1, a2) =>
 chk (decide (0 <= a0)) <|
 chk (decide (a0.toNat < a2.length)) <|
 lt (ag a2 a0.toNat : Dat) fun d1 =>
 lt ((w64 (w64 ((d1.i 1) - w64 ((d1.i 3) - (d1.i 4))) - (d1.i 6))) : Int) fun x2 =>
 lt ((if x2 < a1 then x2 else a1) : Int) fun x3 =>
 lt ((if x3 < 0 then 0 else x3) : Int) fun x4 =>
 chk (decide (0 <= a0)) <|
 chk (decide (a0.toNat < a2.length)) <|
 lt (ag a2 a0.toNat : Dat) fun d5 =>
 lt ((([(d5.i 3), x4]).getD 0 0) : Int) fun x6 =>
 bif decide (x6 < 0) then
 some ([.i 0, .d a2])
 else
 bif (decide (x6 > 1152921504606846976)) then
 some ([.i 0, .d a2])
 else
 lt ((([(d5.i 3), x4]).getD 1 0) : Int) fun x8 =>
 bif decide (x8 < 0) then
 some ([.i 0, .d a2])
 else
 bif decide (x8 > (w64 (1152921504606846976 - (w64 (0 + x6))))) then
 some ([.i 0, .d a2])
 else
 chk (decide (a0.toNat < a2.length)) <|
 lt (ag a2 a0.toNat : Dat) fun d11 =>
 some ([.i x4, .d (List.set a2 a0.toNat (.r [.n (d11.i 0), .n (d11.i 1), .n (d11.i 2), .n (w64 ((w64 (0 + x6)) + x8)), .n (d11.i 4), .n (d11.i 5), .n (d11.i 6)]))])
def f83 : Int × Int × List Dat -> Bool × List Un := fun (a0, a1, a2) => (decide (0 <= a0 /\ a0.toNat < a2.length) && aI (ag a2 a0.toNat), [.i (mF a1 (ag a2 a0.toNat)), .d (a2.set a0.toNat (rm a1 (ag a2 a0.toNat)))])
theorem L3 (a0 : Int) (a1 : Int) (a2 : List Dat) (hc : (decide (0 <= a0 /\ a0.toNat < a2.length) && aI (ag a2 a0.toNat)) = true) : ∃ m, t83 m (a0, a1, a2) = some ([.i (mF a1 (ag a2 a0.toNat)), .d (a2.set a0.toNat (rm a1 (ag a2 a0.toNat)))]) := by
 simp only [zab, zai, aI] at hc; obtain ⟨⟨h1, h2⟩, h⟩ := hc; refine ⟨0, ?_⟩; unfold t83; dsimp only; simp only [lt_eq]; generalize ag a2 a0.toNat = d at *
 have hv : ∀ c, mF c d = max (min c (bk d)) 0 := fun _ => rfl
 simp only [rm, dJ, fy, yG, mB, hv, bk]; simp only [zaI, zat, lt_eq, jH, kX]; simp (disch := omega) only [TRa, TRi, aa, za2]
theorem Jd : ER 83 (mkE N83.en N83.ex f83) := an ah T74.right (fun m => []) (t := t83) (by kernel_rfl) (fun m => aA) (fun m a => by kernel_rfl) fun (a0, a1, a2) hc => L3 a0 a1 a2 hc
def T83 : Tb Tryz.prog LQ TE XX := T74.add 83 _ Jd
def PD : aC := ⟨T83.tab, 118, ⟨[.np 0 7 0, .int .i64], [.ai (sI 7)], 0⟩, ⟨[.int .i64], [.ai (sI 7)], 0⟩, []⟩
def t118 (m : Nat) : Int × Int × List Dat -> Option (List Un) := fun (a0, a1, a2) =>
 chk (decide (0 <= a0)) <|
 chk (decide (a0.toNat < a2.length)) <|
 lt (ag a2 a0.toNat : Dat) fun d1 =>
 lt ((w64 (w64 ((d1.i 1) - w64 ((d1.i 3) - (d1.i 4))) - (d1.i 6))) : Int) fun x2 =>
 lt ((if x2 < a1 then x2 else a1) : Int) fun x3 =>
 lt ((if x3 < 0 then 0 else x3) : Int) fun x4 =>
 chk (decide (0 <= a0)) <|
 chk (decide (a0.toNat < a2.length)) <|
 chk (decide (0 <= a0)) <|
 chk (decide (a0.toNat < a2.length)) <|
 lt (ag a2 a0.toNat : Dat) fun d6 =>
 some ([.i x4, .d (List.set a2 a0.toNat (.r [.n (d6.i 0), .n (d6.i 1), .n (d6.i 2), .n (d6.i 3), .n (d6.i 4), .n (d6.i 5), .n (w64 (((ag a2 a0.toNat).i 6) + x4))]))])
def f118 : Int × Int × List Dat -> Bool × List Un := fun (a0, a1, a2) => (decide (0 <= a0 /\ a0.toNat < a2.length) && aI (ag a2 a0.toNat), [.i (mF a1 (ag a2 a0.toNat)), .d (a2.set a0.toNat (dJ a1 (ag a2 a0.toNat)))])
theorem Ki (a0 : Int) (a1 : Int) (a2 : List Dat) (hc : (decide (0 <= a0 /\ a0.toNat < a2.length) && aI (ag a2 a0.toNat)) = true) : ∃ m, t118 m (a0, a1, a2) = some ([.i (mF a1 (ag a2 a0.toNat)), .d (a2.set a0.toNat (dJ a1 (ag a2 a0.toNat)))]) := by
 simp only [zab, zai, aI] at hc; obtain ⟨⟨h1, h2⟩, h⟩ := hc; refine ⟨0, ?_⟩; unfold t118; dsimp only; simp only [lt_eq]; generalize ag a2 a0.toNat = d at *
 have hv : ∀ c, mF c d = max (min c (bk d)) 0 := fun _ => rfl
 simp only [rm, dJ, fy, yG, mB, hv, bk]; simp only [zaI, zat, lt_eq, jH, kX]; simp (disch := omega) only [TRa, TRi, aa, za2]
theorem FD : ER 118 (mkE PD.en PD.ex f118) := an ah T83.right (fun m => []) (t := t118) (by kernel_rfl) (fun m => aA) (fun m a => by kernel_rfl) fun (a0, a1, a2) hc => Ki a0 a1 a2 hc
def Ob : Tb Tryz.prog LQ TE XX := T83.add 118 _ FD
def OD : aC := ⟨Ob.tab, 120, ⟨[.np 0 7 0, .int .i64], [.ai (sI 7)], 0⟩, ⟨[.int .i64], [.ai (sI 7)], 0⟩, []⟩
def t120 (m : Nat) : Int × Int × List Dat -> Option (List Un) := fun (a0, a1, a2) =>
 chk (decide (0 <= a0)) <|
 chk (decide (a0.toNat < a2.length)) <|
 lt (ag a2 a0.toNat : Dat) fun d1 =>
 lt ((if (d1.i 6) < a1 then (d1.i 6) else a1) : Int) fun x2 =>
 lt ((if x2 < 0 then 0 else x2) : Int) fun x3 =>
 chk (decide (0 <= a0)) <|
 chk (decide (a0.toNat < a2.length)) <|
 chk (decide (0 <= a0)) <|
 chk (decide (a0.toNat < a2.length)) <|
 lt (ag a2 a0.toNat : Dat) fun d5 =>
 some ([.i x3, .d (List.set a2 a0.toNat (.r [.n (d5.i 0), .n (d5.i 1), .n (d5.i 2), .n (d5.i 3), .n (d5.i 4), .n (d5.i 5), .n (w64 (((ag a2 a0.toNat).i 6) - x3))]))])
def f120 : Int × Int × List Dat -> Bool × List Un := fun (a0, a1, a2) => (decide (0 <= a0 /\ a0.toNat < a2.length) && aI (ag a2 a0.toNat), [.i (mB a1 (ag a2 a0.toNat)), .d (a2.set a0.toNat (fy a1 (ag a2 a0.toNat)))])
theorem IH (a0 : Int) (a1 : Int) (a2 : List Dat) (hc : (decide (0 <= a0 /\ a0.toNat < a2.length) && aI (ag a2 a0.toNat)) = true) : ∃ m, t120 m (a0, a1, a2) = some ([.i (mB a1 (ag a2 a0.toNat)), .d (a2.set a0.toNat (fy a1 (ag a2 a0.toNat)))]) := by
 simp only [zab, zai, aI] at hc; obtain ⟨⟨h1, h2⟩, h⟩ := hc; refine ⟨0, ?_⟩; unfold t120; dsimp only; simp only [lt_eq]; generalize ag a2 a0.toNat = d at *
 have hv : ∀ c, mF c d = max (min c (bk d)) 0 := fun _ => rfl
 simp only [rm, dJ, fy, yG, mB, hv, bk]; simp only [zaI, zat, lt_eq, jH, kX]; simp (disch := omega) only [TRa, TRi, aa, za2]
theorem FX : ER 120 (mkE OD.en OD.ex f120) := an ah Ob.right (fun m => []) (t := t120) (by kernel_rfl) (fun m => aA) (fun m a => by kernel_rfl) fun (a0, a1, a2) hc => IH a0 a1 a2 hc
def M4 : Tb Tryz.prog LQ TE XX := Ob.add 120 _ FX
def N75 : aC := ⟨M4.tab, 75, ⟨[.np 0 7 0, .int .i64], [.ai (sI 7)], 0⟩, ⟨[.bool], [.ai (sI 7)], 0⟩, []⟩
def t75 (m : Nat) : Int × Int × List Dat -> Option (List Un) := fun (a0, a1, a2) =>
 chk (decide (0 <= a0)) <|
 chk (decide (a0.toNat < a2.length)) <|
 lt (ag a2 a0.toNat : Dat) fun d1 =>
 lt ((([(d1.i 5), a1]).getD 0 0) : Int) fun x2 =>
 bif decide (x2 < 0) then
 some ([.b false, .d a2])
 else
 bif (decide (x2 > 1152921504606846976)) then
 some ([.b false, .d a2])
 else
 lt ((([(d1.i 5), a1]).getD 1 0) : Int) fun x4 =>
 bif decide (x4 < 0) then
 some ([.b false, .d a2])
 else
 bif decide (x4 > (w64 (1152921504606846976 - (w64 (0 + x2))))) then
 some ([.b false, .d a2])
 else
 chk (decide (0 <= a0)) <|
 chk (decide (a0.toNat < a2.length)) <|
 lt (ag a2 a0.toNat : Dat) fun d7 =>
 some ([.b true, .d (List.set a2 a0.toNat (.r [.n (d7.i 0), .n (d7.i 1), .n (d7.i 2), .n (d7.i 3), .n (d7.i 4), .n (w64 ((w64 (0 + x2)) + x4)), .n (d7.i 6)]))])
def f75 : Int × Int × List Dat -> Bool × List Un := fun (a0, a1, a2) => (decide (0 <= a1 /\ a1 <= 1125899906842624) && (decide (0 <= a0 /\ a0.toNat < a2.length) && aI (ag a2 a0.toNat)), [.b (true), .d (a2.set a0.toNat (yG a1 (ag a2 a0.toNat)))])
theorem Nc (a0 : Int) (a1 : Int) (a2 : List Dat) (hc : (decide (0 <= a1 /\ a1 <= 1125899906842624) && (decide (0 <= a0 /\ a0.toNat < a2.length) && aI (ag a2 a0.toNat))) = true) : ∃ m, t75 m (a0, a1, a2) = some ([.b (true), .d (a2.set a0.toNat (yG a1 (ag a2 a0.toNat)))]) := by
 simp only [zab, zai, aI] at hc; obtain ⟨h0, ⟨h1, h2⟩, h⟩ := hc; refine ⟨0, ?_⟩; unfold t75; dsimp only; simp only [lt_eq]; generalize ag a2 a0.toNat = d at *
 have hv : ∀ c, mF c d = max (min c (bk d)) 0 := fun _ => rfl
 simp only [rm, dJ, fy, yG, mB, hv, bk]; simp only [zaI, zat, lt_eq, jH, kX]; simp (disch := omega) only [TRa, TRi, aa, za2]
theorem JK : ER 75 (mkE N75.en N75.ex f75) := an ah M4.right (fun m => []) (t := t75) (by kernel_rfl) (fun m => aA) (fun m a => by kernel_rfl) fun (a0, a1, a2) hc => Nc a0 a1 a2 hc
def T75 : Tb Tryz.prog LQ TE XX := M4.add 75 _ JK
def bt (f : Dat -> Int) : List Dat -> Int
 | [] => 0
 | d :: l => f d + bt f l
theorem ca {d : Dat} (h : aI d = true) : 0 <= d.i 1 /\ d.i 1 <= 1099511627776 /\ 0 <= d.i 3 /\ d.i 4 = 0 /\ 0 <= d.i 6 /\ d.i 3 + d.i 6 <= d.i 1 /\ 0 <= d.i 5 /\ d.i 5 <= 1125899906842624 := zaj h
def N76 : aC := ⟨T75.tab, 76, ⟨[.ai (sI 7)], [], 0⟩, ⟨[.int .i64, .int .i64, .int .i64], [], 0⟩, []⟩
abbrev C0 : Type := Int × Int × Int × List Dat × Int × Int
def yg (m : Nat) (k : C0 -> Option (List Un)) : C0 -> Option (List Un) := fun (a0, a1, a2, a3, a4, a5) =>
 bif decide (a5 < a4) then
 chk (inb a5 a3.length) <|
 chk (decide (a5.toNat < a3.length)) <|
 lt (ag a3 a5.toNat : Dat) fun d1 =>
 k ((w64 (a0 + (w64 (w64 ((d1.i 1) - w64 ((d1.i 3) - (d1.i 4))) - (d1.i 6))))), (w64 (a1 + (d1.i 5))), (w64 (a2 + (d1.i 6))), a3, a4, (w64 (a5 + 1)))
 else
 some ([.i a0, .i a1, .i a2])
def wz (m : Nat) : Nat -> C0 -> Option (List Un) := bp (yg m)
theorem uP (m : Nat) (n : Nat) : wz m (n + 1) = yg m (wz m n) := rfl
def Hc (F : C0 -> Option (List Un)) : aW := ⟨[.lp [0, 1, 0, 1], .blk 0, .code [1, 1]], ⟨frm 29 [(2, .int .i64), (3, .int .i64), (4, .int .i64), (7, .ai (sI 7)), (8, .int .i64), (9, .int .i64)], [], 0⟩, onU F⟩
theorem Py (m : Nat) : ∀ n, HO N76 (Hc (wz m n)) := au ah T75.right (fun k => [Hc k]) (fun k h => (aL h aA)) fun k a => by kernel_rfl
def t76 (m : Nat) : List Dat -> Option (List Un) := fun a0 =>
 wz m m (0, 0, 0, a0, (a0.length : Int), 0)
theorem FV (m : Nat) : ∀ (rest pre : List Dat) (n : Nat) (b s t : Int), rest.length < n -> (pre ++ rest).length <= 1000 -> (∀ d ∈ rest, aI d = true) -> 0 <= b -> b <= 1099511627776 * pre.length -> 0 <= s -> s <= 1125899906842624 * pre.length -> 0 <= t -> t <= 1099511627776 * pre.length ->
 wz m n (b, s, t, pre ++ rest, ((pre ++ rest).length : Int), (pre.length : Int)) = some [.i (b + bt bk rest), .i (s + ao 5 rest), .i (t + ao 6 rest)] := by
 intro rest
 induction rest with
 | nil =>
  intro pre n b s t hn hl hg b0 b1 s0 s1 t0 t1; obtain ⟨n, rfl⟩ := al n (by simp at hn; omega); rw [uP]; unfold yg; dsimp only; simp [aF, bt, ao]
 | cons x rest ih =>
  intro pre n b s t hn hl hg b0 b1 s0 s1 t0 t1; obtain ⟨n, rfl⟩ := al n (by simp at hn; omega); simp only [zac, zad] at hn hl; have hx := ca (hg x (by simp)); rw [uP]; unfold yg; dsimp only; have := ih (pre ++ [x]) n (b + bk x) (s + x.i 5) (t + x.i 6) (by omega) (by simp; omega) (fun d hd => hg d (by simp [hd])) (by unfold bk; omega) (by simp [bk]; omega) (by omega) (by simp; omega) (by omega) (by simp; omega); simp only [bt, ao, bk] at this ⊢; simp (disch := omega) only [TRa, TRi, aa, LNl, LNi, zaa, ax]; simp only [LNl, LNi, zaa] at this ⊢; exact this
def f76 : List Dat -> Bool × List Un := fun a0 => (decide (a0.length <= 1000) && a0.all aI, [.i (bt bk a0), .i (ao 5 a0), .i (ao 6 a0)])
theorem Mc (a0 : List Dat) (hc : (decide (a0.length <= 1000) && a0.all aI) = true) : ∃ m, t76 m a0 = some ([.i (bt bk a0), .i (ao 5 a0), .i (ao 6 a0)]) := by
 simp only [zab, zai, zan] at hc; refine ⟨a0.length + 1, ?_⟩; exact (FV (a0.length + 1) a0 [] (a0.length + 1) 0 0 0 (by omega) (by simpa using hc.1) hc.2 (by omega) (by simp) (by omega) (by simp) (by omega) (by simp)).trans (by simp only [za2])
theorem Jf : ER 76 (mkE N76.en N76.ex f76) := an ah T75.right (fun m => [Hc (wz m m)]) (t := t76) (by kernel_rfl) (fun m => (aL (Py m m) aA)) (fun m a => by kernel_rfl) fun a0 hc => Mc a0 hc
def T76 : Tb Tryz.prog LQ TE XX := T75.add 76 _ Jf
def unD (d : Dat) : Int := d.i 1 - (d.i 3 - d.i 4)
def N35 : aC := ⟨T76.tab, 35, ⟨[.np 0 0 0], cd 0, 9⟩, ⟨[.int .i64, .int .i64, .int .i64, .int .i64], cd 0, 9⟩, []⟩
abbrev DZ : Type := Int × Int × Int × Int × Int × Int × aw × az × ak × List Dat × List Dat × List Dat × List Dat × List Dat × List Dat × List Dat
def yk (m : Nat) (k : DZ -> Option (List Un)) : DZ -> Option (List Un) := fun (a0, a1, a2, a3, a4, a5, a6, a7, a8, a9, a10, a11, a12, a13, a14, a15) =>
 bif decide (a5 < a4) then
 chk (inb a5 a15.length) <|
 chk (decide (a5.toNat < a15.length)) <|
 lt (ag a15 a5.toNat : Dat) fun d1 =>
 k (a0, a1, a2, (w64 (a3 + (w64 ((d1.i 1) - (w64 ((d1.i 3) - (d1.i 4))))))), a4, (w64 (a5 + 1)), a6, a7, a8, a9, a10, a11, a12, a13, a14, a15)
 else
 some ([.i a0, .i a1, .i a2, .i a3] ++ Uns.enc (a6 : aw) ++ Uns.enc (a7 : az) ++ Uns.enc (a8 : ak) ++ [.d a9, .d a10, .d a11, .d a12, .d a13, .d a14, .d a15])
def wR (m : Nat) : Nat -> DZ -> Option (List Un) := bp (yk m)
theorem sr (m : Nat) (n : Nat) : wR m (n + 1) = yk m (wR m n) := rfl
def HQ (F : DZ -> Option (List Un)) : aW := ⟨[.lp [0, 1, 0, 1, 1], .blk 0, .code [1, 1, 1]], ⟨frm 40 [(2, .int .i64), (3, .int .i64), (4, .int .i64), (5, .int .i64), (20, .buf 8 7), (21, .int .i64), (22, .int .i64)], cd 0, 9⟩, onU F⟩
theorem Qc (m : Nat) : ∀ n, HO N35 (HQ (wR m n)) := au ah T76.right (fun k => [HQ k]) (fun k h => (aL h aA)) fun k a => by kernel_rfl
def t35 (m : Nat) : Int × aw × az × ak × List Dat × List Dat × List Dat × List Dat × List Dat × List Dat × List Dat -> Option (List Un) := fun (a0, a1, a2, a3, a4, a5, a6, a7, a8, a9, a10) =>
 chk (decide (0 <= a0)) <|
 chk (decide (a10.length <= 1000) && a10.all aI) <|
 chk (decide (0 <= a0)) <|
 wR m m ((bt bk a10), (ao 5 a10), (ao 6 a10), 0, (a10.length : Int), 0, a1, a2, a3, a4, a5, a6, a7, a8, a9, a10)
theorem En (m : Nat) (b s t : Int) (xa : aw) (xb : az) (xn : ak) (x1 x2 x3 x4 x5 x6 : List Dat) : ∀ (rest pre : List Dat) (n : Nat) (u : Int), rest.length < n -> (pre ++ rest).length <= 1000 -> (∀ d ∈ rest, aI d = true) -> 0 <= u -> u <= 1099511627776 * pre.length ->
 wR m n (b, s, t, u, ((pre ++ rest).length : Int), (pre.length : Int), xa, xb, xn, x1, x2, x3, x4, x5, x6, pre ++ rest) = some ([.i b, .i s, .i t, .i (u + bt unD rest)] ++ Uns.enc xa ++ Uns.enc xb ++ Uns.enc xn ++ [.d x1, .d x2, .d x3, .d x4, .d x5, .d x6, .d (pre ++ rest)]) := by
 intro rest
 induction rest with
 | nil =>
  intro pre n u hn hl hg u0 u1; obtain ⟨n, rfl⟩ := al n (by simp at hn; omega); rw [sr]; unfold yk; dsimp only; simp [aF, bt]
 | cons x rest ih =>
  intro pre n u hn hl hg u0 u1; obtain ⟨n, rfl⟩ := al n (by simp at hn; omega); simp only [zac, zad] at hn hl; have hx := ca (hg x (by simp)); rw [sr]; unfold yk; dsimp only; have := ih (pre ++ [x]) n (u + unD x) (by omega) (by simp; omega) (fun d hd => hg d (by simp [hd])) (by unfold unD; omega) (by simp [unD]; omega); simp only [bt, unD] at this ⊢; simp (disch := omega) only [TRa, TRi, aa, LNl, LNi, zaa, ax]; simp only [LNl, LNi, zaa] at this ⊢; exact this
def f35 : Int × aw × az × ak × List Dat × List Dat × List Dat × List Dat × List Dat × List Dat × List Dat -> Bool × List Un := fun (a0, a1, a2, a3, a4, a5, a6, a7, a8, a9, a10) => (decide (0 <= a0) && (decide (a10.length <= 1000) && a10.all aI), [.i (bt bk a10), .i (ao 5 a10), .i (ao 6 a10), .i (bt unD a10)] ++ Uns.enc ((a1) : aw) ++ Uns.enc ((a2) : az) ++ Uns.enc ((a3) : ak) ++ [.d (a4), .d (a5), .d (a6), .d (a7), .d (a8), .d (a9), .d (a10)])
theorem N1 (a0 : Int) (a1 : aw) (a2 : az) (a3 : ak) (a4 : List Dat) (a5 : List Dat) (a6 : List Dat) (a7 : List Dat) (a8 : List Dat) (a9 : List Dat) (a10 : List Dat) (hc : (decide (0 <= a0) && (decide (a10.length <= 1000) && a10.all aI)) = true) : ∃ m, t35 m (a0, a1, a2, a3, a4, a5, a6, a7, a8, a9, a10) = some ([.i (bt bk a10), .i (ao 5 a10), .i (ao 6 a10), .i (bt unD a10)] ++ Uns.enc ((a1) : aw) ++ Uns.enc ((a2) : az) ++ Uns.enc ((a3) : ak) ++ [.d (a4), .d (a5), .d (a6), .d (a7), .d (a8), .d (a9), .d (a10)]) := by
 have hc' := hc; simp only [zab, zai, zan] at hc'; refine ⟨a10.length + 1, ?_⟩; unfold t35; dsimp only; rw [(zaq.1 hc).2, iF]; simp (disch := omega) only [aO]; exact (En (a10.length + 1) _ _ _ _ _ _ _ _ _ _ _ _ a10 [] (a10.length + 1) 0 (by omega) (by simpa using hc'.2.1) hc'.2.2 (by omega) (by simp)).trans (by simp only [za2, zaV])
theorem Ih : ER 35 (mkE N35.en N35.ex f35) := an ah T76.right (fun m => [HQ (wR m m)]) (t := t35) (by kernel_rfl) (fun m => (aL (Qc m m) aA)) (fun m a => by kernel_rfl) fun (a0, a1, a2, a3, a4, a5, a6, a7, a8, a9, a10) hc => N1 a0 a1 a2 a3 a4 a5 a6 a7 a8 a9 a10 hc
def T35 : Tb Tryz.prog LQ TE XX := T76.add 35 _ Ih
theorem E4 {d : Dat} (c : Int) (h : aI d = true) : aI (rm c d) = true := by
 have := ca h; refine zah ?_
 simp only [rm, mF, bk, eA, eV, tY, nu, nL]; omega
theorem AQ {d : Dat} (c : Int) (h : aI d = true) : aI (dJ c d) = true := by
 have := ca h; refine zah ?_
 simp only [dJ, mF, bk, eA, eV, tY, nu, nL]; omega
theorem Bn {d : Dat} (c : Int) (h : aI d = true) : aI (fy c d) = true := by
 have := ca h; refine zah ?_
 simp only [fy, mB, eA, eV, tY, nu, nL]; omega
theorem gT : ∀ l : List Dat, (∀ d ∈ l, aI d = true) -> (0 <= bt bk l /\ bt bk l <= 1099511627776 * l.length) /\ (0 <= ao 5 l /\ ao 5 l <= 1125899906842624 * l.length) /\ (0 <= ao 6 l /\ ao 6 l <= 1099511627776 * l.length) /\ (0 <= bt unD l /\ bt unD l <= 1099511627776 * l.length) /\ bt unD l = bt bk l + ao 6 l
 | [], _ => by simp [bt, ao]
 | d :: l, h => by
  have h1 := ca (h d (by simp)); have h2 := gT l fun x hx => h x (by simp [hx])
  simp only [bt, ao, zac, zaA, bk, unD] at h2 ⊢; omega
theorem Am (f : Dat -> Int) (y : Dat) : ∀ (l : List Dat) (j : Nat), j < l.length -> bt f (l.set j y) = bt f l - f (ag l j) + f y
 | [], j, h => by simp at h
 | d :: l, 0, h => by simp only [List.set_cons_zero, bt, ag, zaI]; omega
 | d :: l, j + 1, h => by
  have := Am f y l j (by simpa using h); simp only [ag] at this; simp only [zbQ, bt, ag, zat, this]; omega
theorem C5 {p : Dat -> Prop} {l : List Dat} {j : Nat} {y : Dat} (h : ∀ d ∈ l, p d) (hy : p y) : ∀ d ∈ l.set j y, p d := fun d hd => by
 rcases zbK hd with h1 | rfl
 . exact h d h1
 . exact hy
theorem uq {l : List Dat} {j : Nat} (h : j < l.length) : ag l j ∈ l := by rw [mw h]; exact zbu h
def N86 : aC := ⟨T35.tab, 86, ⟨[.agg [.bool, .bool, .bool, .bool]], [], 0⟩, ⟨[.bool], [], 0⟩, []⟩
def t86 (m : Nat) : Bool × Bool × Bool × Bool -> Option (List Un) := fun (a0, a1, a2, a3) =>
 bif !a0 then
 some ([.b true])
 else
 bif !a2 then
 some ([.b true])
 else
 some ([.b !a3])
def f86 : Bool × Bool × Bool × Bool -> Bool × List Un := fun (a0, a1, a2, a3) => (true, [.b (!a0 || (!a2 || !a3))])
theorem L9 (a0 : Bool) (a1 : Bool) (a2 : Bool) (a3 : Bool) : ∃ m, t86 m (a0, a1, a2, a3) = some ([.b (!a0 || (!a2 || !a3))]) := by
 refine ⟨0, ?_⟩; unfold t86; cases a0 <;> cases a2 <;> cases a3 <;> rfl
theorem Iz : ER 86 (mkE N86.en N86.ex f86) := an ah T35.right (fun m => []) (t := t86) (by kernel_rfl) (fun m => aA) (fun m a => by kernel_rfl) fun (a0, a1, a2, a3) hc => L9 a0 a1 a2 a3
def T86 : Tb Tryz.prog LQ TE XX := T35.add 86 _ Iz
def dK (mode bf eL : Int) (oc ic late nQ : Bool) : Int × Int :=
 if mode = 2 \/ ic = false then (2, 0)
 else if oc = false \/ late = false \/ nQ = false then (1, 0)
 else if mode ≠ 1 \/ eL <= bf \/ bf + 1 = eL then (0, 0)
 else (1, bf + 1)
def N43 : aC := ⟨T86.tab, 43, ⟨[.agg [.int .i64, .int .i64], .int .i64, .agg [.bool, .bool, .bool, .bool]], [], 0⟩, ⟨[.agg [.int .i64, .int .i64]], [], 0⟩, []⟩
def t43 (m : Nat) : Int × Int × Int × Bool × Bool × Bool × Bool -> Option (List Un) := fun (a0, a1, a2, a3, a4, a5, a6) =>
 bif a0 == 2 then
 some ([.i 2, .i 0])
 else
 bif !a4 then
 some ([.i 2, .i 0])
 else
 bif (!a3 || (!a5 || !a6)) then
 some ([.i 1, .i 0])
 else
 bif a0 != 1 then
 some ([.i 0, .i 0])
 else
 bif decide (a1 >= a2) then
 some ([.i 0, .i 0])
 else
 bif (w64 (a1 + 1)) == a2 then
 some ([.i 0, .i 0])
 else
 some ([.i 1, .i (w64 (a1 + 1))])
def f43 : Int × Int × Int × Bool × Bool × Bool × Bool -> Bool × List Un := fun (a0, a1, a2, a3, a4, a5, a6) => (decide (0 <= a1 /\ a1 <= 1000000), [.i ((dK a0 a1 a2 a3 a4 a5 a6).1), .i ((dK a0 a1 a2 a3 a4 a5 a6).2)])
theorem M5 (a0 : Int) (a1 : Int) (a2 : Int) (a3 : Bool) (a4 : Bool) (a5 : Bool) (a6 : Bool) (hc : (decide (0 <= a1 /\ a1 <= 1000000)) = true) : ∃ m, t43 m (a0, a1, a2, a3, a4, a5, a6) = some ([.i ((dK a0 a1 a2 a3 a4 a5 a6).1), .i ((dK a0 a1 a2 a3 a4 a5 a6).2)]) := by
 have h := zaj hc; refine ⟨0, ?_⟩; unfold t43 dK
 by_cases h1 : a0 = 2
 . simp (disch := omega) only [TRa, TRi, aa]; simp [h1]
 . cases a4
   . simp (disch := omega) only [TRa, TRi, aa]; simp
   . cases a3 <;> cases a5 <;> cases a6 <;> simp [h1, gg] <;> by_cases h2 : a0 = 1 <;> by_cases h3 : a2 <= a1 <;> by_cases h4 : a1 + 1 = a2 <;> simp (disch := omega) only [TRa, TRi, aa] <;> simp [h2, h3, h4]
theorem JS : ER 43 (mkE N43.en N43.ex f43) := an ah T86.right (fun m => []) (t := t43) (by kernel_rfl) (fun m => aA) (fun m a => by kernel_rfl) fun (a0, a1, a2, a3, a4, a5, a6) hc => M5 a0 a1 a2 a3 a4 a5 a6 hc
def T43 : Tb Tryz.prog LQ TE XX := T86.add 43 _ JS
def de (n : Int) : Int := if n < 1 then 0 else if n < 3 then 1 else if n < 6 then 2 else 3
def PO : aC := ⟨T43.tab, 122, ⟨[.int .i64], [], 0⟩, ⟨[.int .i64], [], 0⟩, []⟩
def t122 (m : Nat) : Int -> Option (List Un) := fun a0 =>
 bif decide (a0 < 1) then
 some ([.i 0])
 else
 bif decide (a0 < 3) then
 some ([.i 1])
 else
 bif decide (a0 < 6) then
 some ([.i 2])
 else
 some ([.i 3])
def f122 : Int -> Bool × List Un := fun a0 => (true, [.i (de a0)])
theorem Jg (a0 : Int) : ∃ m, t122 m a0 = some ([.i (de a0)]) := by
 refine ⟨0, ?_⟩; unfold t122 de
 by_cases h1 : a0 < 1 <;> by_cases h2 : a0 < 3 <;> by_cases h3 : a0 < 6 <;> simp [h1, h2, h3]
theorem G7 : ER 122 (mkE PO.en PO.ex f122) := an ah T43.right (fun m => []) (t := t122) (by kernel_rfl) (fun m => aA) (fun m a => by kernel_rfl) fun a0 hc => Jg a0
def Jy : Tb Tryz.prog LQ TE XX := T43.add 122 _ G7
def cU (d : Dat) : Bool := decide (0 <= d.i 1 /\ d.i 1 <= 1099511627776)
def ct (j : Int) (l : List Dat) : Int := bt (fun d => if de (d.i 3) = j then d.i 1 else 0) l
theorem Eh (n : Int) : de n = 0 \/ de n = 1 \/ de n = 2 \/ de n = 3 := by
 unfold de
 split
 . exact .inl rfl
 . split
   . exact .inr (.inl rfl)
   . split
     . exact .inr (.inr (.inl rfl))
     . exact .inr (.inr (.inr rfl))
theorem oh {d : Dat} (h : cU d = true) : 0 <= d.i 1 /\ d.i 1 <= 1099511627776 := zaj h
def N90 : aC := ⟨Jy.tab, 90, ⟨[.ai (sB 4)], [], 0⟩, ⟨[.agg [.int .i64, .int .i64, .int .i64, .int .i64]], [], 0⟩, []⟩
abbrev Dv : Type := List Dat × Int × Int × Int × Int × Int × Int × Int × Int × Int × Int
def yy (m : Nat) (k : Dv -> Option (List Un)) : Dv -> Option (List Un) := fun (a0, a1, a2, a3, a4, a5, a6, a7, a8, a9, a10) =>
 bif decide (a2 < a1) then
 chk (inb a2 a0.length) <|
 chk (decide (a2.toNat < a0.length)) <|
 lt (ag a0 a2.toNat : Dat) fun d1 =>
 chk (inb (de (d1.i 3)) 4) <|
 chk (decide ((de (d1.i 3)).toNat < 4)) <|
 lt ((List.getD [a7, a8, a9, a10] ((de (d1.i 3)).toNat) 0) : Int) fun x2 =>
 chk (inb (de (d1.i 3)) 4) <|
 chk (decide ((de (d1.i 3)).toNat < 4)) <|
 k (a0, a1, (w64 (a2 + 1)), a3, a4, a5, a6, (bif decide ((de (d1.i 3)).toNat = 0) then (w64 (x2 + (d1.i 1))) else a7), (bif decide ((de (d1.i 3)).toNat = 1) then (w64 (x2 + (d1.i 1))) else a8), (bif decide ((de (d1.i 3)).toNat = 2) then (w64 (x2 + (d1.i 1))) else a9), (bif decide ((de (d1.i 3)).toNat = 3) then (w64 (x2 + (d1.i 1))) else a10))
 else
 some ([.i a7, .i a8, .i a9, .i a10])
def vG (m : Nat) : Nat -> Dv -> Option (List Un) := bp (yy m)
theorem tX (m : Nat) (n : Nat) : vG m (n + 1) = yy m (vG m n) := rfl
def GO (F : Dv -> Option (List Un)) : aW := ⟨[.lp [0, 1, 0, 1, 1], .blk 0, .code [1, 1, 1]], ⟨frm 24 [(2, .ptr 0 0 0), (3, .ptr 1 0 0), (6, .ai (sB 4)), (7, .int .i64), (8, .int .i64)], [.cells [.int .i64, .int .i64, .int .i64, .int .i64], .cells [.int .i64, .int .i64, .int .i64, .int .i64]], 0⟩, onU F⟩
theorem Qd (m : Nat) : ∀ n, HO N90 (GO (vG m n)) := au ah Jy.right (fun k => [GO k]) (fun k h => (aL h aA)) fun k a => by kernel_rfl
def t90 (m : Nat) : List Dat -> Option (List Un) := fun a0 =>
 vG m m (a0, (a0.length : Int), 0, 0, 0, 0, 0, 0, 0, 0, 0)
set_option maxHeartbeats 2000000 in
theorem KD (m : Nat) (z0 z1 z2 z3 : Int) : ∀ (rest pre : List Dat) (n : Nat) (b0 b1 b2 b3 : Int), rest.length < n -> (pre ++ rest).length <= 1000 -> (∀ d ∈ rest, cU d = true) -> (0 <= b0 /\ b0 <= 1099511627776 * pre.length) -> (0 <= b1 /\ b1 <= 1099511627776 * pre.length) -> (0 <= b2 /\ b2 <= 1099511627776 * pre.length) -> (0 <= b3 /\ b3 <= 1099511627776 * pre.length) ->
 vG m n (pre ++ rest, ((pre ++ rest).length : Int), (pre.length : Int), z0, z1, z2, z3, b0, b1, b2, b3) = some [.i (b0 + ct 0 rest), .i (b1 + ct 1 rest), .i (b2 + ct 2 rest), .i (b3 + ct 3 rest)] := by
 intro rest
 induction rest with
 | nil =>
  intro pre n b0 b1 b2 b3 hn hl hg h0 h1 h2 h3; obtain ⟨n, rfl⟩ := al n (by simp at hn; omega); rw [tX]; unfold yy; dsimp only; simp [aF, bt, ct]
 | cons x rest ih =>
  intro pre n b0 b1 b2 b3 hn hl hg h0 h1 h2 h3; obtain ⟨n, rfl⟩ := al n (by simp at hn; omega); simp only [zac, zad] at hn hl; have hx := oh (hg x (by simp)); have ih' := fun b0 b1 b2 b3 => ih (pre ++ [x]) n b0 b1 b2 b3 (by omega) (by simp; omega) (fun d hd => hg d (by simp [hd]))
  rw [tX]; unfold yy; dsimp only; simp only [ct, bt] at ih' ⊢; rcases Eh (x.i 3) with hb | hb | hb | hb
  . have := ih' (b0 + x.i 1) b1 b2 b3 (by simp; omega) (by simp; omega) (by simp; omega) (by simp; omega); simp (disch := omega) only [TRa, TRi, aa, LNl, LNi, zaa, ax, hb, Int.reduceToNat, zaI, zat, za9, Int.reduceEq, zbf]; simp only [Nat.reduceEqDiff, zaU, zaS, zaC, zao, reduceCtorEq, Nat.zero_ne_one, Nat.one_ne_zero, za9, zbf, Int.reduceEq, za2]; simp only [LNl, LNi, zaa] at this ⊢; exact this
  . have := ih' b0 (b1 + x.i 1) b2 b3 (by simp; omega) (by simp; omega) (by simp; omega) (by simp; omega); simp (disch := omega) only [TRa, TRi, aa, LNl, LNi, zaa, ax, hb, Int.reduceToNat, zaI, zat, za9, Int.reduceEq, zbf]; simp only [Nat.reduceEqDiff, zaU, zaS, zaC, zao, reduceCtorEq, Nat.zero_ne_one, Nat.one_ne_zero, za9, zbf, Int.reduceEq, za2]; simp only [LNl, LNi, zaa] at this ⊢; exact this
  . have := ih' b0 b1 (b2 + x.i 1) b3 (by simp; omega) (by simp; omega) (by simp; omega) (by simp; omega); simp (disch := omega) only [TRa, TRi, aa, LNl, LNi, zaa, ax, hb, Int.reduceToNat, zaI, zat, za9, Int.reduceEq, zbf]; simp only [Nat.reduceEqDiff, zaU, zaS, zaC, zao, reduceCtorEq, Nat.zero_ne_one, Nat.one_ne_zero, za9, zbf, Int.reduceEq, za2]; simp only [LNl, LNi, zaa] at this ⊢; exact this
  . have := ih' b0 b1 b2 (b3 + x.i 1) (by simp; omega) (by simp; omega) (by simp; omega) (by simp; omega); simp (disch := omega) only [TRa, TRi, aa, LNl, LNi, zaa, ax, hb, Int.reduceToNat, zaI, zat, za9, Int.reduceEq, zbf]; simp only [Nat.reduceEqDiff, zaU, zaS, zaC, zao, reduceCtorEq, Nat.zero_ne_one, Nat.one_ne_zero, za9, zbf, Int.reduceEq, za2]; simp only [LNl, LNi, zaa] at this ⊢; exact this
def f90 : List Dat -> Bool × List Un := fun a0 => (decide (a0.length <= 1000) && a0.all cU, [.i (ct 0 a0), .i (ct 1 a0), .i (ct 2 a0), .i (ct 3 a0)])
theorem Mx (a0 : List Dat) (hc : (decide (a0.length <= 1000) && a0.all cU) = true) : ∃ m, t90 m a0 = some ([.i (ct 0 a0), .i (ct 1 a0), .i (ct 2 a0), .i (ct 3 a0)]) := by
 simp only [zab, zai, zan] at hc; refine ⟨a0.length + 1, ?_⟩; exact (KD (a0.length + 1) _ _ _ _ a0 [] (a0.length + 1) 0 0 0 0 (by omega) (by simpa using hc.1) hc.2 (by simp) (by simp) (by simp) (by simp)).trans (by simp only [za2])
theorem IE : ER 90 (mkE N90.en N90.ex f90) := an ah Jy.right (fun m => [GO (vG m m)]) (t := t90) (by kernel_rfl) (fun m => (aL (Qd m m) aA)) (fun m a => by kernel_rfl) fun a0 hc => Mx a0 hc
def T90 : Tb Tryz.prog LQ TE XX := Jy.add 90 _ IE
def Ar (a b c d k : Int) : Int := (if k <= 0 then a else 0) + (if k <= 1 then b else 0) + (if k <= 2 then c else 0) + (if k <= 3 then d else 0)
def N91 : aC := ⟨T90.tab, 91, ⟨[.agg [.int .i64, .int .i64, .int .i64, .int .i64], .int .i64], [], 0⟩, ⟨[.int .i64], [], 0⟩, []⟩
abbrev CR : Type := Int × Int × Int × Int × Int × Int
def nN (m : Nat) (k : CR -> Option (List Un)) : CR -> Option (List Un) := fun (a0, a1, a2, a3, a4, a5) =>
 bif decide (a1 < 4) then
 chk (inb a1 4) <|
 chk (decide (a1.toNat < 4)) <|
 k ((w64 (a0 + (List.getD [a2, a3, a4, a5] a1.toNat 0))), (w64 (a1 + 1)), a2, a3, a4, a5)
 else
 some ([.i a0])
def fN (m : Nat) : Nat -> CR -> Option (List Un) := bp (nN m)
theorem jc (m : Nat) (n : Nat) : fN m (n + 1) = nN m (fN m n) := rfl
def E9 (F : CR -> Option (List Un)) : aW := ⟨[.lp [0, 1, 0, 1, 1], .blk 0, .code [1, 1, 1]], ⟨frm 19 [(2, .ptr 0 0 0), (5, .int .i64), (6, .int .i64)], [.cells [.int .i64, .int .i64, .int .i64, .int .i64]], 0⟩, onU F⟩
theorem OS (m : Nat) : ∀ n, HO N91 (E9 (fN m n)) := au ah T90.right (fun k => [E9 k]) (fun k h => (aL h aA)) fun k a => by kernel_rfl
def t91 (m : Nat) : Int × Int × Int × Int × Int -> Option (List Un) := fun (a0, a1, a2, a3, a4) =>
 fN m m (0, (if a4 < 0 then 0 else a4), a0, a1, a2, a3)
def f91 : Int × Int × Int × Int × Int -> Bool × List Un := fun (a0, a1, a2, a3, a4) => (decide (0 <= a0 /\ a0 <= 1152921504606846976 /\ 0 <= a1 /\ a1 <= 1152921504606846976 /\ 0 <= a2 /\ a2 <= 1152921504606846976 /\ 0 <= a3 /\ a3 <= 1152921504606846976), [.i (Ar a0 a1 a2 a3 a4)])
theorem NI (a0 : Int) (a1 : Int) (a2 : Int) (a3 : Int) (a4 : Int) (hc : (decide (0 <= a0 /\ a0 <= 1152921504606846976 /\ 0 <= a1 /\ a1 <= 1152921504606846976 /\ 0 <= a2 /\ a2 <= 1152921504606846976 /\ 0 <= a3 /\ a3 <= 1152921504606846976)) = true) : ∃ m, t91 m (a0, a1, a2, a3, a4) = some ([.i (Ar a0 a1 a2 a3 a4)]) := by
 have h := zaj hc; refine ⟨6, ?_⟩; unfold t91 Ar; dsimp only; have f0 : ∀ (n : Nat) (i s : Int), 4 <= i -> fN 6 (n + 1) (s, i, a0, a1, a2, a3) = some [.i s] := by
  intro n i s hi; rw [jc]; unfold nN; dsimp only; rw [aF (by omega)]
 have f3 : ∀ (n : Nat) (s : Int), 0 <= s -> s <= 3458764513820540928 -> fN 6 (n + 2) (s, 3, a0, a1, a2, a3) = some [.i (s + a3)] := by
  intro n s h1 h2; rw [jc]; unfold nN; dsimp only; simp (disch := omega) only [bJ, dV, aO, Int.reduceToNat, zaI, zat, aa, Int.reduceAdd, f0]
 have f2 : ∀ (n : Nat) (s : Int), 0 <= s -> s <= 2305843009213693952 -> fN 6 (n + 3) (s, 2, a0, a1, a2, a3) = some [.i (s + a2 + a3)] := by
  intro n s h1 h2; rw [jc]; unfold nN; dsimp only; simp (disch := omega) only [bJ, dV, aO, Int.reduceToNat, zaI, zat, aa, Int.reduceAdd, f3]
 have f1 : ∀ (n : Nat) (s : Int), 0 <= s -> s <= 1152921504606846976 -> fN 6 (n + 4) (s, 1, a0, a1, a2, a3) = some [.i (s + a1 + a2 + a3)] := by
  intro n s h1 h2; rw [jc]; unfold nN; dsimp only; simp (disch := omega) only [bJ, dV, aO, Int.reduceToNat, zaI, zat, aa, Int.reduceAdd, f2]
 by_cases k0 : a4 <= 0
 . rw [show (if a4 < 0 then 0 else a4) = (0 : Int) by split <;> omega, show fN 6 6 = fN 6 (5 + 1) from rfl, jc]; unfold nN; dsimp only; simp (disch := omega) only [bJ, dV, aO, Int.reduceToNat, zaI, zat, aa, Int.reduceAdd, za2]; rw [show fN 6 5 = fN 6 (1 + 4) from rfl, f1 _ _ (by omega) (by omega), if_pos k0, if_pos (by omega), if_pos (by omega), if_pos (by omega)]
 . rw [if_neg (show ¬ a4 < 0 by omega), if_neg k0]
   by_cases k1 : a4 = 1
   . subst k1; rw [show fN 6 6 = fN 6 (2 + 4) from rfl, f1 _ _ (by omega) (by omega)]; simp
   . by_cases k2 : a4 = 2
     . subst k2; rw [show fN 6 6 = fN 6 (3 + 3) from rfl, f2 _ _ (by omega) (by omega)]; simp
     . by_cases k3 : a4 = 3
       . subst k3; rw [show fN 6 6 = fN 6 (4 + 2) from rfl, f3 _ _ (by omega) (by omega)]; simp
       . rw [f0 _ _ _ (by omega), if_neg (by omega), if_neg (by omega), if_neg (by omega)]; simp
theorem JY : ER 91 (mkE N91.en N91.ex f91) := an ah T90.right (fun m => [E9 (fN m m)]) (t := t91) (by kernel_rfl) (fun m => (aL (OS m m) aA)) (fun m a => by kernel_rfl) fun (a0, a1, a2, a3, a4) hc => NI a0 a1 a2 a3 a4 hc
def T91 : Tb Tryz.prog LQ TE XX := T90.add 91 _ JY
theorem QF (a : List Dat) : (ag [.r [.r a]] 0).d 0 = a := rfl
def N32 : aC := ⟨T91.tab, 32, ⟨[.dpt [.ai (sB 4)]], [], 0⟩, ⟨[.int .i64], [], 0⟩, []⟩
abbrev DI : Type := Int × List Dat × Int × Int
def yt (m : Nat) (k : DI -> Option (List Un)) : DI -> Option (List Un) := fun (a0, a1, a2, a3) =>
 bif decide (a3 < a2) then
 chk (inb a3 a1.length) <|
 chk (decide (a3.toNat < a1.length)) <|
 k ((w64 (a0 + ((ag a1 a3.toNat).i 1))), a1, a2, (w64 (a3 + 1)))
 else
 some ([.i a0])
def xd (m : Nat) : Nat -> DI -> Option (List Un) := bp (yt m)
theorem tZ (m : Nat) (n : Nat) : xd m (n + 1) = yt m (xd m n) := rfl
def GA (F : DI -> Option (List Un)) : aW := ⟨[.lp [0, 1, 0, 1, 1], .blk 0, .code [1, 1, 1]], ⟨frm 22 [(3, .int .i64), (9, .ai (sB 4)), (10, .int .i64), (11, .int .i64)], [], 0⟩, onU F⟩
theorem P4 (m : Nat) : ∀ n, HO N32 (GA (xd m n)) := au ah T91.right (fun k => [GA k]) (fun k h => (aL h aA)) fun k a => by kernel_rfl
def t32 (m : Nat) : List Dat -> Option (List Un) := fun a0 =>
 chk (decide (0 < a0.length)) <|
 xd m m (0, ((ag a0 0).d 0), (((ag a0 0).d 0).length : Int), 0)
theorem HX (m : Nat) : ∀ (rest pre : List Dat) (n : Nat) (b : Int), rest.length < n -> (pre ++ rest).length <= 1000 -> (∀ d ∈ rest, cU d = true) -> 0 <= b -> b <= 1099511627776 * pre.length ->
 xd m n (b, pre ++ rest, ((pre ++ rest).length : Int), (pre.length : Int)) = some [.i (b + ao 1 rest)] := by
 intro rest
 induction rest with
 | nil =>
  intro pre n b hn hl hg h0 h1; obtain ⟨n, rfl⟩ := al n (by simp at hn; omega); rw [tZ]; unfold yt; dsimp only; simp [aF, ao]
 | cons x rest ih =>
  intro pre n b hn hl hg h0 h1; obtain ⟨n, rfl⟩ := al n (by simp at hn; omega); simp only [zac, zad] at hn hl; have hx := oh (hg x (by simp)); rw [tZ]; unfold yt; dsimp only; have := ih (pre ++ [x]) n (b + x.i 1) (by omega) (by simp; omega) (fun d hd => hg d (by simp [hd])) (by omega) (by simp; omega); simp only [ao] at this ⊢; simp (disch := omega) only [TRa, TRi, aa, LNl, LNi, zaa, ax]; simp only [LNl, LNi, zaa] at this ⊢; exact this
def f32 : List Dat -> Bool × List Un := fun a0 => (decide (0 < a0.length) && (decide (((ag a0 0).d 0).length <= 1000) && ((ag a0 0).d 0).all cU), [.i (ao 1 ((ag a0 0).d 0))])
theorem NS (a0 : List Dat) (hc : (decide (0 < a0.length) && (decide (((ag a0 0).d 0).length <= 1000) && ((ag a0 0).d 0).all cU)) = true) : ∃ m, t32 m a0 = some ([.i (ao 1 ((ag a0 0).d 0))]) := by
 simp only [zab, zai, zan] at hc; refine ⟨((ag a0 0).d 0).length + 1, ?_⟩; unfold t32; rw [aO hc.1]; exact (HX _ ((ag a0 0).d 0) [] (((ag a0 0).d 0).length + 1) 0 (by omega) (by simpa using hc.2.1) hc.2.2 (by omega) (by simp)).trans (by simp only [za2])
theorem Jh : ER 32 (mkE N32.en N32.ex f32) := an ah T91.right (fun m => [GA (xd m m)]) (t := t32) (by kernel_rfl) (fun m => (aL (P4 m m) aA)) (fun m a => by kernel_rfl) fun a0 hc => NS a0 hc
def T32 : Tb Tryz.prog LQ TE XX := T91.add 32 _ Jh
def N20 : aC := ⟨T32.tab, 20, ⟨[.dpt [.ai (sB 4)]], [], 0⟩, ⟨[.buf 0 5], [.ai (sB 4)], 0⟩, []⟩
def t20 (m : Nat) : List Dat -> Option (List Un) := fun a0 =>
 chk (decide (0 < a0.length)) <|
 chk (decide (((ag a0 0).d 0).length < 1000000)) <|
 some ([.d ((ag a0 0).d 0)])
def f20 : List Dat -> Bool × List Un := fun a0 => (decide (0 < a0.length) && decide (((ag a0 0).d 0).length < 1000000), [.d ((ag a0 0).d 0)])
theorem LO (a0 : List Dat) (hc : (decide (0 < a0.length) && decide (((ag a0 0).d 0).length < 1000000)) = true) : ∃ m, t20 m a0 = some ([.d ((ag a0 0).d 0)]) := by
 simp only [zab, zai] at hc; refine ⟨0, ?_⟩; unfold t20; rw [aO hc.1, aO hc.2]
theorem Lh : ER 20 (mkE N20.en N20.ex f20) := an ah T32.right (fun m => []) (t := t20) (by kernel_rfl) (fun m => aA) (fun m a => by kernel_rfl) fun a0 hc => LO a0 hc
def T20 : Tb Tryz.prog LQ TE XX := T32.add 20 _ Lh
theorem mc (j : Int) : ∀ (l : List Dat), (∀ d ∈ l, cU d = true) -> 0 <= ct j l /\ ct j l <= 1099511627776 * l.length
 | [], _ => by simp [ct, bt]
 | x :: l, h => by
  have h1 := oh (h x (by simp)); have h2 := mc j l fun d hd => h d (by simp [hd])
  simp only [ct, bt, zac, zaA, zaa] at h2 ⊢
  split <;> omega
def N45 : aC := ⟨T20.tab, 45, ⟨[.np 0 0 0, .int .i64, .int .i64], cd 0, 9⟩, ⟨[.agg [.int .i64, .int .i64, .int .i64, .int .i64, .int .i64, .int .i64, .int .i64]], cd 0, 9⟩, []⟩
def t45 (m : Nat) : Int × Int × Int × aw × az × ak × List Dat × List Dat × List Dat × List Dat × List Dat × List Dat × List Dat -> Option (List Un) := fun (a0, a1, a2, a3, a4, a5, a6, a7, a8, a9, a10, a11, a12) =>
 chk (decide (0 <= a0) && (decide (a12.length <= 1000) && a12.all aI)) <|
 chk (decide (0 <= a0)) <|
 chk (decide (0 < ([.r [.r a11]] : List Dat).length) && (decide (((ag ([.r [.r a11]] : List Dat) 0).d 0).length <= 1000) && ((ag ([.r [.r a11]] : List Dat) 0).d 0).all cU)) <|
 chk (decide (0 <= a0)) <|
 chk (decide (0 <= a0)) <|
 chk (decide (0 < ([.r [.r a11]] : List Dat).length) && decide (((ag ([.r [.r a11]] : List Dat) 0).d 0).length < 1000000)) <|
 lt (((ag ([.r [.r a11]] : List Dat) 0).d 0) : List Dat) fun l5 =>
 chk (decide (l5.length <= 1000) && l5.all cU) <|
 chk (decide (0 <= (ct 0 l5) /\ (ct 0 l5) <= 1152921504606846976 /\ 0 <= (ct 1 l5) /\ (ct 1 l5) <= 1152921504606846976 /\ 0 <= (ct 2 l5) /\ (ct 2 l5) <= 1152921504606846976 /\ 0 <= (ct 3 l5) /\ (ct 3 l5) <= 1152921504606846976)) <|
 chk (decide (0 <= a0)) <|
 chk (decide (0 <= a0)) <|
 some ([.i (ao 1 ((ag ([.r [.r a11]] : List Dat) 0).d 0)), .i (((cu (⟨a3, a6, a7, a4, a8, a9, a10⟩ : bo)).getD (0, 0)).1), .i (bt bk a12), .i (if 1099511627776 < a1 then 1099511627776 else a1), .i (if 1099511627776 < a2 then 1099511627776 else a2), .i (Ar (ct 0 l5) (ct 1 l5) (ct 2 l5) (ct 3 l5) 2), .i (w64 (a5.aD - a5.aK))] ++ Uns.enc (a3 : aw) ++ Uns.enc (a4 : az) ++ Uns.enc (a5 : ak) ++ [.d a6, .d a7, .d a8, .d a9, .d a10, .d a11, .d a12])
def f45 : Int × Int × Int × aw × az × ak × List Dat × List Dat × List Dat × List Dat × List Dat × List Dat × List Dat -> Bool × List Un := fun (a0, a1, a2, a3, a4, a5, a6, a7, a8, a9, a10, a11, a12) => (decide (0 <= a0) && ((decide (a11.length <= 1000) && a11.all cU) && (decide (a12.length <= 1000) && a12.all aI)), [.i (ao 1 a11), .i (((cu (⟨a3, a6, a7, a4, a8, a9, a10⟩ : bo)).getD (0, 0)).1), .i (bt bk a12), .i (min a1 1099511627776), .i (min a2 1099511627776), .i (ct 2 a11 + ct 3 a11), .i (w64 (a5.aD - a5.aK))] ++ Uns.enc ((a3) : aw) ++ Uns.enc ((a4) : az) ++ Uns.enc ((a5) : ak) ++ [.d (a6), .d (a7), .d (a8), .d (a9), .d (a10), .d (a11), .d (a12)])
theorem L2 (a0 : Int) (a1 : Int) (a2 : Int) (a3 : aw) (a4 : az) (a5 : ak) (a6 : List Dat) (a7 : List Dat) (a8 : List Dat) (a9 : List Dat) (a10 : List Dat) (a11 : List Dat) (a12 : List Dat) (hc : (decide (0 <= a0) && ((decide (a11.length <= 1000) && a11.all cU) && (decide (a12.length <= 1000) && a12.all aI))) = true) : ∃ m, t45 m (a0, a1, a2, a3, a4, a5, a6, a7, a8, a9, a10, a11, a12) = some ([.i (ao 1 a11), .i (((cu (⟨a3, a6, a7, a4, a8, a9, a10⟩ : bo)).getD (0, 0)).1), .i (bt bk a12), .i (min a1 1099511627776), .i (min a2 1099511627776), .i (ct 2 a11 + ct 3 a11), .i (w64 (a5.aD - a5.aK))] ++ Uns.enc ((a3) : aw) ++ Uns.enc ((a4) : az) ++ Uns.enc ((a5) : ak) ++ [.d (a6), .d (a7), .d (a8), .d (a9), .d (a10), .d (a11), .d (a12)]) := by
 have hc' := hc; simp only [zab, zai, zan] at hc'; obtain ⟨h0, ⟨h1, h2⟩, h3, h4⟩ := hc'; have q1 : (decide (a11.length <= 1000) && a11.all cU) = true := (zaq.1 (zaq.1 hc).2).1; have q2 : (decide (a12.length <= 1000) && a12.all aI) = true := (zaq.1 (zaq.1 hc).2).2; have l0 := mc 0 a11 h2; have l1 := mc 1 a11 h2; have l2 := mc 2 a11 h2; have l3 := mc 3 a11 h2; refine ⟨0, ?_⟩; unfold t45; dsimp only [lt, QF, List.length_cons, List.length_nil]; simp only [zah h0, q1, q2, Bool.and_self, iF, show decide (0 < 0 + 1) = true from rfl, zah (show a11.length < 1000000 by omega)]; rw [aO (by omega)]; simp only [jH, Ar, Int.reduceLE, za9, zbf, za2, zbh]; exact ba (by rw [zab]; exact ⟨@zah _ _ h1, zan.2 h2⟩) (ba (@zah _ _ (by omega)) rfl)
theorem Ko : ER 45 (mkE N45.en N45.ex f45) := an ah T20.right (fun m => []) (t := t45) (by kernel_rfl) (fun m => aA) (fun m a => by kernel_rfl) fun (a0, a1, a2, a3, a4, a5, a6, a7, a8, a9, a10, a11, a12) hc => L2 a0 a1 a2 a3 a4 a5 a6 a7 a8 a9 a10 a11 a12 hc
def T45 : Tb Tryz.prog LQ TE XX := T20.add 45 _ Ko
theorem wV (pre pre' : List Dat) (x : Dat) (rest : List Dat) (h : pre'.length = pre.length) : ag (pre' ++ x :: rest) pre.length = x := by rw [<- h]; exact ax pre' x rest
def tJ : Nat -> Nat -> Dat -> Dat -> Bool
 | _, 0, _, _ => true
 | j, n + 1, x, y => x.i j == y.i j && tJ (j + 1) n x y
def cL (n : Nat) : List Dat -> List Dat -> Bool
 | [], [] => true
 | x :: a, y :: b => tJ 0 n x y && cL n a b
 | _, _ => false
def yW : Nat -> Nat -> Dat -> Dat -> Bool
 | j, 0, x, y => x.b j == y.b j
 | j, n + 1, x, y => x.i j == y.i j && yW (j + 1) n x y
def gu : List Int -> List Int -> Bool
 | [], [] => true
 | x :: a, y :: b => x == y && gu a b
 | _, _ => false
theorem pH (n : Nat) : ∀ (a b : List Dat), a.length ≠ b.length -> cL n a b = false
 | [], [], h => absurd rfl h
 | [], _ :: _, _ => rfl
 | _ :: _, [], _ => rfl
 | x :: a, y :: b, h => by simp [cL, pH n a b (by simpa using h)]
theorem w8 : ∀ (a b : List Int), a.length ≠ b.length -> gu a b = false
 | [], [], h => absurd rfl h
 | [], _ :: _, _ => rfl
 | _ :: _, [], _ => rfl
 | x :: a, y :: b, h => by simp [gu, w8 a b (by simpa using h)]
def N56 : aC := ⟨T45.tab, 56, ⟨[.ai (sI 3), .ai (sI 3)], [], 0⟩, ⟨[.bool], [], 0⟩, []⟩
abbrev Dk : Type := List Dat × List Dat × Int
def yP (m : Nat) (k : Dk -> Option (List Un)) : Dk -> Option (List Un) := fun (a0, a1, a2) =>
 bif (decide (a2 < (a0.length : Int))) then
 chk (inb a2 a0.length) <|
 chk (decide (a2.toNat < a0.length)) <|
 lt (ag a0 a2.toNat : Dat) fun d3 =>
 chk (inb a2 a1.length) <|
 chk (decide (a2.toNat < a1.length)) <|
 lt (ag a1 a2.toNat : Dat) fun d4 =>
 bif (!(((d3.i 0) == (d4.i 0)) && (((d3.i 1) == (d4.i 1)) && (((d3.i 2) == (d4.i 2)) && true)))) then
 some ([.b false])
 else
 k (a0, a1, (w64 (a2 + 1)))
 else
 some ([.b true])
def wT (m : Nat) : Nat -> Dk -> Option (List Un) := bp (yP m)
theorem tE (m : Nat) (n : Nat) : wT m (n + 1) = yP m (wT m n) := rfl
def GN (F : Dk -> Option (List Un)) : aW := ⟨[.lp [0, 1, 0, 1, 1], .blk 0, .code [1, 1, 1]], ⟨frm 26 [(0, .ai (sI 3)), (1, .ai (sI 3)), (5, .int .i64)], [], 0⟩, onU F⟩
theorem OX (m : Nat) : ∀ n, HO N56 (GN (wT m n)) := au ah T45.right (fun k => [GN k]) (fun k h => (aL h aA)) fun k a => by kernel_rfl
def t56 (m : Nat) : List Dat × List Dat -> Option (List Un) := fun (a0, a1) =>
 bif ((a0.length : Int) != (a1.length : Int)) then
 some ([.b false])
 else
 wT m m (a0, a1, 0)
theorem KZ (m : Nat) : ∀ (rest rest' pre pre' : List Dat) (n : Nat), rest.length < n -> pre'.length = pre.length -> rest'.length = rest.length -> (pre ++ rest).length < 1099511627776 ->
 wT m n (pre ++ rest, pre' ++ rest', (pre.length : Int)) = some [.b (cL 3 rest rest')] := by
 intro rest
 induction rest with
 | nil =>
  intro rest' pre pre' n hn hp hr hl; obtain ⟨n, rfl⟩ := al n (by simp at hn; omega); obtain rfl : rest' = [] := zav (by simpa using hr); rw [tE]; unfold yP; dsimp only; simp [aF, cL]
 | cons x rest ih =>
  intro rest' pre pre' n hn hp hr hl; obtain ⟨n, rfl⟩ := al n (by simp at hn; omega); obtain ⟨y, rest', rfl⟩ : ∃ y l, rest' = y :: l := by cases rest' with | nil => simp at hr | cons y l => exact ⟨y, l, rfl⟩
  simp only [zac, zad] at hn hl hr; have := ih rest' (pre ++ [x]) (pre' ++ [y]) n (by omega) (by simp [hp]) (by omega) (by simp; omega); rw [tE]; unfold yP; dsimp only; simp only [cL, tJ, yW, Nat.reduceAdd]; simp (disch := omega) only [TRa, TRi, aa, LNl, LNi, zaa, ax, wV _ _ _ _ hp]; simp only [LNl, LNi, zaa] at this ⊢
  (try simp only [bne, cond_not])
  cases (x.i 0 == y.i 0) <;> cases (x.i 1 == y.i 1) <;> cases (x.i 2 == y.i 2)
  all_goals (first | exact this | rfl)
def f56 : List Dat × List Dat -> Bool × List Un := fun (a0, a1) => (decide (a0.length < 1099511627776), [.b (cL 3 a0 a1)])
theorem LG (a0 : List Dat) (a1 : List Dat) (hc : (decide (a0.length < 1099511627776)) = true) : ∃ m, t56 m (a0, a1) = some ([.b (cL 3 a0 a1)]) := by
 have hs := zaj hc; refine ⟨a0.length + 1, ?_⟩; unfold t56; dsimp only
 by_cases h : a0.length = a1.length
 . rw [mQ (by omega)]; exact KZ _ a0 a1 [] [] _ (by omega) rfl h.symm (by simpa using hs)
 . rw [m5 (by omega), pH _ _ _ h]
theorem IS : ER 56 (mkE N56.en N56.ex f56) := an ah T45.right (fun m => [GN (wT m m)]) (t := t56) (by kernel_rfl) (fun m => (aL (OX m m) aA)) (fun m a => by kernel_rfl) fun (a0, a1) hc => LG a0 a1 hc
def T56 : Tb Tryz.prog LQ TE XX := T45.add 56 _ IS
def N18 : aC := ⟨T56.tab, 18, ⟨[.ints .u8, .ints .u8], [], 0⟩, ⟨[.bool], [], 0⟩, []⟩
abbrev DX : Type := List Int × List Int × Int
def yx (m : Nat) (k : DX -> Option (List Un)) : DX -> Option (List Un) := fun (a0, a1, a2) =>
 bif (decide (a2 < (a0.length : Int))) then
 chk (inb a2 a0.length) <|
 chk (decide (a2.toNat < a0.length)) <|
 chk (inb a2 a1.length) <|
 chk (decide (a2.toNat < a1.length)) <|
 bif ((a0.getD a2.toNat 0) != (a1.getD a2.toNat 0)) then
 some ([.b false])
 else
 k (a0, a1, (w64 (a2 + 1)))
 else
 some ([.b true])
def wK (m : Nat) : Nat -> DX -> Option (List Un) := bp (yx m)
theorem ux (m : Nat) (n : Nat) : wK m (n + 1) = yx m (wK m n) := rfl
def HK (F : DX -> Option (List Un)) : aW := ⟨[.lp [0, 1, 0, 1, 1], .blk 0, .code [1, 1, 1]], ⟨frm 26 [(0, .ints .u8), (1, .ints .u8), (5, .int .i64)], [], 0⟩, onU F⟩
theorem Oq (m : Nat) : ∀ n, HO N18 (HK (wK m n)) := au ah T56.right (fun k => [HK k]) (fun k h => (aL h aA)) fun k a => by kernel_rfl
def t18 (m : Nat) : List Int × List Int -> Option (List Un) := fun (a0, a1) =>
 bif ((a0.length : Int) != (a1.length : Int)) then
 some ([.b false])
 else
 wK m m (a0, a1, 0)
theorem JA (m : Nat) : ∀ (rest rest' pre pre' : List Int) (n : Nat), rest.length < n -> pre'.length = pre.length -> rest'.length = rest.length -> (pre ++ rest).length < 1099511627776 ->
 wK m n (pre ++ rest, pre' ++ rest', (pre.length : Int)) = some [.b (gu rest rest')] := by
 intro rest
 induction rest with
 | nil =>
  intro rest' pre pre' n hn hp hr hl; obtain ⟨n, rfl⟩ := al n (by simp at hn; omega); obtain rfl : rest' = [] := zav (by simpa using hr); rw [ux]; unfold yx; dsimp only; simp [aF, gu]
 | cons x rest ih =>
  intro rest' pre pre' n hn hp hr hl; obtain ⟨n, rfl⟩ := al n (by simp at hn; omega); obtain ⟨y, rest', rfl⟩ : ∃ y l, rest' = y :: l := by cases rest' with | nil => simp at hr | cons y l => exact ⟨y, l, rfl⟩
  simp only [zac, zad] at hn hl hr; have := ih rest' (pre ++ [x]) (pre' ++ [y]) n (by omega) (by simp [hp]) (by omega) (by simp; omega); rw [ux]; unfold yx; dsimp only; simp only [gu, tJ, yW, Nat.reduceAdd]; simp (disch := omega) only [TRa, TRi, aa, LNl, LNi, zaa, bx, wI _ _ _ _ _ hp]; simp only [LNl, LNi, zaa] at this ⊢
  (try simp only [bne, cond_not])
  cases (x == y)
  all_goals (first | exact this | rfl)
def f18 : List Int × List Int -> Bool × List Un := fun (a0, a1) => (decide (a0.length < 1099511627776), [.b (gu a0 a1)])
theorem Ny (a0 : List Int) (a1 : List Int) (hc : (decide (a0.length < 1099511627776)) = true) : ∃ m, t18 m (a0, a1) = some ([.b (gu a0 a1)]) := by
 have hs := zaj hc; refine ⟨a0.length + 1, ?_⟩; unfold t18; dsimp only
 by_cases h : a0.length = a1.length
 . rw [mQ (by omega)]; exact JA _ a0 a1 [] [] _ (by omega) rfl h.symm (by simpa using hs)
 . rw [m5 (by omega), w8 _ _ h]
theorem JU : ER 18 (mkE N18.en N18.ex f18) := an ah T56.right (fun m => [HK (wK m m)]) (t := t18) (by kernel_rfl) (fun m => (aL (Oq m m) aA)) (fun m a => by kernel_rfl) fun (a0, a1) hc => Ny a0 a1 hc
def T18 : Tb Tryz.prog LQ TE XX := T56.add 18 _ JU
def N55 : aC := ⟨T18.tab, 55, ⟨[.ai (sI 4), .ai (sI 4)], [], 0⟩, ⟨[.bool], [], 0⟩, []⟩
abbrev CK : Type := List Dat × List Dat × Int
def yK (m : Nat) (k : CK -> Option (List Un)) : CK -> Option (List Un) := fun (a0, a1, a2) =>
 bif (decide (a2 < (a0.length : Int))) then
 chk (inb a2 a0.length) <|
 chk (decide (a2.toNat < a0.length)) <|
 lt (ag a0 a2.toNat : Dat) fun d3 =>
 chk (inb a2 a1.length) <|
 chk (decide (a2.toNat < a1.length)) <|
 lt (ag a1 a2.toNat : Dat) fun d4 =>
 bif (!(((d3.i 0) == (d4.i 0)) && (((d3.i 1) == (d4.i 1)) && (((d3.i 2) == (d4.i 2)) && (((d3.i 3) == (d4.i 3)) && true))))) then
 some ([.b false])
 else
 k (a0, a1, (w64 (a2 + 1)))
 else
 some ([.b true])
def wG (m : Nat) : Nat -> CK -> Option (List Un) := bp (yK m)
theorem tt (m : Nat) (n : Nat) : wG m (n + 1) = yK m (wG m n) := rfl
def Gq (F : CK -> Option (List Un)) : aW := ⟨[.lp [0, 1, 0, 1, 1], .blk 0, .code [1, 1, 1]], ⟨frm 26 [(0, .ai (sI 4)), (1, .ai (sI 4)), (5, .int .i64)], [], 0⟩, onU F⟩
theorem Om (m : Nat) : ∀ n, HO N55 (Gq (wG m n)) := au ah T18.right (fun k => [Gq k]) (fun k h => (aL h aA)) fun k a => by kernel_rfl
def t55 (m : Nat) : List Dat × List Dat -> Option (List Un) := fun (a0, a1) =>
 bif ((a0.length : Int) != (a1.length : Int)) then
 some ([.b false])
 else
 wG m m (a0, a1, 0)
theorem Ia (m : Nat) : ∀ (rest rest' pre pre' : List Dat) (n : Nat), rest.length < n -> pre'.length = pre.length -> rest'.length = rest.length -> (pre ++ rest).length < 1099511627776 ->
 wG m n (pre ++ rest, pre' ++ rest', (pre.length : Int)) = some [.b (cL 4 rest rest')] := by
 intro rest
 induction rest with
 | nil =>
  intro rest' pre pre' n hn hp hr hl; obtain ⟨n, rfl⟩ := al n (by simp at hn; omega); obtain rfl : rest' = [] := zav (by simpa using hr); rw [tt]; unfold yK; dsimp only; simp [aF, cL]
 | cons x rest ih =>
  intro rest' pre pre' n hn hp hr hl; obtain ⟨n, rfl⟩ := al n (by simp at hn; omega); obtain ⟨y, rest', rfl⟩ : ∃ y l, rest' = y :: l := by cases rest' with | nil => simp at hr | cons y l => exact ⟨y, l, rfl⟩
  simp only [zac, zad] at hn hl hr; have := ih rest' (pre ++ [x]) (pre' ++ [y]) n (by omega) (by simp [hp]) (by omega) (by simp; omega); rw [tt]; unfold yK; dsimp only; simp only [cL, tJ, yW, Nat.reduceAdd]; simp (disch := omega) only [TRa, TRi, aa, LNl, LNi, zaa, ax, wV _ _ _ _ hp]; simp only [LNl, LNi, zaa] at this ⊢
  (try simp only [bne, cond_not])
  cases (x.i 0 == y.i 0) <;> cases (x.i 1 == y.i 1) <;> cases (x.i 2 == y.i 2) <;> cases (x.i 3 == y.i 3)
  all_goals (first | exact this | rfl)
def f55 : List Dat × List Dat -> Bool × List Un := fun (a0, a1) => (decide (a0.length < 1099511627776), [.b (cL 4 a0 a1)])
theorem Nk (a0 : List Dat) (a1 : List Dat) (hc : (decide (a0.length < 1099511627776)) = true) : ∃ m, t55 m (a0, a1) = some ([.b (cL 4 a0 a1)]) := by
 have hs := zaj hc; refine ⟨a0.length + 1, ?_⟩; unfold t55; dsimp only
 by_cases h : a0.length = a1.length
 . rw [mQ (by omega)]; exact Ia _ a0 a1 [] [] _ (by omega) rfl h.symm (by simpa using hs)
 . rw [m5 (by omega), pH _ _ _ h]
theorem JN : ER 55 (mkE N55.en N55.ex f55) := an ah T18.right (fun m => [Gq (wG m m)]) (t := t55) (by kernel_rfl) (fun m => (aL (Om m m) aA)) (fun m a => by kernel_rfl) fun (a0, a1) hc => Nk a0 a1 hc
def T55 : Tb Tryz.prog LQ TE XX := T18.add 55 _ JN
def nf (p q r s l : Int) : Bool := decide (0 <= p) && (decide (p <= 1099511627776) && (decide (0 <= q) && (decide (q <= 1099511627776) && (decide (0 <= r) && (decide (r <= 1099511627776) && (decide (0 <= s) && (decide (s <= 1099511627776) && (decide (0 <= l) && decide (l <= 12)))))))))
theorem Ab {α : Type} {x : Int} {a b : α} : (bif decide (x < 0) then a else b) = bif decide (0 <= x) then b else a := by
 by_cases h : x < 0
 . rw [zah h, zaQ (show ¬ 0 <= x by omega)]; rfl
 . rw [zaQ h, zah (show 0 <= x by omega)]; rfl
theorem xt {α : Type} {x y : Int} {a b : α} : (bif decide (x > y) then a else b) = bif decide (x <= y) then b else a := by
 by_cases h : x > y
 . rw [zah h, zaQ (show ¬ x <= y by omega)]; rfl
 . rw [zaQ h, zah (show x <= y by omega)]; rfl
theorem kv {c y : Bool} : (bif c then some [Un.b y] else some [Un.b false]) = some [.b (c && y)] := by cases c <;> rfl
def Pd : aC := ⟨T55.tab, 101, ⟨[.agg [.int .i64, .int .i64, .int .i64, .int .i64, .int .i64, .int .i64, .bool]], [], 0⟩, ⟨[.bool], [], 0⟩, [[0, 1, 0, 1]]⟩
def t101 (m : Nat) : Int × Int × Int × Int × Int × Int × Bool -> Option (List Un) := fun (a0, a1, a2, a3, a4, a5, a6) =>
 lt ((([a1, a2, a3, a4]).getD 0 0) : Int) fun x1 =>
 bif decide (x1 < 0) then
 some ([.b false])
 else
 bif (decide (x1 > 1099511627776)) then
 some ([.b false])
 else
 lt ((([a1, a2, a3, a4]).getD 1 0) : Int) fun x3 =>
 bif decide (x3 < 0) then
 some ([.b false])
 else
 bif (decide (x3 > 1099511627776)) then
 some ([.b false])
 else
 lt ((([a1, a2, a3, a4]).getD 2 0) : Int) fun x5 =>
 bif decide (x5 < 0) then
 some ([.b false])
 else
 bif (decide (x5 > 1099511627776)) then
 some ([.b false])
 else
 lt ((([a1, a2, a3, a4]).getD 3 0) : Int) fun x7 =>
 bif decide (x7 < 0) then
 some ([.b false])
 else
 bif (decide (x7 > 1099511627776)) then
 some ([.b false])
 else
 bif decide (a5 >= 0) then
 some ([.b (decide (a5 <= 12))])
 else
 some ([.b false])
def f101 : Int × Int × Int × Int × Int × Int × Bool -> Bool × List Un := fun (a0, a1, a2, a3, a4, a5, a6) => (true, [.b (nf a1 a2 a3 a4 a5)])
theorem Lg (a0 : Int) (a1 : Int) (a2 : Int) (a3 : Int) (a4 : Int) (a5 : Int) (a6 : Bool) : ∃ m, t101 m (a0, a1, a2, a3, a4, a5, a6) = some ([.b (nf a1 a2 a3 a4 a5)]) := by
 refine ⟨0, ?_⟩; unfold t101 nf; simp only [lt_eq, zaI, zat, Ab, xt]; simp only [ge_iff_le, kv]
theorem G8 : ER 101 (mkE Pd.en Pd.ex f101) := an ah T55.right (fun m => []) (t := t101) (by kernel_rfl) (fun m => aA) (fun m a => by kernel_rfl) fun (a0, a1, a2, a3, a4, a5, a6) hc => Lg a0 a1 a2 a3 a4 a5 a6
def Lb : Tb Tryz.prog LQ TE XX := T55.add 101 _ G8
def sN : Int -> List Dat -> Bool
 | _, [] => true
 | last, d :: l => if d.i 0 <= last then false else if nf (d.i 1) (d.i 2) (d.i 3) (d.i 4) (d.i 5) then sN (d.i 0) l else false
def qI (l : List Dat) : Bool := decide (l.length <= 64) && sN 0 l
def N68 : aC := ⟨Lb.tab, 68, ⟨[.ai (sB 6)], [], 0⟩, ⟨[.bool], [], 0⟩, []⟩
abbrev DS : Type := Int × List Dat × Int × Int
def xu (m : Nat) (k : DS -> Option (List Un)) : DS -> Option (List Un) := fun (a0, a1, a2, a3) =>
 bif decide (a3 < a2) then
 chk (inb a3 a1.length) <|
 chk (decide (a3.toNat < a1.length)) <|
 lt (ag a1 a3.toNat : Dat) fun d2 =>
 bif decide ((d2.i 0) <= a0) then
 some ([.b false])
 else
 bif !(nf (d2.i 1) (d2.i 2) (d2.i 3) (d2.i 4) (d2.i 5)) then
 some ([.b false])
 else
 k ((d2.i 0), a1, a2, (w64 (a3 + 1)))
 else
 some ([.b true])
def we (m : Nat) : Nat -> DS -> Option (List Un) := bp (xu m)
theorem ui (m : Nat) (n : Nat) : we m (n + 1) = xu m (we m n) := rfl
def Hx (F : DS -> Option (List Un)) : aW := ⟨[.lp [0, 1, 0, 1, 1, 1], .blk 0, .code [1, 1, 1, 1]], ⟨frm 27 [(3, .int .i64), (9, .ai (sB 6)), (10, .int .i64), (11, .int .i64)], [], 0⟩, onU F⟩
theorem PG (m : Nat) : ∀ n, HO N68 (Hx (we m n)) := au ah Lb.right (fun k => [Hx k]) (fun k h => (aL h aA)) fun k a => by kernel_rfl
def t68 (m : Nat) : List Dat -> Option (List Un) := fun a0 =>
 bif (decide ((a0.length : Int) > 64)) then
 some ([.b false])
 else
 we m m (0, a0, (a0.length : Int), 0)
theorem P8 (m : Nat) : ∀ (rest pre : List Dat) (n : Nat) (last : Int), rest.length < n -> (pre ++ rest).length <= 64 ->
 we m n (last, pre ++ rest, ((pre ++ rest).length : Int), (pre.length : Int)) = some [.b (sN last rest)] := by
 intro rest
 induction rest with
 | nil =>
  intro pre n last hn hl; obtain ⟨n, rfl⟩ := al n (by simp at hn; omega); rw [ui]; unfold xu; dsimp only; simp [aF, sN]
 | cons x rest ih =>
  intro pre n last hn hl; obtain ⟨n, rfl⟩ := al n (by simp at hn; omega); simp only [zac, zad] at hn hl; have := ih (pre ++ [x]) n (x.i 0) (by omega) (by simp; omega); rw [ui]; unfold xu; dsimp only; simp only [LNl, LNi, zaa] at this ⊢; unfold sN
  by_cases h1 : x.i 0 <= last
  . simp (disch := omega) only [TRa, TRi, aa, LNl, LNi, zaa, ax]; rw [if_pos h1]
  . rw [if_neg h1]
    by_cases h2 : nf (x.i 1) (x.i 2) (x.i 3) (x.i 4) (x.i 5) = true
    . rw [if_pos h2]; simp (disch := omega) only [TRa, TRi, aa, LNl, LNi, zaa, ax, h2]; exact this
    . rw [if_neg h2]; have h2 : nf (x.i 1) (x.i 2) (x.i 3) (x.i 4) (x.i 5) = false := by simpa using h2
      simp (disch := omega) only [TRa, TRi, aa, LNl, LNi, zaa, ax, h2]
def f68 : List Dat -> Bool × List Un := fun a0 => (true, [.b (qI a0)])
theorem N2 (a0 : List Dat) : ∃ m, t68 m a0 = some ([.b (qI a0)]) := by
 unfold qI
 by_cases h : a0.length <= 64
 . refine ⟨a0.length + 1, ?_⟩; have := P8 (a0.length + 1) a0 [] (a0.length + 1) 0 (by omega) (by simpa using h); unfold t68; rw [aF (by omega), zah h, zbh]; exact this
 . refine ⟨0, ?_⟩; unfold t68; rw [bJ (by omega), zaQ h]; rfl
theorem Kn : ER 68 (mkE N68.en N68.ex f68) := an ah Lb.right (fun m => [Hx (we m m)]) (t := t68) (by kernel_rfl) (fun m => (aL (PG m m) aA)) (fun m a => by kernel_rfl) fun a0 hc => N2 a0
def T68 : Tb Tryz.prog LQ TE XX := Lb.add 68 _ Kn
def Br (bal lost : Int) (oO : Bool) (pr pp it rc lt : Int) (df : Bool) : Bool :=
 bif oO then (pr == 0) && ((pp == 0) && ((it == 0) && ((lt == 0) && (!df && decide (rc <= lost)))))
 else bif decide (w64 (w64 (bal - pr) - pp) < 0) then false
 else bif df then (bif decide (rc <= w64 (lost + w64 (w64 (bal - pr) - pp))) then true else rc == 0) else rc == 0
theorem El {c x y : Bool} : (bif c then some [Un.b x] else some [Un.b y]) = some [.b (bif c then x else y)] := by cases c <;> rfl
def N70 : aC := ⟨T68.tab, 70, ⟨[.agg [.int .i64, .int .i64, .int .i64, .int .i64, .bool], .agg [.int .i64, .int .i64, .int .i64, .int .i64, .int .i64, .int .i64, .bool]], [], 0⟩, ⟨[.bool], [], 0⟩, []⟩
def t70 (m : Nat) : Int × Int × Int × Int × Bool × Int × Int × Int × Int × Int × Int × Bool -> Option (List Un) := fun (a0, a1, a2, a3, a4, a5, a6, a7, a8, a9, a10, a11) =>
 bif a4 then
 bif a6 == 0 then
 bif a7 == 0 then
 bif a8 == 0 then
 bif a10 == 0 then
 bif !a11 then
 some ([.b (decide (a9 <= a2))])
 else
 some ([.b false])
 else
 some ([.b false])
 else
 some ([.b false])
 else
 some ([.b false])
 else
 some ([.b false])
 else
 lt ((w64 ((w64 (a1 - a6)) - a7)) : Int) fun x1 =>
 bif decide (x1 < 0) then
 some ([.b false])
 else
 bif a11 then
 bif (decide (a9 <= (w64 (a2 + x1)))) then
 some ([.b true])
 else
 some ([.b (a9 == 0)])
 else
 some ([.b (a9 == 0)])
def f70 : Int × Int × Int × Int × Bool × Int × Int × Int × Int × Int × Int × Bool -> Bool × List Un := fun (a0, a1, a2, a3, a4, a5, a6, a7, a8, a9, a10, a11) => (true, [.b (Br a1 a2 a4 a6 a7 a8 a9 a10 a11)])
theorem MK (a0 : Int) (a1 : Int) (a2 : Int) (a3 : Int) (a4 : Bool) (a5 : Int) (a6 : Int) (a7 : Int) (a8 : Int) (a9 : Int) (a10 : Int) (a11 : Bool) : ∃ m, t70 m (a0, a1, a2, a3, a4, a5, a6, a7, a8, a9, a10, a11) = some ([.b (Br a1 a2 a4 a6 a7 a8 a9 a10 a11)]) := by
 refine ⟨0, ?_⟩; unfold t70 Br; simp only [lt_eq, El]; cases a4 <;> simp only [zaC, zao]
 cases (a6 == 0) <;> cases (a7 == 0) <;> cases (a8 == 0) <;> cases (a10 == 0) <;> cases a11 <;> rfl
theorem IG : ER 70 (mkE N70.en N70.ex f70) := an ah T68.right (fun m => []) (t := t70) (by kernel_rfl) (fun m => aA) (fun m a => by kernel_rfl) fun (a0, a1, a2, a3, a4, a5, a6, a7, a8, a9, a10, a11) hc => MK a0 a1 a2 a3 a4 a5 a6 a7 a8 a9 a10 a11
def T70 : Tb Tryz.prog LQ TE XX := T68.add 70 _ IG
def sU (bal pr pp : Int) (df : Bool) : Int := bif df then 0 else w64 (bal - w64 (pr + pp))
def gB (bal pr pp : Int) (df : Bool) : Int := bif df then w64 (bal - w64 (pr + pp)) else 0
def nF (bal lost pr pp rc : Int) (df : Bool) : Int := bif df then w64 (w64 (lost + w64 (bal - w64 (pr + pp))) - rc) else w64 (lost - rc)
def oa (bal : Int) (oO : Bool) (pr pp lt : Int) (df : Bool) : Int := bif df then 0 else bif oO then 0 else bif w64 (bal - w64 (pr + pp)) == 0 then 0 else lt
def N71 : aC := ⟨T70.tab, 71, ⟨[.agg [.int .i64, .int .i64, .int .i64, .int .i64, .bool], .agg [.int .i64, .int .i64, .int .i64, .int .i64, .int .i64, .int .i64, .bool]], [], 0⟩, ⟨[.agg [.int .i64, .int .i64, .int .i64, .int .i64, .bool], .agg [.int .i64, .int .i64, .int .i64, .int .i64]], [], 0⟩, []⟩
def t71 (m : Nat) : Int × Int × Int × Int × Bool × Int × Int × Int × Int × Int × Int × Bool -> Option (List Un) := fun (a0, a1, a2, a3, a4, a5, a6, a7, a8, a9, a10, a11) =>
 lt ((w64 (a1 - (w64 (a6 + a7)))) : Int) fun x1 =>
 bif a11 then
 some ([.i a0, .i 0, .i (w64 ((w64 (a2 + x1)) - a9)), .i 0, .b true, .i (w64 (a6 + a7)), .i a8, .i x1, .i a9])
 else
 bif a4 then
 some ([.i a0, .i x1, .i (w64 (a2 - a9)), .i 0, .b a4, .i (w64 (a6 + a7)), .i a8, .i 0, .i a9])
 else
 bif x1 == 0 then
 some ([.i a0, .i x1, .i (w64 (a2 - a9)), .i 0, .b a4, .i (w64 (a6 + a7)), .i a8, .i 0, .i a9])
 else
 some ([.i a0, .i x1, .i (w64 (a2 - a9)), .i a10, .b a4, .i (w64 (a6 + a7)), .i a8, .i 0, .i a9])
def f71 : Int × Int × Int × Int × Bool × Int × Int × Int × Int × Int × Int × Bool -> Bool × List Un := fun (a0, a1, a2, a3, a4, a5, a6, a7, a8, a9, a10, a11) => (true, [.i (a0), .i (sU a1 a6 a7 a11), .i (nF a1 a2 a6 a7 a9 a11), .i (oa a1 a4 a6 a7 a10 a11), .b ((a11 || a4)), .i (w64 (a6 + a7)), .i (a8), .i (gB a1 a6 a7 a11), .i (a9)])
theorem N6 (a0 : Int) (a1 : Int) (a2 : Int) (a3 : Int) (a4 : Bool) (a5 : Int) (a6 : Int) (a7 : Int) (a8 : Int) (a9 : Int) (a10 : Int) (a11 : Bool) : ∃ m, t71 m (a0, a1, a2, a3, a4, a5, a6, a7, a8, a9, a10, a11) = some ([.i (a0), .i (sU a1 a6 a7 a11), .i (nF a1 a2 a6 a7 a9 a11), .i (oa a1 a4 a6 a7 a10 a11), .b ((a11 || a4)), .i (w64 (a6 + a7)), .i (a8), .i (gB a1 a6 a7 a11), .i (a9)]) := by
 refine ⟨0, ?_⟩; unfold t71 sU nF oa gB; simp only [lt_eq]; cases a11 <;> cases a4 <;> simp only [zaC, zao, Bool.or_true, Bool.or_false] <;> first | rfl | (cases (w64 (a1 - w64 (a6 + a7)) == 0) <;> rfl)
theorem Kg : ER 71 (mkE N71.en N71.ex f71) := an ah T70.right (fun m => []) (t := t71) (by kernel_rfl) (fun m => aA) (fun m a => by kernel_rfl) fun (a0, a1, a2, a3, a4, a5, a6, a7, a8, a9, a10, a11) hc => N6 a0 a1 a2 a3 a4 a5 a6 a7 a8 a9 a10 a11
def T71 : Tb Tryz.prog LQ TE XX := T70.add 71 _ Kg
def fm (id : Int) : Int -> List Dat -> Int
 | _, [] => -1
 | i, d :: l => if d.i 0 = id then i else fm id (i + 1) l
def LM : aC := ⟨T71.tab, 102, ⟨[.ai (sB 4), .fn 103 [] [.ptr 0 0 0]], [.cells [.int .i64]], 1⟩, ⟨[.int .i64], [.cells [.int .i64]], 1⟩, []⟩
abbrev xY : Type := List Dat × Int × Int × Int
def rO (m : Nat) (k : xY -> Option (List Un)) : xY -> Option (List Un) := fun (a0, a1, a2, a3) =>
 bif decide (a2 < a1) then
 chk (inb a2 a0.length) <|
 chk (decide (a2.toNat < a0.length)) <|
 bif ((ag a0 a2.toNat).i 0) == a3 then
 some ([.i a2, .i a3])
 else
 k (a0, a1, (w64 (a2 + 1)), a3)
 else
 some ([.i (-1), .i a3])
def pQ (m : Nat) : Nat -> xY -> Option (List Un) := bp (rO m)
theorem qf (m : Nat) (n : Nat) : pQ m (n + 1) = rO m (pQ m n) := rfl
def BF (F : xY -> Option (List Un)) : aW := ⟨[.lp [0, 1, 0, 1], .blk 0, .code [1, 1]], ⟨frm 19 [(0, .ai (sB 4)), (1, .fn 103 [] [.ptr 0 0 0]), (7, .int .i64), (8, .int .i64)], [.cells [.int .i64]], 1⟩, onU F⟩
theorem Nb (m : Nat) : ∀ n, HO LM (BF (pQ m n)) := au ah T71.right (fun k => [BF k]) (fun k h => (aL h aA)) fun k a => by kernel_rfl
def t102 (m : Nat) : List Dat × Int -> Option (List Un) := fun (a0, a1) =>
 pQ m m (a0, (a0.length : Int), 0, a1)
theorem OH (m : Nat) (id : Int) : ∀ (rest pre : List Dat) (n : Nat), rest.length < n -> (pre ++ rest).length < 1000000 ->
 pQ m n (pre ++ rest, ((pre ++ rest).length : Int), (pre.length : Int), id) = some [.i (fm id pre.length rest), .i id] := by
 intro rest
 induction rest with
 | nil =>
  intro pre n hn hl; obtain ⟨n, rfl⟩ := al n (by simp at hn; omega); rw [qf]; unfold rO; dsimp only; simp [aF, fm]
 | cons x rest ih =>
  intro pre n hn hl; obtain ⟨n, rfl⟩ := al n (by simp at hn; omega); simp only [zac, zad] at hn hl; have := ih (pre ++ [x]) n (by omega) (by simp; omega); rw [qf]; unfold rO; dsimp only; simp only [LNl, LNi, zaa] at this ⊢; unfold fm
  by_cases h1 : x.i 0 = id
  . simp (disch := omega) only [TRa, TRi, aa, LNl, LNi, zaa, ax]; rw [if_pos h1]
  . rw [if_neg h1]; simp (disch := omega) only [TRa, TRi, aa, LNl, LNi, zaa, ax]; exact this
def f102 : List Dat × Int -> Bool × List Un := fun (a0, a1) => (decide (a0.length < 1000000), [.i (fm a1 0 a0), .i (a1)])
theorem Is (a0 : List Dat) (a1 : Int) (hc : (decide (a0.length < 1000000)) = true) : ∃ m, t102 m (a0, a1) = some ([.i (fm a1 0 a0), .i (a1)]) := by
 have h := zaj hc; exact ⟨a0.length + 1, OH _ a1 a0 [] _ (by omega) (by simpa using h)⟩
theorem G1 : ER 102 (mkE LM.en LM.ex f102) := an ah T71.right (fun m => [BF (pQ m m)]) (t := t102) (by kernel_rfl) (fun m => (aL (Nb m m) aA)) (fun m a => by kernel_rfl) fun (a0, a1) hc => Is a0 a1 hc
def KO : Tb Tryz.prog LQ TE XX := T71.add 102 _ G1
def lI (x d : Dat) : Dat := .r [.n (x.i 0), .n (sU (x.i 1) (d.i 1) (d.i 2) (d.b 6)), .n (nF (x.i 1) (x.i 2) (d.i 1) (d.i 2) (d.i 4) (d.b 6)), .n (oa (x.i 1) (x.b 4) (d.i 1) (d.i 2) (d.i 5) (d.b 6)), .n (bI (d.b 6 || x.b 4))]
structure FI where
 p : Int
 q : Int
 l : Int
 r : Int
 e : Int
 aY : List Dat
def EO (x d : Dat) : Bool := Br (x.i 1) (x.i 2) (x.b 4) (d.i 1) (d.i 2) (d.i 3) (d.i 4) (d.i 5) (d.b 6)
def jK : List Dat -> Int -> Int -> Int -> Int -> List Dat -> Option FI
 | l, p, q, s, r, [] => some ⟨p, q, s, r, 0, l⟩
 | l, p, q, s, r, d :: t => if fm (d.i 0) 0 l < 0 then none else
  if EO (ag l (fm (d.i 0) 0 l).toNat) d = true then
   jK (l.set (fm (d.i 0) 0 l).toNat (lI (ag l (fm (d.i 0) 0 l).toNat) d)) (w64 (p + w64 (d.i 1 + d.i 2))) (w64 (q + d.i 3)) (w64 (s + gB ((ag l (fm (d.i 0) 0 l).toNat).i 1) (d.i 1) (d.i 2) (d.b 6))) (w64 (r + d.i 4)) t
  else none
def aB (lines l : List Dat) : FI := if qI lines = true then (jK l 0 0 0 0 lines).getD ⟨0, 0, 0, 0, 3, l⟩ else ⟨0, 0, 0, 0, 3, l⟩
theorem yM (id : Int) : ∀ (l : List Dat) (i : Int), fm id i l = -1 \/ (i <= fm id i l /\ fm id i l < i + l.length)
 | [], i => .inl rfl
 | d :: l, i => by
  unfold fm
  by_cases h : d.i 0 = id
  . rw [if_pos h]; exact .inr ⟨by omega, by simp; omega⟩
  . rw [if_neg h]; rcases yM id l (i + 1) with h | ⟨h1, h2⟩
    . exact .inl h
    . refine .inr ⟨by omega, ?_⟩; simp only [zac]; omega
def N33 : aC := ⟨KO.tab, 33, ⟨[.ptr 0 0 0, .ai (sB 6)], [.cells [.buf 1 5], .ai (sB 4)], 0⟩, ⟨[.agg [.int .i64, .int .i64, .int .i64, .int .i64], .int .i64], [.cells [.buf 2 5], .gone, .ai (sB 4)], 0⟩, []⟩
abbrev Dr : Type := List Dat × Int × Int × Int × Int × Int × Int × Int × Int × Int × Int × List Dat × List Dat
def xT (m : Nat) (k : Dr -> Option (List Un)) : Dr -> Option (List Un) := fun (a0, a1, a2, a3, a4, a5, a6, a7, a8, a9, a10, a11, a12) =>
 bif decide (a2 < a1) then
 chk (inb a2 a0.length) <|
 chk (decide (a2.toNat < a0.length)) <|
 lt (ag a0 a2.toNat : Dat) fun d1 =>
 chk (decide (a12.length < 1000000)) <|
 bif (decide ((fm (d1.i 0) 0 a12) < 0)) then
 some ([.i 0, .i 0, .i 0, .i 0, .i 3, .d a11])
 else
 chk (inb (fm (d1.i 0) 0 a12) a12.length) <|
 chk (decide ((fm (d1.i 0) 0 a12).toNat < a12.length)) <|
 lt (ag a12 ((fm (d1.i 0) 0 a12).toNat) : Dat) fun d3 =>
 bif !(Br (d3.i 1) (d3.i 2) (d3.b 4) (d1.i 1) (d1.i 2) (d1.i 3) (d1.i 4) (d1.i 5) (d1.b 6)) then
 some ([.i 0, .i 0, .i 0, .i 0, .i 3, .d a11])
 else
 chk (inb (fm (d1.i 0) 0 a12) a12.length) <|
 chk (decide ((fm (d1.i 0) 0 a12).toNat < a12.length)) <|
 lt (ag a12 ((fm (d1.i 0) 0 a12).toNat) : Dat) fun d5 =>
 chk (inb (fm (d1.i 0) 0 a12) a12.length) <|
 chk (decide ((fm (d1.i 0) 0 a12).toNat < a12.length)) <|
 k (a0, a1, (w64 (a2 + 1)), a3, a4, a5, a6, (w64 (a7 + (w64 ((d1.i 1) + (d1.i 2))))), (w64 (a8 + (d1.i 3))), (w64 (a9 + (gB (d5.i 1) (d1.i 1) (d1.i 2) (d1.b 6)))), (w64 (a10 + (d1.i 4))), a11, (List.set a12 ((fm (d1.i 0) 0 a12).toNat) (.r [.n (d5.i 0), .n (sU (d5.i 1) (d1.i 1) (d1.i 2) (d1.b 6)), .n (nF (d5.i 1) (d5.i 2) (d1.i 1) (d1.i 2) (d1.i 4) (d1.b 6)), .n (oa (d5.i 1) (d5.b 4) (d1.i 1) (d1.i 2) (d1.i 5) (d1.b 6)), .n (bI ((d1.b 6) || (d5.b 4)))])))
 else
 some ([.i a7, .i a8, .i a9, .i a10, .i 0, .d a12])
def vK (m : Nat) : Nat -> Dr -> Option (List Un) := bp (xT m)
theorem uK (m : Nat) (n : Nat) : vK m (n + 1) = xT m (vK m n) := rfl
def Ft (F : Dr -> Option (List Un)) : aW := ⟨[.lp [0, 1, 0, 1, 1, 1, 1], .blk 0, .code [1, 1, 1, 1, 1]], ⟨frm 89 [(0, .ptr 0 0 0), (4, .ptr 2 0 0), (6, .ptr 3 0 0), (7, .ptr 4 0 0), (18, .ai (sB 6)), (19, .int .i64), (20, .int .i64)], [.cells [.buf 5 5], .gone, .cells [.int .i64, .int .i64, .int .i64, .int .i64], .cells [.buf 6 5], .cells [.int .i64, .int .i64, .int .i64, .int .i64], .ai (sB 4), .ai (sB 4)], 0⟩, onU F⟩
theorem Ov (m : Nat) : ∀ n, HO N33 (Ft (vK m n)) := au ah KO.right (fun k => [Ft k]) (fun k h => (aL h aA)) fun k a => by kernel_rfl
def t33 (m : Nat) : List Dat × List Dat -> Option (List Un) := fun (a0, a1) =>
 bif !(qI a0) then
 some ([.i 0, .i 0, .i 0, .i 0, .i 3, .d a1])
 else
 chk (decide (a1.length < 1000000)) <|
 vK m m (a0, (a0.length : Int), 0, 0, 0, 0, 0, 0, 0, 0, 0, a1, a1)
def Gg (l0 : List Dat) (o : Option FI) : List Un := match o with | some x => [.i x.p, .i x.q, .i x.l, .i x.r, .i x.e, .d x.aY] | none => [.i 0, .i 0, .i 0, .i 0, .i 3, .d l0]
theorem Ns (m : Nat) (l0 : List Dat) : ∀ (rest pre : List Dat) (n : Nat) (p q s r : Int) (l : List Dat), rest.length < n -> (pre ++ rest).length <= 64 -> l.length < 1000000 ->
 vK m n (pre ++ rest, ((pre ++ rest).length : Int), (pre.length : Int), 0, 0, 0, 0, p, q, s, r, l0, l) = some (Gg l0 (jK l p q s r rest)) := by
 intro rest
 induction rest with
 | nil =>
  intro pre n p q s r l hn hl hll; obtain ⟨n, rfl⟩ := al n (by simp at hn; omega); rw [uK]; unfold xT; dsimp only; simp [aF, jK, Gg]
 | cons x rest ih =>
  intro pre n p q s r l hn hl hll; obtain ⟨n, rfl⟩ := al n (by simp at hn; omega); simp only [zac, zad] at hn hl; rw [uK]; unfold xT; dsimp only; simp (disch := omega) only [TRa, TRi, aa, LNl, LNi, zaa, ax]; unfold jK; rcases yM (x.i 0) l 0 with h1 | ⟨h1, h2⟩
  . rw [bJ (by omega), if_pos (by omega)]; rfl
  . rw [aF (by omega), if_neg (by omega)]; simp (disch := omega) only [TRa, TRi, aa, LNl, LNi, zaa, ax]
    by_cases h3 : EO (ag l (fm (x.i 0) 0 l).toNat) x = true
    . rw [if_pos h3]; have h4 := h3; unfold EO at h4; rw [h4]; have := ih (pre ++ [x]) n (w64 (p + w64 (x.i 1 + x.i 2))) (w64 (q + x.i 3)) (w64 (s + gB ((ag l (fm (x.i 0) 0 l).toNat).i 1) (x.i 1) (x.i 2) (x.b 6))) (w64 (r + x.i 4)) (l.set (fm (x.i 0) 0 l).toNat (lI (ag l (fm (x.i 0) 0 l).toNat) x)) (by omega) (by simp; omega) (by simpa using hll)
      try simp (disch := omega) only [TRa, TRi, aa, LNl, LNi, zaa, ax]
      simp only [LNl, LNi, zaa] at this ⊢; exact this
    . rw [if_neg h3]; have h4 := h3; unfold EO at h4; rw [show Br _ _ _ _ _ _ _ _ _ = false from Bool.eq_false_iff.2 h4]; rfl
def f33 : List Dat × List Dat -> Bool × List Un := fun (a0, a1) => (decide (a1.length < 1000000), [.i ((aB a0 a1).p), .i ((aB a0 a1).q), .i ((aB a0 a1).l), .i ((aB a0 a1).r), .i ((aB a0 a1).e), .d ((aB a0 a1).aY)])
theorem Mg (a0 : List Dat) (a1 : List Dat) (hc : (decide (a1.length < 1000000)) = true) : ∃ m, t33 m (a0, a1) = some ([.i ((aB a0 a1).p), .i ((aB a0 a1).q), .i ((aB a0 a1).l), .i ((aB a0 a1).r), .i ((aB a0 a1).e), .d ((aB a0 a1).aY)]) := by
 have h := zaj hc; unfold aB; cases ht : qI a0 with
 | false =>
  refine ⟨0, ?_⟩; unfold t33; dsimp only; rw [ht]; rfl
 | true =>
  have hl : a0.length <= 64 := by
   simp only [qI, zab, zai] at ht; exact ht.1
  refine ⟨a0.length + 1, ?_⟩; have := Ns (a0.length + 1) a1 a0 [] (a0.length + 1) 0 0 0 0 a1 (by omega) (by simpa using hl) h; unfold t33; dsimp only; rw [ht]; simp only [zbD, zao, za9]; rw [aO h]; refine this.trans ?_
  cases jK a1 0 0 0 0 a0 <;> rfl
theorem Ks : ER 33 (mkE N33.en N33.ex f33) := an ah KO.right (fun m => [Ft (vK m m)]) (t := t33) (by kernel_rfl) (fun m => (aL (Ov m m) aA)) (fun m a => by kernel_rfl) fun (a0, a1) hc => Mg a0 a1 hc
def T33 : Tb Tryz.prog LQ TE XX := KO.add 33 _ Ks
def N31 : aC := ⟨T33.tab, 31, ⟨[.np 0 0 0], cd 0, 9⟩, ⟨[.ptr 9 0 0], cd 0 ++ cd 9, 9⟩, []⟩
def t31 (m : Nat) : Int × aw × az × ak × List Dat × List Dat × List Dat × List Dat × List Dat × List Dat × List Dat -> Option (List Un) := fun (a0, a1, a2, a3, a4, a5, a6, a7, a8, a9, a10) =>
 chk (decide (0 <= a0)) <|
 chk (decide (0 <= a0)) <|
 chk (decide ((⟨a1, a4, a5, a2, a6, a7, a8⟩ : bo).bg.length < 1000000 /\ (⟨a1, a4, a5, a2, a6, a7, a8⟩ : bo).notes.length < 1000000 /\ (⟨a1, a4, a5, a2, a6, a7, a8⟩ : bo).s0.length < 1000000 /\ (⟨a1, a4, a5, a2, a6, a7, a8⟩ : bo).s1.length < 1000000 /\ (⟨a1, a4, a5, a2, a6, a7, a8⟩ : bo).s2.length < 1000000)) <|
 chk (decide (0 <= a0)) <|
 chk (decide (a9.length < 1000000)) <|
 chk (decide (0 <= a0)) <|
 chk (decide (a10.length < 1000000)) <|
 some (Uns.enc (a1 : aw) ++ Uns.enc (a2 : az) ++ Uns.enc (a3 : ak) ++ [.d a4, .d a5, .d a6, .d a7, .d a8, .d a9, .d a10] ++ Uns.enc (((⟨a1, a4, a5, a2, a6, a7, a8⟩ : bo).a) : aw) ++ Uns.enc (((⟨a1, a4, a5, a2, a6, a7, a8⟩ : bo).b) : az) ++ Uns.enc (a3 : ak) ++ [.d ((⟨a1, a4, a5, a2, a6, a7, a8⟩ : bo).bg), .d ((⟨a1, a4, a5, a2, a6, a7, a8⟩ : bo).notes), .d ((⟨a1, a4, a5, a2, a6, a7, a8⟩ : bo).s0), .d ((⟨a1, a4, a5, a2, a6, a7, a8⟩ : bo).s1), .d ((⟨a1, a4, a5, a2, a6, a7, a8⟩ : bo).s2), .d a9, .d a10])
def f31 : Int × aw × az × ak × List Dat × List Dat × List Dat × List Dat × List Dat × List Dat × List Dat -> Bool × List Un := fun (a0, a1, a2, a3, a4, a5, a6, a7, a8, a9, a10) => (decide (0 <= a0) && decide (a4.length < 1000000 /\ a5.length < 1000000 /\ a6.length < 1000000 /\ a7.length < 1000000 /\ a8.length < 1000000 /\ a9.length < 1000000 /\ a10.length < 1000000), Uns.enc ((a1) : aw) ++ Uns.enc ((a2) : az) ++ Uns.enc ((a3) : ak) ++ [.d (a4), .d (a5), .d (a6), .d (a7), .d (a8), .d (a9), .d (a10)] ++ Uns.enc ((a1) : aw) ++ Uns.enc ((a2) : az) ++ Uns.enc ((a3) : ak) ++ [.d (a4), .d (a5), .d (a6), .d (a7), .d (a8), .d (a9), .d (a10)])
theorem Nd (a0 : Int) (a1 : aw) (a2 : az) (a3 : ak) (a4 : List Dat) (a5 : List Dat) (a6 : List Dat) (a7 : List Dat) (a8 : List Dat) (a9 : List Dat) (a10 : List Dat) (hc : (decide (0 <= a0) && decide (a4.length < 1000000 /\ a5.length < 1000000 /\ a6.length < 1000000 /\ a7.length < 1000000 /\ a8.length < 1000000 /\ a9.length < 1000000 /\ a10.length < 1000000)) = true) : ∃ m, t31 m (a0, a1, a2, a3, a4, a5, a6, a7, a8, a9, a10) = some (Uns.enc ((a1) : aw) ++ Uns.enc ((a2) : az) ++ Uns.enc ((a3) : ak) ++ [.d (a4), .d (a5), .d (a6), .d (a7), .d (a8), .d (a9), .d (a10)] ++ Uns.enc ((a1) : aw) ++ Uns.enc ((a2) : az) ++ Uns.enc ((a3) : ak) ++ [.d (a4), .d (a5), .d (a6), .d (a7), .d (a8), .d (a9), .d (a10)]) := by
 simp only [zab, zai] at hc; obtain ⟨h0, h1, h2, h3, h4, h5, h6, h7⟩ := hc; refine ⟨0, ?_⟩; unfold t31; dsimp only; simp (disch := omega) only [lt_eq, aO, iF]
theorem I4 : ER 31 (mkE N31.en N31.ex f31) := an ah T33.right (fun m => []) (t := t31) (by kernel_rfl) (fun m => aA) (fun m a => by kernel_rfl) fun (a0, a1, a2, a3, a4, a5, a6, a7, a8, a9, a10) hc => Nd a0 a1 a2 a3 a4 a5 a6 a7 a8 a9 a10 hc
def T31 : Tb Tryz.prog LQ TE XX := T33.add 31 _ I4
def N65 : aC := ⟨T31.tab, 65, ⟨[.np 0 0 20, .int .i64], cd 0, 0⟩, ⟨[.bool], cd 0, 0⟩, []⟩
def t65 (m : Nat) : Int × Int × aw × az × ak × List Dat × List Dat × List Dat × List Dat × List Dat × List Dat × List Dat -> Option (List Un) := fun (a0, a1, a2, a3, a4, a5, a6, a7, a8, a9, a10, a11) =>
 chk (decide (0 <= a0)) <|
 lt ((([a4.rin, a1]).getD 0 0) : Int) fun x1 =>
 bif decide (x1 < 0) then
 some ([.b false] ++ Uns.enc (a2 : aw) ++ Uns.enc (a3 : az) ++ Uns.enc (a4 : ak) ++ [.d a5, .d a6, .d a7, .d a8, .d a9, .d a10, .d a11])
 else
 bif (decide (x1 > 1152921504606846976)) then
 some ([.b false] ++ Uns.enc (a2 : aw) ++ Uns.enc (a3 : az) ++ Uns.enc (a4 : ak) ++ [.d a5, .d a6, .d a7, .d a8, .d a9, .d a10, .d a11])
 else
 lt ((([a4.rin, a1]).getD 1 0) : Int) fun x3 =>
 bif decide (x3 < 0) then
 some ([.b false] ++ Uns.enc (a2 : aw) ++ Uns.enc (a3 : az) ++ Uns.enc (a4 : ak) ++ [.d a5, .d a6, .d a7, .d a8, .d a9, .d a10, .d a11])
 else
 bif decide (x3 > (w64 (1152921504606846976 - (w64 (0 + x1))))) then
 some ([.b false] ++ Uns.enc (a2 : aw) ++ Uns.enc (a3 : az) ++ Uns.enc (a4 : ak) ++ [.d a5, .d a6, .d a7, .d a8, .d a9, .d a10, .d a11])
 else
 chk (decide (0 <= a0)) <|
 some ([.b true] ++ Uns.enc (a2 : aw) ++ Uns.enc (a3 : az) ++ Uns.enc (({ a4 with rin := (w64 ((w64 (0 + x1)) + x3)) } : ak) : ak) ++ [.d a5, .d a6, .d a7, .d a8, .d a9, .d a10, .d a11])
def f65 : Int × Int × aw × az × ak × List Dat × List Dat × List Dat × List Dat × List Dat × List Dat × List Dat -> Bool × List Un := fun (a0, a1, a2, a3, a4, a5, a6, a7, a8, a9, a10, a11) => (decide (0 <= a0) && decide ((0 : Int) <= a4.rin /\ (0 : Int) <= a1 /\ a4.rin + a1 <= (1152921504606846976 : Int)), [.b (true)] ++ Uns.enc ((a2) : aw) ++ Uns.enc ((a3) : az) ++ Uns.enc (({ a4 with rin := a4.rin + a1 }) : ak) ++ [.d (a5), .d (a6), .d (a7), .d (a8), .d (a9), .d (a10), .d (a11)])
theorem MG (a0 : Int) (a1 : Int) (a2 : aw) (a3 : az) (a4 : ak) (a5 : List Dat) (a6 : List Dat) (a7 : List Dat) (a8 : List Dat) (a9 : List Dat) (a10 : List Dat) (a11 : List Dat) (hc : (decide (0 <= a0) && decide ((0 : Int) <= a4.rin /\ (0 : Int) <= a1 /\ a4.rin + a1 <= (1152921504606846976 : Int))) = true) : ∃ m, t65 m (a0, a1, a2, a3, a4, a5, a6, a7, a8, a9, a10, a11) = some ([.b (true)] ++ Uns.enc ((a2) : aw) ++ Uns.enc ((a3) : az) ++ Uns.enc (({ a4 with rin := a4.rin + a1 }) : ak) ++ [.d (a5), .d (a6), .d (a7), .d (a8), .d (a9), .d (a10), .d (a11)]) := by
 simp only [zab, zai] at hc; obtain ⟨h0, h1, h2, h3⟩ := hc; refine ⟨0, ?_⟩; unfold t65; dsimp only; simp only [lt_eq, zaI, zat]; simp (disch := omega) only [TRa, TRi, aa, za2]
theorem Ju : ER 65 (mkE N65.en N65.ex f65) := an ah T31.right (fun m => []) (t := t65) (by kernel_rfl) (fun m => aA) (fun m a => by kernel_rfl) fun (a0, a1, a2, a3, a4, a5, a6, a7, a8, a9, a10, a11) hc => MG a0 a1 a2 a3 a4 a5 a6 a7 a8 a9 a10 a11 hc
def T65 : Tb Tryz.prog LQ TE XX := T31.add 65 _ Ju
def oG : List Int -> Int -> Int × Bool
 | [], s => (s, true)
 | x :: l, s => bif (decide (x < 0) || decide (x > 1152921504606846976 - s)) then (0, false) else oG l (s + x)
def gD (l : List Int) : Int := (oG l 0).1
def kh (l : List Int) : Bool := (oG l 0).2
def pj (l : List Int) : Bool := l.all fun x => decide (0 <= x /\ x <= 1152921504606846976)
theorem Dn : ∀ (l : List Int) (s b : Int), 0 <= s -> 0 <= b -> (∀ x ∈ l, 0 <= x /\ x <= b) -> s + l.length * b <= 1152921504606846976 -> oG l s = (s + l.sum, true)
 | [], s, b, _, _, _, _ => by simp [oG]
 | x :: l, s, b, h1, h2, h3, h4 => by
  have hx := h3 x (by simp); have hm : 0 <= (l.length : Int) * b := za0 (by omega) h2; have e : ((x :: l).length : Int) * b = l.length * b + b := by rw [zac, zaA, zbV]; simp
  rw [e] at h4; have := Dn l (s + x) b (by omega) h2 (fun y hy => h3 y (by simp [hy])) (by omega); simp only [oG]; rw [show (decide (x < 0) || decide (x > 1152921504606846976 - s)) = false by simp; omega, zao, this, zbn]
  congr 1
  omega
theorem pO : ∀ (l : List Int) (b : Int), 0 <= b -> (∀ x ∈ l, 0 <= x /\ x <= b) -> 0 <= l.sum /\ l.sum <= l.length * b
 | [], b, _, _ => by simp
 | x :: l, b, h2, h3 => by
  have hx := h3 x (by simp); have e : ((x :: l).length : Int) * b = l.length * b + b := by rw [zac, zaA, zbV]; simp
  have := pO l b h2 (fun y hy => h3 y (by simp [hy])); rw [e, zbn]; omega
theorem rS {l : List Int} {b : Int} (h2 : 0 <= b) (h3 : ∀ x ∈ l, 0 <= x /\ x <= b) (h4 : l.length * b <= 1152921504606846976) : gD l = l.sum /\ kh l = true := by
 have := Dn l 0 b (by omega) h2 h3 (by omega); unfold gD kh; rw [this]; simp
def bD (n s : Int) (l : List Int) : List Int := l.map fun c => n * c / s
def iz (n s : Int) (l : List Int) : List Int := l.map fun c => n * c % s
theorem uW {l : List Int} : pj l = true ↔ ∀ x ∈ l, 0 <= x /\ x <= 1152921504606846976 := by simp [pj]
def jx (l : List Int) : List Int -> Nat -> Nat -> Nat
 | [], _, b => b
 | x :: r, i, b => jx l r (i + 1) (bif decide (x > l.getD b 0) then i else b)
def dA (l : List Int) : Nat := jx l l 0 0
def gA (z : Int) : Nat -> List Int -> List Int -> List Int
 | 0, o, _ => o
 | k + 1, o, l => gA z k (o.set (dA l) (o.getD (dA l) 0 + 1)) (l.set (dA l) z)
def cw (n : Int) (l : List Int) : List Int :=
 bif !(kh l) then List.replicate l.length 0 else
 bif decide (max n 0 >= gD l) then l else
 gA 0 (max n 0 - (bD (max n 0) (gD l) l).sum).toNat (bD (max n 0) (gD l) l) (iz (max n 0) (gD l) l)
theorem AI (l : List Int) : ∀ (r : List Int) (i b : Nat), b < l.length -> i + r.length <= l.length -> jx l r i b < l.length
 | [], _, b, h, _ => h
 | x :: r, i, b, h, h2 => by
  simp only [zac] at h2; unfold jx; refine AI l r (i + 1) _ ?_ (by omega); cases decide (x > l.getD b 0)
  . exact h
  . show i < l.length; omega
theorem jW {l : List Int} (h : l ≠ []) : dA l < l.length := AI l l 0 0 (List.length_pos_iff.2 h) (by simp)
theorem zH : ∀ (l : List Int) (s : Int), 0 <= s -> s <= 1152921504606846976 -> (oG l s).2 = true -> (∀ x ∈ l, 0 <= x /\ x <= 1152921504606846976) /\ (oG l s).1 = s + l.sum /\ s + l.sum <= 1152921504606846976
 | [], s, h1, h2, _ => by simp [oG, h2]
 | x :: l, s, h1, h2, h3 => by
  simp only [oG] at h3 ⊢
  by_cases hx : x < 0 \/ x > 1152921504606846976 - s
  . rw [show (decide (x < 0) || decide (x > 1152921504606846976 - s)) = true by simpa using hx] at h3; cases h3
  . rw [show (decide (x < 0) || decide (x > 1152921504606846976 - s)) = false by simp; omega] at h3 ⊢; simp only [zao] at h3 ⊢; obtain ⟨a, b, c⟩ := zH l (s + x) (by omega) (by omega) h3; refine ⟨fun y hy => ?_, by rw [b, zbn]; omega, by rw [zbn]; omega⟩; rcases za4.1 hy with rfl | hy
    . omega
    . exact a y hy
theorem ke {l : List Int} (h : kh l = true) : (∀ x ∈ l, 0 <= x /\ x <= 1152921504606846976) /\ gD l = l.sum /\ l.sum <= 1152921504606846976 := by
 obtain ⟨a, b, c⟩ := zH l 0 (by omega) (by omega) h; exact ⟨a, by unfold gD; omega, by omega⟩
theorem dS : ∀ (l : List Int), (∀ x ∈ l, 0 <= x) -> 0 <= l.sum
 | [], _ => by simp
 | x :: l, h => by
  have := h x (by simp); have := dS l (fun y hy => h y (by simp [hy])); rw [zbn]; omega
theorem uR {f g : Int -> Int} : ∀ (l : List Int), (∀ x ∈ l, f x <= g x) -> (l.map f).sum <= (l.map g).sum
 | [], _ => by simp
 | x :: l, h => by
  have := h x (by simp); have := uR l (fun y hy => h y (by simp [hy])); simp only [zaN, zbn]; omega
theorem xI {n s : Int} {l : List Int} (h1 : 0 <= n) (h2 : n < s) (hb : ∀ x ∈ l, 0 <= x /\ x <= 1152921504606846976) : (∀ y ∈ bD n s l, 0 <= y /\ y <= 1152921504606846976) /\ 0 <= (bD n s l).sum /\ (bD n s l).sum <= l.sum := by
 have e : ∀ x ∈ l, 0 <= n * x / s /\ n * x / s <= x := fun x hx => by
  have hx := hb x hx; refine ⟨zbt (za0 h1 hx.1) (by omega), ?_⟩; have : n * x <= s * x := za7 (by omega) hx.1; exact Int.ediv_le_of_le_mul (by omega) (by rw [za8 x s]; exact this)
 have a : ∀ y ∈ bD n s l, 0 <= y /\ y <= 1152921504606846976 := by
  intro y hy; obtain ⟨x, hx, rfl⟩ := zbq.1 hy; have := e x hx; have := hb x hx; omega
 refine ⟨a, dS _ (fun y hy => (a y hy).1), ?_⟩; have := uR (f := fun c => n * c / s) (g := id) l (fun x hx => (e x hx).2); simpa [bD] using this
theorem jm {l : List Int} {i : Nat} (h : i < l.length) : l.getD i 0 ∈ l := by
 rw [zag, zae h]; exact zbu h
theorem wA (z : Int) : ∀ (k : Nat) (o l : List Int), (gA z k o l).length = o.length
 | 0, _, _ => rfl
 | k + 1, o, l => by simp [gA, wA z k]
theorem tO (n : Int) (l : List Int) : (cw n l).length = l.length := by
 unfold cw; cases kh l
 . simp
 . cases decide (max n 0 >= gD l)
   . simp [wA, bD]
   . simp
theorem sk : ∀ (l : List Int) (b : Nat) (v : Int), b < l.length -> (l.set b v).sum = l.sum - l.getD b 0 + v
 | [], b, v, h => by simp at h
 | x :: l, 0, v, _ => by simp; omega
 | x :: l, b + 1, v, h => by
  have := sk l b v (by simpa using h); simp only [zbQ, zbn, zat]; omega
theorem gX (l : List Int) (b i : Nat) (v : Int) (h : b < l.length) : (l.set b v).getD i 0 = if i = b then v else l.getD i 0 := by
 simp only [zag, zbe]
 by_cases e : b = i
 . subst e; simp [h]
 . rw [if_neg e, if_neg (zcb e)]
theorem pq (l : List Int) : ∀ (r pre : List Int) (b : Nat), l = pre ++ r -> b < l.length -> (∀ j, j < pre.length -> l.getD j 0 <= l.getD b 0) -> (∀ j, j < b -> l.getD j 0 < l.getD b 0) -> b <= pre.length ->
 (∀ j, j < l.length -> l.getD j 0 <= l.getD (jx l r pre.length b) 0) /\ ∀ j, j < jx l r pre.length b -> l.getD j 0 < l.getD (jx l r pre.length b) 0
 | [], pre, b, he, hb, h1, h2, _ => by
  have : pre.length = l.length := by rw [he]; simp
  exact ⟨fun j hj => h1 j (by omega), h2⟩
 | x :: r, pre, b, he, hb, h1, h2, h3 => by
  have hg : l.getD pre.length 0 = x := by rw [he]; simp
  have hl : l.length = pre.length + (r.length + 1) := by rw [he]; simp
  have hp : (pre ++ [x]).length = pre.length + 1 := by simp
  simp only [jx]; rw [<- hp]
  by_cases hx : x > l.getD b 0
  . rw [show decide (x > l.getD b 0) = true from zah hx, zaC]; refine pq l r (pre ++ [x]) pre.length (by rw [he]; simp) (by omega) (fun j hj => ?_) (fun j hj => ?_) (by omega)
    . rw [hp] at hj
      by_cases e : j = pre.length
      . subst e; omega
      . have := h1 j (by omega); omega
    . have := h1 j hj; omega
  . rw [show decide (x > l.getD b 0) = false from zaQ hx, zao]; refine pq l r (pre ++ [x]) b (by rw [he]; simp) hb (fun j hj => ?_) h2 (by omega); rw [hp] at hj
    by_cases e : j = pre.length
    . subst e; omega
    . exact h1 j (by omega)
theorem k9 {l : List Int} (h : l ≠ []) : (∀ j, j < l.length -> l.getD j 0 <= l.getD (dA l) 0) /\ ∀ j, j < dA l -> l.getD j 0 < l.getD (dA l) 0 :=
 pq l l [] 0 rfl (List.length_pos_iff.2 h) (fun j hj => by simp at hj) (fun j hj => by omega) (by simp)
theorem lY : ∀ (l : List Int), (∀ x ∈ l, x <= 0) -> l.sum <= 0
 | [], _ => by simp
 | x :: l, h => by
  have := h x (by simp); have := lY l (fun y hy => h y (by simp [hy])); rw [zbn]; omega
theorem oy {l : List Int} {x : Int} (h : x ∈ l) : ∃ j, j < l.length /\ l.getD j 0 = x := by
 obtain ⟨j, hj, rfl⟩ := List.getElem_of_mem h; exact ⟨j, hj, by rw [zag, zae hj]; rfl⟩
theorem wJ {s : Int} (hs : 0 < s) : ∀ (k : Nat) (o l : List Int), o.length = l.length -> (∀ x ∈ l, 0 <= x /\ x < s) -> s * (k : Int) <= l.sum ->
 (gA 0 k o l).sum = o.sum + k /\ (∀ i, i < l.length -> (gA 0 k o l).getD i 0 = o.getD i 0 \/ ((gA 0 k o l).getD i 0 = o.getD i 0 + 1 /\ 0 < l.getD i 0)) /\
 ∀ i j, i < j -> j < l.length -> l.getD j 0 <= l.getD i 0 -> (gA 0 k o l).getD j 0 - o.getD j 0 <= (gA 0 k o l).getD i 0 - o.getD i 0
 | 0, o, l, hl, hb, hk => by simp [gA]
 | k + 1, o, l, hl, hb, hk => by
  have e1 : s * ((k + 1 : Nat) : Int) = s * k + s := by rw [zaA, zb2]; simp
  rw [e1] at hk; have hk0 : 0 <= s * (k : Int) := za0 (by omega) (by omega); have hne : l ≠ [] := by rintro rfl; simp at hk; omega
  have hB := jW hne; obtain ⟨hm, hf⟩ := k9 hne; have hpos : 0 < l.getD (dA l) 0 := by
   rcases Int.lt_or_le 0 (l.getD (dA l) 0) with h | h
   . exact h
   . have := lY l (fun x hx => by
      obtain ⟨j, hj, rfl⟩ := oy hx; have := hm j hj; omega)
     omega
  have hmem := hb _ (jm hB); simp only [gA]; generalize hbb : dA l = b at *
  have hs' := sk l b 0 hB; have ho' := sk o b (o.getD b 0 + 1) (by omega); obtain ⟨g1, g2, g3⟩ := wJ hs k (o.set b (o.getD b 0 + 1)) (l.set b 0) (by simp [hl]) (fun x hx => by
   rcases zbK hx with h | h
   . exact hb x h
   . omega) (by omega)
  generalize gA 0 k (o.set b (o.getD b 0 + 1)) (l.set b 0) = y at *
  simp only [zbd] at g2 g3; refine ⟨by rw [g1, ho']; simp only [zaA]; omega, fun i hi => ?_, fun i j hij hj hle => ?_⟩
  . have := g2 i hi; rw [gX _ _ _ _ (by omega), gX _ _ _ _ hB] at this
    by_cases e : i = b
    . subst e; simp only [↓reduceIte] at this; right; omega
    . simpa [e] using this
  . have a1 := g2 i (by omega); have a2 := g2 j hj; have a3 := g3 i j hij hj; rw [gX _ _ _ _ (by omega), gX _ _ _ _ hB] at a1 a2; rw [gX _ _ _ _ hB, gX _ _ _ _ hB, gX _ _ _ _ (by omega), gX _ _ _ _ (by omega)] at a3
    by_cases ei : i = b
    . subst ei; have ne : ¬ j = i := by omega
      simp only [↓reduceIte, ne] at a1 a2 a3; omega
    . by_cases ej : j = b
      . subst ej; have := hf i hij; omega
      . simp only [ei, ej, zbf] at a1 a2 a3; exact a3 hle
theorem ve (a s : Int) : ∀ l : List Int, s * (bD a s l).sum + (iz a s l).sum = a * l.sum
 | [] => by simp [bD, iz]
 | x :: l => by
  have := ve a s l; have e := zbc (a * x) s; show s * (a * x / s + (bD a s l).sum) + (a * x % s + (iz a s l).sum) = a * (x + l.sum)
  rw [zb2, zb2]; omega
theorem wD (f : Int -> Int) {l : List Int} {b : Nat} (h : b < l.length) : (l.map f).getD b 0 = f (l.getD b 0) := by
 simp [zag, zae h]
theorem EC {a : Int} {l : List Int} (ha : 0 <= a) (hok : kh l = true) (hlt : a < l.sum) : (cw a l).sum = a /\
 (∀ i, i < l.length -> (cw a l).getD i 0 = a * l.getD i 0 / l.sum \/ ((cw a l).getD i 0 = a * l.getD i 0 / l.sum + 1 /\ 0 < a * l.getD i 0 % l.sum)) /\
 ∀ i j, i < j -> j < l.length -> a * l.getD j 0 % l.sum <= a * l.getD i 0 % l.sum -> (cw a l).getD j 0 - a * l.getD j 0 / l.sum <= (cw a l).getD i 0 - a * l.getD i 0 / l.sum := by
 obtain ⟨hb, hs, hs2⟩ := ke hok; have hr : ∀ x ∈ iz a l.sum l, 0 <= x /\ x < l.sum := by
  intro y hy; obtain ⟨x, hx, rfl⟩ := zbq.1 hy; exact ⟨zbC _ (by omega), zbl _ (by omega)⟩
 have hsum := ve a l.sum l; have hr0 := dS _ (fun x hx => (hr x hx).1); have hk : 0 <= a - (bD a l.sum l).sum := by
  have : l.sum * (bD a l.sum l).sum <= l.sum * a := by rw [za8 l.sum a]; omega
  have := Int.le_of_mul_le_mul_left this (by omega); omega
 have he : cw a l = gA 0 (a - (bD a l.sum l).sum).toNat (bD a l.sum l) (iz a l.sum l) := by
  unfold cw; rw [hok, hs, show max a 0 = a by omega, show decide (a >= l.sum) = false from zaQ (by omega)]; rfl
 have hl1 : (bD a l.sum l).length = l.length := by simp [bD]
 have hl2 : (iz a l.sum l).length = l.length := by simp [iz]
 have d := wJ (s := l.sum) (by omega) (a - (bD a l.sum l).sum).toNat (bD a l.sum l) (iz a l.sum l) (by omega) hr (by
  rw [Int.toNat_of_nonneg hk, Int.mul_sub, za8 l.sum a]; omega)
 rw [<- he, hl2] at d; obtain ⟨d1, d2, d3⟩ := d; have ef : ∀ i, i < l.length -> (bD a l.sum l).getD i 0 = a * l.getD i 0 / l.sum := fun i hi => wD _ hi
 have er : ∀ i, i < l.length -> (iz a l.sum l).getD i 0 = a * l.getD i 0 % l.sum := fun i hi => wD _ hi
 refine ⟨by rw [d1, Int.toNat_of_nonneg hk]; omega, fun i hi => ?_, fun i j hij hj hle => ?_⟩
 . have := d2 i hi
   rwa [ef i hi, er i hi] at this
 . have := d3 i j hij hj (by rw [er i (by omega), er j hj]; exact hle)
   rwa [ef i (by omega), ef j hj] at this
theorem Ee {a : Int} {l : List Int} (hok : kh l = true) (hge : l.sum <= max a 0) : cw a l = l := by
 obtain ⟨hb, hs, hs2⟩ := ke hok; unfold cw; rw [hok, hs, show decide (max a 0 >= l.sum) = true from zah hge]; rfl
theorem I9 {a x s : Int} (ha : 0 <= a) (hlt : a < s) (hx : 0 <= x) : 0 <= a * x / s /\ a * x / s <= x /\ (0 < a * x % s -> a * x / s + 1 <= x) := by
 have e := zbc (a * x) s; have hm : a * x <= (s - 1) * x := za7 (by omega) hx; have hsx : (s - 1) * x = s * x - x := by rw [Int.sub_mul, Int.one_mul]
 refine ⟨zbt (za0 ha hx) (by omega), Int.ediv_le_of_le_mul (by omega) (by rw [za8 x s]; omega), fun h => ?_⟩; have : s * (a * x / s) < s * x := by omega
 have := Int.lt_of_mul_lt_mul_left this (by omega); omega
theorem zE {a : Int} {l : List Int} (ha : 0 <= a) (hok : kh l = true) : (cw a l).sum = min a l.sum /\ ∀ i, i < l.length -> 0 <= (cw a l).getD i 0 /\ (cw a l).getD i 0 <= l.getD i 0 := by
 obtain ⟨hb, hs, hs2⟩ := ke hok
 by_cases h : l.sum <= a
 . rw [Ee hok (by omega)]; exact ⟨by omega, fun i hi => ⟨(hb _ (jm hi)).1, zb9 _⟩⟩
 . obtain ⟨h1, h2, _⟩ := EC ha hok (by omega); refine ⟨by omega, fun i hi => ?_⟩; have hx := hb _ (jm hi); have := I9 (a := a) (s := l.sum) ha (by omega) hx.1; rcases h2 i hi with h | ⟨h, h'⟩ <;> omega
def bB : List Bool -> List Int -> List Int
 | [], _ => []
 | false :: ms, l => 0 :: bB ms l
 | true :: ms, l => l.headD 0 :: bB ms l.tail
def iQ : List Bool -> Nat -> Nat
 | [], _ => 0
 | false :: ms, i => iQ ms i + 1
 | true :: _, 0 => 0
 | true :: ms, i + 1 => iQ ms i + 1
def bC : List Bool -> Nat
 | [] => 0
 | false :: ms => bC ms
 | true :: ms => bC ms + 1
theorem kj : ∀ (ms : List Bool) (l : List Int), (bB ms l).length = ms.length
 | [], _ => rfl
 | false :: ms, l => by simp [bB, kj ms l]
 | true :: ms, l => by simp [bB, kj ms l.tail]
theorem rY : ∀ (ms : List Bool) (i : Nat), i < bC ms -> iQ ms i < ms.length
 | [], i, h => by simp [bC] at h
 | false :: ms, i, h => by have := rY ms i h; simp [iQ]; omega
 | true :: ms, 0, _ => by simp [iQ]
 | true :: ms, i + 1, h => by have := rY ms i (by simpa [bC] using h); simp [iQ]; omega
theorem pV : ∀ (ms : List Bool) (i j : Nat), i < j -> j < bC ms -> iQ ms i < iQ ms j
 | [], i, j, _, h => by simp [bC] at h
 | false :: ms, i, j, h, h2 => by have := pV ms i j h h2; simp [iQ]; omega
 | true :: ms, 0, j + 1, _, _ => by simp [iQ]
 | true :: ms, i + 1, j + 1, h, h2 => by have := pV ms i j (by omega) (by simpa [bC] using h2); simp [iQ]; omega
theorem gC : ∀ (ms : List Bool) (l : List Int) (i : Nat), l.length = bC ms -> i < bC ms -> (bB ms l).getD (iQ ms i) 0 = l.getD i 0
 | [], l, i, _, h => by simp [bC] at h
 | false :: ms, l, i, h, h2 => by simp only [bB, iQ, zat]; exact gC ms l i h h2
 | true :: ms, [], i, h, _ => by simp [bC] at h
 | true :: ms, x :: l, 0, h, _ => by simp [bB, iQ]
 | true :: ms, x :: l, i + 1, h, h2 => by
  simp only [bB, iQ, zat, List.tail_cons]; exact gC ms l i (by simpa [bC] using h) (by simpa [bC] using h2)
theorem og : ∀ (ms : List Bool) (l : List Int) (i : Nat) (v : Int), l.length = bC ms -> i < bC ms -> (bB ms l).set (iQ ms i) v = bB ms (l.set i v)
 | [], l, i, v, _, h => by simp [bC] at h
 | false :: ms, l, i, v, h, h2 => by simp only [bB, iQ, zbQ]; rw [og ms l i v h h2]
 | true :: ms, [], i, v, h, _ => by simp [bC] at h
 | true :: ms, x :: l, 0, v, h, _ => by simp [bB, iQ]
 | true :: ms, x :: l, i + 1, v, h, h2 => by
  simp only [bB, iQ, zbQ, List.tail_cons, List.headD_cons]; rw [og ms l i v (by simpa [bC] using h) (by simpa [bC] using h2)]
theorem rW : ∀ (ms : List Bool) (p : Nat), p < ms.length -> (∃ i, i < bC ms /\ p = iQ ms i) \/ ∀ l, (bB ms l).getD p 0 = 0
 | [], p, h => by simp at h
 | false :: ms, 0, _ => .inr fun l => by simp [bB]
 | true :: ms, 0, _ => .inl ⟨0, by simp [bC], by simp [iQ]⟩
 | false :: ms, p + 1, h => by
  rcases rW ms p (by simpa using h) with ⟨i, h1, h2⟩ | h2
  . exact .inl ⟨i, h1, by simp [iQ, h2]⟩
  . exact .inr fun l => by simp only [bB, zat]; exact h2 l
 | true :: ms, p + 1, h => by
  rcases rW ms p (by simpa using h) with ⟨i, h1, h2⟩ | h2
  . exact .inl ⟨i + 1, by simp [bC, h1], by simp [iQ, h2]⟩
  . exact .inr fun l => by simp only [bB, zat]; exact h2 _
theorem zz {l : List Int} {b : Nat} (hb : b < l.length) (h1 : ∀ j, j < l.length -> l.getD j 0 <= l.getD b 0) (h2 : ∀ j, j < b -> l.getD j 0 < l.getD b 0) : dA l = b := by
 have hne : l ≠ [] := by rintro rfl; simp at hb
 obtain ⟨m1, m2⟩ := k9 hne; have hB := jW hne; rcases Nat.lt_trichotomy (dA l) b with h | h | h
 . have := h2 _ h; have := m1 b hb; omega
 . exact h
 . have := m2 _ h; have := h1 _ hB; omega
theorem zC (ms : List Bool) (l : List Int) (hl : l.length = bC ms) (hp : 0 < l.getD (dA l) 0) : dA (bB ms l) = iQ ms (dA l) := by
 have hne : l ≠ [] := by rintro rfl; simp at hp
 obtain ⟨m1, m2⟩ := k9 hne; have hB := jW hne; rw [hl] at hB; refine zz (by rw [kj]; exact rY ms _ hB) (fun j hj => ?_) (fun j hj => ?_)
 . rw [gC ms l _ hl hB]; rw [kj] at hj; rcases rW ms j hj with ⟨i, h1, rfl⟩ | h2
   . rw [gC ms l i hl h1]; exact m1 i (by omega)
   . rw [h2]; omega
 . rw [gC ms l _ hl hB]; have hj2 : j < ms.length := Nat.lt_trans hj (rY ms _ hB); rcases rW ms j hj2 with ⟨i, h1, rfl⟩ | h2
   . rw [gC ms l i hl h1]; refine m2 i ?_
     rcases Nat.lt_trichotomy i (dA l) with h | h | h
     . exact h
     . subst h; omega
     . have := pV ms _ _ h h1; omega
   . rw [h2]; exact hp
theorem xh {s : Int} (hs : 0 < s) (ms : List Bool) : ∀ (k : Nat) (o l : List Int), o.length = bC ms -> l.length = bC ms -> (∀ x ∈ l, 0 <= x /\ x < s) -> s * (k : Int) <= l.sum ->
 gA 0 k (bB ms o) (bB ms l) = bB ms (gA 0 k o l)
 | 0, o, l, _, _, _, _ => rfl
 | k + 1, o, l, ho, hl, hb, hk => by
  have e1 : s * ((k + 1 : Nat) : Int) = s * k + s := by rw [zaA, zb2]; simp
  rw [e1] at hk; have hk0 : 0 <= s * (k : Int) := za0 (by omega) (by omega); have hne : l ≠ [] := by rintro rfl; simp at hk; omega
  have hB := jW hne; obtain ⟨hm, hf⟩ := k9 hne; have hpos : 0 < l.getD (dA l) 0 := by
   rcases Int.lt_or_le 0 (l.getD (dA l) 0) with h | h
   . exact h
   . have := lY l (fun x hx => by
      obtain ⟨j, hj, rfl⟩ := oy hx; have := hm j hj; omega)
     omega
  have hmem := hb _ (jm hB); have hs' := sk l (dA l) 0 hB; simp only [gA]; rw [zC ms l hl hpos, gC ms o _ ho (by omega), og ms o _ _ ho (by omega), og ms l _ _ hl (by omega)]; refine xh hs ms k _ _ (by simpa using ho) (by simpa using hl) (fun x hx => ?_) (by omega); rcases zbK hx with h | h
  . exact hb x h
  . omega
theorem o7 (f : Int -> Int) (h0 : f 0 = 0) : ∀ (ms : List Bool) (l : List Int), (bB ms l).map f = bB ms (l.map f)
 | [], _ => rfl
 | false :: ms, l => by simp [bB, h0, o7 f h0 ms l]
 | true :: ms, l => by
  simp only [bB, zaN, o7 f h0 ms l.tail]; cases l with
  | nil => simp [h0]
  | cons x l => simp
theorem mD : ∀ (ms : List Bool) (l : List Int), l.length = bC ms -> (bB ms l).sum = l.sum
 | [], l, h => by rw [zav h]; rfl
 | false :: ms, l, h => by simp [bB, mD ms l h]
 | true :: ms, [], h => by simp [bC] at h
 | true :: ms, x :: l, h => by simp [bB, mD ms l (by simpa [bC] using h)]
theorem tF : ∀ (ms : List Bool) (l : List Int) (y : Int), y ∈ bB ms l -> y = 0 \/ y ∈ l
 | [], _, y, h => by simp [bB] at h
 | false :: ms, l, y, h => by
  simp only [bB, za4] at h; rcases h with h | h
  . exact .inl h
  . exact tF ms l y h
 | true :: ms, l, y, h => by
  simp only [bB, za4] at h; rcases h with h | h
  . cases l with
    | nil => exact .inl (by simpa using h)
    | cons x l => exact .inr (by simp at h; simp [h])
  . rcases tF ms l.tail y h with h | h
    . exact .inl h
    . exact .inr (List.mem_of_mem_tail h)
theorem EU (ms : List Bool) (n : Int) (l : List Int) (hl : l.length = bC ms) (b : Int) (hb0 : 0 <= b) (hb : ∀ x ∈ l, 0 <= x /\ x <= b) (h4 : ms.length * b <= 1152921504606846976) :
 cw n (bB ms l) = bB ms (cw n l) := by
 have hlm : bC ms <= ms.length := by
  clear hl h4
  induction ms with
  | nil => simp [bC]
  | cons c ms ih => cases c <;> simp [bC] <;> omega
 have hlb : (l.length : Int) * b <= ms.length * b := za7 (by omega) hb0; obtain ⟨s1, o1⟩ := rS hb0 hb (by omega); have hb2 : ∀ x ∈ bB ms l, 0 <= x /\ x <= b := fun x hx => by
  rcases tF ms l x hx with h | h
  . omega
  . exact hb x h
 obtain ⟨s2, o2⟩ := rS hb0 hb2 (by rw [kj]; exact h4); rw [mD ms l hl] at s2; obtain ⟨hB, _, hs2⟩ := ke o1; have h0 := dS l (fun x hx => (hb x hx).1); unfold cw; rw [o1, o2, s1, s2]; simp only [zbD, zao]
 by_cases h : max n 0 >= l.sum
 . rw [zah h, zaC, zaC]
 . rw [zaQ h, zao, zao]; have ef : bD (max n 0) l.sum (bB ms l) = bB ms (bD (max n 0) l.sum l) := o7 (fun c => max n 0 * c / l.sum) (by simp) ms l; have er : iz (max n 0) l.sum (bB ms l) = bB ms (iz (max n 0) l.sum l) := o7 (fun c => max n 0 * c % l.sum) (by simp) ms l; have lf : (bD (max n 0) l.sum l).length = bC ms := by simpa [bD] using hl
   have lr : (iz (max n 0) l.sum l).length = bC ms := by simpa [iz] using hl
   rw [ef, er, mD ms _ lf]; have hr : ∀ x ∈ iz (max n 0) l.sum l, 0 <= x /\ x < l.sum := by
    intro y hy; obtain ⟨x, hx, rfl⟩ := zbq.1 hy; exact ⟨zbC _ (by omega), zbl _ (by omega)⟩
   have hsum := ve (max n 0) l.sum l; have hr0 := dS _ (fun x hx => (hr x hx).1); have hk : 0 <= max n 0 - (bD (max n 0) l.sum l).sum := by
    have : l.sum * (bD (max n 0) l.sum l).sum <= l.sum * max n 0 := by rw [za8 l.sum (max n 0)]; omega
    have := Int.le_of_mul_le_mul_left this (by omega); omega
   exact xh (s := l.sum) (by omega) ms _ _ _ lf lr hr (by rw [Int.toNat_of_nonneg hk, Int.mul_sub, za8 l.sum (max n 0)]; omega)
theorem Nt {n c p : Int} (h1 : 0 <= n) (h2 : n < p) (h3 : p <= 1152921504606846976) (h4 : 0 <= c) (h5 : c <= 1152921504606846976) : mdV n c p 0 = n * c / p /\ nH n c p 0 = true /\ 0 <= n * c / p /\ n * c / p <= c := by
 have h : n * c / p <= c := by
  have : n * c <= p * c := za7 (by omega) h4; exact Int.ediv_le_of_le_mul (by omega) (by rw [za8 c p]; exact this)
 have ok : nH n c p 0 = true := by rw [DA h1 (by omega) h4 h5 (by omega) h3 (by omega) (by omega), NP]; simp; omega
 exact ⟨by unfold mdV; rw [ok, NP]; rfl, ok, zbt (za0 h1 h4) (by omega), h⟩
theorem Ig {n c s q : Int} (hq : q = n * c / s) (h1 : 0 <= n) (h2 : 0 < s) (h3 : s <= 1152921504606846976) (h4 : 0 <= c) :
 ou (ou (ou n * ou c) - ou (ou q * ou s)) = n * c % s := by
 show IntKind.u64.wrap (IntKind.u64.wrap (IntKind.u64.wrap n * IntKind.u64.wrap c) - IntKind.u64.wrap (IntKind.u64.wrap q * IntKind.u64.wrap s)) = n * c % s; simp only [mn]; rw [<- Int.mul_emod, <- Int.mul_emod, <- Int.sub_emod]; have e := zbc (n * c) s; have a := zbC (n * c) (show s ≠ 0 by omega); have b := zbl (n * c) h2; rw [<- hq] at e; rw [show n * c - q * s = n * c % s by rw [za8 q s]; omega]; exact Int.emod_eq_of_lt a (by omega)
theorem Al {α : Type} (pre done : List α) (x y : α) (rest : List α) (h : done.length = pre.length) : List.set (done ++ x :: rest) pre.length y = done ++ y :: rest := by rw [<- h]; simp
def MH : aC := ⟨T65.tab, 100, ⟨[.ints .i64], [], 0⟩, ⟨[.int .i64, .bool], [], 0⟩, []⟩
abbrev yB : Type := Int × List Int × Int × Int
def se (m : Nat) (k : yB -> Option (List Un)) : yB -> Option (List Un) := fun (a0, a1, a2, a3) =>
 bif decide (a3 < a2) then
 chk (inb a3 a1.length) <|
 chk (decide (a3.toNat < a1.length)) <|
 bif (decide ((a1.getD a3.toNat 0) < 0)) then
 some ([.i 0, .b false])
 else
 bif (decide ((a1.getD a3.toNat 0) > (w64 (1152921504606846976 - a0)))) then
 some ([.i 0, .b false])
 else
 k ((w64 (a0 + (a1.getD a3.toNat 0))), a1, a2, (w64 (a3 + 1)))
 else
 some ([.i a0, .b true])
def pM (m : Nat) : Nat -> yB -> Option (List Un) := bp (se m)
theorem qm (m : Nat) (n : Nat) : pM m (n + 1) = se m (pM m n) := rfl
def A6 (F : yB -> Option (List Un)) : aW := ⟨[.lp [0, 1, 0, 1, 1], .blk 0, .code [1, 1, 1]], ⟨frm 26 [(4, .int .i64), (7, .ints .i64), (8, .int .i64), (9, .int .i64)], [], 0⟩, onU F⟩
theorem Me (m : Nat) : ∀ n, HO MH (A6 (pM m n)) := au ah T65.right (fun k => [A6 k]) (fun k h => (aL h aA)) fun k a => by kernel_rfl
def t100 (m : Nat) : List Int -> Option (List Un) := fun a0 =>
 pM m m (0, a0, (a0.length : Int), 0)
theorem Lf (m : Nat) : ∀ (rest pre : List Int) (s : Int) (n : Nat), rest.length < n -> 0 <= s -> s <= 1152921504606846976 -> (pre ++ rest).length < 1099511627776 ->
 pM m n (s, pre ++ rest, ((pre ++ rest).length : Int), (pre.length : Int)) = some [.i (oG rest s).1, .b (oG rest s).2] := by
 intro rest
 induction rest with
 | nil =>
  intro pre s n hn h1 h2 h3; obtain ⟨n, rfl⟩ := al n (by simp at hn; omega); rw [qm]; unfold se; dsimp only; simp [aF, oG]
 | cons x rest ih =>
  intro pre s n hn h1 h2 h3; obtain ⟨n, rfl⟩ := al n (by simp at hn; omega); simp only [zad, zac] at h3 hn; rw [qm]; unfold se; dsimp only; simp only [oG]
  by_cases c1 : x < 0
  . rw [zah c1, Bool.true_or, zaC]; simp (disch := omega) only [TRa, TRi, aa, LNl, LNi, zaa, bx]
  . by_cases c2 : x > 1152921504606846976 - s
    . rw [zah c2, Bool.or_true, zaC]; simp (disch := omega) only [TRa, TRi, aa, LNl, LNi, zaa, bx]
    . rw [zaQ c1, zaQ c2, zca, zao]; have := ih (pre ++ [x]) (s + x) n (by omega) (by omega) (by omega) (by simp; omega); simp (disch := omega) only [TRa, TRi, aa, LNl, LNi, zaa, bx]; simp only [LNl, LNi, zaa] at this ⊢; exact this
def f100 : List Int -> Bool × List Un := fun a0 => (decide (a0.length < 1099511627776), [.i (gD a0), .b (kh a0)])
theorem K7 (a0 : List Int) (hc : (decide (a0.length < 1099511627776)) = true) : ∃ m, t100 m a0 = some ([.i (gD a0), .b (kh a0)]) := by
 exact ⟨a0.length + 1, Lf _ a0 [] 0 _ (by omega) (by omega) (by omega) (by simpa using zaj hc)⟩
theorem Ge : ER 100 (mkE MH.en MH.ex f100) := an ah T65.right (fun m => [A6 (pM m m)]) (t := t100) (by kernel_rfl) (fun m => (aL (Me m m) aA)) (fun m a => by kernel_rfl) fun a0 hc => K7 a0 hc
def JI : Tb Tryz.prog LQ TE XX := T65.add 100 _ Ge
def LP : aC := ⟨JI.tab, 140, ⟨[.int .i64, .int .i64, .ints .i64], [], 0⟩, ⟨[.buf 0 1, .buf 1 1], [.ints .i64, .ints .u64], 0⟩, []⟩
abbrev zh : Type := Int × Int × List Int × Int × Int × List Int × List Int
def rB (m : Nat) (k : zh -> Option (List Un)) : zh -> Option (List Un) := fun (a0, a1, a2, a3, a4, a5, a6) =>
 bif decide (a4 < a3) then
 chk (inb a4 a2.length) <|
 chk (decide (a4.toNat < a2.length)) <|
 chk (inb a4 a5.length) <|
 chk (decide (a4.toNat < a5.length)) <|
 lt ((List.set a5 a4.toNat (mdV a0 (a2.getD a4.toNat 0) a1 0)) : List Int) fun l5 =>
 chk (inb a4 l5.length) <|
 chk (decide (a4.toNat < l5.length)) <|
 chk (inb a4 a6.length) <|
 chk (decide (a4.toNat < a6.length)) <|
 k (a0, a1, a2, a3, (w64 (a4 + 1)), l5, (List.set a6 a4.toNat (ou ((ou ((ou a0) * (ou (a2.getD a4.toNat 0)))) - (ou ((ou (l5.getD a4.toNat 0)) * (ou a1)))))))
 else
 some ([.l a5, .l a6])
def pU (m : Nat) : Nat -> zh -> Option (List Un) := bp (rB m)
theorem qO (m : Nat) (n : Nat) : pU m (n + 1) = rB m (pU m n) := rfl
def Bj (F : zh -> Option (List Un)) : aW := ⟨[.lp [0, 1, 0, 1, 1], .blk 0, .code [1, 1, 1]], ⟨frm 55 [(0, .int .i64), (1, .int .i64), (8, .buf 0 1), (9, .buf 1 1), (18, .ints .i64), (19, .int .i64), (20, .int .i64)], [.ints .i64, .ints .u64], 0⟩, onU F⟩
theorem LA (m : Nat) : ∀ n, HO LP (Bj (pU m n)) := au ah JI.right (fun k => [Bj k]) (fun k h => (aL h aA)) fun k a => by kernel_rfl
def t140 (m : Nat) : Int × Int × List Int -> Option (List Un) := fun (a0, a1, a2) =>
 chk (kH (a2.length : Int) 8) <|
 chk (kH (a2.length : Int) 8) <|
 pU m m (a0, a1, a2, (a2.length : Int), 0, (List.replicate a2.length 0), (List.replicate a2.length 0))
theorem LJ (m : Nat) (a s : Int) (h1 : 0 <= a) (h2 : a < s) (h3 : s <= 1152921504606846976) : ∀ (rest pre d1 d2 : List Int) (n : Nat), rest.length < n -> d1.length = pre.length -> d2.length = pre.length -> (∀ x ∈ rest, 0 <= x /\ x <= 1152921504606846976) -> (pre ++ rest).length < 1099511627776 ->
 pU m n (a, s, pre ++ rest, ((pre ++ rest).length : Int), (pre.length : Int), d1 ++ List.replicate rest.length 0, d2 ++ List.replicate rest.length 0) = some [.l (d1 ++ bD a s rest), .l (d2 ++ iz a s rest)] := by
 intro rest
 induction rest with
 | nil =>
  intro pre d1 d2 n hn p1 p2 hb h4; obtain ⟨n, rfl⟩ := al n (by simp at hn; omega); rw [qO]; unfold rB; dsimp only; simp [aF, bD, iz]
 | cons x rest ih =>
  intro pre d1 d2 n hn p1 p2 hb h4; obtain ⟨n, rfl⟩ := al n (by simp at hn; omega); simp only [zad, zac] at h4 hn; rw [qO]; unfold rB; dsimp only; simp only [zac, zbs]; have hx := hb x (by simp); obtain ⟨e1, _, _, _⟩ := Nt h1 h2 h3 hx.1 hx.2; have := ih (pre ++ [x]) (d1 ++ [a * x / s]) (d2 ++ [a * x % s]) n (by omega) (by simp; omega) (by simp; omega) (fun y hy => hb y (by simp [hy])) (by simp; omega); have le := Ig (n := a) (c := x) (s := s) rfl h1 (by omega) h3 hx.1; simp (disch := omega) only [TRa, TRi, aa, LNl, LNi, zaa, bx, e1, Al _ _ _ _ _ p1, wI _ _ _ _ _ p1, Al _ _ _ _ _ p2]; rw [le]; simp only [LNl, LNi, zaa] at this ⊢; refine this.trans ?_
  simp [bD, iz]
def f140 : Int × Int × List Int -> Bool × List Un := fun (a0, a1, a2) => (decide (0 <= a0 /\ a0 < a1 /\ a1 <= 1152921504606846976 /\ a2.length < 1099511627776) && pj a2, [.l (bD a0 a1 a2), .l (iz a0 a1 a2)])
theorem Ji (a0 : Int) (a1 : Int) (a2 : List Int) (hc : (decide (0 <= a0 /\ a0 < a1 /\ a1 <= 1152921504606846976 /\ a2.length < 1099511627776) && pj a2) = true) : ∃ m, t140 m (a0, a1, a2) = some ([.l (bD a0 a1 a2), .l (iz a0 a1 a2)]) := by
 simp only [zab, zai, uW] at hc; obtain ⟨⟨h1, h2, h3, h4⟩, hb⟩ := hc; refine ⟨a2.length + 1, ?_⟩; unfold t140; simp (disch := omega) only [TRa, TRi, aa]; exact LJ (a2.length + 1) a0 a1 h1 h2 h3 a2 [] [] [] (a2.length + 1) (by omega) rfl rfl hb (by simpa using h4)
theorem F9 : ER 140 (mkE LP.en LP.ex f140) := an ah JI.right (fun m => [Bj (pU m m)]) (t := t140) (by kernel_rfl) (fun m => (aL (LA m m) aA)) (fun m a => by kernel_rfl) fun (a0, a1, a2) hc => Ji a0 a1 a2 hc
def Eg : Tb Tryz.prog LQ TE XX := JI.add 140 _ F9
def EF : aC := ⟨Eg.tab, 134, ⟨[.int .i64, .ints .i64], [], 0⟩, ⟨[.buf 0 1], [.ints .i64], 0⟩, []⟩
abbrev zk : Type := Int × Int × Int × Int × List Int × List Int
abbrev kM : Type := Int × List Int × List Int
abbrev yw : Type := Int × Int × Int × List Int × List Int
def rM (m : Nat) (k1 : kM -> Option (List Un)) (k : zk -> Option (List Un)) : zk -> Option (List Un) := fun (a0, a1, a2, a3, a4, a5) =>
 bif decide (a3 < a2) then
 chk (inb a3 a5.length) <|
 chk (decide (a3.toNat < a5.length)) <|
 chk (inb a1 a5.length) <|
 chk (decide (a1.toNat < a5.length)) <|
 bif (decide ((a5.getD a3.toNat 0) > (a5.getD a1.toNat 0))) then
 k (a0, a3, a2, (w64 (a3 + 1)), a4, a5)
 else
 k (a0, a1, a2, (w64 (a3 + 1)), a4, a5)
 else
 chk (inb a1 a4.length) <|
 chk (decide (a1.toNat < a4.length)) <|
 chk (inb a1 a4.length) <|
 chk (decide (a1.toNat < a4.length)) <|
 chk (inb a1 a5.length) <|
 chk (decide (a1.toNat < a5.length)) <|
 k1 ((w64 (a0 - 1)), (List.set a4 a1.toNat (w64 ((a4.getD a1.toNat 0) + 1))), (List.set a5 a1.toNat 0))
def pG (m : Nat) (k1 : kM -> Option (List Un)) : Nat -> zk -> Option (List Un) := bp (rM m k1)
theorem qL (m : Nat) (k1 : kM -> Option (List Un)) (n : Nat) : pG m k1 (n + 1) = rM m k1 (pG m k1 n) := rfl
def Bq (F : zk -> Option (List Un)) : aW := ⟨[.lp [0, 1, 0, 1, 0, 0, 1, 0, 0, 0, 1, 1, 1, 1, 1, 1, 1, 1], .blk 4, .code [1, 1, 0, 0, 1, 0, 0, 0, 1, 1, 1, 1, 1, 1, 1, 1], .blk 3, .code [1, 1, 0, 0, 0, 1, 1, 1, 1, 1, 1, 1, 1], .lp [0, 0, 1, 1, 1, 1, 1, 1, 1, 1], .blk 2, .code [1, 1, 1, 1, 1, 1, 1, 1, 1]], ⟨frm 80 [(7, .buf 0 1), (8, .buf 1 1), (9, .int .i64), (12, .int .i64), (55, .int .i64), (56, .int .i64)], [.ints .i64, .ints .u64], 0⟩, onU F⟩
def rG (m : Nat) (k : kM -> Option (List Un)) : kM -> Option (List Un) := fun (a0, a1, a2) =>
 bif decide (a0 > 0) then
 pG m k m (a0, 0, (a2.length : Int), 0, a1, a2)
 else
 some ([.l a1])
def mC (m : Nat) : Nat -> kM -> Option (List Un) := bp (rG m)
theorem qH (m : Nat) (n : Nat) : mC m (n + 1) = rG m (mC m n) := rfl
def xL (F : kM -> Option (List Un)) : aW := ⟨[.lp [0, 0, 1, 1, 1, 1, 1, 1, 1, 1], .blk 2, .code [1, 1, 1, 1, 1, 1, 1, 1, 1]], ⟨frm 80 [(7, .buf 0 1), (8, .buf 1 1), (9, .int .i64)], [.ints .i64, .ints .u64], 0⟩, onU F⟩
def ru (m : Nat) (k : yw -> Option (List Un)) : yw -> Option (List Un) := fun (a0, a1, a2, a3, a4) =>
 bif decide (a2 < a1) then
 chk (inb a2 a3.length) <|
 chk (decide (a2.toNat < a3.length)) <|
 k ((w64 (a0 - (a3.getD a2.toNat 0))), a1, (w64 (a2 + 1)), a3, a4)
 else
 mC m m (a0, a3, a4)
def pB (m : Nat) : Nat -> yw -> Option (List Un) := bp (ru m)
theorem qv (m : Nat) (n : Nat) : pB m (n + 1) = ru m (pB m n) := rfl
def Cq (F : yw -> Option (List Un)) : aW := ⟨[.lp [0, 1, 0, 1, 1, 1, 1, 1, 1, 1], .blk 0, .code [1, 1, 1, 1, 1, 1, 1, 1]], ⟨frm 80 [(7, .buf 0 1), (8, .buf 1 1), (9, .int .i64), (40, .buf 0 1), (41, .int .i64), (42, .int .i64)], [.ints .i64, .ints .u64], 0⟩, onU F⟩
theorem Nm (m : Nat) (k1 : kM -> Option (List Un)) (h1 : HO EF (xL k1)) : ∀ n, HO EF (Bq (pG m k1 n)) := au ah Eg.right (fun k => [xL k1, Bq k]) (fun k h => (aL h1 (aL h aA))) fun k a => by kernel_rfl
theorem Nf (m : Nat) : ∀ n, HO EF (xL (mC m n)) := au ah Eg.right (fun k => [Bq (pG m (k) m)]) (fun k h => (aL (Nm m _ h m) aA)) fun k a => by kernel_rfl
theorem MM (m : Nat) : ∀ n, HO EF (Cq (pB m n)) := au ah Eg.right (fun k => [Cq k, xL (mC m m)]) (fun k h => (aL h (aL (Nf m m) aA))) fun k a => by kernel_rfl
def t134 (m : Nat) : Int × List Int -> Option (List Un) := fun (a0, a1) =>
 chk (decide (a1.length < 1099511627776)) <|
 bif !(kh a1) then
 chk (kH (a1.length : Int) 8) <|
 some ([.l (List.replicate a1.length 0)])
 else
 lt ((if a0 < 0 then 0 else a0) : Int) fun x2 =>
 bif decide (x2 >= (gD a1)) then
 chk (fits (0 + a1.length) 8) <|
 some ([.l a1])
 else
 chk (decide (0 <= x2 /\ x2 < (gD a1) /\ (gD a1) <= 1152921504606846976 /\ a1.length < 1099511627776) && pj a1) <|
 lt ((bD x2 (gD a1) a1) : List Int) fun l3 =>
 pB m m (x2, (l3.length : Int), 0, l3, (iz x2 (gD a1) a1))
theorem Gy (m : Nat) (k1 : kM -> Option (List Un)) (left : Int) (out lost : List Int) (h1 : 0 < left) (h2 : left < 4611686018427387904) (hl : out.length = lost.length) (hs : lost.length < 1099511627776)
 (hb : ∀ x ∈ out, 0 <= x /\ x < 4611686018427387904) : ∀ (rest pre : List Int) (b n : Nat), rest.length < n -> lost = pre ++ rest -> b < lost.length ->
 pG m k1 n (left, (b : Int), (lost.length : Int), (pre.length : Int), out, lost) =
  k1 (left - 1, out.set (jx lost rest pre.length b) (out.getD (jx lost rest pre.length b) 0 + 1), lost.set (jx lost rest pre.length b) 0) := by
 intro rest
 induction rest with
 | nil =>
  intro pre b n hn he hlt; obtain ⟨n, rfl⟩ := al n (by simp at hn; omega); have hp : pre.length = lost.length := by rw [he]; simp
  have hm := hb _ (jm (l := out) (i := b) (by omega)); rw [qL]; unfold rM; dsimp only; simp only [jx, zaF]; simp (disch := omega) only [TRa, TRi, aa]
 | cons x rest ih =>
  intro pre b n hn he hlt; obtain ⟨n, rfl⟩ := al n (by simp at hn; omega); have hp : lost.length = pre.length + (rest.length + 1) := by rw [he]; simp
  have hg : lost.getD pre.length 0 = x := by rw [he]; simp
  rw [qL]; unfold rM; dsimp only; simp only [jx, zaF, hg]; have i1 := ih (pre ++ [x]) pre.length n (by simp at hn; omega) (by rw [he]; simp) (by omega); have i2 := ih (pre ++ [x]) b n (by simp at hn; omega) (by rw [he]; simp) hlt; simp only [zad, zac, zay, zaA, zaD, zaa] at i1 i2
  by_cases c : x > lost.getD b 0
  . simp (disch := omega) only [TRa, TRi, aa]; exact i1
  . simp (disch := omega) only [TRa, TRi, aa]; exact i2
theorem G3 (m : Nat) : ∀ (k : Nat) (left : Int) (out lost : List Int) (n : Nat), left.toNat = k -> k < n -> left < 4611686018427387904 -> out.length = lost.length -> lost.length < 1099511627776 -> lost.length < m -> lost ≠ [] -> (∀ x ∈ out, 0 <= x /\ x + left < 4611686018427387904) ->
 mC m n (left, out, lost) = some [.l (gA 0 k out lost)] := by
 intro k
 induction k with
 | zero =>
  intro left out lost n hk hn h2 hl hs hm hne hb; obtain ⟨n, rfl⟩ := al n (by omega); rw [qH]; unfold rG; dsimp only; simp only [gA]; rw [aF (by omega)]
 | succ k ih =>
  intro left out lost n hk hn h2 hl hs hm hne hb; obtain ⟨n, rfl⟩ := al n (by omega); rw [qH]; unfold rG; dsimp only; have hB := jW hne; rw [bJ (by omega)]; have := Gy m (mC m n) left out lost (by omega) h2 hl hs (fun x hx => by have := hb x hx; omega) lost [] 0 m hm rfl (List.length_pos_iff.2 hne); simp only [zay, Int.natCast_zero] at this; refine this.trans ?_
  have hq := hb _ (jm (l := out) (i := dA lost) (by omega)); rw [show jx lost lost 0 0 = dA lost from rfl]; refine ih _ _ _ _ (by omega) (by omega) (by omega) (by simp [hl]) (by simpa using hs) (by simpa using hm) (by intro h; simp at h; exact hne h) (fun x hx => ?_); rcases zbK hx with h | h
  . have := hb x h; omega
  . omega
theorem O0 (m : Nat) (lost : List Int) : ∀ (rest pre : List Int) (left : Int) (n : Nat), rest.length < n -> (∀ x ∈ rest, 0 <= x /\ x <= 1152921504606846976) -> -1152921504606846976 <= left - rest.sum -> left <= 1152921504606846976 -> (pre ++ rest).length < 1099511627776 ->
 pB m n (left, ((pre ++ rest).length : Int), (pre.length : Int), pre ++ rest, lost) = mC m m (left - rest.sum, pre ++ rest, lost) := by
 intro rest
 induction rest with
 | nil =>
  intro pre left n hn hb h1 h2 h3; obtain ⟨n, rfl⟩ := al n (by simp at hn; omega); rw [qv]; unfold ru; dsimp only; simp [aF]
 | cons x rest ih =>
  intro pre left n hn hb h1 h2 h3; obtain ⟨n, rfl⟩ := al n (by simp at hn; omega); simp only [zad, zac] at h3 hn; have hx := hb x (by simp); have hs := dS rest (fun y hy => (hb y (by simp [hy])).1); rw [zbn] at h1 ⊢; rw [qv]; unfold ru; dsimp only; have := ih (pre ++ [x]) (left - x) n (by omega) (fun y hy => hb y (by simp [hy])) (by omega) (by omega) (by simp; omega); rw [show left - (x + rest.sum) = left - x - rest.sum by omega]; simp (disch := omega) only [TRa, TRi, aa, LNl, LNi, zaa, bx]; simp only [LNl, LNi, zaa] at this ⊢; exact this
def f134 : Int × List Int -> Bool × List Un := fun (a0, a1) => (decide (a0 <= 9223372036854775807 /\ a1.length < 1099511627776), [.l (cw a0 a1)])
theorem KM (a0 : Int) (a1 : List Int) (hc : (decide (a0 <= 9223372036854775807 /\ a1.length < 1099511627776)) = true) : ∃ m, t134 m (a0, a1) = some ([.l (cw a0 a1)]) := by
 obtain ⟨h1, h2⟩ := zaj hc; clear hc; refine ⟨1152921504606846976 + a1.length + 2, ?_⟩; unfold t134 cw; dsimp only; rw [aO h2]; cases hok : kh a1 with
 | false =>
  simp only [Bool.not_false, zaC]; simp (disch := omega) only [TRa, TRi, aa]
 | true =>
  simp only [zbD, zao]; obtain ⟨hb, hs, hs2⟩ := ke hok; simp only [lt_eq]; rw [kX a0 0]; generalize hn : max a0 0 = a; have ha : 0 <= a := by omega
  have hr : pj a1 = true := uW.2 hb
  by_cases hge : a >= gD a1
  . simp only [show decide (a >= gD a1) = true by simpa using hge, zaC]; simp (disch := omega) only [TRa, TRi, aa, zaD]
  . simp only [show decide (a >= gD a1) = false by simpa using hge, zao]; obtain ⟨f1, f2, f3⟩ := xI (l := a1) ha (show a < gD a1 by omega) hb; have hlf : (bD a (gD a1) a1).length = a1.length := by simp [bD]
    have hlr : (iz a (gD a1) a1).length = a1.length := by simp [iz]
    have hne : a1 ≠ [] := by rintro rfl; simp at hs; omega
    have e1 := O0 (1152921504606846976 + a1.length + 2) (iz a (gD a1) a1) (bD a (gD a1) a1) [] a (1152921504606846976 + a1.length + 2) (by omega) f1 (by omega) (by omega) (by simp; omega); have e2 := G3 (1152921504606846976 + a1.length + 2) _ (a - (bD a (gD a1) a1).sum) (bD a (gD a1) a1) (iz a (gD a1) a1) (1152921504606846976 + a1.length + 2) rfl (by omega) (by omega) (by omega) (by omega) (by omega)
     (by intro h; have := congrArg List.length h; rw [hlr] at this; exact hne (zav this)) (fun x hx => by have := f1 x hx; omega)
    rw [hr, zbb]; simp (disch := omega) only [aO]; exact e1.trans e2
theorem GR : ER 134 (mkE EF.en EF.ex f134) := an ah Eg.right (fun m => [Cq (pB m m)]) (t := t134) (by kernel_rfl) (fun m => (aL (MM m m) aA)) (fun m a => by kernel_rfl) fun (a0, a1) hc => KM a0 a1 hc
def HP : Tb Tryz.prog LQ TE XX := Eg.add 134 _ GR
@[ext] structure bc where
 ar : Int
 fee : Int
 bG : Int
 aj : Int
 room : Int
instance : Uns bc := Uns.via (B := Int × Int × Int × Int × Int) (fun x => (x.ar, x.fee, x.bG, x.aj, x.room)) (fun x => match x with | (ar, fee, bG, aj, room) => ⟨ar, fee, bG, aj, room⟩) (fun _ => rfl)
def isN : Dat -> Bool
 | .n _ => true
 | .r _ => false
def lj (k : Nat) : Dat -> Bool
 | .r l => l.length == k && l.all isN
 | .n _ => false
theorem B1 : ∀ {d : Dat}, isN d = true -> d = .n d.int
 | .n _, _ => rfl
 | .r _, h => by cases h
theorem B5 {d : Dat} (h : lj 3 d = true) : d = .r [.n (d.i 0), .n (d.i 1), .n (d.i 2)] := by
 match d, h with
 | .r [a, b, c], h =>
  simp [lj] at h; obtain ⟨h1, h2, h3⟩ := h; show Dat.r [a, b, c] = .r [.n a.int, .n b.int, .n c.int]; rw [<- B1 h1, <- B1 h2, <- B1 h3]
 | .r [], h => simp [lj] at h
 | .r [a], h => simp [lj] at h
 | .r [a, b], h => simp [lj] at h
 | .r (a :: b :: c :: d :: l), h => simp [lj] at h
def jR (d : Dat) : Bool := lj 3 d && decide (0 <= d.i 1 /\ d.i 1 <= 1125899906842624 /\ 0 <= d.i 2 /\ d.i 2 <= 1125899906842624)
theorem cm {d : Dat} (h : jR d = true) : lj 3 d = true /\ 0 <= d.i 1 /\ d.i 1 <= 1125899906842624 /\ 0 <= d.i 2 /\ d.i 2 <= 1125899906842624 := by
 simp only [jR, zab, zai] at h; exact h
def aP (c : List Dat) : Bool := decide (c.length <= 1000) && c.all jR
theorem bK {c : List Dat} (h : aP c = true) : c.length <= 1000 /\ ∀ d ∈ c, jR d = true := by
 simp only [aP, zab, zai, zan] at h; exact h
theorem sV {c : List Dat} (h1 : c.length <= 1000) (h2 : ∀ d ∈ c, jR d = true) : aP c = true := by
 simp only [aP, zab, zai, zan]; exact ⟨h1, h2⟩
def bY (j : Nat) (x : Int) (d : Dat) : Dat := if j = 1 then .r [.n (d.i 0), .n (d.i 1 - x), .n (d.i 2)] else .r [.n (d.i 0), .n (d.i 1), .n (d.i 2 - x)]
def bP (j : Nat) : List Int -> List Dat -> List Dat
 | x :: xs, d :: c => bY j x d :: bP j xs c
 | _, _ => []
def bF (at_ kind : Int) : Int -> List Int -> List Dat
 | _, [] => []
 | i, x :: xs => (if 0 < x then [.r [.n at_, .n kind, .n i, .n x]] else []) ++ bF at_ kind (i + 1) xs
def jO (at_ kind n : Int) : List Dat := if 0 < n then [.r [.n at_, .n kind, .n (-1), .n n]] else []
def aq (sel : Dat -> Bool) (j : Nat) (n : Int) (c : List Dat) : List Int := cw n (c.map fun d => bif sel d then d.i j else 0)
def aH (r : Int) (d : Dat) : Bool := d.i 0 == r
def br (at_ kind : Int) : Nat -> Int -> Int -> List Dat -> List Dat × List Dat × Int
 | 0, _, _, c => (c, [], 0)
 | k + 1, r, n, c =>
  ((br at_ kind k (r + 1) (n - (aq (aH r) 1 n c).sum) (bP 1 (aq (aH r) 1 n c) c)).1,
   bF at_ kind 0 (aq (aH r) 1 n c) ++ (br at_ kind k (r + 1) (n - (aq (aH r) 1 n c).sum) (bP 1 (aq (aH r) 1 n c) c)).2.1,
   (aq (aH r) 1 n c).sum + (br at_ kind k (r + 1) (n - (aq (aH r) 1 n c).sum) (bP 1 (aq (aH r) 1 n c) c)).2.2)
def dq (at_ kind rank : Int) (x : bc) (c : List Dat) : bc × List Dat × List Dat :=
 if kind = 1 then ({ x with ar := x.ar - min x.fee x.ar, fee := x.fee - min x.fee x.ar }, c, jO at_ kind (min x.fee x.ar))
 else if kind = 2 then ({ x with ar := x.ar - min x.bG x.ar, bG := x.bG - min x.bG x.ar }, c, jO at_ kind (min x.bG x.ar))
 else if kind = 6 then ({ x with ar := x.ar - min x.room x.ar, room := x.room - min x.room x.ar }, c, jO at_ kind (min x.room x.ar))
 else if kind = 3 then ({ x with ar := x.ar - (aq (aH rank) 2 x.ar c).sum }, bP 2 (aq (aH rank) 2 x.ar c) c, bF at_ kind 0 (aq (aH rank) 2 x.ar c))
 else if kind = 4 then ({ x with ar := x.ar - (br at_ kind 8 0 (min x.aj x.ar) c).2.2, aj := x.aj - (br at_ kind 8 0 (min x.aj x.ar) c).2.2 }, (br at_ kind 8 0 (min x.aj x.ar) c).1, (br at_ kind 8 0 (min x.aj x.ar) c).2.1)
 else if kind = 5 then ({ x with ar := x.ar - (aq (fun _ => true) 1 (min x.aj x.ar) c).sum, aj := x.aj - (aq (fun _ => true) 1 (min x.aj x.ar) c).sum }, bP 1 (aq (fun _ => true) 1 (min x.aj x.ar) c) c, bF at_ kind 0 (aq (fun _ => true) 1 (min x.aj x.ar) c))
 else if kind = 7 then ({ x with ar := x.ar - (br at_ kind 8 0 x.ar c).2.2 }, (br at_ kind 8 0 x.ar c).1, (br at_ kind 8 0 x.ar c).2.1)
 else (x, c, [])
def dE : Int -> List Dat -> bc -> List Dat -> bc × List Dat × List Dat
 | _, [], x, c => (x, c, [])
 | at_, s :: l, x, c => ((dE (at_ + 1) l (dq at_ (s.i 0) (s.i 1) x c).1 (dq at_ (s.i 0) (s.i 1) x c).2.1).1, (dE (at_ + 1) l (dq at_ (s.i 0) (s.i 1) x c).1 (dq at_ (s.i 0) (s.i 1) x c).2.1).2.1, (dq at_ (s.i 0) (s.i 1) x c).2.2 ++ (dE (at_ + 1) l (dq at_ (s.i 0) (s.i 1) x c).1 (dq at_ (s.i 0) (s.i 1) x c).2.1).2.2)
def m9 (x : bc) : Bool := decide ((0 <= x.ar /\ x.ar <= 1152921504606846976) /\ (0 <= x.fee /\ x.fee <= 1152921504606846976) /\ (0 <= x.bG /\ x.bG <= 1152921504606846976) /\ (0 <= x.aj /\ x.aj <= 1152921504606846976) /\ (0 <= x.room /\ x.room <= 1152921504606846976))
theorem rT {x : bc} (h : m9 x = true) : (0 <= x.ar /\ x.ar <= 1152921504606846976) /\ (0 <= x.fee /\ x.fee <= 1152921504606846976) /\ (0 <= x.bG /\ x.bG <= 1152921504606846976) /\ (0 <= x.aj /\ x.aj <= 1152921504606846976) /\ (0 <= x.room /\ x.room <= 1152921504606846976) := zaj h
def CN (sel : Dat -> Bool) (j : Nat) (c : List Dat) : Int := (c.map fun d => bif sel d then d.i j else 0).sum
theorem ma {c : List Dat} (sel : Dat -> Bool) {j : Nat} (hj : j = 1 \/ j = 2) (h : aP c = true) : (∀ x ∈ (c.map fun d => bif sel d then d.i j else 0), 0 <= x /\ x <= 1125899906842624) /\ kh (c.map fun d => bif sel d then d.i j else 0) = true /\ 0 <= CN sel j c /\ CN sel j c <= 1125899906842624 * c.length := by
 obtain ⟨h1, h2⟩ := bK h; have hb : ∀ x ∈ (c.map fun d => bif sel d then d.i j else 0), 0 <= x /\ x <= 1125899906842624 := by
  intro x hx; obtain ⟨d, hd, rfl⟩ := zbq.1 hx; have := cm (h2 d hd); cases sel d
  . simp only [zao]; omega
  . rcases hj with rfl | rfl <;> simp only [zaC] <;> omega
 have hl : (c.map fun d => bif sel d then d.i j else 0).length = c.length := by simp
 have hm : ((c.map fun d => bif sel d then d.i j else 0).length : Int) * 1125899906842624 <= 1152921504606846976 := by rw [hl]; omega
 have hs := pO _ 1125899906842624 (by decide) hb; rw [hl] at hs; exact ⟨hb, (rS (by decide) hb hm).2, hs.1, by unfold CN; omega⟩
theorem Aa {n : Int} {l : List Int} (h : n <= 0) : cw n l = cw 0 l := by
 unfold cw; rw [show max n 0 = max 0 0 by omega]
theorem dP {c : List Dat} (sel : Dat -> Bool) {j : Nat} (hj : j = 1 \/ j = 2) (n : Int) (h : aP c = true) : (aq sel j n c).length = c.length /\ (aq sel j n c).sum = min (max n 0) (CN sel j c) /\ ∀ i, i < c.length -> 0 <= (aq sel j n c).getD i 0 /\ (aq sel j n c).getD i 0 <= bif sel (ag c i) then (ag c i).i j else 0 := by
 obtain ⟨hb, ho, hw0, hw1⟩ := ma sel hj h; have e : aq sel j n c = cw (max n 0) (c.map fun d => bif sel d then d.i j else 0) := by
  by_cases hn : 0 <= n
  . rw [show max n 0 = n by omega]; rfl
  . rw [show max n 0 = 0 by omega]; exact Aa (by omega)
 rw [e]; obtain ⟨h1, h2⟩ := zE (a := max n 0) (by omega) ho; refine ⟨by rw [tO]; simp, h1, fun i hi => ?_⟩; have := h2 i (by simpa using hi)
 rwa [show (c.map fun d => bif sel d then d.i j else 0).getD i 0 = bif sel (ag c i) then (ag c i).i j else 0 by simp [zag, hi, ag]] at this
theorem mA (j : Nat) : ∀ (xs : List Int) (c : List Dat), xs.length = c.length -> (bP j xs c).length = c.length
 | [], [], _ => rfl
 | x :: xs, d :: c, h => by simp [bP, mA j xs c (by simpa using h)]
 | [], _ :: _, h => by simp at h
 | _ :: _, [], h => by simp at h
theorem mf (j : Nat) : ∀ (xs : List Int) (c : List Dat) (i : Nat), xs.length = c.length -> i < c.length -> ag (bP j xs c) i = bY j (xs.getD i 0) (ag c i)
 | [], [], i, _, h => by simp at h
 | x :: xs, d :: c, 0, _, _ => rfl
 | x :: xs, d :: c, i + 1, h, hi => mf j xs c i (by simpa using h) (by simpa using hi)
 | [], _ :: _, _, h, _ => by simp at h
 | _ :: _, [], _, h, _ => by simp at h
theorem oB {l : List Dat} {d : Dat} (h : d ∈ l) : ∃ i, i < l.length /\ ag l i = d := by
 obtain ⟨i, hi, rfl⟩ := List.getElem_of_mem h; exact ⟨i, hi, mw hi⟩
theorem mJ {l : List Dat} {i : Nat} (h : i < l.length) : ag l i ∈ l := by rw [mw h]; exact zbu h
theorem zW {d : Dat} {j : Nat} {x : Int} (hj : j = 1 \/ j = 2) (h : jR d = true) (h0 : 0 <= x) (h1 : x <= d.i j) : jR (bY j x d) = true := by
 have := cm h; rcases hj with rfl | rfl
 . simp only [bY, za9, jR, zab, zai, eA, iC]; exact ⟨rfl, by omega⟩
 . simp only [bY, show ¬ (2 : Nat) = 1 by decide, zbf, jR, zab, zai, eA, iC]; exact ⟨rfl, by omega⟩
theorem oI {c : List Dat} (sel : Dat -> Bool) {j : Nat} (hj : j = 1 \/ j = 2) (n : Int) (h : aP c = true) : aP (bP j (aq sel j n c) c) = true /\ (bP j (aq sel j n c) c).length = c.length := by
 obtain ⟨l1, l2, l3⟩ := dP sel hj n h; obtain ⟨h1, h2⟩ := bK h; have hl := mA j _ c l1; refine ⟨sV (by omega) fun d hd => ?_, hl⟩; obtain ⟨i, hi, rfl⟩ := oB hd; rw [hl] at hi; rw [mf j _ c i l1 hi]; have := l3 i hi; have hg := h2 _ (mJ hi); refine zW hj hg this.1 ?_
 have h4 := cm hg; cases hs : sel (ag c i) <;> rw [hs] at this
 . rcases hj with rfl | rfl <;> simp only [zao] at this <;> omega
 . exact this.2
theorem jl (a k : Int) : ∀ (xs : List Int) (i : Int), (bF a k i xs).length <= xs.length
 | [], i => by simp [bF]
 | x :: xs, i => by
  have := jl a k xs (i + 1); simp only [bF, zad, zac]
  split <;> simp <;> omega
theorem Cu (a k n : Int) : (jO a k n).length <= 1 := by unfold jO; split <;> simp
theorem uL (a kd : Int) : ∀ (k : Nat) (r n : Int) (c : List Dat), aP c = true -> aP (br a kd k r n c).1 = true /\ (br a kd k r n c).1.length = c.length /\ (br a kd k r n c).2.1.length <= k * c.length /\ 0 <= (br a kd k r n c).2.2 /\ (br a kd k r n c).2.2 <= max n 0
 | 0, r, n, c, h => ⟨h, rfl, by simp [br], by simp [br], by simp only [br]; omega⟩
 | k + 1, r, n, c, h => by
  obtain ⟨g1, g2⟩ := oI (aH r) (j := 1) (.inl rfl) n h; obtain ⟨l1, l2, l3⟩ := dP (aH r) (j := 1) (.inl rfl) n h; obtain ⟨_, _, w0, w1⟩ := ma (aH r) (j := 1) (.inl rfl) h; obtain ⟨i1, i2, i3, i4, i5⟩ := uL a kd k (r + 1) (n - (aq (aH r) 1 n c).sum) _ g1; have hp := jl a kd (aq (aH r) 1 n c) 0; simp only [br]; refine ⟨i1, by omega, ?_, by omega, by omega⟩; rw [zad, za6]; rw [g2] at i3; omega
theorem uM (a kd rk : Int) {x : bc} {c : List Dat} (hx : m9 x = true) (h : aP c = true) : m9 (dq a kd rk x c).1 = true /\ aP (dq a kd rk x c).2.1 = true /\ (dq a kd rk x c).2.1.length = c.length /\ (dq a kd rk x c).2.2.length <= 8000 := by
 have hx' := rT hx; have hc := (bK h).1; have p1 := Cu a kd; have s2 := fun sel j hj n => dP (c := c) sel (j := j) hj n h
 have w2 := fun sel j hj => (ma (c := c) sel (j := j) hj h).2.2
 have g2 := fun sel j hj n => oI (c := c) sel (j := j) hj n h
 have r2 := fun n => uL a kd 8 0 n c h
 unfold dq
 by_cases k1 : kd = 1
 . rw [if_pos k1]; exact ⟨zah (by simp only; omega), h, rfl, by have := p1 (min x.fee x.ar); simp only; omega⟩
 rw [if_neg k1]
 by_cases k1 : kd = 2
 . rw [if_pos k1]; exact ⟨zah (by simp only; omega), h, rfl, by have := p1 (min x.bG x.ar); simp only; omega⟩
 rw [if_neg k1]
 by_cases k1 : kd = 6
 . rw [if_pos k1]; exact ⟨zah (by simp only; omega), h, rfl, by have := p1 (min x.room x.ar); simp only; omega⟩
 rw [if_neg k1]
 by_cases k1 : kd = 3
 . rw [if_pos k1]; have q1 := s2 (aH rk) 2 (.inr rfl) x.ar; have q2 := w2 (aH rk) 2 (.inr rfl); have q3 := g2 (aH rk) 2 (.inr rfl) x.ar; have q4 := jl a kd (aq (aH rk) 2 x.ar c) 0; exact ⟨zah (by simp only; omega), q3.1, q3.2, by simp only; omega⟩
 rw [if_neg k1]
 by_cases k1 : kd = 4
 . rw [if_pos k1]; have q := r2 (min x.aj x.ar); generalize br a kd 8 0 (min x.aj x.ar) c = y at *
   exact ⟨zah (by simp only; omega), q.1, q.2.1, by simp only; omega⟩
 rw [if_neg k1]
 by_cases k1 : kd = 5
 . rw [if_pos k1]; have q1 := s2 (fun _ => true) 1 (.inl rfl) (min x.aj x.ar); have q2 := w2 (fun _ => true) 1 (.inl rfl); have q3 := g2 (fun _ => true) 1 (.inl rfl) (min x.aj x.ar); have q4 := jl a kd (aq (fun _ => true) 1 (min x.aj x.ar) c) 0; exact ⟨zah (by simp only; omega), q3.1, q3.2, by simp only; omega⟩
 rw [if_neg k1]
 by_cases k1 : kd = 7
 . rw [if_pos k1]; have q := r2 x.ar; generalize br a kd 8 0 x.ar c = y at *
   exact ⟨zah (by simp only; omega), q.1, q.2.1, by simp only; omega⟩
 rw [if_neg k1]; exact ⟨hx, h, rfl, by simp⟩
theorem CW : ∀ (l : List Dat) (a : Int) (x : bc) (c : List Dat), m9 x = true -> aP c = true -> m9 (dE a l x c).1 = true /\ aP (dE a l x c).2.1 = true /\ (dE a l x c).2.1.length = c.length /\ (dE a l x c).2.2.length <= 8000 * l.length
 | [], a, x, c, hx, h => ⟨hx, h, rfl, by simp [dE]⟩
 | s :: l, a, x, c, hx, h => by
  obtain ⟨h1, h2, h3, h4⟩ := uM a (s.i 0) (s.i 1) hx h; obtain ⟨i1, i2, i3, i4⟩ := CW l (a + 1) _ _ h1 h2; simp only [dE, zad, zac]; exact ⟨i1, i2, by omega, by omega⟩
def gr (sel : Dat -> Bool) : Int -> List Dat -> List Int
 | _, [] => []
 | i, d :: c => bif sel d then i :: gr sel (i + 1) c else gr sel (i + 1) c
def dm (sel : Dat -> Bool) (j : Nat) : List Dat -> List Int
 | [] => []
 | d :: c => bif sel d then d.i j :: dm sel j c else dm sel j c
def jX (j : Nat) : List Int -> List Int -> List Dat -> List Dat
 | w :: ws, x :: xs, c => jX j ws xs (c.set w.toNat (bY j x (ag c w.toNat)))
 | _, _, c => c
def rl (at_ kind : Int) : List Int -> List Int -> List Dat
 | w :: ws, x :: xs => (if 0 < x then [.r [.n at_, .n kind, .n w, .n x]] else []) ++ rl at_ kind ws xs
 | _, _ => []
theorem Ey {j : Nat} {d : Dat} (h : lj 3 d = true) : bY j 0 d = d := by
 have e := B5 h; unfold bY; rw [zbm, zbm, <- e]
 split <;> rfl
theorem mU (sel : Dat -> Bool) (j : Nat) : ∀ (rest pre : List Dat) (xs : List Int), xs.length = bC (rest.map sel) -> (∀ d ∈ rest, lj 3 d = true) ->
 jX j (gr sel pre.length rest) xs (pre ++ rest) = pre ++ bP j (bB (rest.map sel) xs) rest
 | [], pre, xs, h, _ => by rw [zav h]; simp [gr, jX, bP, bB]
 | d :: rest, pre, xs, h, hr => by
  have ih := fun xs h y => mU sel j rest (pre ++ [y]) xs h (fun z hz => hr z (by simp [hz]))
  simp only [zad, zac, zay, zaJ, zaX, zaV, zaA, zaa, zaD] at ih; simp only [zaN] at h; cases hs : sel d
  . rw [hs] at h; simp only [gr, hs, zao, zaN, bB, bP]; rw [Ey (hr d (by simp)), <- ih xs h d]
  . rw [hs] at h; cases xs with
    | nil => simp [bC] at h
    | cons x xs =>
     simp only [gr, hs, zaC, zaN, bB, bP, jX, zaF, DE, ax, List.headD_cons, List.tail_cons]; exact ih xs (by simpa [bC] using h) _
theorem oj (a k : Int) (sel : Dat -> Bool) : ∀ (rest : List Dat) (i : Int) (xs : List Int), xs.length = bC (rest.map sel) -> rl a k (gr sel i rest) xs = bF a k i (bB (rest.map sel) xs)
 | [], i, xs, h => by rw [zav h]; rfl
 | d :: rest, i, xs, h => by
  have ih := fun xs h => oj a k sel rest (i + 1) xs h
  simp only [zaN] at h; cases hs : sel d
  . rw [hs] at h; simp only [gr, hs, zao, zaN, bB, bF]; rw [ih xs h]; rfl
  . rw [hs] at h; cases xs with
    | nil => simp [bC] at h
    | cons x xs =>
     simp only [gr, hs, zaC, zaN, bB, bF, rl, List.headD_cons, List.tail_cons]; rw [ih xs (by simpa [bC] using h)]
theorem wE (sel : Dat -> Bool) (j : Nat) : ∀ c : List Dat, (c.map fun d => bif sel d then d.i j else 0) = bB (c.map sel) (dm sel j c)
 | [] => rfl
 | d :: c => by
  have := wE sel j c; simp only [zaN, dm]; cases hs : sel d <;> simp [bB, this]
theorem uJ (sel : Dat -> Bool) (j : Nat) : ∀ c : List Dat, (dm sel j c).length = bC (c.map sel)
 | [] => rfl
 | d :: c => by
  have := uJ sel j c; cases hs : sel d <;> simp [dm, hs, bC, this]
theorem oq (sel : Dat -> Bool) : ∀ (c : List Dat) (i : Int), (gr sel i c).length = bC (c.map sel)
 | [], _ => rfl
 | d :: c, i => by
  have := oq sel c (i + 1); cases hs : sel d <;> simp [gr, hs, bC, this]
theorem jZ : ∀ ms : List Bool, bC ms <= ms.length
 | [] => zam _
 | false :: ms => by have := jZ ms; simp [bC]; omega
 | true :: ms => by have := jZ ms; simp [bC]; omega
theorem pc (sel : Dat -> Bool) : ∀ (c : List Dat) (i : Int), ∀ w ∈ gr sel i c, i <= w /\ w < i + c.length
 | [], i, w, h => by simp [gr] at h
 | d :: c, i, w, h => by
  have ih := pc sel c (i + 1) w; simp only [zac, zaA]; cases hs : sel d <;> simp only [gr, hs, zao, zaC, za4] at h
  . have := ih h; omega
  . rcases h with h | h
    . omega
    . have := ih h; omega
theorem oz (sel : Dat -> Bool) (j : Nat) : ∀ c : List Dat, ∀ x ∈ dm sel j c, ∃ d ∈ c, x = d.i j
 | [], x, h => by simp [dm] at h
 | d :: c, x, h => by
  cases hs : sel d <;> simp only [dm, hs, zao, zaC, za4] at h
  . obtain ⟨e, h1, h2⟩ := oz sel j c x h; exact ⟨e, by simp [h1], h2⟩
  . rcases h with h | h
    . exact ⟨d, by simp, h⟩
    . obtain ⟨e, h1, h2⟩ := oz sel j c x h; exact ⟨e, by simp [h1], h2⟩
theorem jE (sel : Dat -> Bool) {j : Nat} (hj : j = 1 \/ j = 2) (n : Int) {c : List Dat} (h : aP c = true) : aq sel j n c = bB (c.map sel) (cw n (dm sel j c)) := by
 obtain ⟨h1, h2⟩ := bK h; unfold aq; rw [wE]; refine EU (c.map sel) n (dm sel j c) (uJ sel j c) 1125899906842624 (by decide) (fun x hx => ?_) (by simp; omega); obtain ⟨d, hd, rfl⟩ := oz sel j c x hx; have := cm (h2 d hd); rcases hj with rfl | rfl <;> omega
theorem sO (sel : Dat -> Bool) {j : Nat} (hj : j = 1 \/ j = 2) (n : Int) {c : List Dat} (h : aP c = true) : (cw n (dm sel j c)).length = bC (c.map sel) /\ (∀ x ∈ cw n (dm sel j c), 0 <= x /\ x <= 1125899906842624) /\ 0 <= (cw n (dm sel j c)).sum /\ (cw n (dm sel j c)).sum <= 1125899906842624000 /\ (cw n (dm sel j c)).sum = (aq sel j n c).sum := by
 obtain ⟨h1, h2⟩ := bK h; have hb : ∀ x ∈ dm sel j c, 0 <= x /\ x <= 1125899906842624 := fun x hx => by
  obtain ⟨d, hd, rfl⟩ := oz sel j c x hx; have := cm (h2 d hd); rcases hj with rfl | rfl <;> omega
 have hl := uJ sel j c; have ht := jZ (c.map sel); rw [za1] at ht; have hok := (rS (l := dm sel j c) (b := 1125899906842624) (by decide) hb (by omega)).2; have e : cw n (dm sel j c) = cw (max n 0) (dm sel j c) := by
  by_cases hn : 0 <= n
  . rw [show max n 0 = n by omega]
  . rw [show max n 0 = 0 by omega]; exact Aa (by omega)
 obtain ⟨p1, p2⟩ := zE (a := max n 0) (by omega) hok; have hm : ∀ x ∈ cw n (dm sel j c), 0 <= x /\ x <= 1125899906842624 := by
  intro x hx; obtain ⟨i, hi, rfl⟩ := oy hx; rw [tO] at hi; rw [e]; have := p2 i hi; have := hb _ (jm hi); omega
 have hlen : (cw n (dm sel j c)).length = bC (c.map sel) := by rw [tO, hl]
 have hs := pO _ _ (by decide) hm; rw [hlen] at hs; refine ⟨hlen, hm, hs.1, by omega, ?_⟩; rw [jE sel hj n h, mD _ _ hlen]
def K1 : aC := ⟨HP.tab, 108, ⟨[.ptr 0 0 0, .int .i64, .fn 135 [] [.ptr 3 0 0], .fn 110 [] []], [.cells [.int .i64, .int .i64, .int .i64, .int .i64, .int .i64, .buf 1 3, .int .i64, .int .i64, .buf 2 4], .ai (sI 3), .ai (sI 4), .cells [.int .i64]], 0⟩, ⟨[.int .i64], [.cells [.int .i64, .int .i64, .int .i64, .int .i64, .int .i64, .buf 1 3, .int .i64, .int .i64, .buf 4 4], .ai (sI 3), .gone, .gone, .ai (sI 4)], 0⟩, []⟩
abbrev yV : Type := Int × Int × Int × bc × Int × Int × List Dat × List Int × List Int × List Dat
abbrev xx : Type := Int × Int × Int × bc × Int × Int × List Dat × Int × List Int × List Int × List Dat
def rK (m : Nat) (k : yV -> Option (List Un)) : yV -> Option (List Un) := fun (a0, a1, a2, a3, a4, a5, a6, a7, a8, a9) =>
 bif decide (a2 < a1) then
 chk (inb a2 a8.length) <|
 chk (decide (a2.toNat < a8.length)) <|
 chk (inb a2 a7.length) <|
 chk (decide (a2.toNat < a7.length)) <|
 chk (inb (a7.getD a2.toNat 0) a6.length) <|
 chk (decide ((a7.getD a2.toNat 0).toNat < a6.length)) <|
 chk (decide ((a7.getD a2.toNat 0).toNat < a6.length)) <|
 lt (ag a6 ((a7.getD a2.toNat 0).toNat) : Dat) fun d4 =>
 lt ((List.set a6 ((a7.getD a2.toNat 0).toNat) (.r [.n (d4.i 0), .n (d4.i 1), .n (w64 (((ag a6 ((a7.getD a2.toNat 0).toNat)).i 2) - (a8.getD a2.toNat 0)))])) : List Dat) fun l5 =>
 lt ((w64 (a0 + (a8.getD a2.toNat 0))) : Int) fun x6 =>
 chk (inb a2 a7.length) <|
 chk (decide (a2.toNat < a7.length)) <|
 bif (decide ((a8.getD a2.toNat 0) > 0)) then
 chk (fits (a9.length + 1) 32) <|
 k (x6, a1, (w64 (a2 + 1)), a3, a4, a5, l5, a7, a8, (a9 ++ ([.r [.n a4, .n a5, .n (a7.getD a2.toNat 0), .n (a8.getD a2.toNat 0)]])))
 else
 k (x6, a1, (w64 (a2 + 1)), a3, a4, a5, l5, a7, a8, a9)
 else
 some ([.i a0] ++ Uns.enc (({ a3 with ar := (w64 (a3.ar - a0)) } : bc) : bc) ++ [.i a4, .i a5, .d a6, .d a9])
def nI (m : Nat) : Nat -> yV -> Option (List Un) := bp (rK m)
theorem qu (m : Nat) (n : Nat) : nI m (n + 1) = rK m (nI m n) := rfl
def BN (F : yV -> Option (List Un)) : aW := ⟨[.lp [0, 1, 0, 1, 1, 1, 1], .blk 2, .code [1, 1, 1, 1, 1]], ⟨frm 88 [(0, .ptr 0 0 0), (3, .fn 110 [] []), (9, .buf 4 1), (13, .int .i64), (44, .buf 5 1), (45, .int .i64), (46, .int .i64)], [.cells [.int .i64, .int .i64, .int .i64, .int .i64, .int .i64, .buf 1 3, .int .i64, .int .i64, .buf 6 4], .ai (sI 3), .gone, .gone, .ints .i64, .ints .i64, .ai (sI 4)], 0⟩, onU F⟩
def rN (m : Nat) (k : xx -> Option (List Un)) : xx -> Option (List Un) := fun (a0, a1, a2, a3, a4, a5, a6, a7, a8, a9, a10) =>
 bif decide (a2 < a1) then
 chk (inb a2 a6.length) <|
 chk (decide (a2.toNat < a6.length)) <|
 lt (ag a6 a2.toNat : Dat) fun d1 =>
 bif (d1.i 0) == a7 then
 chk (fits (a8.length + 1) 8) <|
 chk (fits (a9.length + 1) 8) <|
 k (a0, a1, (w64 (a2 + 1)), a3, a4, a5, a6, a7, (a8 ++ ([a2])), (a9 ++ ([(d1.i 2)])), a10)
 else
 k (a0, a1, (w64 (a2 + 1)), a3, a4, a5, a6, a7, a8, a9, a10)
 else
 chk (decide (a0 <= 9223372036854775807 /\ a9.length < 1099511627776)) <|
 nI m m (0, ((cw a0 a9).length : Int), 0, a3, a4, a5, a6, a8, (cw a0 a9), a10)
def pI (m : Nat) : Nat -> xx -> Option (List Un) := bp (rN m)
theorem qq (m : Nat) (n : Nat) : pI m (n + 1) = rN m (pI m n) := rfl
def Ci (F : xx -> Option (List Un)) : aW := ⟨[.lp [0, 1, 0, 1, 1], .blk 0, .code [1, 1, 1]], ⟨frm 88 [(0, .ptr 0 0 0), (1, .int .i64), (2, .fn 135 [] [.ptr 4 0 0]), (3, .fn 110 [] []), (9, .buf 5 1), (10, .buf 6 1), (20, .buf 1 3), (21, .int .i64), (22, .int .i64)], [.cells [.int .i64, .int .i64, .int .i64, .int .i64, .int .i64, .buf 1 3, .int .i64, .int .i64, .buf 7 4], .ai (sI 3), .gone, .gone, .cells [.int .i64], .ints .i64, .ints .i64, .ai (sI 4)], 0⟩, onU F⟩
theorem NW (m : Nat) : ∀ n, HO K1 (BN (nI m n)) := au ah HP.right (fun k => [BN k]) (fun k h => (aL h aA)) fun k a => by kernel_rfl
theorem LW (m : Nat) : ∀ n, HO K1 (Ci (pI m n)) := au ah HP.right (fun k => [Ci k, BN (nI m m)]) (fun k h => (aL h (aL (NW m m) aA))) fun k a => by kernel_rfl
def Mq (m : Nat) : Int × bc × Int × Int × List Dat × List Dat × Int -> Option (List Un) := fun (a0, a1, a2, a3, a4, a5, a6) =>
 pI m m (a0, (a4.length : Int), 0, a1, a2, a3, a4, a6, [], [], a5)
theorem JB (m : Nat) (nn : Int) (hnn : nn <= 9223372036854775807) (y : bc) (q kd : Int) (rk : Int) (out : List Dat) : ∀ (rest pre : List Dat) (n : Nat) (who what : List Int), rest.length < n -> (pre ++ rest).length <= 1000 -> who.length <= pre.length -> what.length <= pre.length ->
 pI m n (nn, ((pre ++ rest).length : Int), (pre.length : Int), y, q, kd, pre ++ rest, rk, who, what, out) =
  nI m m (0, ((cw nn (what ++ dm (aH rk) 2 rest)).length : Int), 0, y, q, kd, pre ++ rest, who ++ gr (aH rk) pre.length rest, cw nn (what ++ dm (aH rk) 2 rest), out) := by
 intro rest
 induction rest with
 | nil =>
  intro pre n who what hn hl h1 h2; obtain ⟨n, rfl⟩ := al n (by simp at hn; omega); rw [qq]; unfold rN; dsimp only; simp only [zaZ, gr, dm] at hl ⊢; rw [aF (by omega), aO ⟨hnn, by omega⟩]
 | cons x rest ih =>
  intro pre n who what hn hl h1 h2; obtain ⟨n, rfl⟩ := al n (by simp at hn; omega); simp only [zad, zac] at hl hn; rw [qq]; unfold rN; dsimp only; simp only [lt_eq]
  by_cases hs : x.i 0 = rk
  . have := ih (pre ++ [x]) n (who ++ [(pre.length : Int)]) (what ++ [x.i 2]) (by omega) (by simp; omega) (by simp; omega) (by simp; omega); simp only [gr, dm, aH, FY hs, zaC] at this ⊢; simp (disch := omega) only [TRa, TRi, aa, LNl, LNi, zaa, ax, bx]; simp only [LNl, LNi, zaa] at this ⊢; exact this
  . have := ih (pre ++ [x]) n who what (by omega) (by simp; omega) (by simp; omega) (by simp; omega); simp only [gr, dm, aH, oV hs, zao] at this ⊢; simp (disch := omega) only [TRa, TRi, aa, LNl, LNi, zaa, ax, bx]; simp only [LNl, LNi, zaa] at this ⊢; exact this
theorem Je (m : Nat) (y : bc) (hy : 0 <= y.ar /\ y.ar <= 1152921504606846976) (q kd : Int) : ∀ (rest done ws wd : List Int) (c out : List Dat) (n : Nat) (paid : Int), rest.length < n -> ws.length = rest.length -> wd.length = done.length -> (done ++ rest).length <= 1000 -> (∀ w ∈ ws, 0 <= w /\ w < c.length) -> (∀ x ∈ rest, 0 <= x /\ x <= 1152921504606846976) -> 0 <= paid -> paid + rest.sum <= 1152921504606846976 -> (∀ i, i < c.length -> - paid <= (ag c i).i 2 /\ (ag c i).i 2 <= 1152921504606846976) -> c.length <= 1000 -> out.length + rest.length <= 137438953472 ->
 nI m n (paid, ((done ++ rest).length : Int), (done.length : Int), y, q, kd, c, wd ++ ws, done ++ rest, out) =
  some ([.i (paid + rest.sum)] ++ Uns.enc (({ y with ar := y.ar - (paid + rest.sum) } : bc) : bc) ++ [.i q, .i kd, .d (jX 2 ws rest c), .d (out ++ rl q kd ws rest)]) := by
 intro rest
 induction rest with
 | nil =>
  intro done ws wd c out n paid hn e1 e2 hl hw hx p0 p1 hc cl ol; obtain ⟨n, rfl⟩ := al n (by simp at hn; omega); obtain rfl := zav e1; rw [qu]; unfold rK; dsimp only; simp only [zaZ, jX, rl, List.sum_nil, zbT] at p1 ⊢; rw [aF (by omega), aa (by omega) (by omega)]
 | cons x rest ih =>
  intro done ws wd c out n paid hn e1 e2 hl hw hx p0 p1 hc cl ol; obtain ⟨n, rfl⟩ := al n (by simp at hn; omega); cases ws with
  | nil => simp at e1
  | cons w ws =>
  simp only [zad, zac, zbn] at hl hn e1 p1 ol; have hx0 := hx x (by simp); have hw0 := hw w (by simp); have hs0 := dS rest (fun z hz => (hx z (by simp [hz])).1); obtain ⟨v, rfl⟩ : ∃ v : Nat, w = (v : Int) := ⟨w.toNat, by omega⟩
  have hr := hc v (by omega); have gw : (wd ++ (v : Int) :: ws).getD done.length 0 = v := by rw [<- e2]; exact bx _ _ _ _
  have hset : ∀ i, i < (c.set v (bY 2 x (ag c v))).length -> - (paid + x) <= (ag (c.set v (bY 2 x (ag c v))) i).i 2 /\ (ag (c.set v (bY 2 x (ag c v))) i).i 2 <= 1152921504606846976 := by
   intro i hi; rw [zbd] at hi
   by_cases e : i = v
   . subst e; have e3 : ag (c.set i (bY 2 x (ag c i))) i = bY 2 x (ag c i) := by simp [ag, hi]
     rw [e3]; simp only [bY, show ¬ (2 : Nat) = 1 by decide, zbf, iC]; omega
   . have e3 : ag (c.set v (bY 2 x (ag c v))) i = ag c i := by simp [ag, zbe, zcb e]
     rw [e3]; have := hc i hi; omega
  have := ih (done ++ [x]) ws (wd ++ [(v : Int)]) (c.set v (bY 2 x (ag c v))) (out ++ if 0 < x then [.r [.n q, .n kd, .n v, .n x]] else []) n (paid + x) (by omega) (by omega) (by simp [e2]) (by simp; omega) (fun z hz => by have := hw z (by simp [hz]); simpa using this) (fun z hz => hx z (by simp [hz])) (by omega) (by omega) hset (by simpa using cl) (by split <;> simp <;> omega); simp only [jX, rl, zbn, zaF]; rw [show paid + (x + rest.sum) = paid + x + rest.sum by omega]; rw [<- zaJ, <- this]; rw [qu]; unfold rK; dsimp only; have ec : done ++ [x] ++ rest = done ++ x :: rest := by simp
  have ew : wd ++ [(v : Int)] ++ ws = wd ++ (v : Int) :: ws := by simp
  rw [ec, ew]; have e5 : (bY 2 x (ag c v)) = Dat.r [.n ((ag c v).i 0), .n ((ag c v).i 1), .n ((ag c v).i 2 - x)] := by simp only [bY, show ¬ (2 : Nat) = 1 by decide, zbf]
  rw [e5]; simp only [lt_eq, zaF, gw, bx, zad, zac, zay, zaD, zaA, zaa]
  by_cases h0 : 0 < x
  . rw [if_pos h0]; simp (disch := omega) only [TRa, TRi, aa, zaA]
  . rw [if_neg h0]; simp (disch := omega) only [TRa, TRi, aa, zaA, zaZ]
def QI : Int × bc × Int × Int × List Dat × List Dat × Int -> Bool × List Un := fun (a0, a1, a2, a3, a4, a5, a6) => (decide (a0 <= 9223372036854775807 /\ 0 <= a1.ar /\ a1.ar <= 1152921504606846976 /\ a5.length <= 68719476736) && aP a4, [.i ((aq (aH a6) 2 a0 a4).sum)] ++ Uns.enc (({ a1 with ar := a1.ar - (aq (aH a6) 2 a0 a4).sum }) : bc) ++ [.i (a2), .i (a3), .d (bP 2 (aq (aH a6) 2 a0 a4) a4), .d (a5 ++ bF a2 a3 0 (aq (aH a6) 2 a0 a4))])
theorem KL (a0 : Int) (a1 : bc) (a2 : Int) (a3 : Int) (a4 : List Dat) (a5 : List Dat) (a6 : Int) (hc : (decide (a0 <= 9223372036854775807 /\ 0 <= a1.ar /\ a1.ar <= 1152921504606846976 /\ a5.length <= 68719476736) && aP a4) = true) : ∃ m, Mq m (a0, a1, a2, a3, a4, a5, a6) = some ([.i ((aq (aH a6) 2 a0 a4).sum)] ++ Uns.enc (({ a1 with ar := a1.ar - (aq (aH a6) 2 a0 a4).sum }) : bc) ++ [.i (a2), .i (a3), .d (bP 2 (aq (aH a6) 2 a0 a4) a4), .d (a5 ++ bF a2 a3 0 (aq (aH a6) 2 a0 a4))]) := by
 simp only [zab, zai] at hc; obtain ⟨⟨h1, h2, h3, h4⟩, h5⟩ := hc; obtain ⟨c1, c2⟩ := bK h5; obtain ⟨p1, p2, p3, p4, p5⟩ := sO (aH a6) (j := 2) (.inr rfl) a0 h5; refine ⟨2000, ?_⟩; unfold Mq; refine (JB 2000 a0 h1 a1 a2 a3 a6 a5 a4 [] 2000 [] [] (by omega) (by simpa using c1) (by simp) (by simp)).trans ?_
 simp only [zaV, zay]; have ht := jZ (a4.map (aH a6)); rw [za1] at ht; have e := Je 2000 a1 ⟨h2, h3⟩ a2 a3 (cw a0 (dm (aH a6) 2 a4)) [] (gr (aH a6) 0 a4) [] a4 a5 2000 0 (by omega) (by rw [p1, oq]) rfl (by simp; omega) (fun w hw => by have := pc _ _ _ w hw; omega) (fun x hx => by have := p2 x hx; omega) (by omega) (by omega) (fun i hi => by have := cm (c2 _ (mJ hi)); omega) c1 (by omega); refine e.trans ?_
 have g1 := mU (aH a6) 2 a4 [] (cw a0 (dm (aH a6) 2 a4)) p1 (fun d hd => (cm (c2 d hd)).1); have g2 := oj a2 a3 (aH a6) a4 0 (cw a0 (dm (aH a6) 2 a4)) p1; simp only [zaV, zay, zaa] at g1 g2; rw [g1, g2, za2, p5, jE (aH a6) (j := 2) (.inr rfl) a0 h5]
theorem HV : ER 108 (mkE K1.en K1.ex QI) := an ah HP.right (fun m => [Ci (pI m m)]) (t := Mq) (by kernel_rfl) (fun m => (aL (LW m m) aA)) (fun m a => by kernel_rfl) fun (a0, a1, a2, a3, a4, a5, a6) hc => KL a0 a1 a2 a3 a4 a5 a6 hc
def Ha : Tb Tryz.prog LQ TE XX := HP.add 108 _ HV
def Ic : aC := ⟨Ha.tab, 108, ⟨[.ptr 0 0 0, .int .i64, .fn 135 [] [.ptr 3 0 0], .fn 113 [] []], [.cells [.int .i64, .int .i64, .int .i64, .int .i64, .int .i64, .buf 1 3, .int .i64, .int .i64, .buf 2 4], .ai (sI 3), .ai (sI 4), .cells [.int .i64]], 0⟩, ⟨[.int .i64], [.cells [.int .i64, .int .i64, .int .i64, .int .i64, .int .i64, .buf 1 3, .int .i64, .int .i64, .buf 4 4], .ai (sI 3), .gone, .gone, .ai (sI 4)], 0⟩, []⟩
abbrev yv : Type := Int × Int × Int × bc × Int × Int × List Dat × List Int × List Int × List Dat
abbrev xr : Type := Int × Int × Int × bc × Int × Int × List Dat × Int × List Int × List Int × List Dat
def rX (m : Nat) (k : yv -> Option (List Un)) : yv -> Option (List Un) := fun (a0, a1, a2, a3, a4, a5, a6, a7, a8, a9) =>
 bif decide (a2 < a1) then
 chk (inb a2 a8.length) <|
 chk (decide (a2.toNat < a8.length)) <|
 chk (inb a2 a7.length) <|
 chk (decide (a2.toNat < a7.length)) <|
 chk (inb (a7.getD a2.toNat 0) a6.length) <|
 chk (decide ((a7.getD a2.toNat 0).toNat < a6.length)) <|
 chk (decide ((a7.getD a2.toNat 0).toNat < a6.length)) <|
 lt (ag a6 ((a7.getD a2.toNat 0).toNat) : Dat) fun d4 =>
 lt ((List.set a6 ((a7.getD a2.toNat 0).toNat) (.r [.n (d4.i 0), .n (w64 (((ag a6 ((a7.getD a2.toNat 0).toNat)).i 1) - (a8.getD a2.toNat 0))), .n (d4.i 2)])) : List Dat) fun l5 =>
 lt ((w64 (a0 + (a8.getD a2.toNat 0))) : Int) fun x6 =>
 chk (inb a2 a7.length) <|
 chk (decide (a2.toNat < a7.length)) <|
 bif (decide ((a8.getD a2.toNat 0) > 0)) then
 chk (fits (a9.length + 1) 32) <|
 k (x6, a1, (w64 (a2 + 1)), a3, a4, a5, l5, a7, a8, (a9 ++ ([.r [.n a4, .n a5, .n (a7.getD a2.toNat 0), .n (a8.getD a2.toNat 0)]])))
 else
 k (x6, a1, (w64 (a2 + 1)), a3, a4, a5, l5, a7, a8, a9)
 else
 some ([.i a0] ++ Uns.enc (({ a3 with ar := (w64 (a3.ar - a0)) } : bc) : bc) ++ [.i a4, .i a5, .d a6, .d a9])
def nJ (m : Nat) : Nat -> yv -> Option (List Un) := bp (rX m)
theorem qQ (m : Nat) (n : Nat) : nJ m (n + 1) = rX m (nJ m n) := rfl
def Ct (F : yv -> Option (List Un)) : aW := ⟨[.lp [0, 1, 0, 1, 1, 1, 1], .blk 2, .code [1, 1, 1, 1, 1]], ⟨frm 88 [(0, .ptr 0 0 0), (3, .fn 113 [] []), (9, .buf 4 1), (13, .int .i64), (44, .buf 5 1), (45, .int .i64), (46, .int .i64)], [.cells [.int .i64, .int .i64, .int .i64, .int .i64, .int .i64, .buf 1 3, .int .i64, .int .i64, .buf 6 4], .ai (sI 3), .gone, .gone, .ints .i64, .ints .i64, .ai (sI 4)], 0⟩, onU F⟩
def rI (m : Nat) (k : xr -> Option (List Un)) : xr -> Option (List Un) := fun (a0, a1, a2, a3, a4, a5, a6, a7, a8, a9, a10) =>
 bif decide (a2 < a1) then
 chk (inb a2 a6.length) <|
 chk (decide (a2.toNat < a6.length)) <|
 lt (ag a6 a2.toNat : Dat) fun d1 =>
 bif (d1.i 0) == a7 then
 chk (fits (a8.length + 1) 8) <|
 chk (fits (a9.length + 1) 8) <|
 k (a0, a1, (w64 (a2 + 1)), a3, a4, a5, a6, a7, (a8 ++ ([a2])), (a9 ++ ([(d1.i 1)])), a10)
 else
 k (a0, a1, (w64 (a2 + 1)), a3, a4, a5, a6, a7, a8, a9, a10)
 else
 chk (decide (a0 <= 9223372036854775807 /\ a9.length < 1099511627776)) <|
 nJ m m (0, ((cw a0 a9).length : Int), 0, a3, a4, a5, a6, a8, (cw a0 a9), a10)
def pd (m : Nat) : Nat -> xr -> Option (List Un) := bp (rI m)
theorem qM (m : Nat) (n : Nat) : pd m (n + 1) = rI m (pd m n) := rfl
def Bc (F : xr -> Option (List Un)) : aW := ⟨[.lp [0, 1, 0, 1, 1], .blk 0, .code [1, 1, 1]], ⟨frm 88 [(0, .ptr 0 0 0), (1, .int .i64), (2, .fn 135 [] [.ptr 4 0 0]), (3, .fn 113 [] []), (9, .buf 5 1), (10, .buf 6 1), (20, .buf 1 3), (21, .int .i64), (22, .int .i64)], [.cells [.int .i64, .int .i64, .int .i64, .int .i64, .int .i64, .buf 1 3, .int .i64, .int .i64, .buf 7 4], .ai (sI 3), .gone, .gone, .cells [.int .i64], .ints .i64, .ints .i64, .ai (sI 4)], 0⟩, onU F⟩
theorem LN (m : Nat) : ∀ n, HO Ic (Ct (nJ m n)) := au ah Ha.right (fun k => [Ct k]) (fun k h => (aL h aA)) fun k a => by kernel_rfl
theorem ML (m : Nat) : ∀ n, HO Ic (Bc (pd m n)) := au ah Ha.right (fun k => [Bc k, Ct (nJ m m)]) (fun k h => (aL h (aL (LN m m) aA))) fun k a => by kernel_rfl
def Nu (m : Nat) : Int × bc × Int × Int × List Dat × List Dat × Int -> Option (List Un) := fun (a0, a1, a2, a3, a4, a5, a6) =>
 pd m m (a0, (a4.length : Int), 0, a1, a2, a3, a4, a6, [], [], a5)
theorem J9 (m : Nat) (nn : Int) (hnn : nn <= 9223372036854775807) (y : bc) (q kd : Int) (rk : Int) (out : List Dat) : ∀ (rest pre : List Dat) (n : Nat) (who what : List Int), rest.length < n -> (pre ++ rest).length <= 1000 -> who.length <= pre.length -> what.length <= pre.length ->
 pd m n (nn, ((pre ++ rest).length : Int), (pre.length : Int), y, q, kd, pre ++ rest, rk, who, what, out) =
  nJ m m (0, ((cw nn (what ++ dm (aH rk) 1 rest)).length : Int), 0, y, q, kd, pre ++ rest, who ++ gr (aH rk) pre.length rest, cw nn (what ++ dm (aH rk) 1 rest), out) := by
 intro rest
 induction rest with
 | nil =>
  intro pre n who what hn hl h1 h2; obtain ⟨n, rfl⟩ := al n (by simp at hn; omega); rw [qM]; unfold rI; dsimp only; simp only [zaZ, gr, dm] at hl ⊢; rw [aF (by omega), aO ⟨hnn, by omega⟩]
 | cons x rest ih =>
  intro pre n who what hn hl h1 h2; obtain ⟨n, rfl⟩ := al n (by simp at hn; omega); simp only [zad, zac] at hl hn; rw [qM]; unfold rI; dsimp only; simp only [lt_eq]
  by_cases hs : x.i 0 = rk
  . have := ih (pre ++ [x]) n (who ++ [(pre.length : Int)]) (what ++ [x.i 1]) (by omega) (by simp; omega) (by simp; omega) (by simp; omega); simp only [gr, dm, aH, FY hs, zaC] at this ⊢; simp (disch := omega) only [TRa, TRi, aa, LNl, LNi, zaa, ax, bx]; simp only [LNl, LNi, zaa] at this ⊢; exact this
  . have := ih (pre ++ [x]) n who what (by omega) (by simp; omega) (by simp; omega) (by simp; omega); simp only [gr, dm, aH, oV hs, zao] at this ⊢; simp (disch := omega) only [TRa, TRi, aa, LNl, LNi, zaa, ax, bx]; simp only [LNl, LNi, zaa] at this ⊢; exact this
theorem Km (m : Nat) (y : bc) (hy : 0 <= y.ar /\ y.ar <= 1152921504606846976) (q kd : Int) : ∀ (rest done ws wd : List Int) (c out : List Dat) (n : Nat) (paid : Int), rest.length < n -> ws.length = rest.length -> wd.length = done.length -> (done ++ rest).length <= 1000 -> (∀ w ∈ ws, 0 <= w /\ w < c.length) -> (∀ x ∈ rest, 0 <= x /\ x <= 1152921504606846976) -> 0 <= paid -> paid + rest.sum <= 1152921504606846976 -> (∀ i, i < c.length -> - paid <= (ag c i).i 1 /\ (ag c i).i 1 <= 1152921504606846976) -> c.length <= 1000 -> out.length + rest.length <= 137438953472 ->
 nJ m n (paid, ((done ++ rest).length : Int), (done.length : Int), y, q, kd, c, wd ++ ws, done ++ rest, out) =
  some ([.i (paid + rest.sum)] ++ Uns.enc (({ y with ar := y.ar - (paid + rest.sum) } : bc) : bc) ++ [.i q, .i kd, .d (jX 1 ws rest c), .d (out ++ rl q kd ws rest)]) := by
 intro rest
 induction rest with
 | nil =>
  intro done ws wd c out n paid hn e1 e2 hl hw hx p0 p1 hc cl ol; obtain ⟨n, rfl⟩ := al n (by simp at hn; omega); obtain rfl := zav e1; rw [qQ]; unfold rX; dsimp only; simp only [zaZ, jX, rl, List.sum_nil, zbT] at p1 ⊢; rw [aF (by omega), aa (by omega) (by omega)]
 | cons x rest ih =>
  intro done ws wd c out n paid hn e1 e2 hl hw hx p0 p1 hc cl ol; obtain ⟨n, rfl⟩ := al n (by simp at hn; omega); cases ws with
  | nil => simp at e1
  | cons w ws =>
  simp only [zad, zac, zbn] at hl hn e1 p1 ol; have hx0 := hx x (by simp); have hw0 := hw w (by simp); have hs0 := dS rest (fun z hz => (hx z (by simp [hz])).1); obtain ⟨v, rfl⟩ : ∃ v : Nat, w = (v : Int) := ⟨w.toNat, by omega⟩
  have hr := hc v (by omega); have gw : (wd ++ (v : Int) :: ws).getD done.length 0 = v := by rw [<- e2]; exact bx _ _ _ _
  have hset : ∀ i, i < (c.set v (bY 1 x (ag c v))).length -> - (paid + x) <= (ag (c.set v (bY 1 x (ag c v))) i).i 1 /\ (ag (c.set v (bY 1 x (ag c v))) i).i 1 <= 1152921504606846976 := by
   intro i hi; rw [zbd] at hi
   by_cases e : i = v
   . subst e; have e3 : ag (c.set i (bY 1 x (ag c i))) i = bY 1 x (ag c i) := by simp [ag, hi]
     rw [e3]; simp only [bY, za9, eA]; omega
   . have e3 : ag (c.set v (bY 1 x (ag c v))) i = ag c i := by simp [ag, zbe, zcb e]
     rw [e3]; have := hc i hi; omega
  have := ih (done ++ [x]) ws (wd ++ [(v : Int)]) (c.set v (bY 1 x (ag c v))) (out ++ if 0 < x then [.r [.n q, .n kd, .n v, .n x]] else []) n (paid + x) (by omega) (by omega) (by simp [e2]) (by simp; omega) (fun z hz => by have := hw z (by simp [hz]); simpa using this) (fun z hz => hx z (by simp [hz])) (by omega) (by omega) hset (by simpa using cl) (by split <;> simp <;> omega); simp only [jX, rl, zbn, zaF]; rw [show paid + (x + rest.sum) = paid + x + rest.sum by omega]; rw [<- zaJ, <- this]; rw [qQ]; unfold rX; dsimp only; have ec : done ++ [x] ++ rest = done ++ x :: rest := by simp
  have ew : wd ++ [(v : Int)] ++ ws = wd ++ (v : Int) :: ws := by simp
  rw [ec, ew]; have e5 : (bY 1 x (ag c v)) = Dat.r [.n ((ag c v).i 0), .n ((ag c v).i 1 - x), .n ((ag c v).i 2)] := by simp only [bY, za9]
  rw [e5]; simp only [lt_eq, zaF, gw, bx, zad, zac, zay, zaD, zaA, zaa]
  by_cases h0 : 0 < x
  . rw [if_pos h0]; simp (disch := omega) only [TRa, TRi, aa, zaA]
  . rw [if_neg h0]; simp (disch := omega) only [TRa, TRi, aa, zaA, zaZ]
def QP : Int × bc × Int × Int × List Dat × List Dat × Int -> Bool × List Un := fun (a0, a1, a2, a3, a4, a5, a6) => (decide (a0 <= 9223372036854775807 /\ 0 <= a1.ar /\ a1.ar <= 1152921504606846976 /\ a5.length <= 68719476736) && aP a4, [.i ((aq (aH a6) 1 a0 a4).sum)] ++ Uns.enc (({ a1 with ar := a1.ar - (aq (aH a6) 1 a0 a4).sum }) : bc) ++ [.i (a2), .i (a3), .d (bP 1 (aq (aH a6) 1 a0 a4) a4), .d (a5 ++ bF a2 a3 0 (aq (aH a6) 1 a0 a4))])
theorem I6 (a0 : Int) (a1 : bc) (a2 : Int) (a3 : Int) (a4 : List Dat) (a5 : List Dat) (a6 : Int) (hc : (decide (a0 <= 9223372036854775807 /\ 0 <= a1.ar /\ a1.ar <= 1152921504606846976 /\ a5.length <= 68719476736) && aP a4) = true) : ∃ m, Nu m (a0, a1, a2, a3, a4, a5, a6) = some ([.i ((aq (aH a6) 1 a0 a4).sum)] ++ Uns.enc (({ a1 with ar := a1.ar - (aq (aH a6) 1 a0 a4).sum }) : bc) ++ [.i (a2), .i (a3), .d (bP 1 (aq (aH a6) 1 a0 a4) a4), .d (a5 ++ bF a2 a3 0 (aq (aH a6) 1 a0 a4))]) := by
 simp only [zab, zai] at hc; obtain ⟨⟨h1, h2, h3, h4⟩, h5⟩ := hc; obtain ⟨c1, c2⟩ := bK h5; obtain ⟨p1, p2, p3, p4, p5⟩ := sO (aH a6) (j := 1) (.inl rfl) a0 h5; refine ⟨2000, ?_⟩; unfold Nu; refine (J9 2000 a0 h1 a1 a2 a3 a6 a5 a4 [] 2000 [] [] (by omega) (by simpa using c1) (by simp) (by simp)).trans ?_
 simp only [zaV, zay]; have ht := jZ (a4.map (aH a6)); rw [za1] at ht; have e := Km 2000 a1 ⟨h2, h3⟩ a2 a3 (cw a0 (dm (aH a6) 1 a4)) [] (gr (aH a6) 0 a4) [] a4 a5 2000 0 (by omega) (by rw [p1, oq]) rfl (by simp; omega) (fun w hw => by have := pc _ _ _ w hw; omega) (fun x hx => by have := p2 x hx; omega) (by omega) (by omega) (fun i hi => by have := cm (c2 _ (mJ hi)); omega) c1 (by omega); refine e.trans ?_
 have g1 := mU (aH a6) 1 a4 [] (cw a0 (dm (aH a6) 1 a4)) p1 (fun d hd => (cm (c2 d hd)).1); have g2 := oj a2 a3 (aH a6) a4 0 (cw a0 (dm (aH a6) 1 a4)) p1; simp only [zaV, zay, zaa] at g1 g2; rw [g1, g2, za2, p5, jE (aH a6) (j := 1) (.inl rfl) a0 h5]
theorem GZ : ER 108 (mkE Ic.en Ic.ex QP) := an ah Ha.right (fun m => [Bc (pd m m)]) (t := Nu) (by kernel_rfl) (fun m => (aL (ML m m) aA)) (fun m a => by kernel_rfl) fun (a0, a1, a2, a3, a4, a5, a6) hc => I6 a0 a1 a2 a3 a4 a5 a6 hc
def GX : Tb Tryz.prog LQ TE XX := Ha.add 108 _ GZ
def K9 : aC := ⟨GX.tab, 108, ⟨[.ptr 0 0 0, .int .i64, .fn 112 [] [], .fn 113 [] []], [.cells [.int .i64, .int .i64, .int .i64, .int .i64, .int .i64, .buf 1 3, .int .i64, .int .i64, .buf 2 4], .ai (sI 3), .ai (sI 4)], 0⟩, ⟨[.int .i64], [.cells [.int .i64, .int .i64, .int .i64, .int .i64, .int .i64, .buf 1 3, .int .i64, .int .i64, .buf 3 4], .ai (sI 3), .gone, .ai (sI 4)], 0⟩, []⟩
abbrev xq : Type := Int × Int × Int × bc × Int × Int × List Dat × List Int × List Int × List Dat
abbrev xD : Type := Int × Int × Int × bc × Int × Int × List Dat × List Int × List Int × List Dat
def rL (m : Nat) (k : xq -> Option (List Un)) : xq -> Option (List Un) := fun (a0, a1, a2, a3, a4, a5, a6, a7, a8, a9) =>
 bif decide (a2 < a1) then
 chk (inb a2 a8.length) <|
 chk (decide (a2.toNat < a8.length)) <|
 chk (inb a2 a7.length) <|
 chk (decide (a2.toNat < a7.length)) <|
 chk (inb (a7.getD a2.toNat 0) a6.length) <|
 chk (decide ((a7.getD a2.toNat 0).toNat < a6.length)) <|
 chk (decide ((a7.getD a2.toNat 0).toNat < a6.length)) <|
 lt (ag a6 ((a7.getD a2.toNat 0).toNat) : Dat) fun d4 =>
 lt ((List.set a6 ((a7.getD a2.toNat 0).toNat) (.r [.n (d4.i 0), .n (w64 (((ag a6 ((a7.getD a2.toNat 0).toNat)).i 1) - (a8.getD a2.toNat 0))), .n (d4.i 2)])) : List Dat) fun l5 =>
 lt ((w64 (a0 + (a8.getD a2.toNat 0))) : Int) fun x6 =>
 chk (inb a2 a7.length) <|
 chk (decide (a2.toNat < a7.length)) <|
 bif (decide ((a8.getD a2.toNat 0) > 0)) then
 chk (fits (a9.length + 1) 32) <|
 k (x6, a1, (w64 (a2 + 1)), a3, a4, a5, l5, a7, a8, (a9 ++ ([.r [.n a4, .n a5, .n (a7.getD a2.toNat 0), .n (a8.getD a2.toNat 0)]])))
 else
 k (x6, a1, (w64 (a2 + 1)), a3, a4, a5, l5, a7, a8, a9)
 else
 some ([.i a0] ++ Uns.enc (({ a3 with ar := (w64 (a3.ar - a0)) } : bc) : bc) ++ [.i a4, .i a5, .d a6, .d a9])
def nS (m : Nat) : Nat -> xq -> Option (List Un) := bp (rL m)
theorem qJ (m : Nat) (n : Nat) : nS m (n + 1) = rL m (nS m n) := rfl
def Bu (F : xq -> Option (List Un)) : aW := ⟨[.lp [0, 1, 0, 1, 1, 1, 1], .blk 2, .code [1, 1, 1, 1, 1]], ⟨frm 88 [(0, .ptr 0 0 0), (3, .fn 113 [] []), (9, .buf 3 1), (13, .int .i64), (44, .buf 4 1), (45, .int .i64), (46, .int .i64)], [.cells [.int .i64, .int .i64, .int .i64, .int .i64, .int .i64, .buf 1 3, .int .i64, .int .i64, .buf 5 4], .ai (sI 3), .gone, .ints .i64, .ints .i64, .ai (sI 4)], 0⟩, onU F⟩
def rV (m : Nat) (k : xD -> Option (List Un)) : xD -> Option (List Un) := fun (a0, a1, a2, a3, a4, a5, a6, a7, a8, a9) =>
 bif decide (a2 < a1) then
 chk (inb a2 a6.length) <|
 chk (decide (a2.toNat < a6.length)) <|
 chk (fits (a7.length + 1) 8) <|
 chk (fits (a8.length + 1) 8) <|
 k (a0, a1, (w64 (a2 + 1)), a3, a4, a5, a6, (a7 ++ ([a2])), (a8 ++ ([((ag a6 a2.toNat).i 1)])), a9)
 else
 chk (decide (a0 <= 9223372036854775807 /\ a8.length < 1099511627776)) <|
 nS m m (0, ((cw a0 a8).length : Int), 0, a3, a4, a5, a6, a7, (cw a0 a8), a9)
def pR (m : Nat) : Nat -> xD -> Option (List Un) := bp (rV m)
theorem qz (m : Nat) (n : Nat) : pR m (n + 1) = rV m (pR m n) := rfl
def Ck (F : xD -> Option (List Un)) : aW := ⟨[.lp [0, 1, 0, 1, 1], .blk 0, .code [1, 1, 1]], ⟨frm 88 [(0, .ptr 0 0 0), (1, .int .i64), (2, .fn 112 [] []), (3, .fn 113 [] []), (9, .buf 3 1), (10, .buf 4 1), (20, .buf 1 3), (21, .int .i64), (22, .int .i64)], [.cells [.int .i64, .int .i64, .int .i64, .int .i64, .int .i64, .buf 1 3, .int .i64, .int .i64, .buf 5 4], .ai (sI 3), .gone, .ints .i64, .ints .i64, .ai (sI 4)], 0⟩, onU F⟩
theorem MS (m : Nat) : ∀ n, HO K9 (Bu (nS m n)) := au ah GX.right (fun k => [Bu k]) (fun k h => (aL h aA)) fun k a => by kernel_rfl
theorem MO (m : Nat) : ∀ n, HO K9 (Ck (pR m n)) := au ah GX.right (fun k => [Ck k, Bu (nS m m)]) (fun k h => (aL h (aL (MS m m) aA))) fun k a => by kernel_rfl
def MQ (m : Nat) : Int × bc × Int × Int × List Dat × List Dat -> Option (List Un) := fun (a0, a1, a2, a3, a4, a5) =>
 pR m m (a0, (a4.length : Int), 0, a1, a2, a3, a4, [], [], a5)
theorem Iy (m : Nat) (nn : Int) (hnn : nn <= 9223372036854775807) (y : bc) (q kd : Int) (out : List Dat) : ∀ (rest pre : List Dat) (n : Nat) (who what : List Int), rest.length < n -> (pre ++ rest).length <= 1000 -> who.length <= pre.length -> what.length <= pre.length ->
 pR m n (nn, ((pre ++ rest).length : Int), (pre.length : Int), y, q, kd, pre ++ rest, who, what, out) =
  nS m m (0, ((cw nn (what ++ dm (fun _ => true) 1 rest)).length : Int), 0, y, q, kd, pre ++ rest, who ++ gr (fun _ => true) pre.length rest, cw nn (what ++ dm (fun _ => true) 1 rest), out) := by
 intro rest
 induction rest with
 | nil =>
  intro pre n who what hn hl h1 h2; obtain ⟨n, rfl⟩ := al n (by simp at hn; omega); rw [qz]; unfold rV; dsimp only; simp only [zaZ, gr, dm] at hl ⊢; rw [aF (by omega), aO ⟨hnn, by omega⟩]
 | cons x rest ih =>
  intro pre n who what hn hl h1 h2; obtain ⟨n, rfl⟩ := al n (by simp at hn; omega); simp only [zad, zac] at hl hn; rw [qz]; unfold rV; dsimp only; have := ih (pre ++ [x]) n (who ++ [(pre.length : Int)]) (what ++ [x.i 1]) (by omega) (by simp; omega) (by simp; omega) (by simp; omega); simp only [gr, dm, zaC] at this ⊢; simp (disch := omega) only [TRa, TRi, aa, LNl, LNi, zaa, ax, bx]; simp only [LNl, LNi, zaa] at this ⊢; exact this
theorem Kq (m : Nat) (y : bc) (hy : 0 <= y.ar /\ y.ar <= 1152921504606846976) (q kd : Int) : ∀ (rest done ws wd : List Int) (c out : List Dat) (n : Nat) (paid : Int), rest.length < n -> ws.length = rest.length -> wd.length = done.length -> (done ++ rest).length <= 1000 -> (∀ w ∈ ws, 0 <= w /\ w < c.length) -> (∀ x ∈ rest, 0 <= x /\ x <= 1152921504606846976) -> 0 <= paid -> paid + rest.sum <= 1152921504606846976 -> (∀ i, i < c.length -> - paid <= (ag c i).i 1 /\ (ag c i).i 1 <= 1152921504606846976) -> c.length <= 1000 -> out.length + rest.length <= 137438953472 ->
 nS m n (paid, ((done ++ rest).length : Int), (done.length : Int), y, q, kd, c, wd ++ ws, done ++ rest, out) =
  some ([.i (paid + rest.sum)] ++ Uns.enc (({ y with ar := y.ar - (paid + rest.sum) } : bc) : bc) ++ [.i q, .i kd, .d (jX 1 ws rest c), .d (out ++ rl q kd ws rest)]) := by
 intro rest
 induction rest with
 | nil =>
  intro done ws wd c out n paid hn e1 e2 hl hw hx p0 p1 hc cl ol; obtain ⟨n, rfl⟩ := al n (by simp at hn; omega); obtain rfl := zav e1; rw [qJ]; unfold rL; dsimp only; simp only [zaZ, jX, rl, List.sum_nil, zbT] at p1 ⊢; rw [aF (by omega), aa (by omega) (by omega)]
 | cons x rest ih =>
  intro done ws wd c out n paid hn e1 e2 hl hw hx p0 p1 hc cl ol; obtain ⟨n, rfl⟩ := al n (by simp at hn; omega); cases ws with
  | nil => simp at e1
  | cons w ws =>
  simp only [zad, zac, zbn] at hl hn e1 p1 ol; have hx0 := hx x (by simp); have hw0 := hw w (by simp); have hs0 := dS rest (fun z hz => (hx z (by simp [hz])).1); obtain ⟨v, rfl⟩ : ∃ v : Nat, w = (v : Int) := ⟨w.toNat, by omega⟩
  have hr := hc v (by omega); have gw : (wd ++ (v : Int) :: ws).getD done.length 0 = v := by rw [<- e2]; exact bx _ _ _ _
  have hset : ∀ i, i < (c.set v (bY 1 x (ag c v))).length -> - (paid + x) <= (ag (c.set v (bY 1 x (ag c v))) i).i 1 /\ (ag (c.set v (bY 1 x (ag c v))) i).i 1 <= 1152921504606846976 := by
   intro i hi; rw [zbd] at hi
   by_cases e : i = v
   . subst e; have e3 : ag (c.set i (bY 1 x (ag c i))) i = bY 1 x (ag c i) := by simp [ag, hi]
     rw [e3]; simp only [bY, za9, eA]; omega
   . have e3 : ag (c.set v (bY 1 x (ag c v))) i = ag c i := by simp [ag, zbe, zcb e]
     rw [e3]; have := hc i hi; omega
  have := ih (done ++ [x]) ws (wd ++ [(v : Int)]) (c.set v (bY 1 x (ag c v))) (out ++ if 0 < x then [.r [.n q, .n kd, .n v, .n x]] else []) n (paid + x) (by omega) (by omega) (by simp [e2]) (by simp; omega) (fun z hz => by have := hw z (by simp [hz]); simpa using this) (fun z hz => hx z (by simp [hz])) (by omega) (by omega) hset (by simpa using cl) (by split <;> simp <;> omega); simp only [jX, rl, zbn, zaF]; rw [show paid + (x + rest.sum) = paid + x + rest.sum by omega]; rw [<- zaJ, <- this]; rw [qJ]; unfold rL; dsimp only; have ec : done ++ [x] ++ rest = done ++ x :: rest := by simp
  have ew : wd ++ [(v : Int)] ++ ws = wd ++ (v : Int) :: ws := by simp
  rw [ec, ew]; have e5 : (bY 1 x (ag c v)) = Dat.r [.n ((ag c v).i 0), .n ((ag c v).i 1 - x), .n ((ag c v).i 2)] := by simp only [bY, za9]
  rw [e5]; simp only [lt_eq, zaF, gw, bx, zad, zac, zay, zaD, zaA, zaa]
  by_cases h0 : 0 < x
  . rw [if_pos h0]; simp (disch := omega) only [TRa, TRi, aa, zaA]
  . rw [if_neg h0]; simp (disch := omega) only [TRa, TRi, aa, zaA, zaZ]
def Qu : Int × bc × Int × Int × List Dat × List Dat -> Bool × List Un := fun (a0, a1, a2, a3, a4, a5) => (decide (a0 <= 9223372036854775807 /\ 0 <= a1.ar /\ a1.ar <= 1152921504606846976 /\ a5.length <= 68719476736) && aP a4, [.i ((aq (fun _ => true) 1 a0 a4).sum)] ++ Uns.enc (({ a1 with ar := a1.ar - (aq (fun _ => true) 1 a0 a4).sum }) : bc) ++ [.i (a2), .i (a3), .d (bP 1 (aq (fun _ => true) 1 a0 a4) a4), .d (a5 ++ bF a2 a3 0 (aq (fun _ => true) 1 a0 a4))])
theorem IA (a0 : Int) (a1 : bc) (a2 : Int) (a3 : Int) (a4 : List Dat) (a5 : List Dat) (hc : (decide (a0 <= 9223372036854775807 /\ 0 <= a1.ar /\ a1.ar <= 1152921504606846976 /\ a5.length <= 68719476736) && aP a4) = true) : ∃ m, MQ m (a0, a1, a2, a3, a4, a5) = some ([.i ((aq (fun _ => true) 1 a0 a4).sum)] ++ Uns.enc (({ a1 with ar := a1.ar - (aq (fun _ => true) 1 a0 a4).sum }) : bc) ++ [.i (a2), .i (a3), .d (bP 1 (aq (fun _ => true) 1 a0 a4) a4), .d (a5 ++ bF a2 a3 0 (aq (fun _ => true) 1 a0 a4))]) := by
 simp only [zab, zai] at hc; obtain ⟨⟨h1, h2, h3, h4⟩, h5⟩ := hc; obtain ⟨c1, c2⟩ := bK h5; obtain ⟨p1, p2, p3, p4, p5⟩ := sO (fun _ => true) (j := 1) (.inl rfl) a0 h5; refine ⟨2000, ?_⟩; unfold MQ; refine (Iy 2000 a0 h1 a1 a2 a3 a5 a4 [] 2000 [] [] (by omega) (by simpa using c1) (by simp) (by simp)).trans ?_
 simp only [zaV, zay]; have ht := jZ (a4.map (fun _ => true)); rw [za1] at ht; have e := Kq 2000 a1 ⟨h2, h3⟩ a2 a3 (cw a0 (dm (fun _ => true) 1 a4)) [] (gr (fun _ => true) 0 a4) [] a4 a5 2000 0 (by omega) (by rw [p1, oq]) rfl (by simp; omega) (fun w hw => by have := pc _ _ _ w hw; omega) (fun x hx => by have := p2 x hx; omega) (by omega) (by omega) (fun i hi => by have := cm (c2 _ (mJ hi)); omega) c1 (by omega); refine e.trans ?_
 have g1 := mU (fun _ => true) 1 a4 [] (cw a0 (dm (fun _ => true) 1 a4)) p1 (fun d hd => (cm (c2 d hd)).1); have g2 := oj a2 a3 (fun _ => true) a4 0 (cw a0 (dm (fun _ => true) 1 a4)) p1; simp only [zaV, zay, zaa] at g1 g2; rw [g1, g2, za2, p5, jE (fun _ => true) (j := 1) (.inl rfl) a0 h5]
theorem Fg : ER 108 (mkE K9.en K9.ex Qu) := an ah GX.right (fun m => [Ck (pR m m)]) (t := MQ) (by kernel_rfl) (fun m => (aL (MO m m) aA)) (fun m a => by kernel_rfl) fun (a0, a1, a2, a3, a4, a5) hc => IA a0 a1 a2 a3 a4 a5 hc
def IC : Tb Tryz.prog LQ TE XX := GX.add 108 _ Fg
def Ms : aC := ⟨IC.tab, 111, ⟨[.ptr 0 0 0, .int .i64], [.cells [.int .i64, .int .i64, .int .i64, .int .i64, .int .i64, .buf 1 3, .int .i64, .int .i64, .buf 2 4], .ai (sI 3), .ai (sI 4)], 0⟩, ⟨[.int .i64], [.cells [.int .i64, .int .i64, .int .i64, .int .i64, .int .i64, .buf 1 3, .int .i64, .int .i64, .buf 3 4], .ai (sI 3), .gone, .ai (sI 4)], 0⟩, []⟩
abbrev yj : Type := Int × Int × Int × bc × Int × Int × List Dat × List Dat
def rz (m : Nat) (k : yj -> Option (List Un)) : yj -> Option (List Un) := fun (a0, a1, a2, a3, a4, a5, a6, a7) =>
 bif decide (a2 < 8) then
 chk (decide ((w64 (a0 - a1)) <= 9223372036854775807 /\ 0 <= a3.ar /\ a3.ar <= 1152921504606846976 /\ a7.length <= 68719476736) && aP a6) <|
 k (a0, (w64 (a1 + ((aq (aH a2) 1 (w64 (a0 - a1)) a6).sum))), (w64 (a2 + 1)), ({ a3 with ar := a3.ar - (aq (aH a2) 1 (w64 (a0 - a1)) a6).sum }), a4, a5, (bP 1 (aq (aH a2) 1 (w64 (a0 - a1)) a6) a6), (a7 ++ bF a4 a5 0 (aq (aH a2) 1 (w64 (a0 - a1)) a6)))
 else
 some ([.i a1] ++ Uns.enc (a3 : bc) ++ [.i a4, .i a5, .d a6, .d a7])
def po (m : Nat) : Nat -> yj -> Option (List Un) := bp (rz m)
theorem qy (m : Nat) (n : Nat) : po m (n + 1) = rz m (po m n) := rfl
def Cv (F : yj -> Option (List Un)) : aW := ⟨[.lp [0, 1, 0, 1, 1], .blk 0, .code [1, 1, 1]], ⟨frm 21 [(0, .ptr 0 0 0), (1, .int .i64), (5, .int .i64), (7, .int .i64)], [.cells [.int .i64, .int .i64, .int .i64, .int .i64, .int .i64, .buf 1 3, .int .i64, .int .i64, .buf 3 4], .ai (sI 3), .gone, .ai (sI 4)], 0⟩, onU F⟩
theorem Nv (m : Nat) : ∀ n, HO Ms (Cv (po m n)) := au ah IC.right (fun k => [Cv k]) (fun k h => (aL h aA)) fun k a => by kernel_rfl
def t111 (m : Nat) : Int × bc × Int × Int × List Dat × List Dat -> Option (List Un) := fun (a0, a1, a2, a3, a4, a5) =>
 po m m (a0, 0, 0, a1, a2, a3, a4, a5)
theorem Ox (m : Nat) (nn q kd : Int) : ∀ (k n : Nat) (r paid : Int) (y : bc) (c out : List Dat), k < n -> r + k = 8 -> 0 <= r -> aP c = true -> 0 <= paid -> paid <= nn -> nn - paid <= y.ar -> y.ar <= 1152921504606846976 -> nn <= 1152921504606846976 -> out.length + 1000 * k <= 68719476736 ->
 po m n (nn, paid, r, y, q, kd, c, out) = some ([.i (paid + (br q kd k r (nn - paid) c).2.2)] ++ Uns.enc (({ y with ar := y.ar - (br q kd k r (nn - paid) c).2.2 } : bc) : bc) ++ [.i q, .i kd, .d (br q kd k r (nn - paid) c).1, .d (out ++ (br q kd k r (nn - paid) c).2.1)]) := by
 intro k
 induction k with
 | zero =>
  intro n r paid y c out hn hr h0 hc p0 p1 p2 p3 p4 ho; obtain ⟨n, rfl⟩ := al n (by omega); rw [qy]; unfold rz; dsimp only; simp only [br, zbT, zbm, zaZ]; rw [aF (by omega)]
 | succ k ih =>
  intro n r paid y c out hn hr h0 hc p0 p1 p2 p3 p4 ho; obtain ⟨n, rfl⟩ := al n (by omega); rw [qy]; unfold rz; dsimp only; obtain ⟨l1, l2, l3⟩ := dP (aH r) (j := 1) (.inl rfl) (nn - paid) hc; obtain ⟨_, _, w0, w1⟩ := ma (aH r) (j := 1) (.inl rfl) hc; obtain ⟨g1, g2⟩ := oI (aH r) (j := 1) (.inl rfl) (nn - paid) hc; have hpl := jl q kd (aq (aH r) 1 (nn - paid) c) 0; have hcl := (bK hc).1; rw [bJ (by omega), aa (n := nn - paid) (by omega) (by omega), hc, zbb, aO ⟨by omega, by omega, by omega, by omega⟩]; have := ih n (r + 1) (paid + (aq (aH r) 1 (nn - paid) c).sum) { y with ar := y.ar - (aq (aH r) 1 (nn - paid) c).sum } (bP 1 (aq (aH r) 1 (nn - paid) c) c) (out ++ bF q kd 0 (aq (aH r) 1 (nn - paid) c)) (by omega) (by omega) (by omega) g1 (by omega) (by omega) (by simp only; omega) (by simp only; omega) p4 (by rw [zad]; omega); rw [aa (n := r + 1) (by omega) (by omega), aa (n := paid + (aq (aH r) 1 (nn - paid) c).sum) (by omega) (by omega), this]; simp only [br]; rw [show nn - (paid + (aq (aH r) 1 (nn - paid) c).sum) = nn - paid - (aq (aH r) 1 (nn - paid) c).sum by omega]; simp only [Int.add_assoc, zaJ, Int.sub_sub]
def f111 : Int × bc × Int × Int × List Dat × List Dat -> Bool × List Un := fun (a0, a1, a2, a3, a4, a5) => (decide (0 <= a0 /\ a0 <= a1.ar /\ a1.ar <= 1152921504606846976 /\ a5.length <= 34359738368) && aP a4, [.i ((br a2 a3 8 0 a0 a4).2.2)] ++ Uns.enc (({ a1 with ar := a1.ar - (br a2 a3 8 0 a0 a4).2.2 }) : bc) ++ [.i (a2), .i (a3), .d ((br a2 a3 8 0 a0 a4).1), .d (a5 ++ (br a2 a3 8 0 a0 a4).2.1)])
theorem KP (a0 : Int) (a1 : bc) (a2 : Int) (a3 : Int) (a4 : List Dat) (a5 : List Dat) (hc : (decide (0 <= a0 /\ a0 <= a1.ar /\ a1.ar <= 1152921504606846976 /\ a5.length <= 34359738368) && aP a4) = true) : ∃ m, t111 m (a0, a1, a2, a3, a4, a5) = some ([.i ((br a2 a3 8 0 a0 a4).2.2)] ++ Uns.enc (({ a1 with ar := a1.ar - (br a2 a3 8 0 a0 a4).2.2 }) : bc) ++ [.i (a2), .i (a3), .d ((br a2 a3 8 0 a0 a4).1), .d (a5 ++ (br a2 a3 8 0 a0 a4).2.1)]) := by
 simp only [zab, zai] at hc; obtain ⟨⟨h1, h2, h3, h4⟩, h5⟩ := hc; refine ⟨20, ?_⟩; have := Ox 20 a0 a2 a3 8 20 0 0 a1 a4 a5 (by omega) (by omega) (by omega) h5 (by omega) (by omega) (by omega) h3 (by omega) (by omega); simp only [zbm, za2] at this; exact this
theorem HG : ER 111 (mkE Ms.en Ms.ex f111) := an ah IC.right (fun m => [Cv (po m m)]) (t := t111) (by kernel_rfl) (fun m => (aL (Nv m m) aA)) (fun m a => by kernel_rfl) fun (a0, a1, a2, a3, a4, a5) hc => KP a0 a1 a2 a3 a4 a5 hc
def MA : Tb Tryz.prog LQ TE XX := IC.add 111 _ HG
def N80 : aC := ⟨MA.tab, 80, ⟨[.ptr 0 0 0, .agg [.int .i64, .int .i64]], [.cells [.int .i64, .int .i64, .int .i64, .int .i64, .int .i64, .buf 1 3, .int .i64, .int .i64, .buf 2 4], .ai (sI 3), .ai (sI 4)], 0⟩, ⟨[], [.cells [.int .i64, .int .i64, .int .i64, .int .i64, .int .i64, .buf 1 3, .int .i64, .int .i64, .buf 3 4], .ai (sI 3), .gone, .ai (sI 4)], 0⟩, []⟩
def t80 (m : Nat) : Int × Int × bc × Int × Int × List Dat × List Dat -> Option (List Un) := fun (a0, a1, a2, a3, a4, a5, a6) =>
 bif a0 == 1 then
 lt ((if a2.ar < a2.fee then a2.ar else a2.fee) : Int) fun x1 =>
 lt ((if x1 < 0 then 0 else x1) : Int) fun x2 =>
 bif decide (x2 > 0) then
 chk (fits (a6.length + 1) 32) <|
 some (Uns.enc (({ a2 with ar := (w64 (a2.ar - x2)), fee := (w64 (a2.fee - x2)) } : bc) : bc) ++ [.i a3, .i a4, .d a5, .d (a6 ++ ([.r [.n a3, .n a4, .n (-1), .n x2]]))])
 else
 some (Uns.enc (({ a2 with ar := (w64 (a2.ar - x2)), fee := (w64 (a2.fee - x2)) } : bc) : bc) ++ [.i a3, .i a4, .d a5, .d a6])
 else
 bif a0 == 2 then
 lt ((if a2.ar < a2.bG then a2.ar else a2.bG) : Int) fun x4 =>
 lt ((if x4 < 0 then 0 else x4) : Int) fun x5 =>
 bif decide (x5 > 0) then
 chk (fits (a6.length + 1) 32) <|
 some (Uns.enc (({ a2 with ar := (w64 (a2.ar - x5)), bG := (w64 (a2.bG - x5)) } : bc) : bc) ++ [.i a3, .i a4, .d a5, .d (a6 ++ ([.r [.n a3, .n a4, .n (-1), .n x5]]))])
 else
 some (Uns.enc (({ a2 with ar := (w64 (a2.ar - x5)), bG := (w64 (a2.bG - x5)) } : bc) : bc) ++ [.i a3, .i a4, .d a5, .d a6])
 else
 bif a0 == 6 then
 lt ((if a2.ar < a2.room then a2.ar else a2.room) : Int) fun x7 =>
 lt ((if x7 < 0 then 0 else x7) : Int) fun x8 =>
 bif decide (x8 > 0) then
 chk (fits (a6.length + 1) 32) <|
 some (Uns.enc (({ a2 with ar := (w64 (a2.ar - x8)), room := (w64 (a2.room - x8)) } : bc) : bc) ++ [.i a3, .i a4, .d a5, .d (a6 ++ ([.r [.n a3, .n a4, .n (-1), .n x8]]))])
 else
 some (Uns.enc (({ a2 with ar := (w64 (a2.ar - x8)), room := (w64 (a2.room - x8)) } : bc) : bc) ++ [.i a3, .i a4, .d a5, .d a6])
 else
 bif a0 == 3 then
 chk (decide (a2.ar <= 9223372036854775807 /\ 0 <= a2.ar /\ a2.ar <= 1152921504606846976 /\ a6.length <= 68719476736) && aP a5) <|
 some (Uns.enc (({ a2 with ar := a2.ar - (aq (aH a1) 2 a2.ar a5).sum }) : bc) ++ [.i a3, .i a4, .d (bP 2 (aq (aH a1) 2 a2.ar a5) a5), .d (a6 ++ bF a3 a4 0 (aq (aH a1) 2 a2.ar a5))])
 else
 bif a0 == 4 then
 lt ((if a2.ar < a2.aj then a2.ar else a2.aj) : Int) fun x12 =>
 chk (decide (0 <= x12 /\ x12 <= a2.ar /\ a2.ar <= 1152921504606846976 /\ a6.length <= 34359738368) && aP a5) <|
 lt (({ a2 with ar := a2.ar - (br a3 a4 8 0 x12 a5).2.2 }) : bc) fun g13 =>
 chk (decide (a2.aj = g13.aj)) <|
 some (Uns.enc (({ g13 with aj := (w64 (a2.aj - ((br a3 a4 8 0 x12 a5).2.2))) } : bc) : bc) ++ [.i a3, .i a4, .d ((br a3 a4 8 0 x12 a5).1), .d (a6 ++ (br a3 a4 8 0 x12 a5).2.1)])
 else
 bif a0 == 5 then
 lt ((if a2.ar < a2.aj then a2.ar else a2.aj) : Int) fun x16 =>
 chk (decide (x16 <= 9223372036854775807 /\ 0 <= a2.ar /\ a2.ar <= 1152921504606846976 /\ a6.length <= 68719476736) && aP a5) <|
 lt (({ a2 with ar := a2.ar - (aq (fun _ => true) 1 x16 a5).sum }) : bc) fun g18 =>
 chk (decide (a2.aj = g18.aj)) <|
 some (Uns.enc (({ g18 with aj := (w64 (a2.aj - ((aq (fun _ => true) 1 x16 a5).sum))) } : bc) : bc) ++ [.i a3, .i a4, .d (bP 1 (aq (fun _ => true) 1 x16 a5) a5), .d (a6 ++ bF a3 a4 0 (aq (fun _ => true) 1 x16 a5))])
 else
 bif a0 == 7 then
 chk (decide (0 <= a2.ar /\ a2.ar <= a2.ar /\ a2.ar <= 1152921504606846976 /\ a6.length <= 34359738368) && aP a5) <|
 some (Uns.enc (({ a2 with ar := a2.ar - (br a3 a4 8 0 a2.ar a5).2.2 }) : bc) ++ [.i a3, .i a4, .d ((br a3 a4 8 0 a2.ar a5).1), .d (a6 ++ (br a3 a4 8 0 a2.ar a5).2.1)])
 else
 some (Uns.enc (a2 : bc) ++ [.i a3, .i a4, .d a5, .d a6])
def f80 : Int × Int × bc × Int × Int × List Dat × List Dat -> Bool × List Un := fun (a0, a1, a2, a3, a4, a5, a6) => (decide (a4 = a0 /\ a6.length <= 17179869184) && (m9 a2 && aP a5), Uns.enc (((dq a3 a0 a1 a2 a5).1) : bc) ++ [.i (a3), .i (a4), .d ((dq a3 a0 a1 a2 a5).2.1), .d (a6 ++ (dq a3 a0 a1 a2 a5).2.2)])
set_option maxHeartbeats 2000000 in
theorem No (a0 : Int) (a1 : Int) (a2 : bc) (a3 : Int) (a4 : Int) (a5 : List Dat) (a6 : List Dat) (hc : (decide (a4 = a0 /\ a6.length <= 17179869184) && (m9 a2 && aP a5)) = true) : ∃ m, t80 m (a0, a1, a2, a3, a4, a5, a6) = some (Uns.enc (((dq a3 a0 a1 a2 a5).1) : bc) ++ [.i (a3), .i (a4), .d ((dq a3 a0 a1 a2 a5).2.1), .d (a6 ++ (dq a3 a0 a1 a2 a5).2.2)]) := by
 simp only [zab, zai] at hc; obtain ⟨⟨rfl, ho⟩, hx, hc⟩ := hc; have hx' := rT hx; have hcl := (bK hc).1; have w2 := fun sel j hj => (ma (c := a5) sel (j := j) hj hc).2.2
 have s2 := fun sel j hj n => (dP (c := a5) sel (j := j) hj n hc).2.1
 have mm : ∀ a b : Int, (if b < a then b else a) = min a b := fun a b => by omega
 have mx : ∀ a : Int, (if a < 0 then 0 else a) = max a 0 := fun a => by omega
 refine ⟨0, ?_⟩; unfold t80 dq; dsimp only; simp only [lt_eq, mm, mx]; have one : ∀ (z : Int) (u : bc) (o2 : List Dat), 0 <= z -> ∀ v : bc, u = v -> (bif decide (z > 0) then chk (fits (a6.length + 1) 32) (some (Uns.enc (u : bc) ++ [.i a3, .i a4, .d a5, .d (a6 ++ ([.r [.n a3, .n a4, .n (-1), .n z]]))])) else some (Uns.enc (u : bc) ++ [.i a3, .i a4, .d a5, .d a6])) = some (Uns.enc (v : bc) ++ [.i a3, .i a4, .d a5, .d (a6 ++ jO a3 a4 z)]) := by
  intro z u o2 hz v huv; subst huv; unfold jO
  by_cases h : z > 0
  . rw [bJ h, jn (by omega) (by omega), if_pos (by omega)]
  . rw [aF h, if_neg (by omega), zaZ]
 by_cases k1 : a4 = 1
 . rw [gV k1, if_pos k1]; rw [show max (min a2.fee a2.ar) 0 = min a2.fee a2.ar by omega]; exact one _ _ [] (by omega) _ (by rw [aa (by omega) (by omega), aa (by omega) (by omega)])
 rw [gg k1, if_neg k1]
 by_cases k2 : a4 = 2
 . rw [gV k2, if_pos k2]; rw [show max (min a2.bG a2.ar) 0 = min a2.bG a2.ar by omega]; exact one _ _ [] (by omega) _ (by rw [aa (by omega) (by omega), aa (by omega) (by omega)])
 rw [gg k2, if_neg k2]
 by_cases k6 : a4 = 6
 . rw [gV k6, if_pos k6]; rw [show max (min a2.room a2.ar) 0 = min a2.room a2.ar by omega]; exact one _ _ [] (by omega) _ (by rw [aa (by omega) (by omega), aa (by omega) (by omega)])
 rw [gg k6, if_neg k6]
 by_cases k3 : a4 = 3
 . rw [gV k3, if_pos k3, hc, zbb, aO (by omega)]
 rw [gg k3, if_neg k3]
 by_cases k4 : a4 = 4
 . rw [gV k4, if_pos k4, hc, zbb, aO (by omega), aO trivial]; have q := uL a3 a4 8 0 (min a2.aj a2.ar) a5 hc; generalize br a3 a4 8 0 (min a2.aj a2.ar) a5 = y at *
   rw [aa (by omega) (by omega)]
 rw [gg k4, if_neg k4]
 by_cases k5 : a4 = 5
 . rw [gV k5, if_pos k5, hc, zbb, aO (by omega), aO trivial]; have q1 := s2 (fun _ => true) 1 (.inl rfl) (min a2.aj a2.ar); have q2 := w2 (fun _ => true) 1 (.inl rfl); rw [aa (n := a2.aj - _) (by omega) (by omega)]
 rw [gg k5, if_neg k5]
 by_cases k7 : a4 = 7
 . rw [gV k7, if_pos k7, hc, zbb, aO (by omega)]
 rw [gg k7, if_neg k7, zaZ]
theorem JF : ER 80 (mkE N80.en N80.ex f80) := an ah MA.right (fun m => []) (t := t80) (by kernel_rfl) (fun m => aA) (fun m a => by kernel_rfl) fun (a0, a1, a2, a3, a4, a5, a6) hc => No a0 a1 a2 a3 a4 a5 a6 hc
def T80 : Tb Tryz.prog LQ TE XX := MA.add 80 _ JF
def N38 : aC := ⟨T80.tab, 38, ⟨[.int .i64, .agg [.int .i64, .int .i64, .int .i64, .int .i64, .ai (sI 3)], .ai (sI 2)], [], 0⟩, ⟨[.buf 0 4, .int .i64, .agg [.int .i64, .int .i64, .int .i64, .int .i64, .buf 1 3]], [.ai (sI 4), .ai (sI 3)], 0⟩, []⟩
abbrev C3 : Type := List Dat × Int × Int × Int × Int × Int × Int × bc × Int × Int × List Dat × List Dat × List Dat
def yU (m : Nat) (k : C3 -> Option (List Un)) : C3 -> Option (List Un) := fun (a0, a1, a2, a3, a4, a5, a6, a7, a8, a9, a10, a11, a12) =>
 bif decide (a2 < a1) then
 chk (inb a2 a0.length) <|
 chk (decide (a2.toNat < a0.length)) <|
 lt (ag a0 a2.toNat : Dat) fun d1 =>
 chk (decide ((d1.i 0) = (d1.i 0) /\ a12.length <= 17179869184) && (m9 a7 && aP a11)) <|
 k (a0, a1, (w64 (a2 + 1)), a3, a4, a5, a6, ((dq a2 (d1.i 0) (d1.i 1) a7 a11).1), a2, (d1.i 0), a10, ((dq a2 (d1.i 0) (d1.i 1) a7 a11).2.1), (a12 ++ (dq a2 (d1.i 0) (d1.i 1) a7 a11).2.2))
 else
 some ([.i a7.ar, .i a7.fee, .i a7.bG, .i a7.aj, .i a7.room, .d a12, .d a11])
def vM (m : Nat) : Nat -> C3 -> Option (List Un) := bp (yU m)
theorem tP (m : Nat) (n : Nat) : vM m (n + 1) = yU m (vM m n) := rfl
def Gk (F : C3 -> Option (List Un)) : aW := ⟨[.lp [0, 1, 0, 1, 1, 1], .blk 0, .code [1, 1, 1, 1]], ⟨frm 52 [(8, .ptr 0 0 0), (9, .ptr 1 0 0), (20, .ai (sI 2)), (21, .int .i64), (22, .int .i64)], [.cells [.int .i64, .int .i64, .int .i64, .int .i64, .buf 2 3], .cells [.int .i64, .int .i64, .int .i64, .int .i64, .int .i64, .buf 3 3, .int .i64, .int .i64, .buf 4 4], .ai (sI 3), .ai (sI 3), .ai (sI 4)], 0⟩, onU F⟩
theorem OL (m : Nat) : ∀ n, HO N38 (Gk (vM m n)) := au ah T80.right (fun k => [Gk k]) (fun k h => (aL h aA)) fun k a => by kernel_rfl
def t38 (m : Nat) : Int × Int × Int × Int × Int × List Dat × List Dat -> Option (List Un) := fun (a0, a1, a2, a3, a4, a5, a6) =>
 chk (decide (a5.length < 1000000)) <|
 vM m m (a6, (a6.length : Int), 0, 0, 0, 0, 0, (⟨a0, a1, a2, a3, a4⟩ : bc), 0, 0, [], a5, [])
theorem PH (m : Nat) (z1 z2 z3 z4 : Int) (zl : List Dat) : ∀ (rest pre : List Dat) (n : Nat) (y : bc) (q kd : Int) (c out : List Dat), rest.length < n -> (pre ++ rest).length <= 1000000 -> m9 y = true -> aP c = true -> out.length <= 8000 * pre.length ->
 vM m n (pre ++ rest, ((pre ++ rest).length : Int), (pre.length : Int), z1, z2, z3, z4, y, q, kd, zl, c, out) = some [.i (dE pre.length rest y c).1.ar, .i (dE pre.length rest y c).1.fee, .i (dE pre.length rest y c).1.bG, .i (dE pre.length rest y c).1.aj, .i (dE pre.length rest y c).1.room, .d (out ++ (dE pre.length rest y c).2.2), .d (dE pre.length rest y c).2.1] := by
 intro rest
 induction rest with
 | nil =>
  intro pre n y q kd c out hn hl hy hc ho; obtain ⟨n, rfl⟩ := al n (by simp at hn; omega); rw [tP]; unfold yU; dsimp only; simp [aF, dE]
 | cons x rest ih =>
  intro pre n y q kd c out hn hl hy hc ho; obtain ⟨n, rfl⟩ := al n (by simp at hn; omega); simp only [zac, zad] at hn hl; obtain ⟨s1, s2, s3, s4⟩ := uM pre.length (x.i 0) (x.i 1) hy hc; have := ih (pre ++ [x]) n _ (pre.length : Int) (x.i 0) _ (out ++ (dq pre.length (x.i 0) (x.i 1) y c).2.2) (by omega) (by simp; omega) s1 s2 (by simp; omega); simp only [dE]; rw [tP]; unfold yU; dsimp only; simp only [hy, hc, Bool.and_self, zbb]; simp only [zaF, ax, lt_eq]; generalize dq pre.length (x.i 0) (x.i 1) y c = u at *
  simp only [hy, hc, Bool.and_self, zbb, zaU, true_and]; simp (disch := omega) only [TRa, TRi, aa, LNl, LNi, zaa, ax]; simp only [LNl, LNi, zaa] at this ⊢; exact this
def f38 : Int × Int × Int × Int × Int × List Dat × List Dat -> Bool × List Un := fun (a0, a1, a2, a3, a4, a5, a6) => (decide (a6.length <= 1000000) && (m9 ⟨a0, a1, a2, a3, a4⟩ && aP a5), [.i ((dE 0 a6 ⟨a0, a1, a2, a3, a4⟩ a5).1.ar), .i ((dE 0 a6 ⟨a0, a1, a2, a3, a4⟩ a5).1.fee), .i ((dE 0 a6 ⟨a0, a1, a2, a3, a4⟩ a5).1.bG), .i ((dE 0 a6 ⟨a0, a1, a2, a3, a4⟩ a5).1.aj), .i ((dE 0 a6 ⟨a0, a1, a2, a3, a4⟩ a5).1.room), .d ((dE 0 a6 ⟨a0, a1, a2, a3, a4⟩ a5).2.2), .d ((dE 0 a6 ⟨a0, a1, a2, a3, a4⟩ a5).2.1)])
theorem Mz (a0 : Int) (a1 : Int) (a2 : Int) (a3 : Int) (a4 : Int) (a5 : List Dat) (a6 : List Dat) (hc : (decide (a6.length <= 1000000) && (m9 ⟨a0, a1, a2, a3, a4⟩ && aP a5)) = true) : ∃ m, t38 m (a0, a1, a2, a3, a4, a5, a6) = some ([.i ((dE 0 a6 ⟨a0, a1, a2, a3, a4⟩ a5).1.ar), .i ((dE 0 a6 ⟨a0, a1, a2, a3, a4⟩ a5).1.fee), .i ((dE 0 a6 ⟨a0, a1, a2, a3, a4⟩ a5).1.bG), .i ((dE 0 a6 ⟨a0, a1, a2, a3, a4⟩ a5).1.aj), .i ((dE 0 a6 ⟨a0, a1, a2, a3, a4⟩ a5).1.room), .d ((dE 0 a6 ⟨a0, a1, a2, a3, a4⟩ a5).2.2), .d ((dE 0 a6 ⟨a0, a1, a2, a3, a4⟩ a5).2.1)]) := by
 simp only [zab, zai] at hc; obtain ⟨h1, h2, h3⟩ := hc; have hl := (bK h3).1; refine ⟨a6.length + 1, ?_⟩; unfold t38; dsimp only; rw [aO (by omega)]; exact PH _ 0 0 0 0 [] a6 [] (a6.length + 1) _ 0 0 a5 [] (by omega) (by simpa using h1) h2 h3 (by simp)
theorem JP : ER 38 (mkE N38.en N38.ex f38) := an ah T80.right (fun m => [Gk (vM m m)]) (t := t38) (by kernel_rfl) (fun m => (aL (OL m m) aA)) (fun m a => by kernel_rfl) fun (a0, a1, a2, a3, a4, a5, a6) hc => Mz a0 a1 a2 a3 a4 a5 a6 hc
def T38 : Tb Tryz.prog LQ TE XX := T80.add 38 _ JP
theorem fI (j : Nat) : ∀ l : List Dat, (∀ d ∈ l, 0 <= d.i j) -> 0 <= ao j l
 | [], _ => by simp [ao]
 | d :: l, h => by
  have := h d (by simp); have := fI j l fun x hx => h x (by simp [hx])
  simp only [ao]; omega
theorem tL (j : Nat) : ∀ a b : List Dat, ao j (a ++ b) = ao j a + ao j b
 | [], b => by simp [ao]
 | d :: a, b => by simp only [zaX, ao, tL j a b]; omega
theorem sT (a k : Int) : ∀ (xs : List Int) (i : Int), (∀ x ∈ xs, 0 <= x) -> ao 3 (bF a k i xs) = xs.sum
 | [], i, _ => rfl
 | x :: xs, i, h => by
  have := sT a k xs (i + 1) fun y hy => h y (by simp [hy])
  have h0 := h x (by simp); simp only [bF, tL, zbn, this]
  by_cases hx : 0 < x
  . rw [if_pos hx]; simp [ao, eV]
  . rw [if_neg hx]; simp only [ao]; omega
theorem Bv {c : List Dat} (sel : Dat -> Bool) {j : Nat} (hj : j = 1 \/ j = 2) (n : Int) (h : aP c = true) : ∀ x ∈ aq sel j n c, 0 <= x := fun x hx => by
 obtain ⟨l1, l2, l3⟩ := dP sel hj n h; obtain ⟨i, hi, rfl⟩ := oy hx; rw [l1] at hi; exact (l3 i hi).1
def bm (f : Dat -> Bool) : List Dat -> Int
 | [] => 0
 | d :: l => (bif f d then d.i 3 else 0) + bm f l
theorem im (f : Dat -> Bool) : ∀ a b : List Dat, bm f (a ++ b) = bm f a + bm f b
 | [], b => by simp [bm]
 | d :: a, b => by simp only [zaX, bm, im f a b]; omega
theorem fE (f : Dat -> Bool) : ∀ l : List Dat, (∀ d ∈ l, f d = false) -> bm f l = 0
 | [], _ => rfl
 | d :: l, h => by simp only [bm, h d (by simp), fE f l (fun x hx => h x (by simp [hx])), zao]; rfl
theorem AJ (f : Dat -> Bool) : ∀ l : List Dat, (∀ d ∈ l, f d = true) -> bm f l = ao 3 l
 | [], _ => rfl
 | d :: l, h => by simp only [bm, ao, h d (by simp), AJ f l (fun x hx => h x (by simp [hx])), zaC]
theorem pk {f g : Dat -> Bool} : ∀ l : List Dat, (∀ d ∈ l, f d = g d) -> bm f l = bm g l
 | [], _ => rfl
 | d :: l, h => by simp only [bm, h d (by simp), pk l (fun x hx => h x (by simp [hx]))]
def kF (d : Dat) : Bool := d.i 1 == 1
def kR (d : Dat) : Bool := d.i 1 == 2
def kT (d : Dat) : Bool := d.i 1 == 6
def kI (d : Dat) : Bool := d.i 1 == 3
def kB (d : Dat) : Bool := !kF d && !kR d && !kT d && !kI d
def kP (d : Dat) : Bool := kB d && d.i 1 != 7
def toI (i : Nat) (d : Dat) : Bool := kI d && d.i 2 == (i : Int)
def toB (i : Nat) (d : Dat) : Bool := kB d && d.i 2 == (i : Int)
theorem kJ (a k : Int) : ∀ (xs : List Int) (i : Int), ∀ d ∈ bF a k i xs, d.i 0 = a /\ d.i 1 = k /\ (i <= d.i 2 /\ d.i 2 < i + xs.length) /\ 1 <= d.i 3 /\ d.i 3 = xs.getD (d.i 2 - i).toNat 0
 | [], i, d, h => by simp [bF] at h
 | x :: xs, i, d, h => by
  simp only [bF, zbN] at h; rcases h with h | h
  . by_cases hx : 0 < x
    . rw [if_pos hx] at h; rw [List.mem_singleton.1 h]; refine ⟨rfl, rfl, ?_, ?_, ?_⟩
      . simp only [iC, zac, zaA]; omega
      . simp only [eV]; omega
      . simp only [iC, eV, Int.sub_self, Int.toNat_zero, zaI]
    . rw [if_neg hx] at h; cases h
  . obtain ⟨h1, h2, h3, h4, h5⟩ := kJ a k xs (i + 1) d h; simp only [zac, zaA]; refine ⟨h1, h2, by omega, h4, ?_⟩; rw [show (d.i 2 - i).toNat = (d.i 2 - (i + 1)).toNat + 1 by omega, zat]; exact h5
theorem wC (a k : Int) : ∀ (xs : List Int) (i : Int) (j : Nat), (∀ x ∈ xs, 0 <= x) -> bm (fun d => d.i 2 == i + j) (bF a k i xs) = xs.getD j 0
 | [], i, j, _ => by simp [bF, bm]
 | x :: xs, i, j, h => by
  have h0 := h x (by simp); simp only [bF, im]; cases j with
  | zero =>
   have e : bm (fun d => d.i 2 == i + ((0 : Nat) : Int)) (bF a k (i + 1) xs) = 0 := fE _ _ fun d hd => by
    have := kJ a k xs (i + 1) d hd; simp only [zbJ]; omega
   rw [e, zaI]
   by_cases hx : 0 < x
   . rw [if_pos hx]; simp [bm, iC, eV]
   . rw [if_neg hx]; simp only [bm]; omega
  | succ j =>
   have := wC a k xs (i + 1) j fun y hy => h y (by simp [hy])
   rw [show i + 1 + (j : Int) = i + ((j + 1 : Nat) : Int) by omega] at this; rw [this, zat]
   by_cases hx : 0 < x
   . rw [if_pos hx]; simp only [bm, iC]; rw [show (i == i + ((j + 1 : Nat) : Int)) = false by simp only [zbJ]; omega]; simp
   . rw [if_neg hx]; simp [bm]
structure Kept (x : bc) (c ps : List Dat) (x' : bc) (c' : List Dat) : Prop where
 ar : x'.ar = x.ar - ao 3 ps
 fee : x'.fee = x.fee - bm kF ps
 bG : x'.bG = x.bG - bm kR ps
 room : x'.room = x.room - bm kT ps
 pri : x'.aj = x.aj - bm kP ps
 len : c'.length = c.length
 row : ∀ i, i < c.length -> ag c' i = .r [.n ((ag c i).i 0), .n ((ag c i).i 1 - bm (toB i) ps), .n ((ag c i).i 2 - bm (toI i) ps)]
theorem Kept.refl {x : bc} {c : List Dat} (h : ∀ d ∈ c, lj 3 d = true) : Kept x c [] x c := by
 refine ⟨by simp [ao], by simp [bm], by simp [bm], by simp [bm], by simp [bm], rfl, fun i hi => ?_⟩; simp only [bm, zbm]; exact B5 (h _ (mJ hi))
theorem Kept.trans {x x' x'' : bc} {c c' c'' ps qs : List Dat} (a : Kept x c ps x' c') (b : Kept x' c' qs x'' c'') : Kept x c (ps ++ qs) x'' c'' := by
 refine ⟨?_, ?_, ?_, ?_, ?_, b.len.trans a.len, fun i hi => ?_⟩
 . rw [b.ar, a.ar, tL]; omega
 . rw [b.fee, a.fee, im]; omega
 . rw [b.bG, a.bG, im]; omega
 . rw [b.room, a.room, im]; omega
 . rw [b.pri, a.pri, im]; omega
 . rw [b.row i (by rw [a.len]; exact hi), a.row i hi, im, im]; simp only [MB, eA, iC]; rw [show (ag c i).i 1 - bm (toB i) ps - bm (toB i) qs = (ag c i).i 1 - (bm (toB i) ps + bm (toB i) qs) by omega, show (ag c i).i 2 - bm (toI i) ps - bm (toI i) qs = (ag c i).i 2 - (bm (toI i) ps + bm (toI i) qs) by omega]
theorem Kept.shares {c : List Dat} (sel : Dat -> Bool) (n : Int) (h : aP c = true) (x : bc) (a : Int) {j : Nat} {kd : Int} (hk : (j = 2 /\ kd = 3) \/ (j = 1 /\ (kd = 4 \/ kd = 5 \/ kd = 7))) :
 Kept x c (bF a kd 0 (aq sel j n c)) { x with ar := x.ar - (aq sel j n c).sum, aj := if kd = 4 \/ kd = 5 then x.aj - (aq sel j n c).sum else x.aj } (bP j (aq sel j n c) c) := by
 have hj : j = 1 \/ j = 2 := by omega
 obtain ⟨l1, l2, l3⟩ := dP sel hj n h; obtain ⟨h1, h2⟩ := bK h; have hm := Bv sel hj n h; have hp := kJ a kd (aq sel j n c) 0; have hs := sT a kd (aq sel j n c) 0 hm; have hat := fun i => wC a kd (aq sel j n c) 0 i hm
 have kk : ∀ d ∈ bF a kd 0 (aq sel j n c), kF d = false /\ kR d = false /\ kT d = false /\ kI d = (kd == 3) /\ kB d = !(kd == 3) := fun d hd => by
  have := (hp d hd).2.1; simp only [kB, kF, kR, kT, kI, this]; rcases hk with ⟨_, rfl⟩ | ⟨_, rfl | rfl | rfl⟩ <;> decide
 refine ⟨by rw [hs], ?_, ?_, ?_, ?_, mA j _ c l1, fun i hi => ?_⟩
 . rw [fE kF _ fun d hd => (kk d hd).1]; simp
 . rw [fE kR _ fun d hd => (kk d hd).2.1]; simp
 . rw [fE kT _ fun d hd => (kk d hd).2.2.1]; simp
 . by_cases h45 : kd = 4 \/ kd = 5
   . simp only [if_pos h45]; rw [AJ kP _ fun d hd => by
      have := (kk d hd).2.2.2.2; have h6 := (hp d hd).2.1; simp only [kP, this, h6]; rcases h45 with rfl | rfl <;> rfl, hs]
   . simp only [if_neg h45]; rw [fE kP _ fun d hd => by
      have := (kk d hd).2.2.2.2; have h6 := (hp d hd).2.1; simp only [kP, this, h6]; rcases hk with ⟨_, rfl⟩ | ⟨_, rfl | rfl | rfl⟩
      . rfl
      . exact absurd (.inl rfl) h45
      . exact absurd (.inr rfl) h45
      . rfl]
     simp
 . rw [mf j _ c i l1 hi]; have e2 := hat i; simp only [za2] at e2; rcases hk with ⟨rfl, rfl⟩ | ⟨rfl, hk⟩
   . have a1 : bm (toB i) (bF a 3 0 (aq sel 2 n c)) = 0 := fE _ _ fun d hd => by simp only [toB, (kk d hd).2.2.2.2]; rfl
     have a2 : bm (toI i) (bF a 3 0 (aq sel 2 n c)) = (aq sel 2 n c).getD i 0 := by
      rw [<- e2]; exact pk _ fun d hd => by simp only [toI, (kk d hd).2.2.2.1]; rfl
     rw [a1, a2]; simp only [bY, show ¬ (2 : Nat) = 1 by decide, zbf, zbm]
   . have k3 : (kd == 3) = false := by rcases hk with rfl | rfl | rfl <;> rfl
     have a1 : bm (toI i) (bF a kd 0 (aq sel 1 n c)) = 0 := fE _ _ fun d hd => by simp only [toI, (kk d hd).2.2.2.1, k3]; rfl
     have a2 : bm (toB i) (bF a kd 0 (aq sel 1 n c)) = (aq sel 1 n c).getD i 0 := by
      rw [<- e2]; exact pk _ fun d hd => by simp only [toB, (kk d hd).2.2.2.2, k3]; rfl
     rw [a1, a2]; simp only [bY, za9, zbm]
theorem Kept.uv {a kd : Int} (hk : kd = 4 \/ kd = 7) : ∀ (k : Nat) (r n : Int) (x : bc) (c : List Dat), aP c = true ->
 Kept x c (br a kd k r n c).2.1 { x with ar := x.ar - (br a kd k r n c).2.2, aj := if kd = 4 then x.aj - (br a kd k r n c).2.2 else x.aj } (br a kd k r n c).1
 | 0, r, n, x, c, h => by
  have := Kept.refl (x := x) fun d hd => (cm ((bK h).2 d hd)).1
  simp only [br, zbm, ite_self]; exact this
 | k + 1, r, n, x, c, h => by
  obtain ⟨g1, g2⟩ := oI (aH r) (j := 1) (.inl rfl) n h; have a1 := Kept.shares (aH r) n h x a (j := 1) (kd := kd) (.inr ⟨rfl, by omega⟩); have a2 := Kept.uv (a := a) hk k (r + 1) (n - (aq (aH r) 1 n c).sum) { x with ar := x.ar - (aq (aH r) 1 n c).sum, aj := if kd = 4 \/ kd = 5 then x.aj - (aq (aH r) 1 n c).sum else x.aj } _ g1; have := a1.trans a2; simp only [br]; have e : (if kd = 4 \/ kd = 5 then x.aj - (aq (aH r) 1 n c).sum else x.aj) = if kd = 4 then x.aj - (aq (aH r) 1 n c).sum else x.aj := by
   rcases hk with rfl | rfl <;> simp
  simp only [e] at this; generalize (br a kd k (r + 1) (n - (aq (aH r) 1 n c).sum) (bP 1 (aq (aH r) 1 n c) c)).2.2 = y at *
  by_cases h4 : kd = 4
  . simp only [if_pos h4, Int.sub_sub] at this ⊢; exact this
  . simp only [if_neg h4, Int.sub_sub] at this ⊢; exact this
def AF (n : Nat) (a kd : Int) (d : Dat) : Prop := d.i 0 = a /\ d.i 1 = kd /\ 1 <= d.i 3 /\ (-1 <= d.i 2 /\ d.i 2 < n) /\ (d.i 2 < 0 ↔ (kd = 1 \/ kd = 2 \/ kd = 6))
theorem pK {a kd : Int} {xs : List Int} {n : Nat} (hl : xs.length = n) (hk : ¬ (kd = 1 \/ kd = 2 \/ kd = 6)) : ∀ d ∈ bF a kd 0 xs, AF n a kd d := fun d hd => by
 obtain ⟨h1, h2, h3, h4, h5⟩ := kJ a kd xs 0 d hd; exact ⟨h1, h2, h4, by omega, by omega⟩
theorem nU {a kd : Int} (hk : ¬ (kd = 1 \/ kd = 2 \/ kd = 6)) : ∀ (k : Nat) (r n : Int) (c : List Dat), aP c = true -> ∀ d ∈ (br a kd k r n c).2.1, AF c.length a kd d
 | 0, r, n, c, h, d, hd => by simp [br] at hd
 | k + 1, r, n, c, h, d, hd => by
  obtain ⟨g1, g2⟩ := oI (aH r) (j := 1) (.inl rfl) n h; obtain ⟨l1, l2, l3⟩ := dP (aH r) (j := 1) (.inl rfl) n h; simp only [br] at hd; rcases zbN.1 hd with hd | hd
  . exact pK l1 hk d hd
  . have := nU hk k (r + 1) _ _ g1 d hd
    rwa [g2] at this
theorem lH {x : bc} {c : List Dat} (h : aP c = true) (a kd n : Int) (h0 : 0 <= n) (hk : kd = 1 \/ kd = 2 \/ kd = 6) :
 Kept x c (jO a kd n) { x with ar := x.ar - n, fee := if kd = 1 then x.fee - n else x.fee, bG := if kd = 2 then x.bG - n else x.bG, room := if kd = 6 then x.room - n else x.room } c /\ ∀ d ∈ jO a kd n, AF c.length a kd d := by
 have hr : ∀ d ∈ c, lj 3 d = true := fun d hd => (cm ((bK h).2 d hd)).1
 unfold jO
 by_cases hn : 0 < n
 . rw [if_pos hn]; refine ⟨⟨by simp [ao, eV], ?_, ?_, ?_, ?_, rfl, fun i hi => ?_⟩, fun d hd => ?_⟩
   . simp only [bm, kF, eA, eV]; rcases hk with rfl | rfl | rfl <;> simp
   . simp only [bm, kR, eA, eV]; rcases hk with rfl | rfl | rfl <;> simp
   . simp only [bm, kT, eA, eV]; rcases hk with rfl | rfl | rfl <;> simp
   . simp only [bm, kP, kB, kF, kR, kT, kI, eA, eV]; rcases hk with rfl | rfl | rfl <;> simp
   . have a1 : bm (toB i) [Dat.r [.n a, .n kd, .n (-1), .n n]] = 0 := by simp only [bm, toB, kB, kF, kR, kT, kI, eA, iC]; rcases hk with rfl | rfl | rfl <;> simp
     have a2 : bm (toI i) [Dat.r [.n a, .n kd, .n (-1), .n n]] = 0 := by simp only [bm, toI, kI, eA, iC]; rcases hk with rfl | rfl | rfl <;> simp
     rw [a1, a2, zbm, zbm]; exact B5 (hr _ (mJ hi))
   . rw [List.mem_singleton.1 hd]; refine ⟨rfl, rfl, ?_, ?_, ?_⟩
     . show (1 : Int) <= n; exact hn
     . exact ⟨zb9 (-1), by show (-1 : Int) < (c.length : Int); omega⟩
     . show (-1 : Int) < 0 ↔ _; exact ⟨fun _ => hk, fun _ => by decide⟩
 . rw [if_neg hn]; obtain rfl : n = 0 := by omega
   simp only [zbm, ite_self]; exact ⟨Kept.refl hr, fun d hd => by cases hd⟩
theorem Bh (a kd rk : Int) {x : bc} {c : List Dat} (hx : m9 x = true) (h : aP c = true) : Kept x c (dq a kd rk x c).2.2 (dq a kd rk x c).1 (dq a kd rk x c).2.1 /\ ∀ d ∈ (dq a kd rk x c).2.2, AF c.length a kd d := by
 have hx' := rT hx; have s1 := fun sel j hj n => (dP (c := c) sel (j := j) hj n h).1
 unfold dq
 by_cases k1 : kd = 1
 . rw [if_pos k1]; have := lH (x := x) h a kd (min x.fee x.ar) (by omega) (.inl k1); subst k1; exact this
 rw [if_neg k1]
 by_cases k2 : kd = 2
 . rw [if_pos k2]; have := lH (x := x) h a kd (min x.bG x.ar) (by omega) (.inr (.inl k2)); subst k2; exact this
 rw [if_neg k2]
 by_cases k6 : kd = 6
 . rw [if_pos k6]; have := lH (x := x) h a kd (min x.room x.ar) (by omega) (.inr (.inr k6)); subst k6; exact this
 rw [if_neg k6]; have hk : ¬ (kd = 1 \/ kd = 2 \/ kd = 6) := by omega
 by_cases k3 : kd = 3
 . rw [if_pos k3]; have := Kept.shares (aH rk) x.ar h x a (j := 2) (kd := kd) (.inl ⟨rfl, k3⟩); rw [if_neg (by omega)] at this; exact ⟨this, pK (s1 (aH rk) 2 (.inr rfl) x.ar) hk⟩
 rw [if_neg k3]
 by_cases k4 : kd = 4
 . rw [if_pos k4]; have := Kept.uv (a := a) (kd := kd) (.inl k4) 8 0 (min x.aj x.ar) x c h; simp only [if_pos k4] at this; have hp := nU (a := a) hk 8 0 (min x.aj x.ar) c h; generalize br a kd 8 0 (min x.aj x.ar) c = y at *
   exact ⟨this, hp⟩
 rw [if_neg k4]
 by_cases k5 : kd = 5
 . rw [if_pos k5]; have := Kept.shares (fun _ => true) (min x.aj x.ar) h x a (j := 1) (kd := kd) (.inr ⟨rfl, by omega⟩); rw [if_pos (by omega)] at this; exact ⟨this, pK (s1 (fun _ => true) 1 (.inl rfl) _) hk⟩
 rw [if_neg k5]
 by_cases k7 : kd = 7
 . rw [if_pos k7]; have := Kept.uv (a := a) (kd := kd) (.inr k7) 8 0 x.ar x c h; simp only [if_neg k4] at this; have hp := nU (a := a) hk 8 0 x.ar c h; generalize br a kd 8 0 x.ar c = y at *
   exact ⟨this, hp⟩
 rw [if_neg k7]; exact ⟨Kept.refl fun d hd => (cm ((bK h).2 d hd)).1, fun d hd => by cases hd⟩
def GD (n : Nat) (a : Int) (l : List Dat) (d : Dat) : Prop := (a <= d.i 0 /\ d.i 0 < a + l.length) /\ AF n (d.i 0) (ag l (d.i 0 - a).toNat |>.i 0) d
theorem vO : ∀ (l : List Dat) (a : Int) (x : bc) (c : List Dat), m9 x = true -> aP c = true -> Kept x c (dE a l x c).2.2 (dE a l x c).1 (dE a l x c).2.1 /\ (∀ d ∈ (dE a l x c).2.2, GD c.length a l d) /\ (dE a l x c).2.2.Pairwise fun d e => d.i 0 <= e.i 0
 | [], a, x, c, hx, h => ⟨Kept.refl fun d hd => (cm ((bK h).2 d hd)).1, fun d hd => by simp [dE] at hd, List.Pairwise.nil⟩
 | s :: l, a, x, c, hx, h => by
  obtain ⟨h1, h2, h3, h4⟩ := uM a (s.i 0) (s.i 1) hx h; obtain ⟨k1, k2⟩ := Bh a (s.i 0) (s.i 1) hx h; obtain ⟨i1, i2, i3⟩ := vO l (a + 1) _ _ h1 h2; simp only [dE]; refine ⟨k1.trans i1, fun d hd => ?_, ?_⟩
  . rcases zbN.1 hd with hd | hd
    . obtain ⟨g0, g1, g2, g3, g4⟩ := k2 d hd; refine ⟨by rw [g0, zac]; omega, ?_⟩; rw [g0, Int.sub_self]; exact ⟨g0, g1, g2, g3, g4⟩
    . obtain ⟨g0, g1⟩ := i2 d hd; rw [h3] at g1; refine ⟨by rw [zac]; omega, ?_⟩; rw [show (d.i 0 - a).toNat = (d.i 0 - (a + 1)).toNat + 1 by omega]; exact g1
  . rw [List.pairwise_append]; refine ⟨?_, i3, fun d hd e he => ?_⟩
    . refine List.Pairwise.imp_of_mem (R := fun _ _ => True) (fun {d e} hd he _ => ?_) (List.pairwise_of_forall fun _ _ => trivial); rw [(k2 d hd).1, (k2 e he).1]; exact zb9 _
    . have := (k2 d hd).1; have := (i2 e he).1; omega
def cG (u p l r : Int) : Int := min (min (max (u - p) 0) (max (l - r) 0)) (max u 0)
def N85 : aC := ⟨T38.tab, 85, ⟨[.int .i64, .int .i64, .int .i64, .int .i64], [], 0⟩, ⟨[.int .i64], [], 0⟩, []⟩
def t85 (m : Nat) : Int × Int × Int × Int -> Option (List Un) := fun (a0, a1, a2, a3) =>
 lt ((if (w64 (a0 - a1)) < 0 then 0 else (w64 (a0 - a1))) : Int) fun x1 =>
 lt ((if (w64 (a2 - a3)) < 0 then 0 else (w64 (a2 - a3))) : Int) fun x2 =>
 lt ((if a0 < 0 then 0 else a0) : Int) fun x3 =>
 some ([.i (if x3 < (if x2 < x1 then x2 else x1) then x3 else (if x2 < x1 then x2 else x1))])
def f85 : Int × Int × Int × Int -> Bool × List Un := fun (a0, a1, a2, a3) => (decide ((-1152921504606846976 <= a0 /\ a0 <= 1152921504606846976) /\ (-1152921504606846976 <= a1 /\ a1 <= 1152921504606846976) /\ (-1152921504606846976 <= a2 /\ a2 <= 1152921504606846976) /\ (-1152921504606846976 <= a3 /\ a3 <= 1152921504606846976)), [.i (cG a0 a1 a2 a3)])
theorem MT (a0 : Int) (a1 : Int) (a2 : Int) (a3 : Int) (hc : (decide ((-1152921504606846976 <= a0 /\ a0 <= 1152921504606846976) /\ (-1152921504606846976 <= a1 /\ a1 <= 1152921504606846976) /\ (-1152921504606846976 <= a2 /\ a2 <= 1152921504606846976) /\ (-1152921504606846976 <= a3 /\ a3 <= 1152921504606846976))) = true) : ∃ m, t85 m (a0, a1, a2, a3) = some ([.i (cG a0 a1 a2 a3)]) := by
 have h := zaj hc; refine ⟨0, ?_⟩; unfold t85 cG; simp only [lt_eq]; rw [aa (n := a0 - a1) (by omega) (by omega), aa (n := a2 - a3) (by omega) (by omega)]
 congr 3
 omega
theorem KV : ER 85 (mkE N85.en N85.ex f85) := an ah T38.right (fun m => []) (t := t85) (by kernel_rfl) (fun m => aA) (fun m a => by kernel_rfl) fun (a0, a1, a2, a3) hc => MT a0 a1 a2 a3 hc
def T85 : Tb Tryz.prog LQ TE XX := T38.add 85 _ KV
def bZ (n : Int) : Nat -> List Int
 | 0 => []
 | k + 1 => n :: bZ (n + 1) k
theorem fG : ∀ (k : Nat) (n : Int), (bZ n k).length = k
 | 0, _ => rfl
 | k + 1, n => by simp [bZ, fG k]
theorem wQ : ∀ (k j : Nat) (n : Int), j < k -> (bZ n k).getD j 0 = n + j
 | 0, j, n, h => by omega
 | k + 1, 0, n, h => by simp [bZ]
 | k + 1, j + 1, n, h => by
  simp only [bZ, zat, wQ k j (n + 1) (by omega)]; omega
theorem xA {c : List Dat} {i : Nat} (h : i < c.length) : (bZ 0 c.length).getD i 0 = (i : Int) := by rw [wQ _ _ _ h]; omega
theorem cq {c : List Dat} {i : Nat} (h : i < c.length) (hg : ∀ d ∈ c, aI d = true) : aI (ag c i) = true := hg _ (uq h)
theorem Js {d : Dat} (h : aI d = true) : w64 (w64 (d.i 1 - w64 (d.i 3 - d.i 4)) - d.i 6) = bk d := by
 have := ca h; rw [aa (n := d.i 3 - d.i 4) (by omega) (by omega), aa (n := d.i 1 - _) (by omega) (by omega), aa (by omega) (by omega)]; rfl
theorem wL (j : Nat) : ∀ (c : List Dat) (i : Nat), i < c.length -> ao j (c.drop i) = (ag c i).i j + ao j (c.drop (i + 1))
 | [], i, h => by simp at h
 | d :: c, 0, _ => by simp [ao, ag]
 | d :: c, i + 1, h => by
  have := wL j c i (by simpa using h); simpa [ag] using this
def Mw : aC := ⟨T85.tab, 116, ⟨[.buf 0 1], [.dB 1 7 0, .ai (sI 7)], 2⟩, ⟨[.int .i64], [.dB 1 7 0, .ai (sI 7)], 2⟩, []⟩
abbrev zg : Type := Int × Int × Int × List Int × List Dat
def sh (m : Nat) (k : zg -> Option (List Un)) : zg -> Option (List Un) := fun (a0, a1, a2, a3, a4) =>
 bif decide (a2 < a1) then
 chk (inb a2 a3.length) <|
 chk (decide (a2.toNat < a3.length)) <|
 bif (!((decide ((a3.getD a2.toNat 0) < 0)) && true)) then
 chk (decide (0 <= (a3.getD a2.toNat 0))) <|
 chk (decide ((a3.getD a2.toNat 0).toNat < a4.length)) <|
 k ((w64 (a0 + ((ag a4 ((a3.getD a2.toNat 0).toNat)).i 6))), a1, (w64 (a2 + 1)), a3, a4)
 else
 k (a0, a1, (w64 (a2 + 1)), a3, a4)
 else
 some ([.i a0, .l a3, .d a4])
def qc (m : Nat) : Nat -> zg -> Option (List Un) := bp (sh m)
theorem ql (m : Nat) (n : Nat) : qc m (n + 1) = sh m (qc m n) := rfl
def BS (F : zg -> Option (List Un)) : aW := ⟨[.lp [0, 1, 0, 1, 1], .blk 0, .code [1, 1, 1]], ⟨frm 22 [(3, .int .i64), (6, .buf 0 1), (7, .int .i64), (8, .int .i64)], [.dB 1 7 0, .ai (sI 7)], 2⟩, onU F⟩
theorem N0 (m : Nat) : ∀ n, HO Mw (BS (qc m n)) := au ah T85.right (fun k => [BS k]) (fun k h => (aL h aA)) fun k a => by kernel_rfl
def t116 (m : Nat) : List Int × List Dat -> Option (List Un) := fun (a0, a1) =>
 qc m m (0, (a0.length : Int), 0, a0, a1)
theorem Nq (m : Nat) (c : List Dat) (hl : c.length <= 1000) (hg : ∀ d ∈ c, aI d = true) : ∀ (k i n : Nat) (s : Int), i + k = c.length -> k < n -> 0 <= s -> s <= 1099511627776 * i ->
 qc m n (s, (c.length : Int), (i : Int), bZ 0 c.length, c) = some [.i (s + ao 6 (c.drop i)), .l (bZ 0 c.length), .d c] := by
 intro k
 induction k with
 | zero =>
  intro i n s hi hn s0 s1; obtain ⟨n, rfl⟩ := al n (by omega); rw [ql]; unfold sh; dsimp only; rw [aF (by omega), List.drop_eq_nil_of_le (by omega)]; simp [ao]
 | succ k ih =>
  intro i n s hi hn s0 s1; obtain ⟨n, rfl⟩ := al n (by omega); have hk := xA (c := c) (i := i) (by omega); have hL := fG c.length 0; have hx := ca (cq (i := i) (by omega) hg); have := ih (i + 1) n (s + (ag c i).i 6) (by omega) (by omega) (by omega) (by omega); rw [wL 6 c i (by omega), <- Int.add_assoc]; rw [ql]; unfold sh; dsimp only; simp only [zaF, hk, hL, zbb, zaU]; simp (disch := omega) only [TRa, TRi, aa, LNl, LNi, zaa]; simp only [LNl, LNi, zaa] at this ⊢; exact this
def f116 : List Int × List Dat -> Bool × List Un := fun (a0, a1) => ((decide (a0 = bZ 0 a1.length)) && (decide (a1.length <= 1000) && a1.all aI), [.i (ao 6 a1), .l (a0), .d (a1)])
theorem Jl (a0 : List Int) (a1 : List Dat) (hc : ((decide (a0 = bZ 0 a1.length)) && (decide (a1.length <= 1000) && a1.all aI)) = true) : ∃ m, t116 m (a0, a1) = some ([.i (ao 6 a1), .l (a0), .d (a1)]) := by
 simp only [zab, zai, zan] at hc; obtain ⟨rfl, h1, h2⟩ := hc; refine ⟨a1.length + 1, ?_⟩; unfold t116; dsimp only; rw [fG]; exact (Nq _ a1 h1 h2 a1.length 0 _ 0 (by omega) (by omega) (by omega) (by simp)).trans (by simp only [za2, zbS])
theorem FP : ER 116 (mkE Mw.en Mw.ex f116) := an ah T85.right (fun m => [BS (qc m m)]) (t := t116) (by kernel_rfl) (fun m => (aL (N0 m m) aA)) (fun m a => by kernel_rfl) fun (a0, a1) hc => Jl a0 a1 hc
def JW : Tb Tryz.prog LQ TE XX := T85.add 116 _ FP
def ft (c : List Dat) : Nat -> Nat -> Int -> Int
 | 0, _, o => o
 | k + 1, i, o => ft c k (i + 1) (if 0 < bk (ag c i) /\ (o < 0 \/ (ag c o.toNat).i 0 <= (ag c i).i 0) then (i : Int) else o)
theorem ym (c : List Dat) : ∀ (k i : Nat) (o : Int), i + k = c.length -> -1 <= o -> o < c.length -> -1 <= ft c k i o /\ ft c k i o < c.length
 | 0, _, o, _, h1, h2 => ⟨h1, h2⟩
 | k + 1, i, o, h, h1, h2 => by
  unfold ft
  split
  . exact ym c k (i + 1) _ (by omega) (by omega) (by omega)
  . exact ym c k (i + 1) _ (by omega) (by omega) (by omega)
def Mo : aC := ⟨JW.tab, 117, ⟨[.buf 0 1], [.dB 1 7 0, .ai (sI 7)], 2⟩, ⟨[.np 1 7 0], [.dB 1 7 0, .ai (sI 7)], 2⟩, []⟩
abbrev y3 : Type := Int × Int × Int × List Int × List Dat
def rD (m : Nat) (k : y3 -> Option (List Un)) : y3 -> Option (List Un) := fun (a0, a1, a2, a3, a4) =>
 bif decide (a2 < a1) then
 chk (inb a2 a3.length) <|
 chk (decide (a2.toNat < a3.length)) <|
 bif (!((decide ((a3.getD a2.toNat 0) < 0)) && true)) then
 chk (decide (0 <= (a3.getD a2.toNat 0))) <|
 chk (decide ((a3.getD a2.toNat 0).toNat < a4.length)) <|
 lt (ag a4 ((a3.getD a2.toNat 0).toNat) : Dat) fun d2 =>
 bif decide ((w64 (w64 ((d2.i 1) - w64 ((d2.i 3) - (d2.i 4))) - (d2.i 6))) > 0) then
 bif ((decide (a0 < 0)) && true) then
 k ((a3.getD a2.toNat 0), a1, (w64 (a2 + 1)), a3, a4)
 else
 chk (decide (0 <= (a3.getD a2.toNat 0))) <|
 chk (decide ((a3.getD a2.toNat 0).toNat < a4.length)) <|
 chk (decide (0 <= a0)) <|
 chk (decide (a0.toNat < a4.length)) <|
 bif (decide (((ag a4 ((a3.getD a2.toNat 0).toNat)).i 0) >= ((ag a4 a0.toNat).i 0))) then
 k ((a3.getD a2.toNat 0), a1, (w64 (a2 + 1)), a3, a4)
 else
 k (a0, a1, (w64 (a2 + 1)), a3, a4)
 else
 k (a0, a1, (w64 (a2 + 1)), a3, a4)
 else
 k (a0, a1, (w64 (a2 + 1)), a3, a4)
 else
 some ([.i a0, .l a3, .d a4])
def pP (m : Nat) : Nat -> y3 -> Option (List Un) := bp (rD m)
theorem qe (m : Nat) (n : Nat) : pP m (n + 1) = rD m (pP m n) := rfl
def By (F : y3 -> Option (List Un)) : aW := ⟨[.lp [0, 1, 0, 1, 1], .blk 0, .code [1, 1, 1]], ⟨frm 41 [(3, .np 1 7 0), (6, .buf 0 1), (7, .int .i64), (8, .int .i64)], [.dB 1 7 0, .ai (sI 7)], 2⟩, onU F⟩
theorem MY (m : Nat) : ∀ n, HO Mo (By (pP m n)) := au ah JW.right (fun k => [By k]) (fun k h => (aL h aA)) fun k a => by kernel_rfl
def t117 (m : Nat) : List Int × List Dat -> Option (List Un) := fun (a0, a1) =>
 pP m m ((-1), (a0.length : Int), 0, a0, a1)
theorem OC (m : Nat) (c : List Dat) (hl : c.length <= 1000) (hg : ∀ d ∈ c, aI d = true) : ∀ (k i n : Nat) (o : Int), i + k = c.length -> k < n -> -1 <= o -> o < c.length ->
 pP m n (o, (c.length : Int), (i : Int), bZ 0 c.length, c) = some [.i (ft c k i o), .l (bZ 0 c.length), .d c] := by
 intro k
 induction k with
 | zero =>
  intro i n o hi hn o0 o1; obtain ⟨n, rfl⟩ := al n (by omega); rw [qe]; unfold rD; dsimp only; rw [aF (by omega)]; rfl
 | succ k ih =>
  intro i n o hi hn o0 o1; obtain ⟨n, rfl⟩ := al n (by omega); have hk := xA (c := c) (i := i) (by omega); have hL := fG c.length 0; have hx := ca (cq (i := i) (by omega) hg); have ia := ih (i + 1) n (i : Int) (by omega) (by omega) (by omega) (by omega); have ib := ih (i + 1) n o (by omega) (by omega) (by omega) (by omega); rw [qe]; unfold rD; dsimp only; unfold ft; have e := Js (cq (c := c) (i := i) (by omega) hg); simp only [lt_eq, zaF, hk, hL, zbb, zaU, e, ge_iff_le, gt_iff_lt]
  by_cases h1 : 0 < bk (ag c i)
  . by_cases h2 : o < 0
    . have hc : 0 < bk (ag c i) /\ (o < 0 \/ (ag c o.toNat).i 0 <= (ag c i).i 0) := ⟨h1, .inl h2⟩
      rw [if_pos hc]; simp (disch := omega) only [TRa, TRi, aa, LNl, LNi, zaa]; simp only [zaA, zaa] at ia ib ⊢; exact ia
    . by_cases h3 : (ag c o.toNat).i 0 <= (ag c i).i 0
      . have hc : 0 < bk (ag c i) /\ (o < 0 \/ (ag c o.toNat).i 0 <= (ag c i).i 0) := ⟨h1, .inr h3⟩
        rw [if_pos hc]; simp (disch := omega) only [TRa, TRi, aa, LNl, LNi, zaa]; simp only [zaA, zaa] at ia ib ⊢; exact ia
      . have hc : ¬ (0 < bk (ag c i) /\ (o < 0 \/ (ag c o.toNat).i 0 <= (ag c i).i 0)) := fun h => h.2.elim h2 h3
        rw [if_neg hc]; simp (disch := omega) only [TRa, TRi, aa, LNl, LNi, zaa]; simp only [zaA, zaa] at ia ib ⊢; exact ib
  . have hc : ¬ (0 < bk (ag c i) /\ (o < 0 \/ (ag c o.toNat).i 0 <= (ag c i).i 0)) := fun h => h1 h.1
    rw [if_neg hc]; simp (disch := omega) only [TRa, TRi, aa, LNl, LNi, zaa]; simp only [zaA, zaa] at ia ib ⊢; exact ib
def f117 : List Int × List Dat -> Bool × List Un := fun (a0, a1) => ((decide (a0 = bZ 0 a1.length)) && (decide (a1.length <= 1000) && a1.all aI), [.i (ft a1 a1.length 0 (-1)), .l (a0), .d (a1)])
theorem K5 (a0 : List Int) (a1 : List Dat) (hc : ((decide (a0 = bZ 0 a1.length)) && (decide (a1.length <= 1000) && a1.all aI)) = true) : ∃ m, t117 m (a0, a1) = some ([.i (ft a1 a1.length 0 (-1)), .l (a0), .d (a1)]) := by
 simp only [zab, zai, zan] at hc; obtain ⟨rfl, h1, h2⟩ := hc; refine ⟨a1.length + 1, ?_⟩; unfold t117; dsimp only; rw [fG]; exact OC _ a1 h1 h2 a1.length 0 _ (-1) (by omega) (by omega) (by omega) (by omega)
theorem HL : ER 117 (mkE Mo.en Mo.ex f117) := an ah JW.right (fun m => [By (pP m m)]) (t := t117) (by kernel_rfl) (fun m => (aL (MY m m) aA)) (fun m a => by kernel_rfl) fun (a0, a1) hc => K5 a0 a1 hc
def KJ : Tb Tryz.prog LQ TE XX := JW.add 117 _ HL
def fq (c : List Dat) : Nat -> Nat -> Int -> Int
 | 0, _, o => o
 | k + 1, i, o => fq c k (i + 1) (if 0 < (ag c i).i 6 /\ (o < 0 \/ (ag c i).i 0 < (ag c o.toNat).i 0) then (i : Int) else o)
theorem yQ (c : List Dat) : ∀ (k i : Nat) (o : Int), i + k = c.length -> -1 <= o -> o < c.length -> -1 <= fq c k i o /\ fq c k i o < c.length
 | 0, _, o, _, h1, h2 => ⟨h1, h2⟩
 | k + 1, i, o, h, h1, h2 => by
  unfold fq
  split
  . exact yQ c k (i + 1) _ (by omega) (by omega) (by omega)
  . exact yQ c k (i + 1) _ (by omega) (by omega) (by omega)
def NH : aC := ⟨KJ.tab, 119, ⟨[.buf 0 1], [.dB 1 7 0, .ai (sI 7)], 2⟩, ⟨[.np 1 7 0], [.dB 1 7 0, .ai (sI 7)], 2⟩, []⟩
abbrev zi : Type := Int × Int × Int × List Int × List Dat
def rH (m : Nat) (k : zi -> Option (List Un)) : zi -> Option (List Un) := fun (a0, a1, a2, a3, a4) =>
 bif decide (a2 < a1) then
 chk (inb a2 a3.length) <|
 chk (decide (a2.toNat < a3.length)) <|
 bif (!((decide ((a3.getD a2.toNat 0) < 0)) && true)) then
 chk (decide (0 <= (a3.getD a2.toNat 0))) <|
 chk (decide ((a3.getD a2.toNat 0).toNat < a4.length)) <|
 bif decide (((ag a4 ((a3.getD a2.toNat 0).toNat)).i 6) > 0) then
 bif ((decide (a0 < 0)) && true) then
 k ((a3.getD a2.toNat 0), a1, (w64 (a2 + 1)), a3, a4)
 else
 chk (decide (0 <= (a3.getD a2.toNat 0))) <|
 chk (decide ((a3.getD a2.toNat 0).toNat < a4.length)) <|
 chk (decide (0 <= a0)) <|
 chk (decide (a0.toNat < a4.length)) <|
 bif (decide (((ag a4 ((a3.getD a2.toNat 0).toNat)).i 0) < ((ag a4 a0.toNat).i 0))) then
 k ((a3.getD a2.toNat 0), a1, (w64 (a2 + 1)), a3, a4)
 else
 k (a0, a1, (w64 (a2 + 1)), a3, a4)
 else
 k (a0, a1, (w64 (a2 + 1)), a3, a4)
 else
 k (a0, a1, (w64 (a2 + 1)), a3, a4)
 else
 some ([.i a0, .l a3, .d a4])
def pe (m : Nat) : Nat -> zi -> Option (List Un) := bp (rH m)
theorem qZ (m : Nat) (n : Nat) : pe m (n + 1) = rH m (pe m n) := rfl
def BK (F : zi -> Option (List Un)) : aW := ⟨[.lp [0, 1, 0, 1, 1], .blk 0, .code [1, 1, 1]], ⟨frm 41 [(3, .np 1 7 0), (6, .buf 0 1), (7, .int .i64), (8, .int .i64)], [.dB 1 7 0, .ai (sI 7)], 2⟩, onU F⟩
theorem LL (m : Nat) : ∀ n, HO NH (BK (pe m n)) := au ah KJ.right (fun k => [BK k]) (fun k h => (aL h aA)) fun k a => by kernel_rfl
def t119 (m : Nat) : List Int × List Dat -> Option (List Un) := fun (a0, a1) =>
 pe m m ((-1), (a0.length : Int), 0, a0, a1)
theorem Pe (m : Nat) (c : List Dat) (hl : c.length <= 1000) (hg : ∀ d ∈ c, aI d = true) : ∀ (k i n : Nat) (o : Int), i + k = c.length -> k < n -> -1 <= o -> o < c.length ->
 pe m n (o, (c.length : Int), (i : Int), bZ 0 c.length, c) = some [.i (fq c k i o), .l (bZ 0 c.length), .d c] := by
 intro k
 induction k with
 | zero =>
  intro i n o hi hn o0 o1; obtain ⟨n, rfl⟩ := al n (by omega); rw [qZ]; unfold rH; dsimp only; rw [aF (by omega)]; rfl
 | succ k ih =>
  intro i n o hi hn o0 o1; obtain ⟨n, rfl⟩ := al n (by omega); have hk := xA (c := c) (i := i) (by omega); have hL := fG c.length 0; have hx := ca (cq (i := i) (by omega) hg); have ia := ih (i + 1) n (i : Int) (by omega) (by omega) (by omega) (by omega); have ib := ih (i + 1) n o (by omega) (by omega) (by omega) (by omega); rw [qZ]; unfold rH; dsimp only; unfold fq; have e := Js (cq (c := c) (i := i) (by omega) hg); simp only [lt_eq, zaF, hk, hL, zbb, zaU, e, ge_iff_le, gt_iff_lt]
  by_cases h1 : 0 < (ag c i).i 6
  . by_cases h2 : o < 0
    . have hc : 0 < (ag c i).i 6 /\ (o < 0 \/ (ag c i).i 0 < (ag c o.toNat).i 0) := ⟨h1, .inl h2⟩
      rw [if_pos hc]; simp (disch := omega) only [TRa, TRi, aa, LNl, LNi, zaa]; simp only [zaA, zaa] at ia ib ⊢; exact ia
    . by_cases h3 : (ag c i).i 0 < (ag c o.toNat).i 0
      . have hc : 0 < (ag c i).i 6 /\ (o < 0 \/ (ag c i).i 0 < (ag c o.toNat).i 0) := ⟨h1, .inr h3⟩
        rw [if_pos hc]; simp (disch := omega) only [TRa, TRi, aa, LNl, LNi, zaa]; simp only [zaA, zaa] at ia ib ⊢; exact ia
      . have hc : ¬ (0 < (ag c i).i 6 /\ (o < 0 \/ (ag c i).i 0 < (ag c o.toNat).i 0)) := fun h => h.2.elim h2 h3
        rw [if_neg hc]; simp (disch := omega) only [TRa, TRi, aa, LNl, LNi, zaa]; simp only [zaA, zaa] at ia ib ⊢; exact ib
  . have hc : ¬ (0 < (ag c i).i 6 /\ (o < 0 \/ (ag c i).i 0 < (ag c o.toNat).i 0)) := fun h => h1 h.1
    rw [if_neg hc]; simp (disch := omega) only [TRa, TRi, aa, LNl, LNi, zaa]; simp only [zaA, zaa] at ia ib ⊢; exact ib
def f119 : List Int × List Dat -> Bool × List Un := fun (a0, a1) => ((decide (a0 = bZ 0 a1.length)) && (decide (a1.length <= 1000) && a1.all aI), [.i (fq a1 a1.length 0 (-1)), .l (a0), .d (a1)])
theorem Jv (a0 : List Int) (a1 : List Dat) (hc : ((decide (a0 = bZ 0 a1.length)) && (decide (a1.length <= 1000) && a1.all aI)) = true) : ∃ m, t119 m (a0, a1) = some ([.i (fq a1 a1.length 0 (-1)), .l (a0), .d (a1)]) := by
 simp only [zab, zai, zan] at hc; obtain ⟨rfl, h1, h2⟩ := hc; refine ⟨a1.length + 1, ?_⟩; unfold t119; dsimp only; rw [fG]; exact Pe _ a1 h1 h2 a1.length 0 _ (-1) (by omega) (by omega) (by omega) (by omega)
theorem GK : ER 119 (mkE NH.en NH.ex f119) := an ah KJ.right (fun m => [BK (pe m m)]) (t := t119) (by kernel_rfl) (fun m => (aL (LL m m) aA)) (fun m a => by kernel_rfl) fun (a0, a1) hc => Jv a0 a1 hc
def HZ : Tb Tryz.prog LQ TE XX := KJ.add 119 _ GK
theorem mI (i : Nat) (y : Dat) : ∀ (l : List Dat) (j : Nat), j < l.length -> ao i (l.set j y) = ao i l - (ag l j).i i + y.i i
 | [], j, h => by simp at h
 | d :: l, 0, h => by simp only [List.set_cons_zero, ao, ag, zaI]; omega
 | d :: l, j + 1, h => by
  have := mI i y l j (by simpa using h); simp only [ag] at this; simp only [zbQ, ao, ag, zat, this]; omega
theorem uC {l : List Dat} {j : Nat} {y : Dat} (h : j < l.length) : ag (l.set j y) j = y := by
 unfold ag; rw [zag, List.getElem?_set_self h]; rfl
theorem l7 {l : List Dat} {j i : Nat} {y : Dat} (h : i ≠ j) : ag (l.set j y) i = ag l i := by
 unfold ag; rw [zag, zag, List.getElem?_set_ne (by omega)]
def yC (p : Dat -> Prop) [DecidablePred p] : List Dat -> Nat
 | [] => 0
 | d :: l => (if p d then 1 else 0) + yC p l
theorem yq (p : Dat -> Prop) [DecidablePred p] : ∀ l : List Dat, yC p l <= l.length
 | [] => zam _
 | d :: l => by have := yq p l; simp only [yC, zac]; split <;> omega
theorem tC (p : Dat -> Prop) [DecidablePred p] (y : Dat) (hy : ¬ p y) : ∀ (l : List Dat) (j : Nat), j < l.length -> p (ag l j) -> yC p (l.set j y) + 1 = yC p l
 | [], j, h, _ => by simp at h
 | d :: l, 0, h, hp => by
  have hp : p d := hp; simp only [List.set_cons_zero, yC, if_neg hy, if_pos hp]; omega
 | d :: l, j + 1, h, hp => by
  have := tC p y hy l j (by simpa using h) hp; simp only [zbQ, yC]; omega
def dD (c : List Dat) : Prop := c.length <= 1000 /\ ∀ d ∈ c, aI d = true
theorem eD {c : List Dat} (h : dD c) : (decide (c.length <= 1000) && c.all aI) = true := by
 rw [zab, zan]; exact ⟨zah h.1, h.2⟩
theorem mX {c : List Dat} {j : Nat} {y : Dat} (h : dD c) (hy : aI y = true) : dD (c.set j y) := ⟨by rw [zbd]; exact h.1, C5 h.2 hy⟩
theorem rP (c : List Dat) : ∀ (k i : Nat) (o : Int), i + k = c.length -> (o < 0 \/ 0 < bk (ag c o.toNat)) -> (ft c k i o < 0 -> o < 0 /\ ∀ j, i <= j -> j < c.length -> bk (ag c j) <= 0) /\ (0 <= ft c k i o -> 0 < bk (ag c (ft c k i o).toNat))
 | 0, i, o, h, ho => ⟨fun h1 => ⟨h1, fun j h2 h3 => by omega⟩, fun h1 => by simp only [ft] at h1 ⊢; omega⟩
 | k + 1, i, o, h, ho => by
  unfold ft
  split
  . rename_i hc; obtain ⟨a, b⟩ := rP c k (i + 1) (i : Int) (by omega) (.inr (by rw [zaF]; exact hc.1)); exact ⟨fun h1 => by have := (a h1).1; omega, b⟩
  . rename_i hc; obtain ⟨a, b⟩ := rP c k (i + 1) o (by omega) ho; refine ⟨fun h1 => ⟨(a h1).1, fun j h2 h3 => ?_⟩, b⟩
    by_cases hj : j = i
    . subst hj; have := (a h1).1; omega
    . exact (a h1).2 j (by omega) h3
theorem rJ (c : List Dat) : ∀ (k i : Nat) (o : Int), i + k = c.length -> (o < 0 \/ 0 < (ag c o.toNat).i 6) -> (fq c k i o < 0 -> o < 0 /\ ∀ j, i <= j -> j < c.length -> (ag c j).i 6 <= 0) /\ (0 <= fq c k i o -> 0 < (ag c (fq c k i o).toNat).i 6)
 | 0, i, o, h, ho => ⟨fun h1 => ⟨h1, fun j h2 h3 => by omega⟩, fun h1 => by simp only [fq] at h1 ⊢; omega⟩
 | k + 1, i, o, h, ho => by
  unfold fq
  split
  . rename_i hc; obtain ⟨a, b⟩ := rJ c k (i + 1) (i : Int) (by omega) (.inr (by rw [zaF]; exact hc.1)); exact ⟨fun h1 => by have := (a h1).1; omega, b⟩
  . rename_i hc; obtain ⟨a, b⟩ := rJ c k (i + 1) o (by omega) ho; refine ⟨fun h1 => ⟨(a h1).1, fun j h2 h3 => ?_⟩, b⟩
    by_cases hj : j = i
    . subst hj; have := (a h1).1; omega
    . exact (a h1).2 j (by omega) h3
def rn : Nat -> Int -> List Dat -> List Dat
 | 0, _, c => c
 | k + 1, t, c => if ao 6 c < t then (if ft c c.length 0 (-1) < 0 then c else rn k t (c.set (ft c c.length 0 (-1)).toNat (dJ (t - ao 6 c) (ag c (ft c c.length 0 (-1)).toNat)))) else c
def pz : Nat -> Int -> List Dat -> List Dat
 | 0, _, c => c
 | k + 1, t, c => if t < ao 6 c then (if fq c c.length 0 (-1) < 0 then c else pz k t (c.set (fq c c.length 0 (-1)).toNat (fy (ao 6 c - t) (ag c (fq c c.length 0 (-1)).toNat)))) else c
def fj (t : Int) (c : List Dat) : List Dat := pz (c.length + 2) (max t 0) (rn (c.length + 2) (max t 0) c)
theorem Gv (w : Int) (d : Dat) : (dJ w d).i 6 = d.i 6 + mF w d /\ bk (dJ w d) = bk d - mF w d := by
 simp only [dJ, bk, eA, eV, tY, nL]; exact ⟨trivial, by omega⟩
theorem Ik (w : Int) (d : Dat) : (fy w d).i 6 = d.i 6 - mB w d := by
 simp only [fy, nL]
def tB (t : Int) (c : List Dat) : Nat := if ao 6 c < t then yC (fun d => 0 < bk d) c + 1 else 0
def uX (t : Int) (c : List Dat) : Nat := if t < ao 6 c then yC (fun d => 0 < d.i 6) c + 1 else 0
theorem Ln {t : Int} {c : List Dat} (hg : dD c) (hs : ao 6 c < t) (hj : 0 <= ft c c.length 0 (-1)) :
 (ft c c.length 0 (-1)).toNat < c.length /\ dD (c.set (ft c c.length 0 (-1)).toNat (dJ (t - ao 6 c) (ag c (ft c c.length 0 (-1)).toNat))) /\ tB t (c.set (ft c c.length 0 (-1)).toNat (dJ (t - ao 6 c) (ag c (ft c c.length 0 (-1)).toNat))) < tB t c /\
 ao 6 (c.set (ft c c.length 0 (-1)).toNat (dJ (t - ao 6 c) (ag c (ft c c.length 0 (-1)).toNat))) <= t := by
 have h1 := ym c c.length 0 (-1) (by omega) (by omega) (by omega); have h2 := (rP c c.length 0 (-1) (by omega) (.inl (by omega))).2 hj; generalize ft c c.length 0 (-1) = o at *
 have h3 : o.toNat < c.length := by omega
 have hn := cq h3 hg.2; have e6 := Gv (t - ao 6 c) (ag c o.toNat); have es := mI 6 (dJ (t - ao 6 c) (ag c o.toNat)) c o.toNat h3; have hp : mF (t - ao 6 c) (ag c o.toNat) = min (t - ao 6 c) (bk (ag c o.toNat)) := by unfold mF; omega
 refine ⟨h3, mX hg (AQ _ hn), ?_, by omega⟩; unfold tB; rw [if_pos hs]
 split
 . rename_i hlt; have := tC (fun d => 0 < bk d) (dJ (t - ao 6 c) (ag c o.toNat)) (by show ¬ 0 < bk _; omega) c o.toNat h3 h2; omega
 . omega
theorem Lm {t : Int} {c : List Dat} (hg : dD c) (hs : t < ao 6 c) (hj : 0 <= fq c c.length 0 (-1)) :
 (fq c c.length 0 (-1)).toNat < c.length /\ dD (c.set (fq c c.length 0 (-1)).toNat (fy (ao 6 c - t) (ag c (fq c c.length 0 (-1)).toNat))) /\ uX t (c.set (fq c c.length 0 (-1)).toNat (fy (ao 6 c - t) (ag c (fq c c.length 0 (-1)).toNat))) < uX t c /\
 t <= ao 6 (c.set (fq c c.length 0 (-1)).toNat (fy (ao 6 c - t) (ag c (fq c c.length 0 (-1)).toNat))) := by
 have h1 := yQ c c.length 0 (-1) (by omega) (by omega) (by omega); have h2 := (rJ c c.length 0 (-1) (by omega) (.inl (by omega))).2 hj; generalize fq c c.length 0 (-1) = o at *
 have h3 : o.toNat < c.length := by omega
 have hn := cq h3 hg.2; have e6 := Ik (ao 6 c - t) (ag c o.toNat); have es := mI 6 (fy (ao 6 c - t) (ag c o.toNat)) c o.toNat h3; have hp : mB (ao 6 c - t) (ag c o.toNat) = min (ao 6 c - t) ((ag c o.toNat).i 6) := by unfold mB; omega
 refine ⟨h3, mX hg (Bn _ hn), ?_, by omega⟩; unfold uX; rw [if_pos hs]
 split
 . rename_i hlt; have := tC (fun d => 0 < d.i 6) (fy (ao 6 c - t) (ag c o.toNat)) (by show ¬ 0 < (fy _ _).i 6; omega) c o.toNat h3 h2; omega
 . omega
theorem zU (t : Int) (c : List Dat) : tB t c < c.length + 2 := by
 have := yq (fun d => 0 < bk d) c; unfold tB; split <;> omega
theorem zO (t : Int) (c : List Dat) : uX t c < c.length + 2 := by
 have := yq (fun d => 0 < d.i 6) c; unfold uX; split <;> omega
theorem AV {c : List Dat} (hg : dD c) : 0 <= ao 6 c /\ ao 6 c <= 1125899906842624000 := by
 have := (gT c hg.2).2.2.1; have := hg.1; omega
def N84 : aC := ⟨HZ.tab, 84, ⟨[.int .i64, .buf 0 1], [.dB 1 7 0, .ai (sI 7)], 0⟩, ⟨[.int .i64], [.dB 1 7 0, .ai (sI 7)], 0⟩, []⟩
abbrev DD : Type := Int × Int × List Int × List Dat
abbrev Dj : Type := Int × Int × List Int × List Dat
def Cd (m : Nat) (k : DD -> Option (List Un)) : DD -> Option (List Un) := fun (a0, a1, a2, a3) =>
 bif decide (a1 > a0) then
 chk ((decide (a2 = bZ 0 a3.length)) && (decide (a3.length <= 1000) && a3.all aI)) <|
 lt ((fq a3 a3.length 0 (-1)) : Int) fun x6 =>
 bif ((decide (x6 < 0)) && true) then
 some ([.i a1, .l a2, .d a3])
 else
 chk (decide (0 <= x6 /\ x6.toNat < a3.length) && aI (ag a3 x6.toNat)) <|
 lt ((a3.set x6.toNat (fy (w64 (a1 - a0)) (ag a3 x6.toNat))) : List Dat) fun l9 =>
 chk ((decide (a2 = bZ 0 l9.length)) && (decide (l9.length <= 1000) && l9.all aI)) <|
 k (a0, (ao 6 l9), a2, l9)
 else
 chk ((decide (a2 = bZ 0 a3.length)) && (decide (a3.length <= 1000) && a3.all aI)) <|
 some ([.i (ao 6 a3), .l a2, .d a3])
def wh (m : Nat) : Nat -> DD -> Option (List Un) := bp (Cd m)
theorem A8 (m : Nat) (n : Nat) : wh m (n + 1) = Cd m (wh m n) := rfl
def Fj (F : DD -> Option (List Un)) : aW := ⟨[.lp [0, 1, 0, 1, 1, 1], .blk 2, .code [1, 1, 1, 1]], ⟨frm 47 [(0, .int .i64), (1, .buf 0 1), (7, .int .i64)], [.dB 1 7 0, .ai (sI 7)], 0⟩, onU F⟩
def B4 (m : Nat) (k : Dj -> Option (List Un)) : Dj -> Option (List Un) := fun (a0, a1, a2, a3) =>
 bif decide (a1 < a0) then
 chk ((decide (a2 = bZ 0 a3.length)) && (decide (a3.length <= 1000) && a3.all aI)) <|
 lt ((ft a3 a3.length 0 (-1)) : Int) fun x2 =>
 bif ((decide (x2 < 0)) && true) then
 some ([.i a1, .l a2, .d a3])
 else
 chk (decide (0 <= x2 /\ x2.toNat < a3.length) && aI (ag a3 x2.toNat)) <|
 lt ((a3.set x2.toNat (dJ (w64 (a0 - a1)) (ag a3 x2.toNat))) : List Dat) fun l5 =>
 chk ((decide (a2 = bZ 0 l5.length)) && (decide (l5.length <= 1000) && l5.all aI)) <|
 k (a0, (ao 6 l5), a2, l5)
 else
 chk ((decide (a2 = bZ 0 a3.length)) && (decide (a3.length <= 1000) && a3.all aI)) <|
 wh m m (a0, (ao 6 a3), a2, a3)
def vQ (m : Nat) : Nat -> Dj -> Option (List Un) := bp (B4 m)
theorem B2 (m : Nat) (n : Nat) : vQ m (n + 1) = B4 m (vQ m n) := rfl
def F2 (F : Dj -> Option (List Un)) : aW := ⟨[.lp [0, 1, 0, 1, 1], .blk 0, .code [1, 1, 1]], ⟨frm 47 [(0, .int .i64), (1, .buf 0 1), (5, .int .i64)], [.dB 1 7 0, .ai (sI 7)], 0⟩, onU F⟩
theorem O7 (m : Nat) : ∀ n, HO N84 (Fj (wh m n)) := au ah HZ.right (fun k => [Fj k]) (fun k h => (aL h aA)) fun k a => by kernel_rfl
theorem P3 (m : Nat) : ∀ n, HO N84 (F2 (vQ m n)) := au ah HZ.right (fun k => [F2 k, Fj (wh m m)]) (fun k h => (aL h (aL (O7 m m) aA))) fun k a => by kernel_rfl
def t84 (m : Nat) : Int × List Int × List Dat -> Option (List Un) := fun (a0, a1, a2) =>
 chk ((decide (a1 = bZ 0 a2.length)) && (decide (a2.length <= 1000) && a2.all aI)) <|
 vQ m m ((if a0 < 0 then 0 else a0), (ao 6 a2), a1, a2)
theorem OZ (m : Nat) (t : Int) (h0 : 0 <= t) (h1 : t <= 1152921504606846976) : ∀ (k n : Nat) (c : List Dat), uX t c < k -> k <= n -> dD c ->
 wh m n (t, ao 6 c, bZ 0 c.length, c) = some [.i (ao 6 (pz k t c)), .l (bZ 0 c.length), .d (pz k t c)] := by
 intro k
 induction k with
 | zero => intro n c h; omega
 | succ k ih =>
  intro n c hm hn hg; obtain ⟨n, rfl⟩ := al n (by omega); have hgb := eD hg; have hb := AV hg; unfold pz; rw [A8]; unfold Cd; dsimp only; simp only [hgb, zbb, zaU, gt_iff_lt]
  by_cases hs : t < ao 6 c
  . rw [if_pos hs, bJ hs, iF]
    by_cases hj : fq c c.length 0 (-1) < 0
    . rw [if_pos hj]; simp only [lt_eq]; rw [bJ hj]
    . rw [if_neg hj]; obtain ⟨a1, a2, a3, a4⟩ := Lm hg hs (by omega); have a5 := eD a2; have := ih n _ (by omega) (by omega) a2; rw [zbd] at this; simp only [lt_eq]; have hnr := cq a1 hg.2; rw [aF hj, aa (n := ao 6 c - t) (by omega) (by omega), hnr, zbb, aO ⟨by omega, a1⟩, a5, zbd, zah rfl, zbh, iF]; exact this
  . rw [if_neg hs, aF hs, iF]
theorem PR (m : Nat) (t : Int) (h0 : 0 <= t) (h1 : t <= 1152921504606846976) : ∀ (k n : Nat) (c : List Dat), tB t c < k -> k <= n -> c.length + 2 <= m -> dD c ->
 vQ m n (t, ao 6 c, bZ 0 c.length, c) = some [.i (ao 6 (pz (c.length + 2) t (rn k t c))), .l (bZ 0 c.length), .d (pz (c.length + 2) t (rn k t c))] := by
 intro k
 induction k with
 | zero => intro n c h; omega
 | succ k ih =>
  intro n c hm hn hml hg; obtain ⟨n, rfl⟩ := al n (by omega); have hgb := eD hg; have hb := AV hg; unfold rn; rw [B2]; unfold B4; dsimp only; simp only [hgb, zbb, zaU]
  by_cases hs : ao 6 c < t
  . rw [if_pos hs, bJ hs, iF]
    by_cases hj : ft c c.length 0 (-1) < 0
    . rw [if_pos hj]; simp only [lt_eq]; rw [bJ hj, pz, if_neg (by omega)]
    . rw [if_neg hj]; obtain ⟨a1, a2, a3, a4⟩ := Ln hg hs (by omega); have a5 := eD a2; have := ih n _ (by omega) (by omega) (by rw [zbd]; exact hml) a2; rw [zbd] at this; simp only [lt_eq]; have hnr := cq a1 hg.2; rw [aF hj, aa (n := t - ao 6 c) (by omega) (by omega), hnr, zbb, aO ⟨by omega, a1⟩, a5, zbd, zah rfl, zbh, iF]; exact this
  . rw [if_neg hs, aF hs, iF]; exact OZ m t h0 h1 (c.length + 2) m c (zO t c) hml hg
def f84 : Int × List Int × List Dat -> Bool × List Un := fun (a0, a1, a2) => (decide (a0 <= 1152921504606846976) && ((decide (a1 = bZ 0 a2.length)) && (decide (a2.length <= 1000) && a2.all aI)), [.i (ao 6 (fj a0 a2)), .l (a1), .d (fj a0 a2)])
theorem L0 (a0 : Int) (a1 : List Int) (a2 : List Dat) (hc : (decide (a0 <= 1152921504606846976) && ((decide (a1 = bZ 0 a2.length)) && (decide (a2.length <= 1000) && a2.all aI))) = true) : ∃ m, t84 m (a0, a1, a2) = some ([.i (ao 6 (fj a0 a2)), .l (a1), .d (fj a0 a2)]) := by
 simp only [zab, zai, zan] at hc; obtain ⟨h0, rfl, h1, h2⟩ := hc; have hg : dD a2 := ⟨h1, h2⟩
 refine ⟨a2.length + 2, ?_⟩; unfold t84 fj; dsimp only; rw [eD hg, zah rfl, kX, zbh, iF]; exact PR _ (max a0 0) (by omega) (by omega) (a2.length + 2) _ a2 (zU _ _) (by omega) (by omega) hg
theorem JE : ER 84 (mkE N84.en N84.ex f84) := an ah HZ.right (fun m => [F2 (vQ m m)]) (t := t84) (by kernel_rfl) (fun m => (aL (P3 m m) aA)) (fun m a => by kernel_rfl) fun (a0, a1, a2) hc => L0 a0 a1 a2 hc
def T84 : Tb Tryz.prog LQ TE XX := HZ.add 84 _ JE
end
end Go.Proofs.YtcbnpnaagbhknaaGreat
