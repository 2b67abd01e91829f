/- Part of a proof: Deal, Right, Trust, Notes, View, Same, Begins, Pool, Pro, Flow, FlowAid, FlowPlain, Loss. Conditions: none. -/
import Derived.Test.YtcbnpnaagbhknaaGreatQ4
set_option linter.unusedVariables false
set_option linter.unusedSimpArgs false
set_option linter.unnecessarySimpa false
set_option linter.unusedSectionVars false
namespace Go.Proofs.YtcbnpnaagbhknaaGreat
noncomputable section
open Go Go.Proofs.YtcbnpnaagbhknaaGreat.Ev
set_option maxRecDepth 20000
def Nq : aC := ⟨T49.tab, 124, ⟨[.int .i64, .int .i64, .int .i64], [], 0⟩, ⟨[.bool], [], 0⟩, []⟩
def t124 (m : Nat) : Int × Int × Int -> Option (List Un) := fun (a0, a1, a2) =>
 bif decide (a0 >= a1) then
 some ([.b (decide (a0 <= a2))])
 else
 some ([.b false])
def f124 : Int × Int × Int -> Bool × List Un := fun (a0, a1, a2) => (true, [.b (decide (a1 <= a0 /\ a0 <= a2))])
theorem Jw (a0 : Int) (a1 : Int) (a2 : Int) : ∃ m, t124 m (a0, a1, a2) = some ([.b (decide (a1 <= a0 /\ a0 <= a2))]) := by
 refine ⟨0, ?_⟩; unfold t124
 by_cases h : a1 <= a0 <;> by_cases h2 : a0 <= a2 <;> simp [h, h2]
theorem Hg : ER 124 (mkE Nq.en Nq.ex f124) := an ah T49.right (fun m => []) (t := t124) (by kernel_rfl) (fun m => aB) (fun m a => by kernel_rfl) fun (a0, a1, a2) hc => Jw a0 a1 a2
def HR : Tb Tryz.prog LQ TE XX := T49.add 124 _ Hg
def uX (a b : Int) : List Dat -> Int -> Int
 | [], _ => -1
 | d :: l, i => if a = d.i 0 /\ b = d.i 1 then i else uX a b l (i + 1)
theorem zf (a b : Int) : ∀ (l : List Dat) (i : Int), 0 <= i -> (0 <= uX a b l i ↔ fX l a b = true)
 | [], i, h => by simp [uX, fX]
 | d :: l, i, h => by
  have := zf a b l (i + 1) (by omega); simp only [fX, List.any_cons, zbf, zab, zaw] at this ⊢; unfold uX
  by_cases hc : a = d.i 0 /\ b = d.i 1
  . rw [if_pos hc]; exact ⟨fun _ => .inl ⟨hc.1.symm, hc.2.symm⟩, fun _ => h⟩
  . rw [if_neg hc, this]; exact ⟨.inr, fun h => h.resolve_left fun e => hc ⟨e.1.symm, e.2.symm⟩⟩
def M6 : aC := ⟨HR.tab, 136, ⟨[.ai (sI 2), .agg [.int .i64, .int .i64]], [], 0⟩, ⟨[.int .i64], [], 0⟩, []⟩
abbrev yr : Type := List Dat × Int × Int × Int × Int
def rD (m : Nat) (k : yr -> Option (List Un)) : yr -> Option (List Un) := fun (a0, a1, a2, a3, a4) =>
 bif decide (a2 < a1) then
 chk (inb a2 a0.length) <|
 chk (decide (a2.toNat < a0.length)) <|
 lt (ag a0 a2.toNat : Dat) fun d1 =>
 bif ((a3 == (d1.i 0)) && ((a4 == (d1.i 1)) && true)) then
 some ([.i a2])
 else
 k (a0, a1, (w64 (a2 + 1)), a3, a4)
 else
 some ([.i (-1)])
def oV (m : Nat) : Nat -> yr -> Option (List Un) := bo (rD m)
theorem qo (m : Nat) (n : Nat) : oV m (n + 1) = rD m (oV m n) := rfl
def Av (F : yr -> Option (List Un)) : aW := ⟨[.lp [0, 1, 0, 1], .blk 0, .code [1, 1]], ⟨frm 19 [(0, .ai (sI 2)), (3, .ptr 0 0 0), (7, .int .i64), (8, .int .i64)], [.cells [.int .i64, .int .i64]], 0⟩, onU F⟩
theorem L5 (m : Nat) : ∀ n, HO M6 (Av (oV m n)) := au ah HR.right (fun k => [Av k]) (fun k h => (aL h aB)) fun k a => by kernel_rfl
def t136 (m : Nat) : List Dat × Int × Int -> Option (List Un) := fun (a0, a1, a2) =>
 oV m m (a0, (a0.length : Int), 0, a1, a2)
theorem PQ (m : Nat) (a b : Int) : ∀ (rest pre : List Dat) (n : Nat), rest.length < n -> (pre ++ rest).length < 1099511627776 ->
 oV m n (pre ++ rest, ((pre ++ rest).length : Int), (pre.length : Int), a, b) = some [.i (uX a b rest pre.length)] := by
 intro rest
 induction rest with
 | nil =>
  intro pre n hn hl; obtain ⟨n, rfl⟩ := al n (by simp at hn; omega); rw [qo]; unfold rD; dsimp only; simp [aF, uX]
 | cons x rest ih =>
  intro pre n hn hl; obtain ⟨n, rfl⟩ := al n (by simp at hn; omega); simp only [zae, zah] at hn hl; have := ih (pre ++ [x]) n (by omega) (by simp; omega); rw [qo]; unfold rD; dsimp only; simp only [uX]
  by_cases h1 : a = x.i 0
  . by_cases h2 : b = x.i 1
    . rw [if_pos ⟨h1, h2⟩]; simp (disch := omega) only [TRa, TRi, aa, LNl, LNi, zaa, ax]
    . rw [if_neg (fun h => h2 h.2)]; simp (disch := omega) only [TRa, TRi, aa, LNl, LNi, zaa, ax]; simp only [LNl, LNi, zaa] at this ⊢; exact this
  . rw [if_neg (fun h => h1 h.1)]; simp (disch := omega) only [TRa, TRi, aa, LNl, LNi, zaa, ax]; simp only [LNl, LNi, zaa] at this ⊢; exact this
def f136 : List Dat × Int × Int -> Bool × List Un := fun (a0, a1, a2) => (decide (a0.length < 1099511627776), [.i (uX a1 a2 a0 0)])
theorem Jp (a0 : List Dat) (a1 : Int) (a2 : Int) (hc : (decide (a0.length < 1099511627776)) = true) : ∃ m, t136 m (a0, a1, a2) = some ([.i (uX a1 a2 a0 0)]) := by
 refine ⟨a0.length + 1, ?_⟩; exact PQ _ a1 a2 a0 [] _ (by omega) (zaj hc)
theorem Er : ER 136 (mkE M6.en M6.ex f136) := an ah HR.right (fun m => [Av (oV m m)]) (t := t136) (by kernel_rfl) (fun m => (aL (L5 m m) aB)) (fun m a => by kernel_rfl) fun (a0, a1, a2) hc => Jp a0 a1 a2 hc
def LF : Tb Tryz.prog LQ TE XX := HR.add 136 _ Er
def Pk : aC := ⟨LF.tab, 125, ⟨[.ai (sI 2), .agg [.int .i64, .int .i64]], [], 0⟩, ⟨[.bool], [], 0⟩, []⟩
def t125 (m : Nat) : List Dat × Int × Int -> Option (List Un) := fun (a0, a1, a2) =>
 chk (decide (a0.length < 1099511627776)) <|
 some ([.b (decide ((uX a1 a2 a0 0) >= 0))])
def f125 : List Dat × Int × Int -> Bool × List Un := fun (a0, a1, a2) => (decide (a0.length < 1099511627776), [.b (fX a0 a1 a2)])
theorem Jd (a0 : List Dat) (a1 : Int) (a2 : Int) (hc : (decide (a0.length < 1099511627776)) = true) : ∃ m, t125 m (a0, a1, a2) = some ([.b (fX a0 a1 a2)]) := by
 refine ⟨0, ?_⟩; have e := zf a1 a2 a0 0 (zb5 0); have h := zaj hc; unfold t125; simp (disch := omega) only [TRa, TRi, aa]; cases h : fX a0 a1 a2 <;> simp [h] at e ⊢ <;> omega
theorem GN : ER 125 (mkE Pk.en Pk.ex f125) := an ah LF.right (fun m => []) (t := t125) (by kernel_rfl) (fun m => aB) (fun m a => by kernel_rfl) fun (a0, a1, a2) hc => Jd a0 a1 a2 hc
def IX : Tb Tryz.prog LQ TE XX := LF.add 125 _ GN
theorem IE {c y : Bool} : (bif c then some [Un.b y] else some [.b false]) = some [.b (c && y)] := by cases c <;> rfl
def nB (d : bk) : Bool :=
 decide (0 <= d.b.oc /\ d.b.oc <= 100000) && (decide (0 <= d.b.ic /\ d.b.ic <= 100000) && (decide (0 <= d.b.late /\ d.b.late <= 100000) && (decide (0 <= d.b.nG /\ d.b.nG <= 100000) && (decide (0 <= d.b.clean /\ d.b.clean <= 100000) &&
 (decide (1 <= d.a.year /\ d.a.year <= 9000) && (decide (1 <= d.a.month /\ d.a.month <= 12) && (decide (0 <= d.a.basis /\ d.a.basis <= 2) && (decide (0 <= d.b.fee /\ d.b.fee <= 5000) && (decide (0 <= d.b.bf /\ d.b.bf <= 1099511627776) &&
 (decide (0 <= d.b.target /\ d.b.target <= 10000) && (decide (0 <= d.b.advance /\ d.b.advance <= 1099511627776) && decide (0 <= d.b.eB /\ d.b.eB <= 600))))))))))))
def N98 : aC := ⟨IX.tab, 98, ⟨[.agg [.int .i64, .int .i64, .int .i64, .ai (sI 2), .ai (sI 3), .int .i64, .int .i64, .int .i64, .int .i64, .int .i64, .int .i64, .int .i64, .int .i64, .int .i64, .int .i64, .ai (sI 2), .ai (sI 2), .ai (sI 2)]], [], 0⟩, ⟨[.bool], [], 0⟩, []⟩
abbrev CR : Type := Int × Int × bk × List Int
def Bb (m : Nat) (k : CR -> Option (List Un)) : CR -> Option (List Un) := fun (a0, a1, a2, a3) =>
 bif decide (a1 < a0) then
 chk (inb a1 a3.length) <|
 chk (decide (a1.toNat < a3.length)) <|
 bif !(decide (0 <= (a3.getD a1.toNat 0) /\ (a3.getD a1.toNat 0) <= 100000)) then
 some ([.b false])
 else
 k (a0, (w64 (a1 + 1)), a2, a3)
 else
 bif (decide (1 <= a2.a.year /\ a2.a.year <= 9000)) then
 bif (decide (1 <= a2.a.month /\ a2.a.month <= 12)) then
 bif (decide (0 <= a2.a.basis /\ a2.a.basis <= 2)) then
 bif (decide (0 <= a2.b.fee /\ a2.b.fee <= 5000)) then
 bif (decide (0 <= a2.b.bf /\ a2.b.bf <= 1099511627776)) then
 bif (decide (0 <= a2.b.target /\ a2.b.target <= 10000)) then
 bif (decide (0 <= a2.b.advance /\ a2.b.advance <= 1099511627776)) then
 some ([.b (decide (0 <= a2.b.eB /\ a2.b.eB <= 600))])
 else
 some ([.b false])
 else
 some ([.b false])
 else
 some ([.b false])
 else
 some ([.b false])
 else
 some ([.b false])
 else
 some ([.b false])
 else
 some ([.b false])
def uu (m : Nat) : Nat -> CR -> Option (List Un) := bo (Bb m)
theorem BC (m : Nat) (n : Nat) : uu m (n + 1) = Bb m (uu m n) := rfl
def He (F : CR -> Option (List Un)) : aW := ⟨[.lp [0, 1, 0, 1], .blk 0, .code [1, 1]], ⟨frm 68 [(1, .ptr 0 0 0), (20, .buf 1 1), (21, .int .i64), (22, .int .i64)], [.cells [.int .i64, .int .i64, .int .i64, .ai (sI 2), .ai (sI 3), .int .i64, .int .i64, .int .i64, .int .i64, .int .i64, .int .i64, .int .i64, .int .i64, .int .i64, .int .i64, .ai (sI 2), .ai (sI 2), .ai (sI 2)], .ints .i64], 0⟩, onU F⟩
theorem OS (m : Nat) : ∀ n, HO N98 (He (uu m n)) := au ah IX.right (fun k => [He k]) (fun k h => (aL h aB)) fun k a => by kernel_rfl
def t98 (m : Nat) : bk -> Option (List Un) := fun a0 =>
 uu m m (5, 0, a0, ([a0.b.oc, a0.b.ic, a0.b.late, a0.b.nG, a0.b.clean] : List Int))
def f98 : bk -> Bool × List Un := fun a0 => (true, [.b (nB a0)])
set_option maxHeartbeats 2000000 in
theorem Nl (a0 : bk) : ∃ m, t98 m a0 = some ([.b (nB a0)]) := by
 refine ⟨6, ?_⟩; unfold t98; rw [show uu 6 6 = uu 6 (0 + 1 + 1 + 1 + 1 + 1 + 1) from rfl]; simp only [BC]; unfold Bb; dsimp only; simp (disch := omega) only [TRa, TRi, aa, zae, zaI, zaH, zav, Int.reduceToNat, Nat.reduceAdd, za1, Int.reduceAdd, zaS, zaP, Int.reduceLT]; simp only [IE]; rfl
theorem Ks : ER 98 (mkE N98.en N98.ex f98) := an ah IX.right (fun m => [He (uu m m)]) (t := t98) (by kernel_rfl) (fun m => (aL (OS m m) aB)) (fun m a => by kernel_rfl) fun a0 hc => Nl a0
def T98 : Tb Tryz.prog LQ TE XX := IX.add 98 _ Ks
def iW : Int -> Int -> List Dat -> Option Int
 | _, all, [] => some all
 | last, all, d :: l => if d.i 0 <= last then none else if 0 <= d.i 1 /\ d.i 1 <= 1099511627776 - all then iW (d.i 0) (all + d.i 1) l else none
def eQ (l : List Dat) : Option Int := if 1 <= l.length /\ l.length <= 64 then iW 0 0 l else none
def Je (o : Option Int) : Option (List Un) := some [.i (o.getD 0), .b o.isSome]
def N96 : aC := ⟨T98.tab, 96, ⟨[.ai (sI 2)], [], 0⟩, ⟨[.int .i64, .bool], [], 0⟩, []⟩
abbrev C9 : Type := Int × Int × List Dat × Int × Int
def wX (m : Nat) (k : C9 -> Option (List Un)) : C9 -> Option (List Un) := fun (a0, a1, a2, a3, a4) =>
 bif decide (a4 < a3) then
 chk (inb a4 a2.length) <|
 chk (decide (a4.toNat < a2.length)) <|
 lt (ag a2 a4.toNat : Dat) fun d2 =>
 bif decide ((d2.i 0) <= a0) then
 some ([.i 0, .b false])
 else
 bif !(decide (0 <= (d2.i 1) /\ (d2.i 1) <= (w64 (1099511627776 - a1)))) then
 some ([.i 0, .b false])
 else
 k ((d2.i 0), (w64 (a1 + (d2.i 1))), a2, a3, (w64 (a4 + 1)))
 else
 some ([.i a1, .b true])
def vO (m : Nat) : Nat -> C9 -> Option (List Un) := bo (wX m)
theorem rZ (m : Nat) (n : Nat) : vO m (n + 1) = wX m (vO m n) := rfl
def EF (F : C9 -> Option (List Un)) : aW := ⟨[.lp [0, 1, 0, 1, 1, 1], .blk 0, .code [1, 1, 1, 1]], ⟨frm 38 [(4, .int .i64), (5, .int .i64), (12, .ai (sI 2)), (13, .int .i64), (14, .int .i64)], [], 0⟩, onU F⟩
theorem OD (m : Nat) : ∀ n, HO N96 (EF (vO m n)) := au ah T98.right (fun k => [EF k]) (fun k h => (aL h aB)) fun k a => by kernel_rfl
def t96 (m : Nat) : List Dat -> Option (List Un) := fun a0 =>
 bif !(decide (1 <= (a0.length : Int) /\ (a0.length : Int) <= 64)) then
 some ([.i 0, .b false])
 else
 vO m m (0, 0, a0, (a0.length : Int), 0)
theorem II (m : Nat) : ∀ (rest pre : List Dat) (n : Nat) (last all : Int), rest.length < n -> (pre ++ rest).length <= 64 -> 0 <= all -> all <= 1099511627776 ->
 vO m n (last, all, pre ++ rest, ((pre ++ rest).length : Int), (pre.length : Int)) = Je (iW last all rest) := by
 intro rest
 induction rest with
 | nil =>
  intro pre n last all hn hl h0 h1; obtain ⟨n, rfl⟩ := al n (by simp at hn; omega); rw [rZ]; unfold wX; dsimp only; simp [aF, iW, Je]
 | cons x rest ih =>
  intro pre n last all hn hl h0 h1; obtain ⟨n, rfl⟩ := al n (by simp at hn; omega); simp only [zae, zah] at hn hl; rw [rZ]; unfold wX; dsimp only; simp only [iW]
  by_cases c1 : x.i 0 <= last
  . rw [if_pos c1]; simp (disch := omega) only [TRa, TRi, aa, LNl, LNi, zaa, ax]; rfl
  . rw [if_neg c1]
    by_cases c2 : 0 <= x.i 1 /\ x.i 1 <= 1099511627776 - all
    . rw [if_pos c2]; have := ih (pre ++ [x]) n (x.i 0) (all + x.i 1) (by omega) (by simp; omega) (by omega) (by omega); simp (disch := omega) only [TRa, TRi, aa, LNl, LNi, zaa, ax]; simp only [LNl, LNi, zaa] at this ⊢; exact this
    . rw [if_neg c2]; simp (disch := omega) only [TRa, TRi, aa, LNl, LNi, zaa, ax]; rfl
def f96 : List Dat -> Bool × List Un := fun a0 => (true, [.i ((eQ a0).getD 0), .b ((eQ a0).isSome)])
theorem Lj (a0 : List Dat) : ∃ m, t96 m a0 = some ([.i ((eQ a0).getD 0), .b ((eQ a0).isSome)]) := by
 refine ⟨65, ?_⟩; unfold t96 eQ
 by_cases h : 1 <= a0.length /\ a0.length <= 64
 . rw [if_pos h]; simp (disch := omega) only [TRa, TRi, aa]; exact II 65 a0 [] 65 0 0 (by omega) h.2 (by omega) (by omega)
 . rw [if_neg h]; simp (disch := omega) only [TRa, TRi, aa]; rfl
theorem J5 : ER 96 (mkE N96.en N96.ex f96) := an ah T98.right (fun m => [EF (vO m m)]) (t := t96) (by kernel_rfl) (fun m => (aL (OD m m) aB)) (fun m a => by kernel_rfl) fun a0 hc => Lj a0
def T96 : Tb Tryz.prog LQ TE XX := T98.add 96 _ J5
def lZ (most : Int) : Int -> List Dat -> Option Int
 | all, [] => some all
 | all, d :: l => if (0 <= d.i 0 /\ d.i 0 <= 7) /\ (1 <= d.i 1 /\ d.i 1 <= most - all) /\ (0 <= d.i 2 /\ d.i 2 <= 5000) then lZ most (all + d.i 1) l else none
def jx (most : Int) (l : List Dat) : Option Int := if 1 <= l.length /\ l.length <= 8 then lZ most 0 l else none
def N97 : aC := ⟨T96.tab, 97, ⟨[.ai (sI 3), .int .i64], [], 0⟩, ⟨[.int .i64, .bool], [], 0⟩, []⟩
abbrev BY : Type := Int × Int × List Dat × Int × Int
def xg (m : Nat) (k : BY -> Option (List Un)) : BY -> Option (List Un) := fun (a0, a1, a2, a3, a4) =>
 bif decide (a4 < a3) then
 chk (inb a4 a2.length) <|
 chk (decide (a4.toNat < a2.length)) <|
 lt (ag a2 a4.toNat : Dat) fun d2 =>
 bif !(decide (0 <= (d2.i 0) /\ (d2.i 0) <= 7)) then
 some ([.i 0, .b false])
 else
 bif !(decide (1 <= (d2.i 1) /\ (d2.i 1) <= (w64 (a0 - a1)))) then
 some ([.i 0, .b false])
 else
 bif !(decide (0 <= (d2.i 2) /\ (d2.i 2) <= 5000)) then
 some ([.i 0, .b false])
 else
 k (a0, (w64 (a1 + (d2.i 1))), a2, a3, (w64 (a4 + 1)))
 else
 some ([.i a1, .b true])
def wy (m : Nat) : Nat -> BY -> Option (List Un) := bo (xg m)
theorem tZ (m : Nat) (n : Nat) : wy m (n + 1) = xg m (wy m n) := rfl
def GV (F : BY -> Option (List Un)) : aW := ⟨[.lp [0, 1, 0, 1, 1, 1], .blk 0, .code [1, 1, 1, 1]], ⟨frm 44 [(1, .int .i64), (6, .int .i64), (13, .ai (sI 3)), (14, .int .i64), (15, .int .i64)], [], 0⟩, onU F⟩
theorem NA (m : Nat) : ∀ n, HO N97 (GV (wy m n)) := au ah T96.right (fun k => [GV k]) (fun k h => (aL h aB)) fun k a => by kernel_rfl
def t97 (m : Nat) : List Dat × Int -> Option (List Un) := fun (a0, a1) =>
 bif !(decide (1 <= (a0.length : Int) /\ (a0.length : Int) <= 8)) then
 some ([.i 0, .b false])
 else
 wy m m (a1, 0, a0, (a0.length : Int), 0)
theorem HP (m : Nat) (most : Int) (hm : 0 <= most /\ most <= 1099511627776) : ∀ (rest pre : List Dat) (n : Nat) (all : Int), rest.length < n -> (pre ++ rest).length <= 8 -> 0 <= all -> all <= most ->
 wy m n (most, all, pre ++ rest, ((pre ++ rest).length : Int), (pre.length : Int)) = Je (lZ most all rest) := by
 intro rest
 induction rest with
 | nil =>
  intro pre n all hn hl h0 h1; obtain ⟨n, rfl⟩ := al n (by simp at hn; omega); rw [tZ]; unfold xg; dsimp only; simp [aF, lZ, Je]
 | cons x rest ih =>
  intro pre n all hn hl h0 h1; obtain ⟨n, rfl⟩ := al n (by simp at hn; omega); simp only [zae, zah] at hn hl; rw [tZ]; unfold xg; dsimp only; simp only [lZ]
  by_cases c1 : 0 <= x.i 0 /\ x.i 0 <= 7
  . by_cases c2 : 1 <= x.i 1 /\ x.i 1 <= most - all
    . by_cases c3 : 0 <= x.i 2 /\ x.i 2 <= 5000
      . rw [if_pos ⟨c1, c2, c3⟩]; have := ih (pre ++ [x]) n (all + x.i 1) (by omega) (by simp; omega) (by omega) (by omega); simp (disch := omega) only [TRa, TRi, aa, LNl, LNi, zaa, ax]; simp only [LNl, LNi, zaa] at this ⊢; exact this
      . rw [if_neg (fun h => c3 h.2.2)]; simp (disch := omega) only [TRa, TRi, aa, LNl, LNi, zaa, ax]; rfl
    . rw [if_neg (fun h => c2 h.2.1)]; simp (disch := omega) only [TRa, TRi, aa, LNl, LNi, zaa, ax]; rfl
  . rw [if_neg (fun h => c1 h.1)]; simp (disch := omega) only [TRa, TRi, aa, LNl, LNi, zaa, ax]; rfl
def f97 : List Dat × Int -> Bool × List Un := fun (a0, a1) => (decide (0 <= a1 /\ a1 <= 1099511627776), [.i ((jx a1 a0).getD 0), .b ((jx a1 a0).isSome)])
theorem MP (a0 : List Dat) (a1 : Int) (hc : (decide (0 <= a1 /\ a1 <= 1099511627776)) = true) : ∃ m, t97 m (a0, a1) = some ([.i ((jx a1 a0).getD 0), .b ((jx a1 a0).isSome)]) := by
 have hm := zaj hc; refine ⟨65, ?_⟩; unfold t97 jx
 by_cases h : 1 <= a0.length /\ a0.length <= 8
 . rw [if_pos h]; simp (disch := omega) only [TRa, TRi, aa]; exact HP 65 a1 hm a0 [] 65 0 (by omega) h.2 (by omega) (by omega)
 . rw [if_neg h]; simp (disch := omega) only [TRa, TRi, aa]; rfl
theorem Iv : ER 97 (mkE N97.en N97.ex f97) := an ah T96.right (fun m => [GV (wy m m)]) (t := t97) (by kernel_rfl) (fun m => (aL (NA m m) aB)) (fun m a => by kernel_rfl) fun (a0, a1) hc => MP a0 a1 hc
def T97 : Tb Tryz.prog LQ TE XX := T96.add 97 _ Iv
def G3 (d : Dat) : Bool := decide (1 <= d.i 0 /\ d.i 0 <= 7) && decide (0 <= d.i 1 /\ d.i 1 <= (if d.i 0 = 3 then 7 else 0))
def tq : List Dat -> List Dat -> Bool
 | _, [] => true
 | pre, d :: l => G3 d && (!fX pre (d.i 0) (d.i 1) && tq (pre ++ [d]) l)
def dY (l : List Dat) : Bool := decide (1 <= (l.length : Int) /\ (l.length : Int) <= 16) && tq [] l
def N99 : aC := ⟨T97.tab, 99, ⟨[.ai (sI 2)], [], 0⟩, ⟨[.bool], [], 0⟩, []⟩
abbrev CY : Type := List Dat × List Dat × Int × Int
def wK (m : Nat) (k : CY -> Option (List Un)) : CY -> Option (List Un) := fun (a0, a1, a2, a3) =>
 bif decide (a3 < a2) then
 chk (inb a3 a1.length) <|
 chk (decide (a3.toNat < a1.length)) <|
 lt (ag a1 a3.toNat : Dat) fun d2 =>
 bif (d2.i 0) == 3 then
 bif !(decide (1 <= (d2.i 0) /\ (d2.i 0) <= 7)) then
 some ([.b false])
 else
 bif !(decide (0 <= (d2.i 1) /\ (d2.i 1) <= 7)) then
 some ([.b false])
 else
 chk (decide (0 <= a3) && (true && decide (0 <= a3.toNat /\ a3.toNat <= a0.length))) <|
 chk (decide ((List.take a3.toNat a0).length < 1099511627776)) <|
 bif (fX (List.take a3.toNat a0) (d2.i 0) (d2.i 1)) then
 some ([.b false])
 else
 k (a0, a1, a2, (w64 (a3 + 1)))
 else
 bif !(decide (1 <= (d2.i 0) /\ (d2.i 0) <= 7)) then
 some ([.b false])
 else
 bif !(decide (0 <= (d2.i 1) /\ (d2.i 1) <= 0)) then
 some ([.b false])
 else
 chk (decide (0 <= a3) && (true && decide (0 <= a3.toNat /\ a3.toNat <= a0.length))) <|
 chk (decide ((List.take a3.toNat a0).length < 1099511627776)) <|
 bif (fX (List.take a3.toNat a0) (d2.i 0) (d2.i 1)) then
 some ([.b false])
 else
 k (a0, a1, a2, (w64 (a3 + 1)))
 else
 some ([.b true])
def vv (m : Nat) : Nat -> CY -> Option (List Un) := bo (wK m)
theorem sW (m : Nat) (n : Nat) : vv m (n + 1) = wK m (vv m n) := rfl
def GS (F : CY -> Option (List Un)) : aW := ⟨[.lp [0, 1, 0, 1, 1], .blk 0, .code [1, 1, 1]], ⟨frm 39 [(0, .ai (sI 2)), (10, .ai (sI 2)), (11, .int .i64), (12, .int .i64)], [], 0⟩, onU F⟩
theorem Ob (m : Nat) : ∀ n, HO N99 (GS (vv m n)) := au ah T97.right (fun k => [GS k]) (fun k h => (aL h aB)) fun k a => by kernel_rfl
def t99 (m : Nat) : List Dat -> Option (List Un) := fun a0 =>
 bif !(decide (1 <= (a0.length : Int) /\ (a0.length : Int) <= 16)) then
 some ([.b false])
 else
 vv m m (a0, a0, (a0.length : Int), 0)
theorem JV (m : Nat) : ∀ (rest pre : List Dat) (n : Nat), rest.length < n -> (pre ++ rest).length <= 16 ->
 vv m n (pre ++ rest, pre ++ rest, ((pre ++ rest).length : Int), (pre.length : Int)) = some [.b (tq pre rest)] := by
 intro rest
 induction rest with
 | nil =>
  intro pre n hn hl; obtain ⟨n, rfl⟩ := al n (by simp at hn; omega); rw [sW]; unfold wK; dsimp only; simp [aF, tq]
 | cons x rest ih =>
  intro pre n hn hl; obtain ⟨n, rfl⟩ := al n (by simp at hn; omega); simp only [zae, zah] at hn hl; rw [sW]; unfold wK; dsimp only; have := ih (pre ++ [x]) n (by omega) (by simp; omega); simp only [tq, G3]
  by_cases c1 : 1 <= x.i 0 /\ x.i 0 <= 7
  . by_cases c3 : x.i 0 = 3
    . by_cases c2 : 0 <= x.i 1 /\ x.i 1 <= 7
      . cases h : fX pre (x.i 0) (x.i 1)
        . simp (disch := omega) only [TRa, TRi, aa, LNl, LNi, zaa, ax, zaJ]; simp only [List.take_left, h, zao, if_pos c3, zai c1, zai c2, zbg, Bool.not_false]
          (try simp (disch := omega) only [TRa, TRi, aa, LNl, LNi, zaa, ax, zaJ])
          simp only [LNl, LNi, zaa] at this ⊢; exact this
        . simp (disch := omega) only [TRa, TRi, aa, LNl, LNi, zaa, ax, zaJ]; simp only [List.take_left, h, zaE, if_pos c3, zai c1, zai c2, zbg, zbC, zbE]
      . simp (disch := omega) only [TRa, TRi, aa, LNl, LNi, zaa, ax, zaJ]; simp only [if_pos c3, zaT c2, Bool.and_false, zbE]
    . by_cases c2 : 0 <= x.i 1 /\ x.i 1 <= 0
      . cases h : fX pre (x.i 0) (x.i 1)
        . simp (disch := omega) only [TRa, TRi, aa, LNl, LNi, zaa, ax, zaJ]; simp only [List.take_left, h, zao, if_neg c3, zai c1, zai c2, zbg, Bool.not_false]
          (try simp (disch := omega) only [TRa, TRi, aa, LNl, LNi, zaa, ax, zaJ])
          simp only [LNl, LNi, zaa] at this ⊢; exact this
        . simp (disch := omega) only [TRa, TRi, aa, LNl, LNi, zaa, ax, zaJ]; simp only [List.take_left, h, zaE, if_neg c3, zai c1, zai c2, zbg, zbC, zbE]
      . simp (disch := omega) only [TRa, TRi, aa, LNl, LNi, zaa, ax, zaJ]; simp only [if_neg c3, zaT c2, Bool.and_false, zbE]
  . by_cases c3 : x.i 0 = 3
    . omega
    . simp (disch := omega) only [TRa, TRi, aa, LNl, LNi, zaa, ax, zaJ]; simp only [zaT c1, zbE]
def f99 : List Dat -> Bool × List Un := fun a0 => (true, [.b (dY a0)])
theorem Mb (a0 : List Dat) : ∃ m, t99 m a0 = some ([.b (dY a0)]) := by
 refine ⟨17, ?_⟩; unfold t99 dY
 by_cases h : 1 <= (a0.length : Int) /\ (a0.length : Int) <= 16
 . rw [zai h, zbg]; simp (disch := omega) only [TRa, TRi, aa]; exact JV 17 a0 [] 17 (by omega) (by simp; omega)
 . rw [zaT h, zbE]; simp (disch := omega) only [TRa, TRi, aa]
theorem Kg : ER 99 (mkE N99.en N99.ex f99) := an ah T97.right (fun m => [GS (vv m m)]) (t := t99) (by kernel_rfl) (fun m => (aL (Ob m m) aB)) (fun m a => by kernel_rfl) fun a0 hc => Mb a0
def T99 : Tb Tryz.prog LQ TE XX := T97.add 99 _ Kg
def cj (d : bk) : Option (Int × Int) :=
 match eQ d.aZ with
 | none => none
 | some p => match jx p d.notes with
  | none => none
  | some n => if nB d && (dY d.s0 && (dY d.s1 && dY d.s2)) then some (p, n) else none
theorem vU : ∀ (l : List Dat) (last all r : Int), 0 <= all -> all <= 1099511627776 -> iW last all l = some r -> all <= r /\ r <= 1099511627776
 | [], last, all, r, h0, h1, h => by simp [iW] at h; omega
 | d :: l, last, all, r, h0, h1, h => by
  unfold iW at h
  split at h
  . cases h
  . split at h
    . have := vU l _ _ r (by omega) (by omega) h; omega
    . cases h
theorem Ei {l : List Dat} {r : Int} (h : eQ l = some r) : 0 <= r /\ r <= 1099511627776 := by
 unfold eQ at h
 split at h
 . exact vU l 0 0 r (by omega) (by omega) h
 . cases h
def N61 : aC := ⟨T99.tab, 61, ⟨[.agg [.int .i64, .int .i64, .int .i64, .ai (sI 2), .ai (sI 3), .int .i64, .int .i64, .int .i64, .int .i64, .int .i64, .int .i64, .int .i64, .int .i64, .int .i64, .int .i64, .ai (sI 2), .ai (sI 2), .ai (sI 2)]], [], 0⟩, ⟨[.int .i64, .int .i64, .bool], [], 0⟩, [[0, 1, 0, 1, 1, 1, 1]]⟩
def t61 (m : Nat) : bk -> Option (List Un) := fun a0 =>
 chk (decide (0 <= ((eQ a0.aZ).getD 0) /\ ((eQ a0.aZ).getD 0) <= 1099511627776)) <|
 bif !((eQ a0.aZ).isSome) then
 some ([.i 0, .i 0, .b false])
 else
 bif !((jx ((eQ a0.aZ).getD 0) a0.notes).isSome) then
 some ([.i 0, .i 0, .b false])
 else
 bif !(nB a0) then
 some ([.i 0, .i 0, .b false])
 else
 bif !(dY a0.s0) then
 some ([.i 0, .i 0, .b false])
 else
 bif !(dY a0.s1) then
 some ([.i 0, .i 0, .b false])
 else
 bif !(dY a0.s2) then
 some ([.i 0, .i 0, .b false])
 else
 some ([.i ((eQ a0.aZ).getD 0), .i ((jx ((eQ a0.aZ).getD 0) a0.notes).getD 0), .b true])
def f61 : bk -> Bool × List Un := fun a0 => (true, [.i (((cj a0).getD (0, 0)).1), .i (((cj a0).getD (0, 0)).2), .b ((cj a0).isSome)])
theorem Mq (a0 : bk) : ∃ m, t61 m a0 = some ([.i (((cj a0).getD (0, 0)).1), .i (((cj a0).getD (0, 0)).2), .b ((cj a0).isSome)]) := by
 refine ⟨0, ?_⟩; unfold t61 cj; cases hl : eQ a0.aZ with
 | none => simp [lt, chk]
 | some p =>
  have hb := Ei hl; simp only [lt_eq, zbt, Option.isSome_some, zbC, zao]; rw [aN hb]; cases hn : jx p a0.notes with
  | none => simp
  | some n =>
   simp only [Option.isSome_some, zbC, zao, zbt]; cases nB a0 <;> cases dY a0.s0 <;> cases dY a0.s1 <;> cases dY a0.s2 <;> rfl
theorem HU : ER 61 (mkE N61.en N61.ex f61) := an ah T99.right (fun m => []) (t := t61) (by kernel_rfl) (fun m => aB) (fun m a => by kernel_rfl) fun a0 hc => Mq a0
def T61 : Tb Tryz.prog LQ TE XX := T99.add 61 _ HU
def N26 : aC := ⟨T61.tab, 26, ⟨[.agg [.int .i64, .int .i64, .int .i64, .ai (sI 2), .ai (sI 3), .int .i64, .int .i64, .int .i64, .int .i64, .int .i64, .int .i64, .int .i64, .int .i64, .int .i64, .int .i64, .ai (sI 2), .ai (sI 2), .ai (sI 2)]], [], 0⟩, ⟨[.bool], [], 0⟩, []⟩
def t26 (m : Nat) : bk -> Option (List Un) := fun a0 =>
 some ([.b ((cj a0).isSome)])
def f26 : bk -> Bool × List Un := fun a0 => (true, [.b ((cj a0).isSome)])
theorem LV (a0 : bk) : ∃ m, t26 m a0 = some ([.b ((cj a0).isSome)]) := by
 exact ⟨0, rfl⟩
theorem J8 : ER 26 (mkE N26.en N26.ex f26) := an ah T61.right (fun m => []) (t := t26) (by kernel_rfl) (fun m => aB) (fun m a => by kernel_rfl) fun a0 hc => LV a0
def T26 : Tb Tryz.prog LQ TE XX := T61.add 26 _ J8
def N89 : aC := ⟨T26.tab, 89, ⟨[.agg [.int .i64, .int .i64, .int .i64, .ai (sI 2), .ai (sI 3), .int .i64, .int .i64, .int .i64, .int .i64, .int .i64, .int .i64, .int .i64, .int .i64, .int .i64, .int .i64, .ai (sI 2), .ai (sI 2), .ai (sI 2)]], [], 0⟩, ⟨[.int .i64], [], 0⟩, []⟩
def t89 (m : Nat) : bk -> Option (List Un) := fun a0 =>
 some ([.i (((cj a0).getD (0, 0)).1)])
def f89 : bk -> Bool × List Un := fun a0 => (true, [.i (((cj a0).getD (0, 0)).1)])
theorem M7 (a0 : bk) : ∃ m, t89 m a0 = some ([.i (((cj a0).getD (0, 0)).1)]) := by
 exact ⟨0, rfl⟩
theorem Hq : ER 89 (mkE N89.en N89.ex f89) := an ah T26.right (fun m => []) (t := t89) (by kernel_rfl) (fun m => aB) (fun m a => by kernel_rfl) fun a0 hc => M7 a0
def T89 : Tb Tryz.prog LQ TE XX := T26.add 89 _ Hq
def N59 : aC := ⟨T89.tab, 59, ⟨[.ai (sB 4)], [], 0⟩, ⟨[.buf 0 5], [.ai (sB 4)], 0⟩, []⟩
def t59 (m : Nat) : List Dat -> Option (List Un) := fun a0 =>
 bif decide (a0.length = 0) then
 both (
 some ([.d ([])])) (
 chk (fits (0 + a0.length) 40) <|
 some ([.d a0]))
 else
 chk (fits (0 + a0.length) 40) <|
 some ([.d a0])
def f59 : List Dat -> Bool × List Un := fun a0 => (decide (a0.length < 1000000), [.d (a0)])
theorem K8 (a0 : List Dat) (hc : (decide (a0.length < 1000000)) = true) : ∃ m, t59 m a0 = some ([.d (a0)]) := by
 have h := zaj hc; refine ⟨0, ?_⟩; unfold t59; cases a0 with
 | nil => simp (disch := omega) only [TRa, TRi, aa, zaI, gr, za3, gv]
 | cons x l =>
  simp only [zae] at h ⊢; simp (disch := omega) only [TRa, TRi, aa]
theorem Kq : ER 59 (mkE N59.en N59.ex f59) := an ah T89.right (fun m => []) (t := t59) (by kernel_rfl) (fun m => aB) (fun m a => by kernel_rfl) fun a0 hc => K8 a0 hc
def T59 : Tb Tryz.prog LQ TE XX := T89.add 59 _ Kq
def N62 : aC := ⟨T59.tab, 62, ⟨[.ai (sI 2)], [], 0⟩, ⟨[.buf 0 2], [.ai (sI 2)], 0⟩, []⟩
def t62 (m : Nat) : List Dat -> Option (List Un) := fun a0 =>
 bif decide (a0.length = 0) then
 both (
 some ([.d ([])])) (
 chk (fits (0 + a0.length) 16) <|
 some ([.d a0]))
 else
 chk (fits (0 + a0.length) 16) <|
 some ([.d a0])
def f62 : List Dat -> Bool × List Un := fun a0 => (decide (a0.length < 1000000), [.d (a0)])
theorem Lg (a0 : List Dat) (hc : (decide (a0.length < 1000000)) = true) : ∃ m, t62 m a0 = some ([.d (a0)]) := by
 have h := zaj hc; refine ⟨0, ?_⟩; unfold t62; cases a0 with
 | nil => simp (disch := omega) only [TRa, TRi, aa, zaI, gr, za3, gv]
 | cons x l =>
  simp only [zae] at h ⊢; simp (disch := omega) only [TRa, TRi, aa]
theorem H5 : ER 62 (mkE N62.en N62.ex f62) := an ah T59.right (fun m => []) (t := t62) (by kernel_rfl) (fun m => aB) (fun m a => by kernel_rfl) fun a0 hc => Lg a0 hc
def T62 : Tb Tryz.prog LQ TE XX := T59.add 62 _ H5
def N63 : aC := ⟨T62.tab, 63, ⟨[.ai (sI 3)], [], 0⟩, ⟨[.buf 0 3], [.ai (sI 3)], 0⟩, []⟩
def t63 (m : Nat) : List Dat -> Option (List Un) := fun a0 =>
 bif decide (a0.length = 0) then
 both (
 some ([.d ([])])) (
 chk (fits (0 + a0.length) 24) <|
 some ([.d a0]))
 else
 chk (fits (0 + a0.length) 24) <|
 some ([.d a0])
def f63 : List Dat -> Bool × List Un := fun a0 => (decide (a0.length < 1000000), [.d (a0)])
theorem K2 (a0 : List Dat) (hc : (decide (a0.length < 1000000)) = true) : ∃ m, t63 m a0 = some ([.d (a0)]) := by
 have h := zaj hc; refine ⟨0, ?_⟩; unfold t63; cases a0 with
 | nil => simp (disch := omega) only [TRa, TRi, aa, zaI, gr, za3, gv]
 | cons x l =>
  simp only [zae] at h ⊢; simp (disch := omega) only [TRa, TRi, aa]
theorem Hx : ER 63 (mkE N63.en N63.ex f63) := an ah T62.right (fun m => []) (t := t63) (by kernel_rfl) (fun m => aB) (fun m a => by kernel_rfl) fun a0 hc => K2 a0 hc
def T63 : Tb Tryz.prog LQ TE XX := T62.add 63 _ Hx
def N64 : aC := ⟨T63.tab, 64, ⟨[.ai (sI 2)], [], 0⟩, ⟨[.buf 0 2], [.ai (sI 2)], 0⟩, []⟩
def t64 (m : Nat) : List Dat -> Option (List Un) := fun a0 =>
 bif decide (a0.length = 0) then
 both (
 some ([.d ([])])) (
 chk (fits (0 + a0.length) 16) <|
 some ([.d a0]))
 else
 chk (fits (0 + a0.length) 16) <|
 some ([.d a0])
def f64 : List Dat -> Bool × List Un := fun a0 => (decide (a0.length < 1000000), [.d (a0)])
theorem Lv (a0 : List Dat) (hc : (decide (a0.length < 1000000)) = true) : ∃ m, t64 m a0 = some ([.d (a0)]) := by
 have h := zaj hc; refine ⟨0, ?_⟩; unfold t64; cases a0 with
 | nil => simp (disch := omega) only [TRa, TRi, aa, zaI, gr, za3, gv]
 | cons x l =>
  simp only [zae] at h ⊢; simp (disch := omega) only [TRa, TRi, aa]
theorem IV : ER 64 (mkE N64.en N64.ex f64) := an ah T63.right (fun m => []) (t := t64) (by kernel_rfl) (fun m => aB) (fun m a => by kernel_rfl) fun a0 hc => Lv a0 hc
def T64 : Tb Tryz.prog LQ TE XX := T63.add 64 _ IV
def N67 : aC := ⟨T64.tab, 67, ⟨[.ai (sI 7)], [], 0⟩, ⟨[.buf 0 7], [.ai (sI 7)], 0⟩, []⟩
def t67 (m : Nat) : List Dat -> Option (List Un) := fun a0 =>
 bif decide (a0.length = 0) then
 both (
 some ([.d ([])])) (
 chk (fits (0 + a0.length) 56) <|
 some ([.d a0]))
 else
 chk (fits (0 + a0.length) 56) <|
 some ([.d a0])
def f67 : List Dat -> Bool × List Un := fun a0 => (decide (a0.length < 1000000), [.d (a0)])
theorem MC (a0 : List Dat) (hc : (decide (a0.length < 1000000)) = true) : ∃ m, t67 m a0 = some ([.d (a0)]) := by
 have h := zaj hc; refine ⟨0, ?_⟩; unfold t67; cases a0 with
 | nil => simp (disch := omega) only [TRa, TRi, aa, zaI, gr, za3, gv]
 | cons x l =>
  simp only [zae] at h ⊢; simp (disch := omega) only [TRa, TRi, aa]
theorem Km : ER 67 (mkE N67.en N67.ex f67) := an ah T64.right (fun m => []) (t := t67) (by kernel_rfl) (fun m => aB) (fun m a => by kernel_rfl) fun a0 hc => MC a0 hc
def T67 : Tb Tryz.prog LQ TE XX := T64.add 67 _ Km
def N79 : aC := ⟨T67.tab, 79, ⟨[.ai (sI 3)], [], 0⟩, ⟨[.buf 0 3], [.ai (sI 3)], 0⟩, []⟩
def t79 (m : Nat) : List Dat -> Option (List Un) := fun a0 =>
 bif decide (a0.length = 0) then
 both (
 some ([.d ([])])) (
 chk (fits (0 + a0.length) 24) <|
 some ([.d a0]))
 else
 chk (fits (0 + a0.length) 24) <|
 some ([.d a0])
def f79 : List Dat -> Bool × List Un := fun a0 => (decide (a0.length < 1000000), [.d (a0)])
theorem M0 (a0 : List Dat) (hc : (decide (a0.length < 1000000)) = true) : ∃ m, t79 m a0 = some ([.d (a0)]) := by
 have h := zaj hc; refine ⟨0, ?_⟩; unfold t79; cases a0 with
 | nil => simp (disch := omega) only [TRa, TRi, aa, zaI, gr, za3, gv]
 | cons x l =>
  simp only [zae] at h ⊢; simp (disch := omega) only [TRa, TRi, aa]
theorem Ia : ER 79 (mkE N79.en N79.ex f79) := an ah T67.right (fun m => []) (t := t79) (by kernel_rfl) (fun m => aB) (fun m a => by kernel_rfl) fun a0 hc => M0 a0 hc
def T79 : Tb Tryz.prog LQ TE XX := T67.add 79 _ Ia
def N93 : aC := ⟨T79.tab, 93, ⟨[.ints .i64], [], 0⟩, ⟨[.buf 0 1], [.ints .i64], 0⟩, []⟩
def t93 (m : Nat) : List Int -> Option (List Un) := fun a0 =>
 bif decide (a0.length = 0) then
 both (
 some ([.l ([])])) (
 chk (fits (0 + a0.length) 8) <|
 some ([.l a0]))
 else
 chk (fits (0 + a0.length) 8) <|
 some ([.l a0])
def f93 : List Int -> Bool × List Un := fun a0 => (decide (a0.length < 1000000), [.l (a0)])
theorem Nb (a0 : List Int) (hc : (decide (a0.length < 1000000)) = true) : ∃ m, t93 m a0 = some ([.l (a0)]) := by
 have h := zaj hc; refine ⟨0, ?_⟩; unfold t93; cases a0 with
 | nil => simp (disch := omega) only [TRa, TRi, aa, zaI, gr, za3, gv]
 | cons x l =>
  simp only [zae] at h ⊢; simp (disch := omega) only [TRa, TRi, aa]
theorem Jn : ER 93 (mkE N93.en N93.ex f93) := an ah T79.right (fun m => []) (t := t93) (by kernel_rfl) (fun m => aB) (fun m a => by kernel_rfl) fun a0 hc => Nb a0 hc
def T93 : Tb Tryz.prog LQ TE XX := T79.add 93 _ Jn
def N27 : aC := ⟨T93.tab, 27, ⟨[.agg [.int .i64, .int .i64, .int .i64, .ai (sI 2), .ai (sI 3), .int .i64, .int .i64, .int .i64, .int .i64, .int .i64, .int .i64, .int .i64, .int .i64, .int .i64, .int .i64, .ai (sI 2), .ai (sI 2), .ai (sI 2)]], [], 0⟩, ⟨[.agg [.int .i64, .int .i64, .int .i64, .buf 0 2, .buf 1 3, .int .i64, .int .i64, .int .i64, .int .i64, .int .i64, .int .i64, .int .i64, .int .i64, .int .i64, .int .i64, .buf 2 2, .buf 3 2, .buf 4 2]], [.ai (sI 2), .ai (sI 3), .ai (sI 2), .ai (sI 2), .ai (sI 2)], 0⟩, [[0, 1, 0, 1, 1, 1]]⟩
def t27 (m : Nat) : bk -> Option (List Un) := fun a0 =>
 chk (decide (a0.aZ.length < 1000000)) <|
 chk (decide (a0.notes.length < 1000000)) <|
 chk (decide (a0.s0.length < 1000000)) <|
 chk (decide (a0.s1.length < 1000000)) <|
 chk (decide (a0.s2.length < 1000000)) <|
 some (Uns.enc (a0.a : aw) ++ Uns.enc (a0.b : az) ++ [.d a0.aZ, .d a0.notes, .d a0.s0, .d a0.s1, .d a0.s2])
def f27 : bk -> Bool × List Un := fun a0 => (decide (a0.aZ.length < 1000000 /\ a0.notes.length < 1000000 /\ a0.s0.length < 1000000 /\ a0.s1.length < 1000000 /\ a0.s2.length < 1000000), Uns.enc ((a0.a) : aw) ++ Uns.enc ((a0.b) : az) ++ [.d (a0.aZ), .d (a0.notes), .d (a0.s0), .d (a0.s1), .d (a0.s2)])
theorem KV (a0 : bk) (hc : (decide (a0.aZ.length < 1000000 /\ a0.notes.length < 1000000 /\ a0.s0.length < 1000000 /\ a0.s1.length < 1000000 /\ a0.s2.length < 1000000)) = true) : ∃ m, t27 m a0 = some (Uns.enc ((a0.a) : aw) ++ Uns.enc ((a0.b) : az) ++ [.d (a0.aZ), .d (a0.notes), .d (a0.s0), .d (a0.s1), .d (a0.s2)]) := by
 obtain ⟨h1, h2, h3, h4, h5⟩ := zaj hc; refine ⟨0, ?_⟩; unfold t27; simp (disch := omega) only [TRa, TRi, aa]
theorem I9 : ER 27 (mkE N27.en N27.ex f27) := an ah T93.right (fun m => []) (t := t27) (by kernel_rfl) (fun m => aB) (fun m a => by kernel_rfl) fun a0 hc => KV a0 hc
def T27 : Tb Tryz.prog LQ TE XX := T93.add 27 _ I9
def N29 : aC := ⟨T27.tab, 29, ⟨[.int .i64], [], 0⟩, ⟨[.agg [.int .i64, .int .i64]], [], 0⟩, []⟩
def t29 (m : Nat) : Int -> Option (List Un) := fun a0 =>
 bif (decide ((([0, a0]).getD 0 0) < 0)) then
 some ([.i 0, .i 0])
 else
 bif (decide ((([0, a0]).getD 0 0) > 1152921504606846976)) then
 some ([.i 0, .i 0])
 else
 lt ((w64 (0 + (([0, a0]).getD 0 0))) : Int) fun x3 =>
 bif (decide ((([0, a0]).getD 1 0) < 0)) then
 some ([.i 0, .i 0])
 else
 bif (decide ((([0, a0]).getD 1 0) > (w64 (1152921504606846976 - x3)))) then
 some ([.i 0, .i 0])
 else
 some ([.i (w64 (x3 + (([0, a0]).getD 1 0))), .i 0])
def f29 : Int -> Bool × List Un := fun a0 => (decide (0 <= a0 /\ a0 <= 1152921504606846976), [.i (a0), .i (0)])
theorem MU (a0 : Int) (hc : (decide (0 <= a0 /\ a0 <= 1152921504606846976)) = true) : ∃ m, t29 m a0 = some ([.i (a0), .i (0)]) := by
 have h := zaj hc; refine ⟨0, ?_⟩; unfold t29; simp only [zaH, zav]; simp (disch := omega) only [TRa, TRi, aa, za1, zbl]
theorem IZ : ER 29 (mkE N29.en N29.ex f29) := an ah T27.right (fun m => []) (t := t29) (by kernel_rfl) (fun m => aB) (fun m a => by kernel_rfl) fun a0 hc => MU a0 hc
def T29 : Tb Tryz.prog LQ TE XX := T27.add 29 _ IZ
def N30 : aC := ⟨T29.tab, 30, ⟨[.agg [.int .i64, .int .i64, .int .i64]], [], 0⟩, ⟨[.agg [.int .i64, .int .i64, .int .i64, .int .i64, .int .i64, .int .i64, .int .i64]], [], 0⟩, []⟩
def t30 (m : Nat) : Int × Int × Int -> Option (List Un) := fun (a0, a1, a2) =>
 some ([.i a0, .i a1, .i a2, .i 0, .i 0, .i 0, .i 0])
def f30 : Int × Int × Int -> Bool × List Un := fun (a0, a1, a2) => (true, [.i (a0), .i (a1), .i (a2), .i (0), .i (0), .i (0), .i (0)])
theorem LH (a0 : Int) (a1 : Int) (a2 : Int) : ∃ m, t30 m (a0, a1, a2) = some ([.i (a0), .i (a1), .i (a2), .i (0), .i (0), .i (0), .i (0)]) := by
 exact ⟨0, rfl⟩
theorem Jk : ER 30 (mkE N30.en N30.ex f30) := an ah T29.right (fun m => []) (t := t30) (by kernel_rfl) (fun m => aB) (fun m a => by kernel_rfl) fun (a0, a1, a2) hc => LH a0 a1 a2
def T30 : Tb Tryz.prog LQ TE XX := T29.add 30 _ Jk
def gm (d : Dat) : Dat := .r [.n (d.i 0), .n (d.i 1), .n 0, .n 0, .n (bI false)]
def N28 : aC := ⟨T30.tab, 28, ⟨[.ai (sI 2)], [], 0⟩, ⟨[.ptr 0 0 0], [.cells [.buf 1 5], .ai (sB 4)], 0⟩, []⟩
abbrev CU : Type := List Dat × Int × Int × List Dat
def yB (m : Nat) (k : CU -> Option (List Un)) : CU -> Option (List Un) := fun (a0, a1, a2, a3) =>
 bif decide (a2 < a1) then
 chk (inb a2 a0.length) <|
 chk (decide (a2.toNat < a0.length)) <|
 lt (ag a0 a2.toNat : Dat) fun d1 =>
 chk (fits (a3.length + 1) 40) <|
 k (a0, a1, (w64 (a2 + 1)), (a3 ++ ([.r [.n (d1.i 0), .n (d1.i 1), .n 0, .n 0, .n (bI false)]])))
 else
 some ([.d a3])
def wC (m : Nat) : Nat -> CU -> Option (List Un) := bo (yB m)
theorem tV (m : Nat) (n : Nat) : wC m (n + 1) = yB m (wC m n) := rfl
def Hh (F : CU -> Option (List Un)) : aW := ⟨[.lp [0, 1, 0, 1, 1], .blk 0, .code [1, 1, 1]], ⟨frm 27 [(3, .ptr 0 0 0), (8, .ai (sI 2)), (9, .int .i64), (10, .int .i64)], [.cells [.buf 1 5], .ai (sB 4)], 0⟩, onU F⟩
theorem Og (m : Nat) : ∀ n, HO N28 (Hh (wC m n)) := au ah T30.right (fun k => [Hh k]) (fun k h => (aL h aB)) fun k a => by kernel_rfl
def t28 (m : Nat) : List Dat -> Option (List Un) := fun a0 =>
 wC m m (a0, (a0.length : Int), 0, [])
theorem GW (m : Nat) : ∀ (rest pre : List Dat) (n : Nat), rest.length < n -> (pre ++ rest).length < 1000000 ->
 wC m n (pre ++ rest, ((pre ++ rest).length : Int), (pre.length : Int), pre.map gm) = some [.d ((pre ++ rest).map gm)] := by
 intro rest
 induction rest with
 | nil =>
  intro pre n hn hl; obtain ⟨n, rfl⟩ := al n (by simp at hn; omega); rw [tV]; unfold yB; dsimp only; simp [aF]
 | cons x rest ih =>
  intro pre n hn hl; obtain ⟨n, rfl⟩ := al n (by simp at hn; omega); simp only [zae, zah] at hn hl; rw [tV]; unfold yB; dsimp only; have := ih (pre ++ [x]) n (by omega) (by simp; omega); rw [List.map_append] at this; simp (disch := omega) only [TRa, TRi, aa, LNl, LNi, zaa, ax]; simp only [LNl, LNi, zaa] at this ⊢; exact this
def f28 : List Dat -> Bool × List Un := fun a0 => (decide (a0.length < 1000000), [.d (a0.map gm)])
theorem MJ (a0 : List Dat) (hc : (decide (a0.length < 1000000)) = true) : ∃ m, t28 m a0 = some ([.d (a0.map gm)]) := by
 exact ⟨a0.length + 1, GW _ a0 [] _ (by omega) (zaj hc)⟩
theorem Il : ER 28 (mkE N28.en N28.ex f28) := an ah T30.right (fun m => [Hh (wC m m)]) (t := t28) (by kernel_rfl) (fun m => (aL (Og m m) aB)) (fun m a => by kernel_rfl) fun a0 hc => MJ a0 hc
def T28 : Tb Tryz.prog LQ TE XX := T30.add 28 _ Il
@[ext] structure ak where
 rin : Int
 bg : Int
 out : Int
 fee : Int
 mode : Int
 aX : Int
 period : Int
 aD : Int
 aK : Int
 ox : Bool
instance : Uns ak := Uns.via (B := Int × Int × Int × Int × Int × Int × Int × Int × Int × Bool) (fun x => (x.rin, x.bg, x.out, x.fee, x.mode, x.aX, x.period, x.aD, x.aK, x.ox)) (fun x => match x with | (rin, bg, out, fee, mode, aX, period, aD, aK, ox) => ⟨rin, bg, out, fee, mode, aX, period, aD, aK, ox⟩) (fun _ => rfl)
def bX (p : Nat) : List BP := [.cells [.int .i64, .int .i64, .int .i64, .buf (p + 1) 2, .buf (p + 2) 3, .int .i64, .int .i64, .int .i64, .int .i64, .int .i64, .int .i64, .int .i64, .int .i64, .int .i64, .int .i64, .buf (p + 3) 2, .buf (p + 4) 2, .buf (p + 5) 2, .ptr (p + 6) 0 0, .buf (p + 8) 7, .int .i64, .int .i64, .int .i64, .int .i64, .int .i64, .int .i64, .int .i64, .int .i64, .int .i64, .bool], .ai (sI 2), .ai (sI 3), .ai (sI 2), .ai (sI 2), .ai (sI 2), .cells [.buf (p + 7) 5], .ai (sB 4), .ai (sI 7)]
structure ae where
 a : aw
 b : az
 n : ak
 aZ : List Dat
 notes : List Dat
 s0 : List Dat
 s1 : List Dat
 s2 : List Dat
 ba : List Dat
 tr : List Dat
def pN (d : Dat) : Dat := .r [.n (d.i 0), .n (d.i 1), .n (d.i 2), .n 0, .n 0, .n 0, .n 0]
def cE (d : bk) : ae := ⟨d.a, d.b, ⟨d.b.bf, 0, 0, 0, 0, 0, 0, 0, 0, false⟩, d.aZ, d.notes, d.s0, d.s1, d.s2, d.aZ.map gm, d.notes.map pN⟩
def ij (d : bk) : ae := if (cj d).isSome then cE d else ⟨⟨0, 0, 0⟩, ⟨0, 0, 0, 0, 0, 0, 0, 0, 0, 0⟩, ⟨0, 0, 0, 0, 0, 0, 0, 0, 0, false⟩, [], [], [], [], [], [], []⟩
theorem uL {d : bk} (h : (cj d).isSome = true) : 0 <= d.b.bf /\ d.b.bf <= 1099511627776 := by
 unfold cj at h
 split at h
 . cases h
 . split at h
   . cases h
   . split at h
     . rename_i hc; simp only [zab, nB, zag] at hc; omega
     . cases h
def N9 : aC := ⟨T28.tab, 9, ⟨[.agg [.int .i64, .int .i64, .int .i64, .ai (sI 2), .ai (sI 3), .int .i64, .int .i64, .int .i64, .int .i64, .int .i64, .int .i64, .int .i64, .int .i64, .int .i64, .int .i64, .ai (sI 2), .ai (sI 2), .ai (sI 2)]], [], 0⟩, ⟨[.np 0 0 0, .int .i64], bX 0, 0⟩, []⟩
abbrev HT : Type := List Dat × Int × Int × aw × az × ak × List Dat × List Dat × List Dat × List Dat × List Dat × List Dat × List Dat
def CZ (m : Nat) (k : HT -> Option (List Un)) : HT -> Option (List Un) := fun (a0, a1, a2, a3, a4, a5, a6, a7, a8, a9, a10, a11, a12) =>
 bif decide (a2 < a1) then
 chk (inb a2 a0.length) <|
 chk (decide (a2.toNat < a0.length)) <|
 lt (ag a0 a2.toNat : Dat) fun d1 =>
 chk (fits (a11.length + 1) 56) <|
 k (a0, a1, (w64 (a2 + 1)), a3, a4, a5, a6, a7, a8, a9, a10, (a11 ++ ([.r [.n (d1.i 0), .n (d1.i 1), .n (d1.i 2), .n 0, .n 0, .n 0, .n 0]])), a12)
 else
 some ([.i 0, .i 0] ++ Uns.enc (a3 : aw) ++ Uns.enc (a4 : az) ++ Uns.enc (a5 : ak) ++ [.d a6, .d a7, .d a8, .d a9, .d a10, .d a12, .d a11])
def DI (m : Nat) : Nat -> HT -> Option (List Un) := bo (CZ m)
theorem v7 (m : Nat) (n : Nat) : DI m (n + 1) = CZ m (DI m n) := rfl
def MR (F : HT -> Option (List Un)) : aW := ⟨[.lp [0, 1, 0, 1, 1, 1], .blk 0, .code [1, 1, 1, 1]], ⟨frm 40 [(4, .ptr 0 0 0), (21, .ai (sI 3)), (22, .int .i64), (23, .int .i64)], [.cells [.int .i64, .int .i64, .int .i64, .buf 1 2, .buf 2 3, .int .i64, .int .i64, .int .i64, .int .i64, .int .i64, .int .i64, .int .i64, .int .i64, .int .i64, .int .i64, .buf 3 2, .buf 4 2, .buf 5 2, .ptr 6 0 0, .buf 7 7, .int .i64, .int .i64, .int .i64, .int .i64, .int .i64, .int .i64, .int .i64, .int .i64, .int .i64, .bool], .ai (sI 2), .ai (sI 3), .ai (sI 2), .ai (sI 2), .ai (sI 2), .cells [.buf 8 5], .ai (sI 7), .ai (sB 4)], 0⟩, onU F⟩
theorem Pp (m : Nat) : ∀ n, HO N9 (MR (DI m n)) := au ah T28.right (fun k => [MR k]) (fun k h => (aL h aB)) fun k a => by kernel_rfl
def t9 (m : Nat) : bk -> Option (List Un) := fun a0 =>
 bif !((cj a0).isSome) then
 some ([.i (-1), .i 2] ++ Uns.enc ((⟨0, 0, 0⟩ : aw) : aw) ++ Uns.enc ((⟨0, 0, 0, 0, 0, 0, 0, 0, 0, 0⟩ : az) : az) ++ Uns.enc ((⟨0, 0, 0, 0, 0, 0, 0, 0, 0, false⟩ : ak) : ak) ++ [.d ([]), .d ([]), .d ([]), .d ([]), .d ([]), .d ([]), .d ([])])
 else
 chk (decide (a0.aZ.length < 1000000 /\ a0.notes.length < 1000000 /\ a0.s0.length < 1000000 /\ a0.s1.length < 1000000 /\ a0.s2.length < 1000000)) <|
 chk (decide (a0.aZ.length < 1000000)) <|
 chk (decide (0 <= a0.b.bf /\ a0.b.bf <= 1152921504606846976)) <|
 DI m m (a0.notes, (a0.notes.length : Int), 0, a0.a, a0.b, (⟨a0.b.bf, 0, 0, 0, 0, 0, 0, 0, 0, false⟩ : ak), a0.aZ, a0.notes, a0.s0, a0.s1, a0.s2, [], (a0.aZ.map gm))
theorem Ej (m : Nat) (a : aw) (b : az) (n0 : ak) (x1 x2 x3 x4 x5 x6 : List Dat) : ∀ (rest pre : List Dat) (n : Nat), rest.length < n -> (pre ++ rest).length < 1000000 ->
 DI m n (pre ++ rest, ((pre ++ rest).length : Int), (pre.length : Int), a, b, n0, x1, x2, x3, x4, x5, pre.map pN, x6) = some ([.i 0, .i 0] ++ Uns.enc (a : aw) ++ Uns.enc (b : az) ++ Uns.enc (n0 : ak) ++ [.d x1, .d x2, .d x3, .d x4, .d x5, .d x6, .d ((pre ++ rest).map pN)]) := by
 intro rest
 induction rest with
 | nil =>
  intro pre n hn hl; obtain ⟨n, rfl⟩ := al n (by simp at hn; omega); rw [v7]; unfold CZ; dsimp only; simp [aF]
 | cons x rest ih =>
  intro pre n hn hl; obtain ⟨n, rfl⟩ := al n (by simp at hn; omega); simp only [zae, zah] at hn hl; rw [v7]; unfold CZ; dsimp only; have := ih (pre ++ [x]) n (by omega) (by simp; omega); rw [List.map_append] at this; simp (disch := omega) only [TRa, TRi, aa, LNl, LNi, zaa, ax]; simp only [LNl, LNi, zaa] at this ⊢; exact this
def f9 : bk -> Bool × List Un := fun a0 => (decide (a0.aZ.length < 1000000 /\ a0.notes.length < 1000000 /\ a0.s0.length < 1000000 /\ a0.s1.length < 1000000 /\ a0.s2.length < 1000000), [.i (((if (cj a0).isSome then 0 else -1) : Int)), .i (((if (cj a0).isSome then 0 else 2) : Int))] ++ Uns.enc (((ij a0).a) : aw) ++ Uns.enc (((ij a0).b) : az) ++ Uns.enc (((ij a0).n) : ak) ++ [.d ((ij a0).aZ), .d ((ij a0).notes), .d ((ij a0).s0), .d ((ij a0).s1), .d ((ij a0).s2), .d ((ij a0).ba), .d ((ij a0).tr)])
theorem Pf (a0 : bk) (hc : (decide (a0.aZ.length < 1000000 /\ a0.notes.length < 1000000 /\ a0.s0.length < 1000000 /\ a0.s1.length < 1000000 /\ a0.s2.length < 1000000)) = true) : ∃ m, t9 m a0 = some ([.i (((if (cj a0).isSome then 0 else -1) : Int)), .i (((if (cj a0).isSome then 0 else 2) : Int))] ++ Uns.enc (((ij a0).a) : aw) ++ Uns.enc (((ij a0).b) : az) ++ Uns.enc (((ij a0).n) : ak) ++ [.d ((ij a0).aZ), .d ((ij a0).notes), .d ((ij a0).s0), .d ((ij a0).s1), .d ((ij a0).s2), .d ((ij a0).ba), .d ((ij a0).tr)]) := by
 have h := zaj hc; refine ⟨a0.notes.length + 1, ?_⟩; unfold t9 ij; cases hs : (cj a0).isSome
 . rfl
 . have hr := uL hs; simp only [zbC, zao, za7]; rw [aN h, aN (by omega), aN (by omega)]; exact Ej _ _ _ _ _ _ _ _ _ _ a0.notes [] _ (by omega) (by simp; omega)
theorem Nc : ER 9 (mkE N9.en N9.ex f9) := an ah T28.right (fun m => [MR (DI m m)]) (t := t9) (by kernel_rfl) (fun m => (aL (Pp m m) aB)) (fun m a => by kernel_rfl) fun a0 hc => Pf a0 hc
def T9 : Tb Tryz.prog LQ TE XX := T28.add 9 _ Nc
def N77 : aC := ⟨T9.tab, 77, ⟨[.agg [.int .i64, .int .i64]], [], 0⟩, ⟨[.int .i64], [], 0⟩, []⟩
def t77 (m : Nat) : Int × Int -> Option (List Un) := fun (a0, a1) =>
 some ([.i (w64 (a0 - a1))])
def f77 : Int × Int -> Bool × List Un := fun (a0, a1) => (true, [.i (w64 (a0 - a1))])
theorem K9 (a0 : Int) (a1 : Int) : ∃ m, t77 m (a0, a1) = some ([.i (w64 (a0 - a1))]) := by
 exact ⟨0, rfl⟩
theorem Hu : ER 77 (mkE N77.en N77.ex f77) := an ah T9.right (fun m => []) (t := t77) (by kernel_rfl) (fun m => aB) (fun m a => by kernel_rfl) fun (a0, a1) hc => K9 a0 a1
def T77 : Tb Tryz.prog LQ TE XX := T9.add 77 _ Hu
def N74 : aC := ⟨T77.tab, 74, ⟨[.agg [.int .i64, .int .i64, .int .i64, .int .i64, .int .i64, .int .i64, .int .i64]], [], 0⟩, ⟨[.int .i64], [], 0⟩, []⟩
def t74 (m : Nat) : Int × Int × Int × Int × Int × Int × Int -> Option (List Un) := fun (a0, a1, a2, a3, a4, a5, a6) =>
 some ([.i (w64 ((w64 (a1 - (w64 (a3 - a4)))) - a6))])
def f74 : Int × Int × Int × Int × Int × Int × Int -> Bool × List Un := fun (a0, a1, a2, a3, a4, a5, a6) => (true, [.i (w64 (w64 (a1 - w64 (a3 - a4)) - a6))])
theorem Lf (a0 : Int) (a1 : Int) (a2 : Int) (a3 : Int) (a4 : Int) (a5 : Int) (a6 : Int) : ∃ m, t74 m (a0, a1, a2, a3, a4, a5, a6) = some ([.i (w64 (w64 (a1 - w64 (a3 - a4)) - a6))]) := by
 exact ⟨0, rfl⟩
theorem Im : ER 74 (mkE N74.en N74.ex f74) := an ah T77.right (fun m => []) (t := t74) (by kernel_rfl) (fun m => aB) (fun m a => by kernel_rfl) fun (a0, a1, a2, a3, a4, a5, a6) hc => Lf a0 a1 a2 a3 a4 a5 a6
def T74 : Tb Tryz.prog LQ TE XX := T77.add 74 _ Im
def bc (d : Dat) : Int := d.i 1 - (d.i 3 - d.i 4) - d.i 6
def aI (d : Dat) : Bool := decide (0 <= d.i 1 /\ d.i 1 <= 1099511627776 /\ 0 <= d.i 3 /\ d.i 4 = 0 /\ 0 <= d.i 6 /\ d.i 3 + d.i 6 <= d.i 1 /\ 0 <= d.i 5 /\ d.i 5 <= 1125899906842624)
def lY (c : Int) (d : Dat) : Int := max (min c (bc d)) 0
def qL (c : Int) (d : Dat) : Dat := .r [.n (d.i 0), .n (d.i 1), .n (d.i 2), .n (d.i 3 + lY c d), .n (d.i 4), .n (d.i 5), .n (d.i 6)]
def dx (c : Int) (d : Dat) : Dat := .r [.n (d.i 0), .n (d.i 1), .n (d.i 2), .n (d.i 3), .n (d.i 4), .n (d.i 5), .n (d.i 6 + lY c d)]
def lx (c : Int) (d : Dat) : Int := max (min c (d.i 6)) 0
def fz (c : Int) (d : Dat) : Dat := .r [.n (d.i 0), .n (d.i 1), .n (d.i 2), .n (d.i 3), .n (d.i 4), .n (d.i 5), .n (d.i 6 - lx c d)]
def xe (c : Int) (d : Dat) : Dat := .r [.n (d.i 0), .n (d.i 1), .n (d.i 2), .n (d.i 3), .n (d.i 4), .n (d.i 5 + c), .n (d.i 6)]
def N83 : aC := ⟨T74.tab, 83, ⟨[.np 0 7 0, .int .i64], [.ai (sI 7)], 0⟩, ⟨[.int .i64], [.ai (sI 7)], 0⟩, []⟩
def t83 (m : Nat) : Int × Int × List Dat -> Option (List Un) := fun (a0, a1, a2) =>
 chk (decide (0 <= a0)) <|
 chk (decide (a0.toNat < a2.length)) <|
 lt (ag a2 a0.toNat : Dat) fun d1 =>
 lt ((w64 (w64 ((d1.i 1) - w64 ((d1.i 3) - (d1.i 4))) - (d1.i 6))) : Int) fun x2 =>
 lt ((if x2 < a1 then x2 else a1) : Int) fun x3 =>
 lt ((if x3 < 0 then 0 else x3) : Int) fun x4 =>
 chk (decide (0 <= a0)) <|
 chk (decide (a0.toNat < a2.length)) <|
 lt (ag a2 a0.toNat : Dat) fun d5 =>
 lt ((([(d5.i 3), x4]).getD 0 0) : Int) fun x6 =>
 bif decide (x6 < 0) then
 some ([.i 0, .d a2])
 else
 bif (decide (x6 > 1152921504606846976)) then
 some ([.i 0, .d a2])
 else
 lt ((([(d5.i 3), x4]).getD 1 0) : Int) fun x8 =>
 bif decide (x8 < 0) then
 some ([.i 0, .d a2])
 else
 bif decide (x8 > (w64 (1152921504606846976 - (w64 (0 + x6))))) then
 some ([.i 0, .d a2])
 else
 chk (decide (a0.toNat < a2.length)) <|
 lt (ag a2 a0.toNat : Dat) fun d11 =>
 some ([.i x4, .d (List.set a2 a0.toNat (.r [.n (d11.i 0), .n (d11.i 1), .n (d11.i 2), .n (w64 ((w64 (0 + x6)) + x8)), .n (d11.i 4), .n (d11.i 5), .n (d11.i 6)]))])
def f83 : Int × Int × List Dat -> Bool × List Un := fun (a0, a1, a2) => (decide (0 <= a0 /\ a0.toNat < a2.length) && aI (ag a2 a0.toNat), [.i (lY a1 (ag a2 a0.toNat)), .d (a2.set a0.toNat (qL a1 (ag a2 a0.toNat)))])
theorem Mk (a0 : Int) (a1 : Int) (a2 : List Dat) (hc : (decide (0 <= a0 /\ a0.toNat < a2.length) && aI (ag a2 a0.toNat)) = true) : ∃ m, t83 m (a0, a1, a2) = some ([.i (lY a1 (ag a2 a0.toNat)), .d (a2.set a0.toNat (qL a1 (ag a2 a0.toNat)))]) := by
 simp only [zab, zag, aI] at hc; obtain ⟨⟨h1, h2⟩, h⟩ := hc; refine ⟨0, ?_⟩; unfold t83; dsimp only; simp only [lt_eq]; generalize ag a2 a0.toNat = d at *
 have hv : ∀ c, lY c d = max (min c (bc d)) 0 := fun _ => rfl
 simp only [qL, dx, fz, xe, lx, hv, bc]; simp only [zaH, zav, lt_eq, jt, kA]; simp (disch := omega) only [TRa, TRi, aa, za1]
theorem JS : ER 83 (mkE N83.en N83.ex f83) := an ah T74.right (fun m => []) (t := t83) (by kernel_rfl) (fun m => aB) (fun m a => by kernel_rfl) fun (a0, a1, a2) hc => Mk a0 a1 a2 hc
def T83 : Tb Tryz.prog LQ TE XX := T74.add 83 _ JS
def O6 : aC := ⟨T83.tab, 118, ⟨[.np 0 7 0, .int .i64], [.ai (sI 7)], 0⟩, ⟨[.int .i64], [.ai (sI 7)], 0⟩, []⟩
def t118 (m : Nat) : Int × Int × List Dat -> Option (List Un) := fun (a0, a1, a2) =>
 chk (decide (0 <= a0)) <|
 chk (decide (a0.toNat < a2.length)) <|
 lt (ag a2 a0.toNat : Dat) fun d1 =>
 lt ((w64 (w64 ((d1.i 1) - w64 ((d1.i 3) - (d1.i 4))) - (d1.i 6))) : Int) fun x2 =>
 lt ((if x2 < a1 then x2 else a1) : Int) fun x3 =>
 lt ((if x3 < 0 then 0 else x3) : Int) fun x4 =>
 chk (decide (0 <= a0)) <|
 chk (decide (a0.toNat < a2.length)) <|
 chk (decide (0 <= a0)) <|
 chk (decide (a0.toNat < a2.length)) <|
 lt (ag a2 a0.toNat : Dat) fun d6 =>
 some ([.i x4, .d (List.set a2 a0.toNat (.r [.n (d6.i 0), .n (d6.i 1), .n (d6.i 2), .n (d6.i 3), .n (d6.i 4), .n (d6.i 5), .n (w64 (((ag a2 a0.toNat).i 6) + x4))]))])
def f118 : Int × Int × List Dat -> Bool × List Un := fun (a0, a1, a2) => (decide (0 <= a0 /\ a0.toNat < a2.length) && aI (ag a2 a0.toNat), [.i (lY a1 (ag a2 a0.toNat)), .d (a2.set a0.toNat (dx a1 (ag a2 a0.toNat)))])
theorem IH (a0 : Int) (a1 : Int) (a2 : List Dat) (hc : (decide (0 <= a0 /\ a0.toNat < a2.length) && aI (ag a2 a0.toNat)) = true) : ∃ m, t118 m (a0, a1, a2) = some ([.i (lY a1 (ag a2 a0.toNat)), .d (a2.set a0.toNat (dx a1 (ag a2 a0.toNat)))]) := by
 simp only [zab, zag, aI] at hc; obtain ⟨⟨h1, h2⟩, h⟩ := hc; refine ⟨0, ?_⟩; unfold t118; dsimp only; simp only [lt_eq]; generalize ag a2 a0.toNat = d at *
 have hv : ∀ c, lY c d = max (min c (bc d)) 0 := fun _ => rfl
 simp only [qL, dx, fz, xe, lx, hv, bc]; simp only [zaH, zav, lt_eq, jt, kA]; simp (disch := omega) only [TRa, TRi, aa, za1]
theorem Gr : ER 118 (mkE O6.en O6.ex f118) := an ah T83.right (fun m => []) (t := t118) (by kernel_rfl) (fun m => aB) (fun m a => by kernel_rfl) fun (a0, a1, a2) hc => IH a0 a1 a2 hc
def Lp : Tb Tryz.prog LQ TE XX := T83.add 118 _ Gr
def OL : aC := ⟨Lp.tab, 120, ⟨[.np 0 7 0, .int .i64], [.ai (sI 7)], 0⟩, ⟨[.int .i64], [.ai (sI 7)], 0⟩, []⟩
def t120 (m : Nat) : Int × Int × List Dat -> Option (List Un) := fun (a0, a1, a2) =>
 chk (decide (0 <= a0)) <|
 chk (decide (a0.toNat < a2.length)) <|
 lt (ag a2 a0.toNat : Dat) fun d1 =>
 lt ((if (d1.i 6) < a1 then (d1.i 6) else a1) : Int) fun x2 =>
 lt ((if x2 < 0 then 0 else x2) : Int) fun x3 =>
 chk (decide (0 <= a0)) <|
 chk (decide (a0.toNat < a2.length)) <|
 chk (decide (0 <= a0)) <|
 chk (decide (a0.toNat < a2.length)) <|
 lt (ag a2 a0.toNat : Dat) fun d5 =>
 some ([.i x3, .d (List.set a2 a0.toNat (.r [.n (d5.i 0), .n (d5.i 1), .n (d5.i 2), .n (d5.i 3), .n (d5.i 4), .n (d5.i 5), .n (w64 (((ag a2 a0.toNat).i 6) - x3))]))])
def f120 : Int × Int × List Dat -> Bool × List Un := fun (a0, a1, a2) => (decide (0 <= a0 /\ a0.toNat < a2.length) && aI (ag a2 a0.toNat), [.i (lx a1 (ag a2 a0.toNat)), .d (a2.set a0.toNat (fz a1 (ag a2 a0.toNat)))])
theorem Js (a0 : Int) (a1 : Int) (a2 : List Dat) (hc : (decide (0 <= a0 /\ a0.toNat < a2.length) && aI (ag a2 a0.toNat)) = true) : ∃ m, t120 m (a0, a1, a2) = some ([.i (lx a1 (ag a2 a0.toNat)), .d (a2.set a0.toNat (fz a1 (ag a2 a0.toNat)))]) := by
 simp only [zab, zag, aI] at hc; obtain ⟨⟨h1, h2⟩, h⟩ := hc; refine ⟨0, ?_⟩; unfold t120; dsimp only; simp only [lt_eq]; generalize ag a2 a0.toNat = d at *
 have hv : ∀ c, lY c d = max (min c (bc d)) 0 := fun _ => rfl
 simp only [qL, dx, fz, xe, lx, hv, bc]; simp only [zaH, zav, lt_eq, jt, kA]; simp (disch := omega) only [TRa, TRi, aa, za1]
theorem G2 : ER 120 (mkE OL.en OL.ex f120) := an ah Lp.right (fun m => []) (t := t120) (by kernel_rfl) (fun m => aB) (fun m a => by kernel_rfl) fun (a0, a1, a2) hc => Js a0 a1 a2 hc
def MI : Tb Tryz.prog LQ TE XX := Lp.add 120 _ G2
def N75 : aC := ⟨MI.tab, 75, ⟨[.np 0 7 0, .int .i64], [.ai (sI 7)], 0⟩, ⟨[.bool], [.ai (sI 7)], 0⟩, []⟩
def t75 (m : Nat) : Int × Int × List Dat -> Option (List Un) := fun (a0, a1, a2) =>
 chk (decide (0 <= a0)) <|
 chk (decide (a0.toNat < a2.length)) <|
 lt (ag a2 a0.toNat : Dat) fun d1 =>
 lt ((([(d1.i 5), a1]).getD 0 0) : Int) fun x2 =>
 bif decide (x2 < 0) then
 some ([.b false, .d a2])
 else
 bif (decide (x2 > 1152921504606846976)) then
 some ([.b false, .d a2])
 else
 lt ((([(d1.i 5), a1]).getD 1 0) : Int) fun x4 =>
 bif decide (x4 < 0) then
 some ([.b false, .d a2])
 else
 bif decide (x4 > (w64 (1152921504606846976 - (w64 (0 + x2))))) then
 some ([.b false, .d a2])
 else
 chk (decide (0 <= a0)) <|
 chk (decide (a0.toNat < a2.length)) <|
 lt (ag a2 a0.toNat : Dat) fun d7 =>
 some ([.b true, .d (List.set a2 a0.toNat (.r [.n (d7.i 0), .n (d7.i 1), .n (d7.i 2), .n (d7.i 3), .n (d7.i 4), .n (w64 ((w64 (0 + x2)) + x4)), .n (d7.i 6)]))])
def f75 : Int × Int × List Dat -> Bool × List Un := fun (a0, a1, a2) => (decide (0 <= a1 /\ a1 <= 1125899906842624) && (decide (0 <= a0 /\ a0.toNat < a2.length) && aI (ag a2 a0.toNat)), [.b (true), .d (a2.set a0.toNat (xe a1 (ag a2 a0.toNat)))])
theorem Ni (a0 : Int) (a1 : Int) (a2 : List Dat) (hc : (decide (0 <= a1 /\ a1 <= 1125899906842624) && (decide (0 <= a0 /\ a0.toNat < a2.length) && aI (ag a2 a0.toNat))) = true) : ∃ m, t75 m (a0, a1, a2) = some ([.b (true), .d (a2.set a0.toNat (xe a1 (ag a2 a0.toNat)))]) := by
 simp only [zab, zag, aI] at hc; obtain ⟨h0, ⟨h1, h2⟩, h⟩ := hc; refine ⟨0, ?_⟩; unfold t75; dsimp only; simp only [lt_eq]; generalize ag a2 a0.toNat = d at *
 have hv : ∀ c, lY c d = max (min c (bc d)) 0 := fun _ => rfl
 simp only [qL, dx, fz, xe, lx, hv, bc]; simp only [zaH, zav, lt_eq, jt, kA]; simp (disch := omega) only [TRa, TRi, aa, za1]
theorem Kc : ER 75 (mkE N75.en N75.ex f75) := an ah MI.right (fun m => []) (t := t75) (by kernel_rfl) (fun m => aB) (fun m a => by kernel_rfl) fun (a0, a1, a2) hc => Ni a0 a1 a2 hc
def T75 : Tb Tryz.prog LQ TE XX := MI.add 75 _ Kc
def bn (f : Dat -> Int) : List Dat -> Int
 | [] => 0
 | d :: l => f d + bn f l
theorem bZ {d : Dat} (h : aI d = true) : 0 <= d.i 1 /\ d.i 1 <= 1099511627776 /\ 0 <= d.i 3 /\ d.i 4 = 0 /\ 0 <= d.i 6 /\ d.i 3 + d.i 6 <= d.i 1 /\ 0 <= d.i 5 /\ d.i 5 <= 1125899906842624 := zaj h
def N76 : aC := ⟨T75.tab, 76, ⟨[.ai (sI 7)], [], 0⟩, ⟨[.int .i64, .int .i64, .int .i64], [], 0⟩, []⟩
abbrev B2 : Type := Int × Int × Int × List Dat × Int × Int
def xC (m : Nat) (k : B2 -> Option (List Un)) : B2 -> Option (List Un) := fun (a0, a1, a2, a3, a4, a5) =>
 bif decide (a5 < a4) then
 chk (inb a5 a3.length) <|
 chk (decide (a5.toNat < a3.length)) <|
 lt (ag a3 a5.toNat : Dat) fun d1 =>
 k ((w64 (a0 + (w64 (w64 ((d1.i 1) - w64 ((d1.i 3) - (d1.i 4))) - (d1.i 6))))), (w64 (a1 + (d1.i 5))), (w64 (a2 + (d1.i 6))), a3, a4, (w64 (a5 + 1)))
 else
 some ([.i a0, .i a1, .i a2])
def vZ (m : Nat) : Nat -> B2 -> Option (List Un) := bo (xC m)
theorem tS (m : Nat) (n : Nat) : vZ m (n + 1) = xC m (vZ m n) := rfl
def Gs (F : B2 -> Option (List Un)) : aW := ⟨[.lp [0, 1, 0, 1], .blk 0, .code [1, 1]], ⟨frm 29 [(2, .int .i64), (3, .int .i64), (4, .int .i64), (7, .ai (sI 7)), (8, .int .i64), (9, .int .i64)], [], 0⟩, onU F⟩
theorem Ns (m : Nat) : ∀ n, HO N76 (Gs (vZ m n)) := au ah T75.right (fun k => [Gs k]) (fun k h => (aL h aB)) fun k a => by kernel_rfl
def t76 (m : Nat) : List Dat -> Option (List Un) := fun a0 =>
 vZ m m (0, 0, 0, a0, (a0.length : Int), 0)
theorem GU (m : Nat) : ∀ (rest pre : List Dat) (n : Nat) (b s t : Int), rest.length < n -> (pre ++ rest).length <= 1000 -> (∀ d ∈ rest, aI d = true) -> 0 <= b -> b <= 1099511627776 * pre.length -> 0 <= s -> s <= 1125899906842624 * pre.length -> 0 <= t -> t <= 1099511627776 * pre.length ->
 vZ m n (b, s, t, pre ++ rest, ((pre ++ rest).length : Int), (pre.length : Int)) = some [.i (b + bn bc rest), .i (s + ao 5 rest), .i (t + ao 6 rest)] := by
 intro rest
 induction rest with
 | nil =>
  intro pre n b s t hn hl hg b0 b1 s0 s1 t0 t1; obtain ⟨n, rfl⟩ := al n (by simp at hn; omega); rw [tS]; unfold xC; dsimp only; simp [aF, bn, ao]
 | cons x rest ih =>
  intro pre n b s t hn hl hg b0 b1 s0 s1 t0 t1; obtain ⟨n, rfl⟩ := al n (by simp at hn; omega); simp only [zae, zah] at hn hl; have hx := bZ (hg x (by simp)); rw [tS]; unfold xC; dsimp only; have := ih (pre ++ [x]) n (b + bc x) (s + x.i 5) (t + x.i 6) (by omega) (by simp; omega) (fun d hd => hg d (by simp [hd])) (by unfold bc; omega) (by simp [bc]; omega) (by omega) (by simp; omega) (by omega) (by simp; omega); simp only [bn, ao, bc] at this ⊢; simp (disch := omega) only [TRa, TRi, aa, LNl, LNi, zaa, ax]; simp only [LNl, LNi, zaa] at this ⊢; exact this
def f76 : List Dat -> Bool × List Un := fun a0 => (decide (a0.length <= 1000) && a0.all aI, [.i (bn bc a0), .i (ao 5 a0), .i (ao 6 a0)])
theorem Mn (a0 : List Dat) (hc : (decide (a0.length <= 1000) && a0.all aI) = true) : ∃ m, t76 m a0 = some ([.i (bn bc a0), .i (ao 5 a0), .i (ao 6 a0)]) := by
 simp only [zab, zag, zan] at hc; refine ⟨a0.length + 1, ?_⟩; exact (GU (a0.length + 1) a0 [] (a0.length + 1) 0 0 0 (by omega) (by simpa using hc.1) hc.2 (by omega) (by simp) (by omega) (by simp) (by omega) (by simp)).trans (by simp only [za1])
theorem H6 : ER 76 (mkE N76.en N76.ex f76) := an ah T75.right (fun m => [Gs (vZ m m)]) (t := t76) (by kernel_rfl) (fun m => (aL (Ns m m) aB)) (fun m a => by kernel_rfl) fun a0 hc => Mn a0 hc
def T76 : Tb Tryz.prog LQ TE XX := T75.add 76 _ H6
def unD (d : Dat) : Int := d.i 1 - (d.i 3 - d.i 4)
def N35 : aC := ⟨T76.tab, 35, ⟨[.np 0 0 0], bX 0, 9⟩, ⟨[.int .i64, .int .i64, .int .i64, .int .i64], bX 0, 9⟩, []⟩
abbrev Ce : Type := Int × Int × Int × Int × Int × Int × aw × az × ak × List Dat × List Dat × List Dat × List Dat × List Dat × List Dat × List Dat
def yE (m : Nat) (k : Ce -> Option (List Un)) : Ce -> Option (List Un) := fun (a0, a1, a2, a3, a4, a5, a6, a7, a8, a9, a10, a11, a12, a13, a14, a15) =>
 bif decide (a5 < a4) then
 chk (inb a5 a15.length) <|
 chk (decide (a5.toNat < a15.length)) <|
 lt (ag a15 a5.toNat : Dat) fun d1 =>
 k (a0, a1, a2, (w64 (a3 + (w64 ((d1.i 1) - (w64 ((d1.i 3) - (d1.i 4))))))), a4, (w64 (a5 + 1)), a6, a7, a8, a9, a10, a11, a12, a13, a14, a15)
 else
 some ([.i a0, .i a1, .i a2, .i a3] ++ Uns.enc (a6 : aw) ++ Uns.enc (a7 : az) ++ Uns.enc (a8 : ak) ++ [.d a9, .d a10, .d a11, .d a12, .d a13, .d a14, .d a15])
def vA (m : Nat) : Nat -> Ce -> Option (List Un) := bo (yE m)
theorem sD (m : Nat) (n : Nat) : vA m (n + 1) = yE m (vA m n) := rfl
def Fq (F : Ce -> Option (List Un)) : aW := ⟨[.lp [0, 1, 0, 1, 1], .blk 0, .code [1, 1, 1]], ⟨frm 40 [(2, .int .i64), (3, .int .i64), (4, .int .i64), (5, .int .i64), (20, .buf 8 7), (21, .int .i64), (22, .int .i64)], bX 0, 9⟩, onU F⟩
theorem OG (m : Nat) : ∀ n, HO N35 (Fq (vA m n)) := au ah T76.right (fun k => [Fq k]) (fun k h => (aL h aB)) fun k a => by kernel_rfl
def t35 (m : Nat) : Int × aw × az × ak × List Dat × List Dat × List Dat × List Dat × List Dat × List Dat × List Dat -> Option (List Un) := fun (a0, a1, a2, a3, a4, a5, a6, a7, a8, a9, a10) =>
 chk (decide (0 <= a0)) <|
 chk (decide (a10.length <= 1000) && a10.all aI) <|
 chk (decide (0 <= a0)) <|
 vA m m ((bn bc a10), (ao 5 a10), (ao 6 a10), 0, (a10.length : Int), 0, a1, a2, a3, a4, a5, a6, a7, a8, a9, a10)
theorem D8 (m : Nat) (b s t : Int) (xa : aw) (xb : az) (xn : ak) (x1 x2 x3 x4 x5 x6 : List Dat) : ∀ (rest pre : List Dat) (n : Nat) (u : Int), rest.length < n -> (pre ++ rest).length <= 1000 -> (∀ d ∈ rest, aI d = true) -> 0 <= u -> u <= 1099511627776 * pre.length ->
 vA m n (b, s, t, u, ((pre ++ rest).length : Int), (pre.length : Int), xa, xb, xn, x1, x2, x3, x4, x5, x6, pre ++ rest) = some ([.i b, .i s, .i t, .i (u + bn unD rest)] ++ Uns.enc xa ++ Uns.enc xb ++ Uns.enc xn ++ [.d x1, .d x2, .d x3, .d x4, .d x5, .d x6, .d (pre ++ rest)]) := by
 intro rest
 induction rest with
 | nil =>
  intro pre n u hn hl hg u0 u1; obtain ⟨n, rfl⟩ := al n (by simp at hn; omega); rw [sD]; unfold yE; dsimp only; simp [aF, bn]
 | cons x rest ih =>
  intro pre n u hn hl hg u0 u1; obtain ⟨n, rfl⟩ := al n (by simp at hn; omega); simp only [zae, zah] at hn hl; have hx := bZ (hg x (by simp)); rw [sD]; unfold yE; dsimp only; have := ih (pre ++ [x]) n (u + unD x) (by omega) (by simp; omega) (fun d hd => hg d (by simp [hd])) (by unfold unD; omega) (by simp [unD]; omega); simp only [bn, unD] at this ⊢; simp (disch := omega) only [TRa, TRi, aa, LNl, LNi, zaa, ax]; simp only [LNl, LNi, zaa] at this ⊢; exact this
def f35 : Int × aw × az × ak × List Dat × List Dat × List Dat × List Dat × List Dat × List Dat × List Dat -> Bool × List Un := fun (a0, a1, a2, a3, a4, a5, a6, a7, a8, a9, a10) => (decide (0 <= a0) && (decide (a10.length <= 1000) && a10.all aI), [.i (bn bc a10), .i (ao 5 a10), .i (ao 6 a10), .i (bn unD a10)] ++ Uns.enc ((a1) : aw) ++ Uns.enc ((a2) : az) ++ Uns.enc ((a3) : ak) ++ [.d (a4), .d (a5), .d (a6), .d (a7), .d (a8), .d (a9), .d (a10)])
theorem K1 (a0 : Int) (a1 : aw) (a2 : az) (a3 : ak) (a4 : List Dat) (a5 : List Dat) (a6 : List Dat) (a7 : List Dat) (a8 : List Dat) (a9 : List Dat) (a10 : List Dat) (hc : (decide (0 <= a0) && (decide (a10.length <= 1000) && a10.all aI)) = true) : ∃ m, t35 m (a0, a1, a2, a3, a4, a5, a6, a7, a8, a9, a10) = some ([.i (bn bc a10), .i (ao 5 a10), .i (ao 6 a10), .i (bn unD a10)] ++ Uns.enc ((a1) : aw) ++ Uns.enc ((a2) : az) ++ Uns.enc ((a3) : ak) ++ [.d (a4), .d (a5), .d (a6), .d (a7), .d (a8), .d (a9), .d (a10)]) := by
 have hc' := hc; simp only [zab, zag, zan] at hc'; refine ⟨a10.length + 1, ?_⟩; unfold t35; dsimp only; rw [(zaq.1 hc).2, hP]; simp (disch := omega) only [aN]; exact (D8 (a10.length + 1) _ _ _ _ _ _ _ _ _ _ _ _ a10 [] (a10.length + 1) 0 (by omega) (by simpa using hc'.2.1) hc'.2.2 (by omega) (by simp)).trans (by simp only [za1, zaU])
theorem Io : ER 35 (mkE N35.en N35.ex f35) := an ah T76.right (fun m => [Fq (vA m m)]) (t := t35) (by kernel_rfl) (fun m => (aL (OG m m) aB)) (fun m a => by kernel_rfl) fun (a0, a1, a2, a3, a4, a5, a6, a7, a8, a9, a10) hc => K1 a0 a1 a2 a3 a4 a5 a6 a7 a8 a9 a10 hc
def T35 : Tb Tryz.prog LQ TE XX := T76.add 35 _ Io
theorem Dw {d : Dat} (c : Int) (h : aI d = true) : aI (qL c d) = true := by
 have := bZ h; refine zai ?_
 simp only [qL, lY, bc, dX, eM, uG, na, nc]; omega
theorem z9 {d : Dat} (c : Int) (h : aI d = true) : aI (dx c d) = true := by
 have := bZ h; refine zai ?_
 simp only [dx, lY, bc, dX, eM, uG, na, nc]; omega
theorem A0 {d : Dat} (c : Int) (h : aI d = true) : aI (fz c d) = true := by
 have := bZ h; refine zai ?_
 simp only [fz, lx, dX, eM, uG, na, nc]; omega
theorem gO : ∀ l : List Dat, (∀ d ∈ l, aI d = true) -> (0 <= bn bc l /\ bn bc l <= 1099511627776 * l.length) /\ (0 <= ao 5 l /\ ao 5 l <= 1125899906842624 * l.length) /\ (0 <= ao 6 l /\ ao 6 l <= 1099511627776 * l.length) /\ (0 <= bn unD l /\ bn unD l <= 1099511627776 * l.length) /\ bn unD l = bn bc l + ao 6 l
 | [], _ => by simp [bn, ao]
 | d :: l, h => by
  have h1 := bZ (h d (by simp)); have h2 := gO l fun x hx => h x (by simp [hx])
  simp only [bn, ao, zae, zay, bc, unD] at h2 ⊢; omega
theorem z7 (f : Dat -> Int) (y : Dat) : ∀ (l : List Dat) (j : Nat), j < l.length -> bn f (l.set j y) = bn f l - f (ag l j) + f y
 | [], j, h => by simp at h
 | d :: l, 0, h => by simp only [List.set_cons_zero, bn, ag, zaH]; omega
 | d :: l, j + 1, h => by
  have := z7 f y l j (by simpa using h); simp only [ag] at this; simp only [zbN, bn, ag, zav, this]; omega
theorem C3 {p : Dat -> Prop} {l : List Dat} {j : Nat} {y : Dat} (h : ∀ d ∈ l, p d) (hy : p y) : ∀ d ∈ l.set j y, p d := fun d hd => by
 rcases zbI hd with h1 | rfl
 . exact h d h1
 . exact hy
theorem s9 {l : List Dat} {j : Nat} (h : j < l.length) : ag l j ∈ l := by rw [lL h]; exact zbB h
def N86 : aC := ⟨T35.tab, 86, ⟨[.agg [.bool, .bool, .bool, .bool]], [], 0⟩, ⟨[.bool], [], 0⟩, []⟩
def t86 (m : Nat) : Bool × Bool × Bool × Bool -> Option (List Un) := fun (a0, a1, a2, a3) =>
 bif !a0 then
 some ([.b true])
 else
 bif !a2 then
 some ([.b true])
 else
 some ([.b !a3])
def f86 : Bool × Bool × Bool × Bool -> Bool × List Un := fun (a0, a1, a2, a3) => (true, [.b (!a0 || (!a2 || !a3))])
theorem Mp (a0 : Bool) (a1 : Bool) (a2 : Bool) (a3 : Bool) : ∃ m, t86 m (a0, a1, a2, a3) = some ([.b (!a0 || (!a2 || !a3))]) := by
 refine ⟨0, ?_⟩; unfold t86; cases a0 <;> cases a2 <;> cases a3 <;> rfl
theorem JU : ER 86 (mkE N86.en N86.ex f86) := an ah T35.right (fun m => []) (t := t86) (by kernel_rfl) (fun m => aB) (fun m a => by kernel_rfl) fun (a0, a1, a2, a3) hc => Mp a0 a1 a2 a3
def T86 : Tb Tryz.prog LQ TE XX := T35.add 86 _ JU
def dz (mode aX eB : Int) (oc ic late nG : Bool) : Int × Int :=
 if mode = 2 \/ ic = false then (2, 0)
 else if oc = false \/ late = false \/ nG = false then (1, 0)
 else if mode ≠ 1 \/ eB <= aX \/ aX + 1 = eB then (0, 0)
 else (1, aX + 1)
def N43 : aC := ⟨T86.tab, 43, ⟨[.agg [.int .i64, .int .i64], .int .i64, .agg [.bool, .bool, .bool, .bool]], [], 0⟩, ⟨[.agg [.int .i64, .int .i64]], [], 0⟩, []⟩
def t43 (m : Nat) : Int × Int × Int × Bool × Bool × Bool × Bool -> Option (List Un) := fun (a0, a1, a2, a3, a4, a5, a6) =>
 bif a0 == 2 then
 some ([.i 2, .i 0])
 else
 bif !a4 then
 some ([.i 2, .i 0])
 else
 bif (!a3 || (!a5 || !a6)) then
 some ([.i 1, .i 0])
 else
 bif a0 != 1 then
 some ([.i 0, .i 0])
 else
 bif decide (a1 >= a2) then
 some ([.i 0, .i 0])
 else
 bif (w64 (a1 + 1)) == a2 then
 some ([.i 0, .i 0])
 else
 some ([.i 1, .i (w64 (a1 + 1))])
def f43 : Int × Int × Int × Bool × Bool × Bool × Bool -> Bool × List Un := fun (a0, a1, a2, a3, a4, a5, a6) => (decide (0 <= a1 /\ a1 <= 1000000), [.i ((dz a0 a1 a2 a3 a4 a5 a6).1), .i ((dz a0 a1 a2 a3 a4 a5 a6).2)])
theorem MY (a0 : Int) (a1 : Int) (a2 : Int) (a3 : Bool) (a4 : Bool) (a5 : Bool) (a6 : Bool) (hc : (decide (0 <= a1 /\ a1 <= 1000000)) = true) : ∃ m, t43 m (a0, a1, a2, a3, a4, a5, a6) = some ([.i ((dz a0 a1 a2 a3 a4 a5 a6).1), .i ((dz a0 a1 a2 a3 a4 a5 a6).2)]) := by
 have h := zaj hc; refine ⟨0, ?_⟩; unfold t43 dz
 by_cases h1 : a0 = 2
 . simp (disch := omega) only [TRa, TRi, aa]; simp [h1]
 . cases a4
   . simp (disch := omega) only [TRa, TRi, aa]; simp
   . cases a3 <;> cases a5 <;> cases a6 <;> simp [h1, fL] <;> by_cases h2 : a0 = 1 <;> by_cases h3 : a2 <= a1 <;> by_cases h4 : a1 + 1 = a2 <;> simp (disch := omega) only [TRa, TRi, aa] <;> simp [h2, h3, h4]
theorem Jh : ER 43 (mkE N43.en N43.ex f43) := an ah T86.right (fun m => []) (t := t43) (by kernel_rfl) (fun m => aB) (fun m a => by kernel_rfl) fun (a0, a1, a2, a3, a4, a5, a6) hc => MY a0 a1 a2 a3 a4 a5 a6 hc
def T43 : Tb Tryz.prog LQ TE XX := T86.add 43 _ Jh
def cR (n : Int) : Int := if n < 1 then 0 else if n < 3 then 1 else if n < 6 then 2 else 3
def NL : aC := ⟨T43.tab, 122, ⟨[.int .i64], [], 0⟩, ⟨[.int .i64], [], 0⟩, []⟩
def t122 (m : Nat) : Int -> Option (List Un) := fun a0 =>
 bif decide (a0 < 1) then
 some ([.i 0])
 else
 bif decide (a0 < 3) then
 some ([.i 1])
 else
 bif decide (a0 < 6) then
 some ([.i 2])
 else
 some ([.i 3])
def f122 : Int -> Bool × List Un := fun a0 => (true, [.i (cR a0)])
theorem IU (a0 : Int) : ∃ m, t122 m a0 = some ([.i (cR a0)]) := by
 refine ⟨0, ?_⟩; unfold t122 cR
 by_cases h1 : a0 < 1 <;> by_cases h2 : a0 < 3 <;> by_cases h3 : a0 < 6 <;> simp [h1, h2, h3]
theorem FD : ER 122 (mkE NL.en NL.ex f122) := an ah T43.right (fun m => []) (t := t122) (by kernel_rfl) (fun m => aB) (fun m a => by kernel_rfl) fun a0 hc => IU a0
def H8 : Tb Tryz.prog LQ TE XX := T43.add 122 _ FD
def cI (d : Dat) : Bool := decide (0 <= d.i 1 /\ d.i 1 <= 1099511627776)
def cg (j : Int) (l : List Dat) : Int := bn (fun d => if cR (d.i 3) = j then d.i 1 else 0) l
theorem DE (n : Int) : cR n = 0 \/ cR n = 1 \/ cR n = 2 \/ cR n = 3 := by
 unfold cR
 split
 . exact .inl rfl
 . split
   . exact .inr (.inl rfl)
   . split
     . exact .inr (.inr (.inl rfl))
     . exact .inr (.inr (.inr rfl))
theorem nQ {d : Dat} (h : cI d = true) : 0 <= d.i 1 /\ d.i 1 <= 1099511627776 := zaj h
def N90 : aC := ⟨H8.tab, 90, ⟨[.ai (sB 4)], [], 0⟩, ⟨[.agg [.int .i64, .int .i64, .int .i64, .int .i64]], [], 0⟩, []⟩
abbrev C1 : Type := List Dat × Int × Int × Int × Int × Int × Int × Int × Int × Int × Int
def yz (m : Nat) (k : C1 -> Option (List Un)) : C1 -> Option (List Un) := fun (a0, a1, a2, a3, a4, a5, a6, a7, a8, a9, a10) =>
 bif decide (a2 < a1) then
 chk (inb a2 a0.length) <|
 chk (decide (a2.toNat < a0.length)) <|
 lt (ag a0 a2.toNat : Dat) fun d1 =>
 chk (inb (cR (d1.i 3)) 4) <|
 chk (decide ((cR (d1.i 3)).toNat < 4)) <|
 lt ((List.getD [a7, a8, a9, a10] ((cR (d1.i 3)).toNat) 0) : Int) fun x2 =>
 chk (inb (cR (d1.i 3)) 4) <|
 chk (decide ((cR (d1.i 3)).toNat < 4)) <|
 k (a0, a1, (w64 (a2 + 1)), a3, a4, a5, a6, (bif decide ((cR (d1.i 3)).toNat = 0) then (w64 (x2 + (d1.i 1))) else a7), (bif decide ((cR (d1.i 3)).toNat = 1) then (w64 (x2 + (d1.i 1))) else a8), (bif decide ((cR (d1.i 3)).toNat = 2) then (w64 (x2 + (d1.i 1))) else a9), (bif decide ((cR (d1.i 3)).toNat = 3) then (w64 (x2 + (d1.i 1))) else a10))
 else
 some ([.i a7, .i a8, .i a9, .i a10])
def vV (m : Nat) : Nat -> C1 -> Option (List Un) := bo (yz m)
theorem tU (m : Nat) (n : Nat) : vV m (n + 1) = yz m (vV m n) := rfl
def Gy (F : C1 -> Option (List Un)) : aW := ⟨[.lp [0, 1, 0, 1, 1], .blk 0, .code [1, 1, 1]], ⟨frm 24 [(2, .ptr 0 0 0), (3, .ptr 1 0 0), (6, .ai (sB 4)), (7, .int .i64), (8, .int .i64)], [.cells [.int .i64, .int .i64, .int .i64, .int .i64], .cells [.int .i64, .int .i64, .int .i64, .int .i64]], 0⟩, onU F⟩
theorem Od (m : Nat) : ∀ n, HO N90 (Gy (vV m n)) := au ah H8.right (fun k => [Gy k]) (fun k h => (aL h aB)) fun k a => by kernel_rfl
def t90 (m : Nat) : List Dat -> Option (List Un) := fun a0 =>
 vV m m (a0, (a0.length : Int), 0, 0, 0, 0, 0, 0, 0, 0, 0)
set_option maxHeartbeats 2000000 in
theorem Ja (m : Nat) (z0 z1 z2 z3 : Int) : ∀ (rest pre : List Dat) (n : Nat) (b0 b1 b2 b3 : Int), rest.length < n -> (pre ++ rest).length <= 1000 -> (∀ d ∈ rest, cI d = true) -> (0 <= b0 /\ b0 <= 1099511627776 * pre.length) -> (0 <= b1 /\ b1 <= 1099511627776 * pre.length) -> (0 <= b2 /\ b2 <= 1099511627776 * pre.length) -> (0 <= b3 /\ b3 <= 1099511627776 * pre.length) ->
 vV m n (pre ++ rest, ((pre ++ rest).length : Int), (pre.length : Int), z0, z1, z2, z3, b0, b1, b2, b3) = some [.i (b0 + cg 0 rest), .i (b1 + cg 1 rest), .i (b2 + cg 2 rest), .i (b3 + cg 3 rest)] := by
 intro rest
 induction rest with
 | nil =>
  intro pre n b0 b1 b2 b3 hn hl hg h0 h1 h2 h3; obtain ⟨n, rfl⟩ := al n (by simp at hn; omega); rw [tU]; unfold yz; dsimp only; simp [aF, bn, cg]
 | cons x rest ih =>
  intro pre n b0 b1 b2 b3 hn hl hg h0 h1 h2 h3; obtain ⟨n, rfl⟩ := al n (by simp at hn; omega); simp only [zae, zah] at hn hl; have hx := nQ (hg x (by simp)); have ih' := fun b0 b1 b2 b3 => ih (pre ++ [x]) n b0 b1 b2 b3 (by omega) (by simp; omega) (fun d hd => hg d (by simp [hd]))
  rw [tU]; unfold yz; dsimp only; simp only [cg, bn] at ih' ⊢; rcases DE (x.i 3) with hb | hb | hb | hb
  . have := ih' (b0 + x.i 1) b1 b2 b3 (by simp; omega) (by simp; omega) (by simp; omega) (by simp; omega); simp (disch := omega) only [TRa, TRi, aa, LNl, LNi, zaa, ax, hb, Int.reduceToNat, zaH, zav, za7, Int.reduceEq, zbe]; simp only [Nat.reduceEqDiff, zaS, zaP, zaE, zao, reduceCtorEq, Nat.zero_ne_one, Nat.one_ne_zero, za7, zbe, Int.reduceEq, za1]; simp only [LNl, LNi, zaa] at this ⊢; exact this
  . have := ih' b0 (b1 + x.i 1) b2 b3 (by simp; omega) (by simp; omega) (by simp; omega) (by simp; omega); simp (disch := omega) only [TRa, TRi, aa, LNl, LNi, zaa, ax, hb, Int.reduceToNat, zaH, zav, za7, Int.reduceEq, zbe]; simp only [Nat.reduceEqDiff, zaS, zaP, zaE, zao, reduceCtorEq, Nat.zero_ne_one, Nat.one_ne_zero, za7, zbe, Int.reduceEq, za1]; simp only [LNl, LNi, zaa] at this ⊢; exact this
  . have := ih' b0 b1 (b2 + x.i 1) b3 (by simp; omega) (by simp; omega) (by simp; omega) (by simp; omega); simp (disch := omega) only [TRa, TRi, aa, LNl, LNi, zaa, ax, hb, Int.reduceToNat, zaH, zav, za7, Int.reduceEq, zbe]; simp only [Nat.reduceEqDiff, zaS, zaP, zaE, zao, reduceCtorEq, Nat.zero_ne_one, Nat.one_ne_zero, za7, zbe, Int.reduceEq, za1]; simp only [LNl, LNi, zaa] at this ⊢; exact this
  . have := ih' b0 b1 b2 (b3 + x.i 1) (by simp; omega) (by simp; omega) (by simp; omega) (by simp; omega); simp (disch := omega) only [TRa, TRi, aa, LNl, LNi, zaa, ax, hb, Int.reduceToNat, zaH, zav, za7, Int.reduceEq, zbe]; simp only [Nat.reduceEqDiff, zaS, zaP, zaE, zao, reduceCtorEq, Nat.zero_ne_one, Nat.one_ne_zero, za7, zbe, Int.reduceEq, za1]; simp only [LNl, LNi, zaa] at this ⊢; exact this
def f90 : List Dat -> Bool × List Un := fun a0 => (decide (a0.length <= 1000) && a0.all cI, [.i (cg 0 a0), .i (cg 1 a0), .i (cg 2 a0), .i (cg 3 a0)])
theorem L7 (a0 : List Dat) (hc : (decide (a0.length <= 1000) && a0.all cI) = true) : ∃ m, t90 m a0 = some ([.i (cg 0 a0), .i (cg 1 a0), .i (cg 2 a0), .i (cg 3 a0)]) := by
 simp only [zab, zag, zan] at hc; refine ⟨a0.length + 1, ?_⟩; exact (Ja (a0.length + 1) _ _ _ _ a0 [] (a0.length + 1) 0 0 0 0 (by omega) (by simpa using hc.1) hc.2 (by simp) (by simp) (by simp) (by simp)).trans (by simp only [za1])
theorem Jo : ER 90 (mkE N90.en N90.ex f90) := an ah H8.right (fun m => [Gy (vV m m)]) (t := t90) (by kernel_rfl) (fun m => (aL (Od m m) aB)) (fun m a => by kernel_rfl) fun a0 hc => L7 a0 hc
def T90 : Tb Tryz.prog LQ TE XX := H8.add 90 _ Jo
def yZ (a b c d k : Int) : Int := (if k <= 0 then a else 0) + (if k <= 1 then b else 0) + (if k <= 2 then c else 0) + (if k <= 3 then d else 0)
def N91 : aC := ⟨T90.tab, 91, ⟨[.agg [.int .i64, .int .i64, .int .i64, .int .i64], .int .i64], [], 0⟩, ⟨[.int .i64], [], 0⟩, []⟩
abbrev Cf : Type := Int × Int × Int × Int × Int × Int
def nh (m : Nat) (k : Cf -> Option (List Un)) : Cf -> Option (List Un) := fun (a0, a1, a2, a3, a4, a5) =>
 bif decide (a1 < 4) then
 chk (inb a1 4) <|
 chk (decide (a1.toNat < 4)) <|
 k ((w64 (a0 + (List.getD [a2, a3, a4, a5] a1.toNat 0))), (w64 (a1 + 1)), a2, a3, a4, a5)
 else
 some ([.i a0])
def fV (m : Nat) : Nat -> Cf -> Option (List Un) := bo (nh m)
theorem jb (m : Nat) (n : Nat) : fV m (n + 1) = nh m (fV m n) := rfl
def GY (F : Cf -> Option (List Un)) : aW := ⟨[.lp [0, 1, 0, 1, 1], .blk 0, .code [1, 1, 1]], ⟨frm 19 [(2, .ptr 0 0 0), (5, .int .i64), (6, .int .i64)], [.cells [.int .i64, .int .i64, .int .i64, .int .i64]], 0⟩, onU F⟩
theorem ND (m : Nat) : ∀ n, HO N91 (GY (fV m n)) := au ah T90.right (fun k => [GY k]) (fun k h => (aL h aB)) fun k a => by kernel_rfl
def t91 (m : Nat) : Int × Int × Int × Int × Int -> Option (List Un) := fun (a0, a1, a2, a3, a4) =>
 fV m m (0, (if a4 < 0 then 0 else a4), a0, a1, a2, a3)
def f91 : Int × Int × Int × Int × Int -> Bool × List Un := fun (a0, a1, a2, a3, a4) => (decide (0 <= a0 /\ a0 <= 1152921504606846976 /\ 0 <= a1 /\ a1 <= 1152921504606846976 /\ 0 <= a2 /\ a2 <= 1152921504606846976 /\ 0 <= a3 /\ a3 <= 1152921504606846976), [.i (yZ a0 a1 a2 a3 a4)])
theorem Mr (a0 : Int) (a1 : Int) (a2 : Int) (a3 : Int) (a4 : Int) (hc : (decide (0 <= a0 /\ a0 <= 1152921504606846976 /\ 0 <= a1 /\ a1 <= 1152921504606846976 /\ 0 <= a2 /\ a2 <= 1152921504606846976 /\ 0 <= a3 /\ a3 <= 1152921504606846976)) = true) : ∃ m, t91 m (a0, a1, a2, a3, a4) = some ([.i (yZ a0 a1 a2 a3 a4)]) := by
 have h := zaj hc; refine ⟨6, ?_⟩; unfold t91 yZ; dsimp only; have f0 : ∀ (n : Nat) (i s : Int), 4 <= i -> fV 6 (n + 1) (s, i, a0, a1, a2, a3) = some [.i s] := by
  intro n i s hi; rw [jb]; unfold nh; dsimp only; rw [aF (by omega)]
 have f3 : ∀ (n : Nat) (s : Int), 0 <= s -> s <= 3458764513820540928 -> fV 6 (n + 2) (s, 3, a0, a1, a2, a3) = some [.i (s + a3)] := by
  intro n s h1 h2; rw [jb]; unfold nh; dsimp only; simp (disch := omega) only [bE, dM, aN, Int.reduceToNat, zaH, zav, aa, Int.reduceAdd, f0]
 have f2 : ∀ (n : Nat) (s : Int), 0 <= s -> s <= 2305843009213693952 -> fV 6 (n + 3) (s, 2, a0, a1, a2, a3) = some [.i (s + a2 + a3)] := by
  intro n s h1 h2; rw [jb]; unfold nh; dsimp only; simp (disch := omega) only [bE, dM, aN, Int.reduceToNat, zaH, zav, aa, Int.reduceAdd, f3]
 have f1 : ∀ (n : Nat) (s : Int), 0 <= s -> s <= 1152921504606846976 -> fV 6 (n + 4) (s, 1, a0, a1, a2, a3) = some [.i (s + a1 + a2 + a3)] := by
  intro n s h1 h2; rw [jb]; unfold nh; dsimp only; simp (disch := omega) only [bE, dM, aN, Int.reduceToNat, zaH, zav, aa, Int.reduceAdd, f2]
 by_cases k0 : a4 <= 0
 . rw [show (if a4 < 0 then 0 else a4) = (0 : Int) by split <;> omega, show fV 6 6 = fV 6 (5 + 1) from rfl, jb]; unfold nh; dsimp only; simp (disch := omega) only [bE, dM, aN, Int.reduceToNat, zaH, zav, aa, Int.reduceAdd, za1]; rw [show fV 6 5 = fV 6 (1 + 4) from rfl, f1 _ _ (by omega) (by omega), if_pos k0, if_pos (by omega), if_pos (by omega), if_pos (by omega)]
 . rw [if_neg (show ¬ a4 < 0 by omega), if_neg k0]
   by_cases k1 : a4 = 1
   . subst k1; rw [show fV 6 6 = fV 6 (2 + 4) from rfl, f1 _ _ (by omega) (by omega)]; simp
   . by_cases k2 : a4 = 2
     . subst k2; rw [show fV 6 6 = fV 6 (3 + 3) from rfl, f2 _ _ (by omega) (by omega)]; simp
     . by_cases k3 : a4 = 3
       . subst k3; rw [show fV 6 6 = fV 6 (4 + 2) from rfl, f3 _ _ (by omega) (by omega)]; simp
       . rw [f0 _ _ _ (by omega), if_neg (by omega), if_neg (by omega), if_neg (by omega)]; simp
theorem JG : ER 91 (mkE N91.en N91.ex f91) := an ah T90.right (fun m => [GY (fV m m)]) (t := t91) (by kernel_rfl) (fun m => (aL (ND m m) aB)) (fun m a => by kernel_rfl) fun (a0, a1, a2, a3, a4) hc => Mr a0 a1 a2 a3 a4 hc
def T91 : Tb Tryz.prog LQ TE XX := T90.add 91 _ JG
theorem PN (a : List Dat) : (ag [.r [.r a]] 0).d 0 = a := rfl
def N32 : aC := ⟨T91.tab, 32, ⟨[.dpt [.ai (sB 4)]], [], 0⟩, ⟨[.int .i64], [], 0⟩, []⟩
abbrev Cr : Type := Int × List Dat × Int × Int
def wS (m : Nat) (k : Cr -> Option (List Un)) : Cr -> Option (List Un) := fun (a0, a1, a2, a3) =>
 bif decide (a3 < a2) then
 chk (inb a3 a1.length) <|
 chk (decide (a3.toNat < a1.length)) <|
 k ((w64 (a0 + ((ag a1 a3.toNat).i 1))), a1, a2, (w64 (a3 + 1)))
 else
 some ([.i a0])
def vM (m : Nat) : Nat -> Cr -> Option (List Un) := bo (wS m)
theorem uf (m : Nat) (n : Nat) : vM m (n + 1) = wS m (vM m n) := rfl
def FU (F : Cr -> Option (List Un)) : aW := ⟨[.lp [0, 1, 0, 1, 1], .blk 0, .code [1, 1, 1]], ⟨frm 22 [(3, .int .i64), (9, .ai (sB 4)), (10, .int .i64), (11, .int .i64)], [], 0⟩, onU F⟩
theorem Oy (m : Nat) : ∀ n, HO N32 (FU (vM m n)) := au ah T91.right (fun k => [FU k]) (fun k h => (aL h aB)) fun k a => by kernel_rfl
def t32 (m : Nat) : List Dat -> Option (List Un) := fun a0 =>
 chk (decide (0 < a0.length)) <|
 vM m m (0, ((ag a0 0).d 0), (((ag a0 0).d 0).length : Int), 0)
theorem Hm (m : Nat) : ∀ (rest pre : List Dat) (n : Nat) (b : Int), rest.length < n -> (pre ++ rest).length <= 1000 -> (∀ d ∈ rest, cI d = true) -> 0 <= b -> b <= 1099511627776 * pre.length ->
 vM m n (b, pre ++ rest, ((pre ++ rest).length : Int), (pre.length : Int)) = some [.i (b + ao 1 rest)] := by
 intro rest
 induction rest with
 | nil =>
  intro pre n b hn hl hg h0 h1; obtain ⟨n, rfl⟩ := al n (by simp at hn; omega); rw [uf]; unfold wS; dsimp only; simp [aF, ao]
 | cons x rest ih =>
  intro pre n b hn hl hg h0 h1; obtain ⟨n, rfl⟩ := al n (by simp at hn; omega); simp only [zae, zah] at hn hl; have hx := nQ (hg x (by simp)); rw [uf]; unfold wS; dsimp only; have := ih (pre ++ [x]) n (b + x.i 1) (by omega) (by simp; omega) (fun d hd => hg d (by simp [hd])) (by omega) (by simp; omega); simp only [ao] at this ⊢; simp (disch := omega) only [TRa, TRi, aa, LNl, LNi, zaa, ax]; simp only [LNl, LNi, zaa] at this ⊢; exact this
def f32 : List Dat -> Bool × List Un := fun a0 => (decide (0 < a0.length) && (decide (((ag a0 0).d 0).length <= 1000) && ((ag a0 0).d 0).all cI), [.i (ao 1 ((ag a0 0).d 0))])
theorem Mu (a0 : List Dat) (hc : (decide (0 < a0.length) && (decide (((ag a0 0).d 0).length <= 1000) && ((ag a0 0).d 0).all cI)) = true) : ∃ m, t32 m a0 = some ([.i (ao 1 ((ag a0 0).d 0))]) := by
 simp only [zab, zag, zan] at hc; refine ⟨((ag a0 0).d 0).length + 1, ?_⟩; unfold t32; rw [aN hc.1]; exact (Hm _ ((ag a0 0).d 0) [] (((ag a0 0).d 0).length + 1) 0 (by omega) (by simpa using hc.2.1) hc.2.2 (by omega) (by simp)).trans (by simp only [za1])
theorem Kv : ER 32 (mkE N32.en N32.ex f32) := an ah T91.right (fun m => [FU (vM m m)]) (t := t32) (by kernel_rfl) (fun m => (aL (Oy m m) aB)) (fun m a => by kernel_rfl) fun a0 hc => Mu a0 hc
def T32 : Tb Tryz.prog LQ TE XX := T91.add 32 _ Kv
def N20 : aC := ⟨T32.tab, 20, ⟨[.dpt [.ai (sB 4)]], [], 0⟩, ⟨[.buf 0 5], [.ai (sB 4)], 0⟩, []⟩
def t20 (m : Nat) : List Dat -> Option (List Un) := fun a0 =>
 chk (decide (0 < a0.length)) <|
 chk (decide (((ag a0 0).d 0).length < 1000000)) <|
 some ([.d ((ag a0 0).d 0)])
def f20 : List Dat -> Bool × List Un := fun a0 => (decide (0 < a0.length) && decide (((ag a0 0).d 0).length < 1000000), [.d ((ag a0 0).d 0)])
theorem M5 (a0 : List Dat) (hc : (decide (0 < a0.length) && decide (((ag a0 0).d 0).length < 1000000)) = true) : ∃ m, t20 m a0 = some ([.d ((ag a0 0).d 0)]) := by
 simp only [zab, zag] at hc; refine ⟨0, ?_⟩; unfold t20; rw [aN hc.1, aN hc.2]
theorem JI : ER 20 (mkE N20.en N20.ex f20) := an ah T32.right (fun m => []) (t := t20) (by kernel_rfl) (fun m => aB) (fun m a => by kernel_rfl) fun a0 hc => M5 a0 hc
def T20 : Tb Tryz.prog LQ TE XX := T32.add 20 _ JI
theorem mo (j : Int) : ∀ (l : List Dat), (∀ d ∈ l, cI d = true) -> 0 <= cg j l /\ cg j l <= 1099511627776 * l.length
 | [], _ => by simp [cg, bn]
 | x :: l, h => by
  have h1 := nQ (h x (by simp)); have h2 := mo j l fun d hd => h d (by simp [hd])
  simp only [cg, bn, zae, zay, zaa] at h2 ⊢
  split <;> omega
def N45 : aC := ⟨T20.tab, 45, ⟨[.np 0 0 0, .int .i64, .int .i64], bX 0, 9⟩, ⟨[.agg [.int .i64, .int .i64, .int .i64, .int .i64, .int .i64, .int .i64, .int .i64]], bX 0, 9⟩, []⟩
def t45 (m : Nat) : Int × Int × Int × aw × az × ak × List Dat × List Dat × List Dat × List Dat × List Dat × List Dat × List Dat -> Option (List Un) := fun (a0, a1, a2, a3, a4, a5, a6, a7, a8, a9, a10, a11, a12) =>
 chk (decide (0 <= a0) && (decide (a12.length <= 1000) && a12.all aI)) <|
 chk (decide (0 <= a0)) <|
 chk (decide (0 < ([.r [.r a11]] : List Dat).length) && (decide (((ag ([.r [.r a11]] : List Dat) 0).d 0).length <= 1000) && ((ag ([.r [.r a11]] : List Dat) 0).d 0).all cI)) <|
 chk (decide (0 <= a0)) <|
 chk (decide (0 <= a0)) <|
 chk (decide (0 < ([.r [.r a11]] : List Dat).length) && decide (((ag ([.r [.r a11]] : List Dat) 0).d 0).length < 1000000)) <|
 lt (((ag ([.r [.r a11]] : List Dat) 0).d 0) : List Dat) fun l5 =>
 chk (decide (l5.length <= 1000) && l5.all cI) <|
 chk (decide (0 <= (cg 0 l5) /\ (cg 0 l5) <= 1152921504606846976 /\ 0 <= (cg 1 l5) /\ (cg 1 l5) <= 1152921504606846976 /\ 0 <= (cg 2 l5) /\ (cg 2 l5) <= 1152921504606846976 /\ 0 <= (cg 3 l5) /\ (cg 3 l5) <= 1152921504606846976)) <|
 chk (decide (0 <= a0)) <|
 chk (decide (0 <= a0)) <|
 some ([.i (ao 1 ((ag ([.r [.r a11]] : List Dat) 0).d 0)), .i (((cj (⟨a3, a6, a7, a4, a8, a9, a10⟩ : bk)).getD (0, 0)).1), .i (bn bc a12), .i (if 1099511627776 < a1 then 1099511627776 else a1), .i (if 1099511627776 < a2 then 1099511627776 else a2), .i (yZ (cg 0 l5) (cg 1 l5) (cg 2 l5) (cg 3 l5) 2), .i (w64 (a5.aD - a5.aK))] ++ Uns.enc (a3 : aw) ++ Uns.enc (a4 : az) ++ Uns.enc (a5 : ak) ++ [.d a6, .d a7, .d a8, .d a9, .d a10, .d a11, .d a12])
def f45 : Int × Int × Int × aw × az × ak × List Dat × List Dat × List Dat × List Dat × List Dat × List Dat × List Dat -> Bool × List Un := fun (a0, a1, a2, a3, a4, a5, a6, a7, a8, a9, a10, a11, a12) => (decide (0 <= a0) && ((decide (a11.length <= 1000) && a11.all cI) && (decide (a12.length <= 1000) && a12.all aI)), [.i (ao 1 a11), .i (((cj (⟨a3, a6, a7, a4, a8, a9, a10⟩ : bk)).getD (0, 0)).1), .i (bn bc a12), .i (min a1 1099511627776), .i (min a2 1099511627776), .i (cg 2 a11 + cg 3 a11), .i (w64 (a5.aD - a5.aK))] ++ Uns.enc ((a3) : aw) ++ Uns.enc ((a4) : az) ++ Uns.enc ((a5) : ak) ++ [.d (a6), .d (a7), .d (a8), .d (a9), .d (a10), .d (a11), .d (a12)])
theorem Nf (a0 : Int) (a1 : Int) (a2 : Int) (a3 : aw) (a4 : az) (a5 : ak) (a6 : List Dat) (a7 : List Dat) (a8 : List Dat) (a9 : List Dat) (a10 : List Dat) (a11 : List Dat) (a12 : List Dat) (hc : (decide (0 <= a0) && ((decide (a11.length <= 1000) && a11.all cI) && (decide (a12.length <= 1000) && a12.all aI))) = true) : ∃ m, t45 m (a0, a1, a2, a3, a4, a5, a6, a7, a8, a9, a10, a11, a12) = some ([.i (ao 1 a11), .i (((cj (⟨a3, a6, a7, a4, a8, a9, a10⟩ : bk)).getD (0, 0)).1), .i (bn bc a12), .i (min a1 1099511627776), .i (min a2 1099511627776), .i (cg 2 a11 + cg 3 a11), .i (w64 (a5.aD - a5.aK))] ++ Uns.enc ((a3) : aw) ++ Uns.enc ((a4) : az) ++ Uns.enc ((a5) : ak) ++ [.d (a6), .d (a7), .d (a8), .d (a9), .d (a10), .d (a11), .d (a12)]) := by
 have hc' := hc; simp only [zab, zag, zan] at hc'; obtain ⟨h0, ⟨h1, h2⟩, h3, h4⟩ := hc'; have q1 : (decide (a11.length <= 1000) && a11.all cI) = true := (zaq.1 (zaq.1 hc).2).1; have q2 : (decide (a12.length <= 1000) && a12.all aI) = true := (zaq.1 (zaq.1 hc).2).2; have l0 := mo 0 a11 h2; have l1 := mo 1 a11 h2; have l2 := mo 2 a11 h2; have l3 := mo 3 a11 h2; refine ⟨0, ?_⟩; unfold t45; dsimp only [lt, PN, List.length_cons, List.length_nil]; simp only [zai h0, q1, q2, Bool.and_self, hP, show decide (0 < 0 + 1) = true from rfl, zai (show a11.length < 1000000 by omega)]; rw [aN (by omega)]; simp only [jt, yZ, Int.reduceLE, za7, zbe, za1, zbg]; exact bx (by rw [zab]; exact ⟨@zai _ _ h1, zan.2 h2⟩) (bx (@zai _ _ (by omega)) rfl)
theorem Hw : ER 45 (mkE N45.en N45.ex f45) := an ah T20.right (fun m => []) (t := t45) (by kernel_rfl) (fun m => aB) (fun m a => by kernel_rfl) fun (a0, a1, a2, a3, a4, a5, a6, a7, a8, a9, a10, a11, a12) hc => Nf a0 a1 a2 a3 a4 a5 a6 a7 a8 a9 a10 a11 a12 hc
def T45 : Tb Tryz.prog LQ TE XX := T20.add 45 _ Hw
theorem vW (pre pre' : List Dat) (x : Dat) (rest : List Dat) (h : pre'.length = pre.length) : ag (pre' ++ x :: rest) pre.length = x := by rw [<- h]; exact ax pre' x rest
def Dd : Nat -> Nat -> Dat -> Dat -> Bool
 | _, 0, _, _ => true
 | j, n + 1, x, y => x.i j == y.i j && Dd (j + 1) n x y
def fP (n : Nat) : List Dat -> List Dat -> Bool
 | [], [] => true
 | x :: a, y :: b => Dd 0 n x y && fP n a b
 | _, _ => false
def By : Nat -> Nat -> Dat -> Dat -> Bool
 | j, 0, x, y => x.b j == y.b j
 | j, n + 1, x, y => x.i j == y.i j && By (j + 1) n x y
theorem oN (n : Nat) : ∀ (a b : List Dat), a.length ≠ b.length -> fP n a b = false
 | [], [], h => absurd rfl h
 | [], _ :: _, _ => rfl
 | _ :: _, [], _ => rfl
 | x :: a, y :: b, h => by simp [fP, oN n a b (by simpa using h)]
def N56 : aC := ⟨T45.tab, 56, ⟨[.ai (sI 3), .ai (sI 3)], [], 0⟩, ⟨[.bool], [], 0⟩, []⟩
abbrev CF : Type := List Dat × List Dat × Int
def xq (m : Nat) (k : CF -> Option (List Un)) : CF -> Option (List Un) := fun (a0, a1, a2) =>
 bif (decide (a2 < (a0.length : Int))) then
 chk (inb a2 a0.length) <|
 chk (decide (a2.toNat < a0.length)) <|
 lt (ag a0 a2.toNat : Dat) fun d3 =>
 chk (inb a2 a1.length) <|
 chk (decide (a2.toNat < a1.length)) <|
 lt (ag a1 a2.toNat : Dat) fun d4 =>
 bif (!(((d3.i 0) == (d4.i 0)) && (((d3.i 1) == (d4.i 1)) && (((d3.i 2) == (d4.i 2)) && true)))) then
 some ([.b false])
 else
 k (a0, a1, (w64 (a2 + 1)))
 else
 some ([.b true])
def v9 (m : Nat) : Nat -> CF -> Option (List Un) := bo (xq m)
theorem ux (m : Nat) (n : Nat) : v9 m (n + 1) = xq m (v9 m n) := rfl
def Gz (F : CF -> Option (List Un)) : aW := ⟨[.lp [0, 1, 0, 1, 1], .blk 0, .code [1, 1, 1]], ⟨frm 26 [(0, .ai (sI 3)), (1, .ai (sI 3)), (5, .int .i64)], [], 0⟩, onU F⟩
theorem Oc (m : Nat) : ∀ n, HO N56 (Gz (v9 m n)) := au ah T45.right (fun k => [Gz k]) (fun k h => (aL h aB)) fun k a => by kernel_rfl
def t56 (m : Nat) : List Dat × List Dat -> Option (List Un) := fun (a0, a1) =>
 bif ((a0.length : Int) != (a1.length : Int)) then
 some ([.b false])
 else
 v9 m m (a0, a1, 0)
theorem Jc (m : Nat) : ∀ (rest rest' pre pre' : List Dat) (n : Nat), rest.length < n -> pre'.length = pre.length -> rest'.length = rest.length -> (pre ++ rest).length < 1099511627776 ->
 v9 m n (pre ++ rest, pre' ++ rest', (pre.length : Int)) = some [.b (fP 3 rest rest')] := by
 intro rest
 induction rest with
 | nil =>
  intro rest' pre pre' n hn hp hr hl; obtain ⟨n, rfl⟩ := al n (by simp at hn; omega); obtain rfl : rest' = [] := zaz (by simpa using hr); rw [ux]; unfold xq; dsimp only; simp [aF, fP]
 | cons x rest ih =>
  intro rest' pre pre' n hn hp hr hl; obtain ⟨n, rfl⟩ := al n (by simp at hn; omega); obtain ⟨y, rest', rfl⟩ : ∃ y l, rest' = y :: l := by cases rest' with | nil => simp at hr | cons y l => exact ⟨y, l, rfl⟩
  simp only [zae, zah] at hn hl hr; have := ih rest' (pre ++ [x]) (pre' ++ [y]) n (by omega) (by simp [hp]) (by omega) (by simp; omega); rw [ux]; unfold xq; dsimp only; simp only [fP, Dd, By, Nat.reduceAdd]; simp (disch := omega) only [TRa, TRi, aa, LNl, LNi, zaa, ax, vW _ _ _ _ hp]; simp only [LNl, LNi, zaa] at this ⊢
  (try simp only [bne, cond_not])
  cases (x.i 0 == y.i 0) <;> cases (x.i 1 == y.i 1) <;> cases (x.i 2 == y.i 2)
  all_goals (first | exact this | rfl)
def f56 : List Dat × List Dat -> Bool × List Un := fun (a0, a1) => (decide (a0.length < 1099511627776), [.b (fP 3 a0 a1)])
theorem LP (a0 : List Dat) (a1 : List Dat) (hc : (decide (a0.length < 1099511627776)) = true) : ∃ m, t56 m (a0, a1) = some ([.b (fP 3 a0 a1)]) := by
 have hs := zaj hc; refine ⟨a0.length + 1, ?_⟩; unfold t56; dsimp only
 by_cases h : a0.length = a1.length
 . rw [nY (by omega)]; exact Jc _ a0 a1 [] [] _ (by omega) rfl h.symm (by simpa using hs)
 . rw [nV (by omega), oN _ _ _ h]
theorem HC : ER 56 (mkE N56.en N56.ex f56) := an ah T45.right (fun m => [Gz (v9 m m)]) (t := t56) (by kernel_rfl) (fun m => (aL (Oc m m) aB)) (fun m a => by kernel_rfl) fun (a0, a1) hc => LP a0 a1 hc
def T56 : Tb Tryz.prog LQ TE XX := T45.add 56 _ HC
def N55 : aC := ⟨T56.tab, 55, ⟨[.ai (sI 4), .ai (sI 4)], [], 0⟩, ⟨[.bool], [], 0⟩, []⟩
abbrev CM : Type := List Dat × List Dat × Int
def xw (m : Nat) (k : CM -> Option (List Un)) : CM -> Option (List Un) := fun (a0, a1, a2) =>
 bif (decide (a2 < (a0.length : Int))) then
 chk (inb a2 a0.length) <|
 chk (decide (a2.toNat < a0.length)) <|
 lt (ag a0 a2.toNat : Dat) fun d3 =>
 chk (inb a2 a1.length) <|
 chk (decide (a2.toNat < a1.length)) <|
 lt (ag a1 a2.toNat : Dat) fun d4 =>
 bif (!(((d3.i 0) == (d4.i 0)) && (((d3.i 1) == (d4.i 1)) && (((d3.i 2) == (d4.i 2)) && (((d3.i 3) == (d4.i 3)) && true))))) then
 some ([.b false])
 else
 k (a0, a1, (w64 (a2 + 1)))
 else
 some ([.b true])
def vL (m : Nat) : Nat -> CM -> Option (List Un) := bo (xw m)
theorem tL (m : Nat) (n : Nat) : vL m (n + 1) = xw m (vL m n) := rfl
def F6 (F : CM -> Option (List Un)) : aW := ⟨[.lp [0, 1, 0, 1, 1], .blk 0, .code [1, 1, 1]], ⟨frm 26 [(0, .ai (sI 4)), (1, .ai (sI 4)), (5, .int .i64)], [], 0⟩, onU F⟩
theorem Ny (m : Nat) : ∀ n, HO N55 (F6 (vL m n)) := au ah T56.right (fun k => [F6 k]) (fun k h => (aL h aB)) fun k a => by kernel_rfl
def t55 (m : Nat) : List Dat × List Dat -> Option (List Un) := fun (a0, a1) =>
 bif ((a0.length : Int) != (a1.length : Int)) then
 some ([.b false])
 else
 vL m m (a0, a1, 0)
theorem Hv (m : Nat) : ∀ (rest rest' pre pre' : List Dat) (n : Nat), rest.length < n -> pre'.length = pre.length -> rest'.length = rest.length -> (pre ++ rest).length < 1099511627776 ->
 vL m n (pre ++ rest, pre' ++ rest', (pre.length : Int)) = some [.b (fP 4 rest rest')] := by
 intro rest
 induction rest with
 | nil =>
  intro rest' pre pre' n hn hp hr hl; obtain ⟨n, rfl⟩ := al n (by simp at hn; omega); obtain rfl : rest' = [] := zaz (by simpa using hr); rw [tL]; unfold xw; dsimp only; simp [aF, fP]
 | cons x rest ih =>
  intro rest' pre pre' n hn hp hr hl; obtain ⟨n, rfl⟩ := al n (by simp at hn; omega); obtain ⟨y, rest', rfl⟩ : ∃ y l, rest' = y :: l := by cases rest' with | nil => simp at hr | cons y l => exact ⟨y, l, rfl⟩
  simp only [zae, zah] at hn hl hr; have := ih rest' (pre ++ [x]) (pre' ++ [y]) n (by omega) (by simp [hp]) (by omega) (by simp; omega); rw [tL]; unfold xw; dsimp only; simp only [fP, Dd, By, Nat.reduceAdd]; simp (disch := omega) only [TRa, TRi, aa, LNl, LNi, zaa, ax, vW _ _ _ _ hp]; simp only [LNl, LNi, zaa] at this ⊢
  (try simp only [bne, cond_not])
  cases (x.i 0 == y.i 0) <;> cases (x.i 1 == y.i 1) <;> cases (x.i 2 == y.i 2) <;> cases (x.i 3 == y.i 3)
  all_goals (first | exact this | rfl)
def f55 : List Dat × List Dat -> Bool × List Un := fun (a0, a1) => (decide (a0.length < 1099511627776), [.b (fP 4 a0 a1)])
theorem MZ (a0 : List Dat) (a1 : List Dat) (hc : (decide (a0.length < 1099511627776)) = true) : ∃ m, t55 m (a0, a1) = some ([.b (fP 4 a0 a1)]) := by
 have hs := zaj hc; refine ⟨a0.length + 1, ?_⟩; unfold t55; dsimp only
 by_cases h : a0.length = a1.length
 . rw [nY (by omega)]; exact Hv _ a0 a1 [] [] _ (by omega) rfl h.symm (by simpa using hs)
 . rw [nV (by omega), oN _ _ _ h]
theorem J2 : ER 55 (mkE N55.en N55.ex f55) := an ah T56.right (fun m => [F6 (vL m m)]) (t := t55) (by kernel_rfl) (fun m => (aL (Ny m m) aB)) (fun m a => by kernel_rfl) fun (a0, a1) hc => MZ a0 a1 hc
def T55 : Tb Tryz.prog LQ TE XX := T56.add 55 _ J2
def mT (p q r s l : Int) : Bool := decide (0 <= p) && (decide (p <= 1099511627776) && (decide (0 <= q) && (decide (q <= 1099511627776) && (decide (0 <= r) && (decide (r <= 1099511627776) && (decide (0 <= s) && (decide (s <= 1099511627776) && (decide (0 <= l) && decide (l <= 12)))))))))
theorem zT {α : Type} {x : Int} {a b : α} : (bif decide (x < 0) then a else b) = bif decide (0 <= x) then b else a := by
 by_cases h : x < 0
 . rw [zai h, zaT (show ¬ 0 <= x by omega)]; rfl
 . rw [zaT h, zai (show 0 <= x by omega)]; rfl
theorem xk {α : Type} {x y : Int} {a b : α} : (bif decide (x > y) then a else b) = bif decide (x <= y) then b else a := by
 by_cases h : x > y
 . rw [zai h, zaT (show ¬ x <= y by omega)]; rfl
 . rw [zaT h, zai (show x <= y by omega)]; rfl
theorem mE {c y : Bool} : (bif c then some [Un.b y] else some [Un.b false]) = some [.b (c && y)] := by cases c <;> rfl
def Pc : aC := ⟨T55.tab, 101, ⟨[.agg [.int .i64, .int .i64, .int .i64, .int .i64, .int .i64, .int .i64, .bool]], [], 0⟩, ⟨[.bool], [], 0⟩, [[0, 1, 0, 1]]⟩
def t101 (m : Nat) : Int × Int × Int × Int × Int × Int × Bool -> Option (List Un) := fun (a0, a1, a2, a3, a4, a5, a6) =>
 lt ((([a1, a2, a3, a4]).getD 0 0) : Int) fun x1 =>
 bif decide (x1 < 0) then
 some ([.b false])
 else
 bif (decide (x1 > 1099511627776)) then
 some ([.b false])
 else
 lt ((([a1, a2, a3, a4]).getD 1 0) : Int) fun x3 =>
 bif decide (x3 < 0) then
 some ([.b false])
 else
 bif (decide (x3 > 1099511627776)) then
 some ([.b false])
 else
 lt ((([a1, a2, a3, a4]).getD 2 0) : Int) fun x5 =>
 bif decide (x5 < 0) then
 some ([.b false])
 else
 bif (decide (x5 > 1099511627776)) then
 some ([.b false])
 else
 lt ((([a1, a2, a3, a4]).getD 3 0) : Int) fun x7 =>
 bif decide (x7 < 0) then
 some ([.b false])
 else
 bif (decide (x7 > 1099511627776)) then
 some ([.b false])
 else
 bif decide (a5 >= 0) then
 some ([.b (decide (a5 <= 12))])
 else
 some ([.b false])
def f101 : Int × Int × Int × Int × Int × Int × Bool -> Bool × List Un := fun (a0, a1, a2, a3, a4, a5, a6) => (true, [.b (mT a1 a2 a3 a4 a5)])
theorem JT (a0 : Int) (a1 : Int) (a2 : Int) (a3 : Int) (a4 : Int) (a5 : Int) (a6 : Bool) : ∃ m, t101 m (a0, a1, a2, a3, a4, a5, a6) = some ([.b (mT a1 a2 a3 a4 a5)]) := by
 refine ⟨0, ?_⟩; unfold t101 mT; simp only [lt_eq, zaH, zav, zT, xk]; simp only [ge_iff_le, mE]
theorem F0 : ER 101 (mkE Pc.en Pc.ex f101) := an ah T55.right (fun m => []) (t := t101) (by kernel_rfl) (fun m => aB) (fun m a => by kernel_rfl) fun (a0, a1, a2, a3, a4, a5, a6) hc => JT a0 a1 a2 a3 a4 a5 a6
def J4 : Tb Tryz.prog LQ TE XX := T55.add 101 _ F0
def th : Int -> List Dat -> Bool
 | _, [] => true
 | last, d :: l => if d.i 0 <= last then false else if mT (d.i 1) (d.i 2) (d.i 3) (d.i 4) (d.i 5) then th (d.i 0) l else false
def pQ (l : List Dat) : Bool := decide (l.length <= 64) && th 0 l
def N68 : aC := ⟨J4.tab, 68, ⟨[.ai (sB 6)], [], 0⟩, ⟨[.bool], [], 0⟩, []⟩
abbrev CN : Type := Int × List Dat × Int × Int
def yf (m : Nat) (k : CN -> Option (List Un)) : CN -> Option (List Un) := fun (a0, a1, a2, a3) =>
 bif decide (a3 < a2) then
 chk (inb a3 a1.length) <|
 chk (decide (a3.toNat < a1.length)) <|
 lt (ag a1 a3.toNat : Dat) fun d2 =>
 bif decide ((d2.i 0) <= a0) then
 some ([.b false])
 else
 bif !(mT (d2.i 1) (d2.i 2) (d2.i 3) (d2.i 4) (d2.i 5)) then
 some ([.b false])
 else
 k ((d2.i 0), a1, a2, (w64 (a3 + 1)))
 else
 some ([.b true])
def vq (m : Nat) : Nat -> CN -> Option (List Un) := bo (yf m)
theorem uw (m : Nat) (n : Nat) : vq m (n + 1) = yf m (vq m n) := rfl
def Ge (F : CN -> Option (List Un)) : aW := ⟨[.lp [0, 1, 0, 1, 1, 1], .blk 0, .code [1, 1, 1, 1]], ⟨frm 27 [(3, .int .i64), (9, .ai (sB 6)), (10, .int .i64), (11, .int .i64)], [], 0⟩, onU F⟩
theorem NS (m : Nat) : ∀ n, HO N68 (Ge (vq m n)) := au ah J4.right (fun k => [Ge k]) (fun k h => (aL h aB)) fun k a => by kernel_rfl
def t68 (m : Nat) : List Dat -> Option (List Un) := fun a0 =>
 bif (decide ((a0.length : Int) > 64)) then
 some ([.b false])
 else
 vq m m (0, a0, (a0.length : Int), 0)
theorem NO (m : Nat) : ∀ (rest pre : List Dat) (n : Nat) (last : Int), rest.length < n -> (pre ++ rest).length <= 64 ->
 vq m n (last, pre ++ rest, ((pre ++ rest).length : Int), (pre.length : Int)) = some [.b (th last rest)] := by
 intro rest
 induction rest with
 | nil =>
  intro pre n last hn hl; obtain ⟨n, rfl⟩ := al n (by simp at hn; omega); rw [uw]; unfold yf; dsimp only; simp [aF, th]
 | cons x rest ih =>
  intro pre n last hn hl; obtain ⟨n, rfl⟩ := al n (by simp at hn; omega); simp only [zae, zah] at hn hl; have := ih (pre ++ [x]) n (x.i 0) (by omega) (by simp; omega); rw [uw]; unfold yf; dsimp only; simp only [LNl, LNi, zaa] at this ⊢; unfold th
  by_cases h1 : x.i 0 <= last
  . simp (disch := omega) only [TRa, TRi, aa, LNl, LNi, zaa, ax]; rw [if_pos h1]
  . rw [if_neg h1]
    by_cases h2 : mT (x.i 1) (x.i 2) (x.i 3) (x.i 4) (x.i 5) = true
    . rw [if_pos h2]; simp (disch := omega) only [TRa, TRi, aa, LNl, LNi, zaa, ax, h2]; exact this
    . rw [if_neg h2]; have h2 : mT (x.i 1) (x.i 2) (x.i 3) (x.i 4) (x.i 5) = false := by simpa using h2
      simp (disch := omega) only [TRa, TRi, aa, LNl, LNi, zaa, ax, h2]
def f68 : List Dat -> Bool × List Un := fun a0 => (true, [.b (pQ a0)])
theorem M9 (a0 : List Dat) : ∃ m, t68 m a0 = some ([.b (pQ a0)]) := by
 unfold pQ
 by_cases h : a0.length <= 64
 . refine ⟨a0.length + 1, ?_⟩; have := NO (a0.length + 1) a0 [] (a0.length + 1) 0 (by omega) (by simpa using h); unfold t68; rw [aF (by omega), zai h, zbg]; exact this
 . refine ⟨0, ?_⟩; unfold t68; rw [bE (by omega), zaT h]; rfl
theorem Ih : ER 68 (mkE N68.en N68.ex f68) := an ah J4.right (fun m => [Ge (vq m m)]) (t := t68) (by kernel_rfl) (fun m => (aL (NS m m) aB)) (fun m a => by kernel_rfl) fun a0 hc => M9 a0
def T68 : Tb Tryz.prog LQ TE XX := J4.add 68 _ Ih
def Ap (bal lost : Int) (ox : Bool) (pr pp it rc lt : Int) (df : Bool) : Bool :=
 bif ox then (pr == 0) && ((pp == 0) && ((it == 0) && ((lt == 0) && (!df && decide (rc <= lost)))))
 else bif decide (w64 (w64 (bal - pr) - pp) < 0) then false
 else bif df then (bif decide (rc <= w64 (lost + w64 (w64 (bal - pr) - pp))) then true else rc == 0) else rc == 0
theorem Ec {c x y : Bool} : (bif c then some [Un.b x] else some [Un.b y]) = some [.b (bif c then x else y)] := by cases c <;> rfl
def N70 : aC := ⟨T68.tab, 70, ⟨[.agg [.int .i64, .int .i64, .int .i64, .int .i64, .bool], .agg [.int .i64, .int .i64, .int .i64, .int .i64, .int .i64, .int .i64, .bool]], [], 0⟩, ⟨[.bool], [], 0⟩, []⟩
def t70 (m : Nat) : Int × Int × Int × Int × Bool × Int × Int × Int × Int × Int × Int × Bool -> Option (List Un) := fun (a0, a1, a2, a3, a4, a5, a6, a7, a8, a9, a10, a11) =>
 bif a4 then
 bif a6 == 0 then
 bif a7 == 0 then
 bif a8 == 0 then
 bif a10 == 0 then
 bif !a11 then
 some ([.b (decide (a9 <= a2))])
 else
 some ([.b false])
 else
 some ([.b false])
 else
 some ([.b false])
 else
 some ([.b false])
 else
 some ([.b false])
 else
 lt ((w64 ((w64 (a1 - a6)) - a7)) : Int) fun x1 =>
 bif decide (x1 < 0) then
 some ([.b false])
 else
 bif a11 then
 bif (decide (a9 <= (w64 (a2 + x1)))) then
 some ([.b true])
 else
 some ([.b (a9 == 0)])
 else
 some ([.b (a9 == 0)])
def f70 : Int × Int × Int × Int × Bool × Int × Int × Int × Int × Int × Int × Bool -> Bool × List Un := fun (a0, a1, a2, a3, a4, a5, a6, a7, a8, a9, a10, a11) => (true, [.b (Ap a1 a2 a4 a6 a7 a8 a9 a10 a11)])
theorem M1 (a0 : Int) (a1 : Int) (a2 : Int) (a3 : Int) (a4 : Bool) (a5 : Int) (a6 : Int) (a7 : Int) (a8 : Int) (a9 : Int) (a10 : Int) (a11 : Bool) : ∃ m, t70 m (a0, a1, a2, a3, a4, a5, a6, a7, a8, a9, a10, a11) = some ([.b (Ap a1 a2 a4 a6 a7 a8 a9 a10 a11)]) := by
 refine ⟨0, ?_⟩; unfold t70 Ap; simp only [lt_eq, Ec]; cases a4 <;> simp only [zaE, zao]
 cases (a6 == 0) <;> cases (a7 == 0) <;> cases (a8 == 0) <;> cases (a10 == 0) <;> cases a11 <;> rfl
theorem Hs : ER 70 (mkE N70.en N70.ex f70) := an ah T68.right (fun m => []) (t := t70) (by kernel_rfl) (fun m => aB) (fun m a => by kernel_rfl) fun (a0, a1, a2, a3, a4, a5, a6, a7, a8, a9, a10, a11) hc => M1 a0 a1 a2 a3 a4 a5 a6 a7 a8 a9 a10 a11
def T70 : Tb Tryz.prog LQ TE XX := T68.add 70 _ Hs
def sH (bal pr pp : Int) (df : Bool) : Int := bif df then 0 else w64 (bal - w64 (pr + pp))
def gB (bal pr pp : Int) (df : Bool) : Int := bif df then w64 (bal - w64 (pr + pp)) else 0
def nF (bal lost pr pp rc : Int) (df : Bool) : Int := bif df then w64 (w64 (lost + w64 (bal - w64 (pr + pp))) - rc) else w64 (lost - rc)
def nC (bal : Int) (ox : Bool) (pr pp lt : Int) (df : Bool) : Int := bif df then 0 else bif ox then 0 else bif w64 (bal - w64 (pr + pp)) == 0 then 0 else lt
def N71 : aC := ⟨T70.tab, 71, ⟨[.agg [.int .i64, .int .i64, .int .i64, .int .i64, .bool], .agg [.int .i64, .int .i64, .int .i64, .int .i64, .int .i64, .int .i64, .bool]], [], 0⟩, ⟨[.agg [.int .i64, .int .i64, .int .i64, .int .i64, .bool], .agg [.int .i64, .int .i64, .int .i64, .int .i64]], [], 0⟩, []⟩
def t71 (m : Nat) : Int × Int × Int × Int × Bool × Int × Int × Int × Int × Int × Int × Bool -> Option (List Un) := fun (a0, a1, a2, a3, a4, a5, a6, a7, a8, a9, a10, a11) =>
 lt ((w64 (a1 - (w64 (a6 + a7)))) : Int) fun x1 =>
 bif a11 then
 some ([.i a0, .i 0, .i (w64 ((w64 (a2 + x1)) - a9)), .i 0, .b true, .i (w64 (a6 + a7)), .i a8, .i x1, .i a9])
 else
 bif a4 then
 some ([.i a0, .i x1, .i (w64 (a2 - a9)), .i 0, .b a4, .i (w64 (a6 + a7)), .i a8, .i 0, .i a9])
 else
 bif x1 == 0 then
 some ([.i a0, .i x1, .i (w64 (a2 - a9)), .i 0, .b a4, .i (w64 (a6 + a7)), .i a8, .i 0, .i a9])
 else
 some ([.i a0, .i x1, .i (w64 (a2 - a9)), .i a10, .b a4, .i (w64 (a6 + a7)), .i a8, .i 0, .i a9])
def f71 : Int × Int × Int × Int × Bool × Int × Int × Int × Int × Int × Int × Bool -> Bool × List Un := fun (a0, a1, a2, a3, a4, a5, a6, a7, a8, a9, a10, a11) => (true, [.i (a0), .i (sH a1 a6 a7 a11), .i (nF a1 a2 a6 a7 a9 a11), .i (nC a1 a4 a6 a7 a10 a11), .b ((a11 || a4)), .i (w64 (a6 + a7)), .i (a8), .i (gB a1 a6 a7 a11), .i (a9)])
theorem Mc (a0 : Int) (a1 : Int) (a2 : Int) (a3 : Int) (a4 : Bool) (a5 : Int) (a6 : Int) (a7 : Int) (a8 : Int) (a9 : Int) (a10 : Int) (a11 : Bool) : ∃ m, t71 m (a0, a1, a2, a3, a4, a5, a6, a7, a8, a9, a10, a11) = some ([.i (a0), .i (sH a1 a6 a7 a11), .i (nF a1 a2 a6 a7 a9 a11), .i (nC a1 a4 a6 a7 a10 a11), .b ((a11 || a4)), .i (w64 (a6 + a7)), .i (a8), .i (gB a1 a6 a7 a11), .i (a9)]) := by
 refine ⟨0, ?_⟩; unfold t71 sH nF nC gB; simp only [lt_eq]; cases a11 <;> cases a4 <;> simp only [zaE, zao, Bool.or_true, Bool.or_false] <;> first | rfl | (cases (w64 (a1 - w64 (a6 + a7)) == 0) <;> rfl)
theorem IA : ER 71 (mkE N71.en N71.ex f71) := an ah T70.right (fun m => []) (t := t71) (by kernel_rfl) (fun m => aB) (fun m a => by kernel_rfl) fun (a0, a1, a2, a3, a4, a5, a6, a7, a8, a9, a10, a11) hc => Mc a0 a1 a2 a3 a4 a5 a6 a7 a8 a9 a10 a11
def T71 : Tb Tryz.prog LQ TE XX := T70.add 71 _ IA
def fa (id : Int) : Int -> List Dat -> Int
 | _, [] => -1
 | i, d :: l => if d.i 0 = id then i else fa id (i + 1) l
def MG : aC := ⟨T71.tab, 102, ⟨[.ai (sB 4), .fn 103 [] [.ptr 0 0 0]], [.cells [.int .i64]], 1⟩, ⟨[.int .i64], [.cells [.int .i64]], 1⟩, []⟩
abbrev wM : Type := List Dat × Int × Int × Int
def qU (m : Nat) (k : wM -> Option (List Un)) : wM -> Option (List Un) := fun (a0, a1, a2, a3) =>
 bif decide (a2 < a1) then
 chk (inb a2 a0.length) <|
 chk (decide (a2.toNat < a0.length)) <|
 bif ((ag a0 a2.toNat).i 0) == a3 then
 some ([.i a2, .i a3])
 else
 k (a0, a1, (w64 (a2 + 1)), a3)
 else
 some ([.i (-1), .i a3])
def px (m : Nat) : Nat -> wM -> Option (List Un) := bo (qU m)
theorem qb (m : Nat) (n : Nat) : px m (n + 1) = qU m (px m n) := rfl
def A9 (F : wM -> Option (List Un)) : aW := ⟨[.lp [0, 1, 0, 1], .blk 0, .code [1, 1]], ⟨frm 19 [(0, .ai (sB 4)), (1, .fn 103 [] [.ptr 0 0 0]), (7, .int .i64), (8, .int .i64)], [.cells [.int .i64]], 1⟩, onU F⟩
theorem Lt (m : Nat) : ∀ n, HO MG (A9 (px m n)) := au ah T71.right (fun k => [A9 k]) (fun k h => (aL h aB)) fun k a => by kernel_rfl
def t102 (m : Nat) : List Dat × Int -> Option (List Un) := fun (a0, a1) =>
 px m m (a0, (a0.length : Int), 0, a1)
theorem Ov (m : Nat) (id : Int) : ∀ (rest pre : List Dat) (n : Nat), rest.length < n -> (pre ++ rest).length < 1000000 ->
 px m n (pre ++ rest, ((pre ++ rest).length : Int), (pre.length : Int), id) = some [.i (fa id pre.length rest), .i id] := by
 intro rest
 induction rest with
 | nil =>
  intro pre n hn hl; obtain ⟨n, rfl⟩ := al n (by simp at hn; omega); rw [qb]; unfold qU; dsimp only; simp [aF, fa]
 | cons x rest ih =>
  intro pre n hn hl; obtain ⟨n, rfl⟩ := al n (by simp at hn; omega); simp only [zae, zah] at hn hl; have := ih (pre ++ [x]) n (by omega) (by simp; omega); rw [qb]; unfold qU; dsimp only; simp only [LNl, LNi, zaa] at this ⊢; unfold fa
  by_cases h1 : x.i 0 = id
  . simp (disch := omega) only [TRa, TRi, aa, LNl, LNi, zaa, ax]; rw [if_pos h1]
  . rw [if_neg h1]; simp (disch := omega) only [TRa, TRi, aa, LNl, LNi, zaa, ax]; exact this
def f102 : List Dat × Int -> Bool × List Un := fun (a0, a1) => (decide (a0.length < 1000000), [.i (fa a1 0 a0), .i (a1)])
theorem Kl (a0 : List Dat) (a1 : Int) (hc : (decide (a0.length < 1000000)) = true) : ∃ m, t102 m (a0, a1) = some ([.i (fa a1 0 a0), .i (a1)]) := by
 have h := zaj hc; exact ⟨a0.length + 1, Ov _ a1 a0 [] _ (by omega) (by simpa using h)⟩
theorem Gi : ER 102 (mkE MG.en MG.ex f102) := an ah T71.right (fun m => [A9 (px m m)]) (t := t102) (by kernel_rfl) (fun m => (aL (Lt m m) aB)) (fun m a => by kernel_rfl) fun (a0, a1) hc => Kl a0 a1 hc
def J9 : Tb Tryz.prog LQ TE XX := T71.add 102 _ Gi
def lz (x d : Dat) : Dat := .r [.n (x.i 0), .n (sH (x.i 1) (d.i 1) (d.i 2) (d.b 6)), .n (nF (x.i 1) (x.i 2) (d.i 1) (d.i 2) (d.i 4) (d.b 6)), .n (nC (x.i 1) (x.b 4) (d.i 1) (d.i 2) (d.i 5) (d.b 6)), .n (bI (d.b 6 || x.b 4))]
structure Fz where
 p : Int
 q : Int
 l : Int
 r : Int
 e : Int
 ba : List Dat
def DR (x d : Dat) : Bool := Ap (x.i 1) (x.i 2) (x.b 4) (d.i 1) (d.i 2) (d.i 3) (d.i 4) (d.i 5) (d.b 6)
def jw : List Dat -> Int -> Int -> Int -> Int -> List Dat -> Option Fz
 | l, p, q, s, r, [] => some ⟨p, q, s, r, 0, l⟩
 | l, p, q, s, r, d :: t => if fa (d.i 0) 0 l < 0 then none else
  if DR (ag l (fa (d.i 0) 0 l).toNat) d = true then
   jw (l.set (fa (d.i 0) 0 l).toNat (lz (ag l (fa (d.i 0) 0 l).toNat) d)) (w64 (p + w64 (d.i 1 + d.i 2))) (w64 (q + d.i 3)) (w64 (s + gB ((ag l (fa (d.i 0) 0 l).toNat).i 1) (d.i 1) (d.i 2) (d.b 6))) (w64 (r + d.i 4)) t
  else none
def aA (lines l : List Dat) : Fz := if pQ lines = true then (jw l 0 0 0 0 lines).getD ⟨0, 0, 0, 0, 3, l⟩ else ⟨0, 0, 0, 0, 3, l⟩
theorem yy (id : Int) : ∀ (l : List Dat) (i : Int), fa id i l = -1 \/ (i <= fa id i l /\ fa id i l < i + l.length)
 | [], i => .inl rfl
 | d :: l, i => by
  unfold fa
  by_cases h : d.i 0 = id
  . rw [if_pos h]; exact .inr ⟨by omega, by simp; omega⟩
  . rw [if_neg h]; rcases yy id l (i + 1) with h | ⟨h1, h2⟩
    . exact .inl h
    . refine .inr ⟨by omega, ?_⟩; simp only [zae]; omega
def N33 : aC := ⟨J9.tab, 33, ⟨[.ptr 0 0 0, .ai (sB 6)], [.cells [.buf 1 5], .ai (sB 4)], 0⟩, ⟨[.agg [.int .i64, .int .i64, .int .i64, .int .i64], .int .i64], [.cells [.buf 2 5], .gone, .ai (sB 4)], 0⟩, []⟩
abbrev CD : Type := List Dat × Int × Int × Int × Int × Int × Int × Int × Int × Int × Int × List Dat × List Dat
def xB (m : Nat) (k : CD -> Option (List Un)) : CD -> Option (List Un) := fun (a0, a1, a2, a3, a4, a5, a6, a7, a8, a9, a10, a11, a12) =>
 bif decide (a2 < a1) then
 chk (inb a2 a0.length) <|
 chk (decide (a2.toNat < a0.length)) <|
 lt (ag a0 a2.toNat : Dat) fun d1 =>
 chk (decide (a12.length < 1000000)) <|
 bif (decide ((fa (d1.i 0) 0 a12) < 0)) then
 some ([.i 0, .i 0, .i 0, .i 0, .i 3, .d a11])
 else
 chk (inb (fa (d1.i 0) 0 a12) a12.length) <|
 chk (decide ((fa (d1.i 0) 0 a12).toNat < a12.length)) <|
 lt (ag a12 ((fa (d1.i 0) 0 a12).toNat) : Dat) fun d3 =>
 bif !(Ap (d3.i 1) (d3.i 2) (d3.b 4) (d1.i 1) (d1.i 2) (d1.i 3) (d1.i 4) (d1.i 5) (d1.b 6)) then
 some ([.i 0, .i 0, .i 0, .i 0, .i 3, .d a11])
 else
 chk (inb (fa (d1.i 0) 0 a12) a12.length) <|
 chk (decide ((fa (d1.i 0) 0 a12).toNat < a12.length)) <|
 lt (ag a12 ((fa (d1.i 0) 0 a12).toNat) : Dat) fun d5 =>
 chk (inb (fa (d1.i 0) 0 a12) a12.length) <|
 chk (decide ((fa (d1.i 0) 0 a12).toNat < a12.length)) <|
 k (a0, a1, (w64 (a2 + 1)), a3, a4, a5, a6, (w64 (a7 + (w64 ((d1.i 1) + (d1.i 2))))), (w64 (a8 + (d1.i 3))), (w64 (a9 + (gB (d5.i 1) (d1.i 1) (d1.i 2) (d1.b 6)))), (w64 (a10 + (d1.i 4))), a11, (List.set a12 ((fa (d1.i 0) 0 a12).toNat) (.r [.n (d5.i 0), .n (sH (d5.i 1) (d1.i 1) (d1.i 2) (d1.b 6)), .n (nF (d5.i 1) (d5.i 2) (d1.i 1) (d1.i 2) (d1.i 4) (d1.b 6)), .n (nC (d5.i 1) (d5.b 4) (d1.i 1) (d1.i 2) (d1.i 5) (d1.b 6)), .n (bI ((d1.b 6) || (d5.b 4)))])))
 else
 some ([.i a7, .i a8, .i a9, .i a10, .i 0, .d a12])
def u7 (m : Nat) : Nat -> CD -> Option (List Un) := bo (xB m)
theorem tT (m : Nat) (n : Nat) : u7 m (n + 1) = xB m (u7 m n) := rfl
def FC (F : CD -> Option (List Un)) : aW := ⟨[.lp [0, 1, 0, 1, 1, 1, 1], .blk 0, .code [1, 1, 1, 1, 1]], ⟨frm 89 [(0, .ptr 0 0 0), (4, .ptr 2 0 0), (6, .ptr 3 0 0), (7, .ptr 4 0 0), (18, .ai (sB 6)), (19, .int .i64), (20, .int .i64)], [.cells [.buf 5 5], .gone, .cells [.int .i64, .int .i64, .int .i64, .int .i64], .cells [.buf 6 5], .cells [.int .i64, .int .i64, .int .i64, .int .i64], .ai (sB 4), .ai (sB 4)], 0⟩, onU F⟩
theorem Nr (m : Nat) : ∀ n, HO N33 (FC (u7 m n)) := au ah J9.right (fun k => [FC k]) (fun k h => (aL h aB)) fun k a => by kernel_rfl
def t33 (m : Nat) : List Dat × List Dat -> Option (List Un) := fun (a0, a1) =>
 bif !(pQ a0) then
 some ([.i 0, .i 0, .i 0, .i 0, .i 3, .d a1])
 else
 chk (decide (a1.length < 1000000)) <|
 u7 m m (a0, (a0.length : Int), 0, 0, 0, 0, 0, 0, 0, 0, 0, a1, a1)
def F2 (l0 : List Dat) (o : Option Fz) : List Un := match o with | some x => [.i x.p, .i x.q, .i x.l, .i x.r, .i x.e, .d x.ba] | none => [.i 0, .i 0, .i 0, .i 0, .i 3, .d l0]
theorem L6 (m : Nat) (l0 : List Dat) : ∀ (rest pre : List Dat) (n : Nat) (p q s r : Int) (l : List Dat), rest.length < n -> (pre ++ rest).length <= 64 -> l.length < 1000000 ->
 u7 m n (pre ++ rest, ((pre ++ rest).length : Int), (pre.length : Int), 0, 0, 0, 0, p, q, s, r, l0, l) = some (F2 l0 (jw l p q s r rest)) := by
 intro rest
 induction rest with
 | nil =>
  intro pre n p q s r l hn hl hll; obtain ⟨n, rfl⟩ := al n (by simp at hn; omega); rw [tT]; unfold xB; dsimp only; simp [aF, jw, F2]
 | cons x rest ih =>
  intro pre n p q s r l hn hl hll; obtain ⟨n, rfl⟩ := al n (by simp at hn; omega); simp only [zae, zah] at hn hl; rw [tT]; unfold xB; dsimp only; simp (disch := omega) only [TRa, TRi, aa, LNl, LNi, zaa, ax]; unfold jw; rcases yy (x.i 0) l 0 with h1 | ⟨h1, h2⟩
  . rw [bE (by omega), if_pos (by omega)]; rfl
  . rw [aF (by omega), if_neg (by omega)]; simp (disch := omega) only [TRa, TRi, aa, LNl, LNi, zaa, ax]
    by_cases h3 : DR (ag l (fa (x.i 0) 0 l).toNat) x = true
    . rw [if_pos h3]; have h4 := h3; unfold DR at h4; rw [h4]; have := ih (pre ++ [x]) n (w64 (p + w64 (x.i 1 + x.i 2))) (w64 (q + x.i 3)) (w64 (s + gB ((ag l (fa (x.i 0) 0 l).toNat).i 1) (x.i 1) (x.i 2) (x.b 6))) (w64 (r + x.i 4)) (l.set (fa (x.i 0) 0 l).toNat (lz (ag l (fa (x.i 0) 0 l).toNat) x)) (by omega) (by simp; omega) (by simpa using hll)
      try simp (disch := omega) only [TRa, TRi, aa, LNl, LNi, zaa, ax]
      simp only [LNl, LNi, zaa] at this ⊢; exact this
    . rw [if_neg h3]; have h4 := h3; unfold DR at h4; rw [show Ap _ _ _ _ _ _ _ _ _ = false from Bool.eq_false_iff.2 h4]; rfl
def f33 : List Dat × List Dat -> Bool × List Un := fun (a0, a1) => (decide (a1.length < 1000000), [.i ((aA a0 a1).p), .i ((aA a0 a1).q), .i ((aA a0 a1).l), .i ((aA a0 a1).r), .i ((aA a0 a1).e), .d ((aA a0 a1).ba)])
theorem MH (a0 : List Dat) (a1 : List Dat) (hc : (decide (a1.length < 1000000)) = true) : ∃ m, t33 m (a0, a1) = some ([.i ((aA a0 a1).p), .i ((aA a0 a1).q), .i ((aA a0 a1).l), .i ((aA a0 a1).r), .i ((aA a0 a1).e), .d ((aA a0 a1).ba)]) := by
 have h := zaj hc; unfold aA; cases ht : pQ a0 with
 | false =>
  refine ⟨0, ?_⟩; unfold t33; dsimp only; rw [ht]; rfl
 | true =>
  have hl : a0.length <= 64 := by
   simp only [pQ, zab, zag] at ht; exact ht.1
  refine ⟨a0.length + 1, ?_⟩; have := L6 (a0.length + 1) a1 a0 [] (a0.length + 1) 0 0 0 0 a1 (by omega) (by simpa using hl) h; unfold t33; dsimp only; rw [ht]; simp only [zbC, zao, za7]; rw [aN h]; refine this.trans ?_
  cases jw a1 0 0 0 0 a0 <;> rfl
theorem JD : ER 33 (mkE N33.en N33.ex f33) := an ah J9.right (fun m => [FC (u7 m m)]) (t := t33) (by kernel_rfl) (fun m => (aL (Nr m m) aB)) (fun m a => by kernel_rfl) fun (a0, a1) hc => MH a0 a1 hc
def T33 : Tb Tryz.prog LQ TE XX := J9.add 33 _ JD
def N31 : aC := ⟨T33.tab, 31, ⟨[.np 0 0 0], bX 0, 9⟩, ⟨[.ptr 9 0 0], bX 0 ++ bX 9, 9⟩, []⟩
def t31 (m : Nat) : Int × aw × az × ak × List Dat × List Dat × List Dat × List Dat × List Dat × List Dat × List Dat -> Option (List Un) := fun (a0, a1, a2, a3, a4, a5, a6, a7, a8, a9, a10) =>
 chk (decide (0 <= a0)) <|
 chk (decide (0 <= a0)) <|
 chk (decide ((⟨a1, a4, a5, a2, a6, a7, a8⟩ : bk).aZ.length < 1000000 /\ (⟨a1, a4, a5, a2, a6, a7, a8⟩ : bk).notes.length < 1000000 /\ (⟨a1, a4, a5, a2, a6, a7, a8⟩ : bk).s0.length < 1000000 /\ (⟨a1, a4, a5, a2, a6, a7, a8⟩ : bk).s1.length < 1000000 /\ (⟨a1, a4, a5, a2, a6, a7, a8⟩ : bk).s2.length < 1000000)) <|
 chk (decide (0 <= a0)) <|
 chk (decide (a9.length < 1000000)) <|
 chk (decide (0 <= a0)) <|
 chk (decide (a10.length < 1000000)) <|
 some (Uns.enc (a1 : aw) ++ Uns.enc (a2 : az) ++ Uns.enc (a3 : ak) ++ [.d a4, .d a5, .d a6, .d a7, .d a8, .d a9, .d a10] ++ Uns.enc (((⟨a1, a4, a5, a2, a6, a7, a8⟩ : bk).a) : aw) ++ Uns.enc (((⟨a1, a4, a5, a2, a6, a7, a8⟩ : bk).b) : az) ++ Uns.enc (a3 : ak) ++ [.d ((⟨a1, a4, a5, a2, a6, a7, a8⟩ : bk).aZ), .d ((⟨a1, a4, a5, a2, a6, a7, a8⟩ : bk).notes), .d ((⟨a1, a4, a5, a2, a6, a7, a8⟩ : bk).s0), .d ((⟨a1, a4, a5, a2, a6, a7, a8⟩ : bk).s1), .d ((⟨a1, a4, a5, a2, a6, a7, a8⟩ : bk).s2), .d a9, .d a10])
def f31 : Int × aw × az × ak × List Dat × List Dat × List Dat × List Dat × List Dat × List Dat × List Dat -> Bool × List Un := fun (a0, a1, a2, a3, a4, a5, a6, a7, a8, a9, a10) => (decide (0 <= a0) && decide (a4.length < 1000000 /\ a5.length < 1000000 /\ a6.length < 1000000 /\ a7.length < 1000000 /\ a8.length < 1000000 /\ a9.length < 1000000 /\ a10.length < 1000000), Uns.enc ((a1) : aw) ++ Uns.enc ((a2) : az) ++ Uns.enc ((a3) : ak) ++ [.d (a4), .d (a5), .d (a6), .d (a7), .d (a8), .d (a9), .d (a10)] ++ Uns.enc ((a1) : aw) ++ Uns.enc ((a2) : az) ++ Uns.enc ((a3) : ak) ++ [.d (a4), .d (a5), .d (a6), .d (a7), .d (a8), .d (a9), .d (a10)])
theorem Mv (a0 : Int) (a1 : aw) (a2 : az) (a3 : ak) (a4 : List Dat) (a5 : List Dat) (a6 : List Dat) (a7 : List Dat) (a8 : List Dat) (a9 : List Dat) (a10 : List Dat) (hc : (decide (0 <= a0) && decide (a4.length < 1000000 /\ a5.length < 1000000 /\ a6.length < 1000000 /\ a7.length < 1000000 /\ a8.length < 1000000 /\ a9.length < 1000000 /\ a10.length < 1000000)) = true) : ∃ m, t31 m (a0, a1, a2, a3, a4, a5, a6, a7, a8, a9, a10) = some (Uns.enc ((a1) : aw) ++ Uns.enc ((a2) : az) ++ Uns.enc ((a3) : ak) ++ [.d (a4), .d (a5), .d (a6), .d (a7), .d (a8), .d (a9), .d (a10)] ++ Uns.enc ((a1) : aw) ++ Uns.enc ((a2) : az) ++ Uns.enc ((a3) : ak) ++ [.d (a4), .d (a5), .d (a6), .d (a7), .d (a8), .d (a9), .d (a10)]) := by
 simp only [zab, zag] at hc; obtain ⟨h0, h1, h2, h3, h4, h5, h6, h7⟩ := hc; refine ⟨0, ?_⟩; unfold t31; dsimp only; simp (disch := omega) only [lt_eq, aN, hP]
theorem HM : ER 31 (mkE N31.en N31.ex f31) := an ah T33.right (fun m => []) (t := t31) (by kernel_rfl) (fun m => aB) (fun m a => by kernel_rfl) fun (a0, a1, a2, a3, a4, a5, a6, a7, a8, a9, a10) hc => Mv a0 a1 a2 a3 a4 a5 a6 a7 a8 a9 a10 hc
def T31 : Tb Tryz.prog LQ TE XX := T33.add 31 _ HM
def N65 : aC := ⟨T31.tab, 65, ⟨[.np 0 0 20, .int .i64], bX 0, 0⟩, ⟨[.bool], bX 0, 0⟩, []⟩
def t65 (m : Nat) : Int × Int × aw × az × ak × List Dat × List Dat × List Dat × List Dat × List Dat × List Dat × List Dat -> Option (List Un) := fun (a0, a1, a2, a3, a4, a5, a6, a7, a8, a9, a10, a11) =>
 chk (decide (0 <= a0)) <|
 lt ((([a4.rin, a1]).getD 0 0) : Int) fun x1 =>
 bif decide (x1 < 0) then
 some ([.b false] ++ Uns.enc (a2 : aw) ++ Uns.enc (a3 : az) ++ Uns.enc (a4 : ak) ++ [.d a5, .d a6, .d a7, .d a8, .d a9, .d a10, .d a11])
 else
 bif (decide (x1 > 1152921504606846976)) then
 some ([.b false] ++ Uns.enc (a2 : aw) ++ Uns.enc (a3 : az) ++ Uns.enc (a4 : ak) ++ [.d a5, .d a6, .d a7, .d a8, .d a9, .d a10, .d a11])
 else
 lt ((([a4.rin, a1]).getD 1 0) : Int) fun x3 =>
 bif decide (x3 < 0) then
 some ([.b false] ++ Uns.enc (a2 : aw) ++ Uns.enc (a3 : az) ++ Uns.enc (a4 : ak) ++ [.d a5, .d a6, .d a7, .d a8, .d a9, .d a10, .d a11])
 else
 bif decide (x3 > (w64 (1152921504606846976 - (w64 (0 + x1))))) then
 some ([.b false] ++ Uns.enc (a2 : aw) ++ Uns.enc (a3 : az) ++ Uns.enc (a4 : ak) ++ [.d a5, .d a6, .d a7, .d a8, .d a9, .d a10, .d a11])
 else
 chk (decide (0 <= a0)) <|
 some ([.b true] ++ Uns.enc (a2 : aw) ++ Uns.enc (a3 : az) ++ Uns.enc (({ a4 with rin := (w64 ((w64 (0 + x1)) + x3)) } : ak) : ak) ++ [.d a5, .d a6, .d a7, .d a8, .d a9, .d a10, .d a11])
def f65 : Int × Int × aw × az × ak × List Dat × List Dat × List Dat × List Dat × List Dat × List Dat × List Dat -> Bool × List Un := fun (a0, a1, a2, a3, a4, a5, a6, a7, a8, a9, a10, a11) => (decide (0 <= a0) && decide ((0 : Int) <= a4.rin /\ (0 : Int) <= a1 /\ a4.rin + a1 <= (1152921504606846976 : Int)), [.b (true)] ++ Uns.enc ((a2) : aw) ++ Uns.enc ((a3) : az) ++ Uns.enc (({ a4 with rin := a4.rin + a1 }) : ak) ++ [.d (a5), .d (a6), .d (a7), .d (a8), .d (a9), .d (a10), .d (a11)])
theorem LA (a0 : Int) (a1 : Int) (a2 : aw) (a3 : az) (a4 : ak) (a5 : List Dat) (a6 : List Dat) (a7 : List Dat) (a8 : List Dat) (a9 : List Dat) (a10 : List Dat) (a11 : List Dat) (hc : (decide (0 <= a0) && decide ((0 : Int) <= a4.rin /\ (0 : Int) <= a1 /\ a4.rin + a1 <= (1152921504606846976 : Int))) = true) : ∃ m, t65 m (a0, a1, a2, a3, a4, a5, a6, a7, a8, a9, a10, a11) = some ([.b (true)] ++ Uns.enc ((a2) : aw) ++ Uns.enc ((a3) : az) ++ Uns.enc (({ a4 with rin := a4.rin + a1 }) : ak) ++ [.d (a5), .d (a6), .d (a7), .d (a8), .d (a9), .d (a10), .d (a11)]) := by
 simp only [zab, zag] at hc; obtain ⟨h0, h1, h2, h3⟩ := hc; refine ⟨0, ?_⟩; unfold t65; dsimp only; simp only [lt_eq, zaH, zav]; simp (disch := omega) only [TRa, TRi, aa, za1]
theorem HQ : ER 65 (mkE N65.en N65.ex f65) := an ah T31.right (fun m => []) (t := t65) (by kernel_rfl) (fun m => aB) (fun m a => by kernel_rfl) fun (a0, a1, a2, a3, a4, a5, a6, a7, a8, a9, a10, a11) hc => LA a0 a1 a2 a3 a4 a5 a6 a7 a8 a9 a10 a11 hc
def T65 : Tb Tryz.prog LQ TE XX := T31.add 65 _ HQ
def oG : List Int -> Int -> Int × Bool
 | [], s => (s, true)
 | x :: l, s => bif (decide (x < 0) || decide (x > 1152921504606846976 - s)) then (0, false) else oG l (s + x)
def gG (l : List Int) : Int := (oG l 0).1
def jK (l : List Int) : Bool := (oG l 0).2
def pf (l : List Int) : Bool := l.all fun x => decide (0 <= x /\ x <= 1152921504606846976)
theorem CJ : ∀ (l : List Int) (s b : Int), 0 <= s -> 0 <= b -> (∀ x ∈ l, 0 <= x /\ x <= b) -> s + l.length * b <= 1152921504606846976 -> oG l s = (s + l.sum, true)
 | [], s, b, _, _, _, _ => by simp [oG]
 | x :: l, s, b, h1, h2, h3, h4 => by
  have hx := h3 x (by simp); have hm : 0 <= (l.length : Int) * b := zaZ (by omega) h2; have e : ((x :: l).length : Int) * b = l.length * b + b := by rw [zae, zay, zbT]; simp
  rw [e] at h4; have := CJ l (s + x) b (by omega) h2 (fun y hy => h3 y (by simp [hy])) (by omega); simp only [oG]; rw [show (decide (x < 0) || decide (x > 1152921504606846976 - s)) = false by simp; omega, zao, this, zbn]
  congr 1
  omega
theorem pn : ∀ (l : List Int) (b : Int), 0 <= b -> (∀ x ∈ l, 0 <= x /\ x <= b) -> 0 <= l.sum /\ l.sum <= l.length * b
 | [], b, _, _ => by simp
 | x :: l, b, h2, h3 => by
  have hx := h3 x (by simp); have e : ((x :: l).length : Int) * b = l.length * b + b := by rw [zae, zay, zbT]; simp
  have := pn l b h2 (fun y hy => h3 y (by simp [hy])); rw [e, zbn]; omega
theorem ry {l : List Int} {b : Int} (h2 : 0 <= b) (h3 : ∀ x ∈ l, 0 <= x /\ x <= b) (h4 : l.length * b <= 1152921504606846976) : gG l = l.sum /\ jK l = true := by
 have := CJ l 0 b (by omega) h2 h3 (by omega); unfold gG jK; rw [this]; simp
def bw (n s : Int) (l : List Int) : List Int := l.map fun c => n * c / s
def il (n s : Int) (l : List Int) : List Int := l.map fun c => n * c % s
theorem sN {l : List Int} : pf l = true ↔ ∀ x ∈ l, 0 <= x /\ x <= 1152921504606846976 := by simp [pf]
def jn (l : List Int) : List Int -> Nat -> Nat -> Nat
 | [], _, b => b
 | x :: r, i, b => jn l r (i + 1) (bif decide (x > l.getD b 0) then i else b)
def dm (l : List Int) : Nat := jn l l 0 0
def gp (z : Int) : Nat -> List Int -> List Int -> List Int
 | 0, o, _ => o
 | k + 1, o, l => gp z k (o.set (dm l) (o.getD (dm l) 0 + 1)) (l.set (dm l) z)
def cq (n : Int) (l : List Int) : List Int :=
 bif !(jK l) then List.replicate l.length 0 else
 bif decide (max n 0 >= gG l) then l else
 gp 0 (max n 0 - (bw (max n 0) (gG l) l).sum).toNat (bw (max n 0) (gG l) l) (il (max n 0) (gG l) l)
theorem zD (l : List Int) : ∀ (r : List Int) (i b : Nat), b < l.length -> i + r.length <= l.length -> jn l r i b < l.length
 | [], _, b, h, _ => h
 | x :: r, i, b, h, h2 => by
  simp only [zae] at h2; unfold jn; refine zD l r (i + 1) _ ?_ (by omega); cases decide (x > l.getD b 0)
  . exact h
  . show i < l.length; omega
theorem jL {l : List Int} (h : l ≠ []) : dm l < l.length := zD l l 0 0 (List.length_pos_iff.2 h) (by simp)
theorem zw : ∀ (l : List Int) (s : Int), 0 <= s -> s <= 1152921504606846976 -> (oG l s).2 = true -> (∀ x ∈ l, 0 <= x /\ x <= 1152921504606846976) /\ (oG l s).1 = s + l.sum /\ s + l.sum <= 1152921504606846976
 | [], s, h1, h2, _ => by simp [oG, h2]
 | x :: l, s, h1, h2, h3 => by
  simp only [oG] at h3 ⊢
  by_cases hx : x < 0 \/ x > 1152921504606846976 - s
  . rw [show (decide (x < 0) || decide (x > 1152921504606846976 - s)) = true by simpa using hx] at h3; cases h3
  . rw [show (decide (x < 0) || decide (x > 1152921504606846976 - s)) = false by simp; omega] at h3 ⊢; simp only [zao] at h3 ⊢; obtain ⟨a, b, c⟩ := zw l (s + x) (by omega) (by omega) h3; refine ⟨fun y hy => ?_, by rw [b, zbn]; omega, by rw [zbn]; omega⟩; rcases zbc.1 hy with rfl | hy
    . omega
    . exact a y hy
theorem jO {l : List Int} (h : jK l = true) : (∀ x ∈ l, 0 <= x /\ x <= 1152921504606846976) /\ gG l = l.sum /\ l.sum <= 1152921504606846976 := by
 obtain ⟨a, b, c⟩ := zw l 0 (by omega) (by omega) h; exact ⟨a, by unfold gG; omega, by omega⟩
theorem dG : ∀ (l : List Int), (∀ x ∈ l, 0 <= x) -> 0 <= l.sum
 | [], _ => by simp
 | x :: l, h => by
  have := h x (by simp); have := dG l (fun y hy => h y (by simp [hy])); rw [zbn]; omega
theorem uz {f g : Int -> Int} : ∀ (l : List Int), (∀ x ∈ l, f x <= g x) -> (l.map f).sum <= (l.map g).sum
 | [], _ => by simp
 | x :: l, h => by
  have := h x (by simp); have := uz l (fun y hy => h y (by simp [hy])); simp only [za0, zbn]; omega
theorem wI {n s : Int} {l : List Int} (h1 : 0 <= n) (h2 : n < s) (hb : ∀ x ∈ l, 0 <= x /\ x <= 1152921504606846976) : (∀ y ∈ bw n s l, 0 <= y /\ y <= 1152921504606846976) /\ 0 <= (bw n s l).sum /\ (bw n s l).sum <= l.sum := by
 have e : ∀ x ∈ l, 0 <= n * x / s /\ n * x / s <= x := fun x hx => by
  have hx := hb x hx; refine ⟨zbs (zaZ h1 hx.1) (by omega), ?_⟩; have : n * x <= s * x := za5 (by omega) hx.1; exact Int.ediv_le_of_le_mul (by omega) (by rw [za6 x s]; exact this)
 have a : ∀ y ∈ bw n s l, 0 <= y /\ y <= 1152921504606846976 := by
  intro y hy; obtain ⟨x, hx, rfl⟩ := zbp.1 hy; have := e x hx; have := hb x hx; omega
 refine ⟨a, dG _ (fun y hy => (a y hy).1), ?_⟩; have := uz (f := fun c => n * c / s) (g := id) l (fun x hx => (e x hx).2); simpa [bw] using this
theorem jc {l : List Int} {i : Nat} (h : i < l.length) : l.getD i 0 ∈ l := by
 rw [zaf, zac h]; exact zbB h
theorem wm (z : Int) : ∀ (k : Nat) (o l : List Int), (gp z k o l).length = o.length
 | 0, _, _ => rfl
 | k + 1, o, l => by simp [gp, wm z k]
theorem sy (n : Int) (l : List Int) : (cq n l).length = l.length := by
 unfold cq; cases jK l
 . simp
 . cases decide (max n 0 >= gG l)
   . simp [wm, bw]
   . simp
theorem qS : ∀ (l : List Int) (b : Nat) (v : Int), b < l.length -> (l.set b v).sum = l.sum - l.getD b 0 + v
 | [], b, v, h => by simp at h
 | x :: l, 0, v, _ => by simp; omega
 | x :: l, b + 1, v, h => by
  have := qS l b v (by simpa using h); simp only [zbN, zbn, zav]; omega
theorem gV (l : List Int) (b i : Nat) (v : Int) (h : b < l.length) : (l.set b v).getD i 0 = if i = b then v else l.getD i 0 := by
 simp only [zaf, zbd]
 by_cases e : b = i
 . subst e; simp [h]
 . rw [if_neg e, if_neg (zb6 e)]
theorem pC (l : List Int) : ∀ (r pre : List Int) (b : Nat), l = pre ++ r -> b < l.length -> (∀ j, j < pre.length -> l.getD j 0 <= l.getD b 0) -> (∀ j, j < b -> l.getD j 0 < l.getD b 0) -> b <= pre.length ->
 (∀ j, j < l.length -> l.getD j 0 <= l.getD (jn l r pre.length b) 0) /\ ∀ j, j < jn l r pre.length b -> l.getD j 0 < l.getD (jn l r pre.length b) 0
 | [], pre, b, he, hb, h1, h2, _ => by
  have : pre.length = l.length := by rw [he]; simp
  exact ⟨fun j hj => h1 j (by omega), h2⟩
 | x :: r, pre, b, he, hb, h1, h2, h3 => by
  have hg : l.getD pre.length 0 = x := by rw [he]; simp
  have hl : l.length = pre.length + (r.length + 1) := by rw [he]; simp
  have hp : (pre ++ [x]).length = pre.length + 1 := by simp
  simp only [jn]; rw [<- hp]
  by_cases hx : x > l.getD b 0
  . rw [show decide (x > l.getD b 0) = true from zai hx, zaE]; refine pC l r (pre ++ [x]) pre.length (by rw [he]; simp) (by omega) (fun j hj => ?_) (fun j hj => ?_) (by omega)
    . rw [hp] at hj
      by_cases e : j = pre.length
      . subst e; omega
      . have := h1 j (by omega); omega
    . have := h1 j hj; omega
  . rw [show decide (x > l.getD b 0) = false from zaT hx, zao]; refine pC l r (pre ++ [x]) b (by rw [he]; simp) hb (fun j hj => ?_) h2 (by omega); rw [hp] at hj
    by_cases e : j = pre.length
    . subst e; omega
    . exact h1 j (by omega)
theorem ke {l : List Int} (h : l ≠ []) : (∀ j, j < l.length -> l.getD j 0 <= l.getD (dm l) 0) /\ ∀ j, j < dm l -> l.getD j 0 < l.getD (dm l) 0 :=
 pC l l [] 0 rfl (List.length_pos_iff.2 h) (fun j hj => by simp at hj) (fun j hj => by omega) (by simp)
theorem lG : ∀ (l : List Int), (∀ x ∈ l, x <= 0) -> l.sum <= 0
 | [], _ => by simp
 | x :: l, h => by
  have := h x (by simp); have := lG l (fun y hy => h y (by simp [hy])); rw [zbn]; omega
theorem nJ {l : List Int} {x : Int} (h : x ∈ l) : ∃ j, j < l.length /\ l.getD j 0 = x := by
 obtain ⟨j, hj, rfl⟩ := List.getElem_of_mem h; exact ⟨j, hj, by rw [zaf, zac hj]; rfl⟩
theorem uZ {s : Int} (hs : 0 < s) : ∀ (k : Nat) (o l : List Int), o.length = l.length -> (∀ x ∈ l, 0 <= x /\ x < s) -> s * (k : Int) <= l.sum ->
 (gp 0 k o l).sum = o.sum + k /\ (∀ i, i < l.length -> (gp 0 k o l).getD i 0 = o.getD i 0 \/ ((gp 0 k o l).getD i 0 = o.getD i 0 + 1 /\ 0 < l.getD i 0)) /\
 ∀ i j, i < j -> j < l.length -> l.getD j 0 <= l.getD i 0 -> (gp 0 k o l).getD j 0 - o.getD j 0 <= (gp 0 k o l).getD i 0 - o.getD i 0
 | 0, o, l, hl, hb, hk => by simp [gp]
 | k + 1, o, l, hl, hb, hk => by
  have e1 : s * ((k + 1 : Nat) : Int) = s * k + s := by rw [zay, zbZ]; simp
  rw [e1] at hk; have hk0 : 0 <= s * (k : Int) := zaZ (by omega) (by omega); have hne : l ≠ [] := by rintro rfl; simp at hk; omega
  have hB := jL hne; obtain ⟨hm, hf⟩ := ke hne; have hpos : 0 < l.getD (dm l) 0 := by
   rcases Int.lt_or_le 0 (l.getD (dm l) 0) with h | h
   . exact h
   . have := lG l (fun x hx => by
      obtain ⟨j, hj, rfl⟩ := nJ hx; have := hm j hj; omega)
     omega
  have hmem := hb _ (jc hB); simp only [gp]; generalize hbb : dm l = b at *
  have hs' := qS l b 0 hB; have ho' := qS o b (o.getD b 0 + 1) (by omega); obtain ⟨g1, g2, g3⟩ := uZ hs k (o.set b (o.getD b 0 + 1)) (l.set b 0) (by simp [hl]) (fun x hx => by
   rcases zbI hx with h | h
   . exact hb x h
   . omega) (by omega)
  generalize gp 0 k (o.set b (o.getD b 0 + 1)) (l.set b 0) = y at *
  simp only [zbb] at g2 g3; refine ⟨by rw [g1, ho']; simp only [zay]; omega, fun i hi => ?_, fun i j hij hj hle => ?_⟩
  . have := g2 i hi; rw [gV _ _ _ _ (by omega), gV _ _ _ _ hB] at this
    by_cases e : i = b
    . subst e; simp only [↓reduceIte] at this; right; omega
    . simpa [e] using this
  . have a1 := g2 i (by omega); have a2 := g2 j hj; have a3 := g3 i j hij hj; rw [gV _ _ _ _ (by omega), gV _ _ _ _ hB] at a1 a2; rw [gV _ _ _ _ hB, gV _ _ _ _ hB, gV _ _ _ _ (by omega), gV _ _ _ _ (by omega)] at a3
    by_cases ei : i = b
    . subst ei; have ne : ¬ j = i := by omega
      simp only [↓reduceIte, ne] at a1 a2 a3; omega
    . by_cases ej : j = b
      . subst ej; have := hf i hij; omega
      . simp only [ei, ej, zbe] at a1 a2 a3; exact a3 hle
theorem sC (a s : Int) : ∀ l : List Int, s * (bw a s l).sum + (il a s l).sum = a * l.sum
 | [] => by simp [bw, il]
 | x :: l => by
  have := sC a s l; have e := zba (a * x) s; show s * (a * x / s + (bw a s l).sum) + (a * x % s + (il a s l).sum) = a * (x + l.sum)
  rw [zbZ, zbZ]; omega
theorem vl (f : Int -> Int) {l : List Int} {b : Nat} (h : b < l.length) : (l.map f).getD b 0 = f (l.getD b 0) := by
 simp [zaf, zac h]
theorem Eh {a : Int} {l : List Int} (ha : 0 <= a) (hok : jK l = true) (hlt : a < l.sum) : (cq a l).sum = a /\
 (∀ i, i < l.length -> (cq a l).getD i 0 = a * l.getD i 0 / l.sum \/ ((cq a l).getD i 0 = a * l.getD i 0 / l.sum + 1 /\ 0 < a * l.getD i 0 % l.sum)) /\
 ∀ i j, i < j -> j < l.length -> a * l.getD j 0 % l.sum <= a * l.getD i 0 % l.sum -> (cq a l).getD j 0 - a * l.getD j 0 / l.sum <= (cq a l).getD i 0 - a * l.getD i 0 / l.sum := by
 obtain ⟨hb, hs, hs2⟩ := jO hok; have hr : ∀ x ∈ il a l.sum l, 0 <= x /\ x < l.sum := by
  intro y hy; obtain ⟨x, hx, rfl⟩ := zbp.1 hy; exact ⟨zbA _ (by omega), zbk _ (by omega)⟩
 have hsum := sC a l.sum l; have hr0 := dG _ (fun x hx => (hr x hx).1); have hk : 0 <= a - (bw a l.sum l).sum := by
  have : l.sum * (bw a l.sum l).sum <= l.sum * a := by rw [za6 l.sum a]; omega
  have := Int.le_of_mul_le_mul_left this (by omega); omega
 have he : cq a l = gp 0 (a - (bw a l.sum l).sum).toNat (bw a l.sum l) (il a l.sum l) := by
  unfold cq; rw [hok, hs, show max a 0 = a by omega, show decide (a >= l.sum) = false from zaT (by omega)]; rfl
 have hl1 : (bw a l.sum l).length = l.length := by simp [bw]
 have hl2 : (il a l.sum l).length = l.length := by simp [il]
 have d := uZ (s := l.sum) (by omega) (a - (bw a l.sum l).sum).toNat (bw a l.sum l) (il a l.sum l) (by omega) hr (by
  rw [Int.toNat_of_nonneg hk, Int.mul_sub, za6 l.sum a]; omega)
 rw [<- he, hl2] at d; obtain ⟨d1, d2, d3⟩ := d; have ef : ∀ i, i < l.length -> (bw a l.sum l).getD i 0 = a * l.getD i 0 / l.sum := fun i hi => vl _ hi
 have er : ∀ i, i < l.length -> (il a l.sum l).getD i 0 = a * l.getD i 0 % l.sum := fun i hi => vl _ hi
 refine ⟨by rw [d1, Int.toNat_of_nonneg hk]; omega, fun i hi => ?_, fun i j hij hj hle => ?_⟩
 . have := d2 i hi
   rwa [ef i hi, er i hi] at this
 . have := d3 i j hij hj (by rw [er i (by omega), er j hj]; exact hle)
   rwa [ef i (by omega), ef j hj] at this
theorem DY {a : Int} {l : List Int} (hok : jK l = true) (hge : l.sum <= max a 0) : cq a l = l := by
 obtain ⟨hb, hs, hs2⟩ := jO hok; unfold cq; rw [hok, hs, show decide (max a 0 >= l.sum) = true from zai hge]; rfl
theorem JF {a x s : Int} (ha : 0 <= a) (hlt : a < s) (hx : 0 <= x) : 0 <= a * x / s /\ a * x / s <= x /\ (0 < a * x % s -> a * x / s + 1 <= x) := by
 have e := zba (a * x) s; have hm : a * x <= (s - 1) * x := za5 (by omega) hx; have hsx : (s - 1) * x = s * x - x := by rw [Int.sub_mul, Int.one_mul]
 refine ⟨zbs (zaZ ha hx) (by omega), Int.ediv_le_of_le_mul (by omega) (by rw [za6 x s]; omega), fun h => ?_⟩; have : s * (a * x / s) < s * x := by omega
 have := Int.lt_of_mul_lt_mul_left this (by omega); omega
theorem yP {a : Int} {l : List Int} (ha : 0 <= a) (hok : jK l = true) : (cq a l).sum = min a l.sum /\ ∀ i, i < l.length -> 0 <= (cq a l).getD i 0 /\ (cq a l).getD i 0 <= l.getD i 0 := by
 obtain ⟨hb, hs, hs2⟩ := jO hok
 by_cases h : l.sum <= a
 . rw [DY hok (by omega)]; exact ⟨by omega, fun i hi => ⟨(hb _ (jc hi)).1, zb5 _⟩⟩
 . obtain ⟨h1, h2, _⟩ := Eh ha hok (by omega); refine ⟨by omega, fun i hi => ?_⟩; have hx := hb _ (jc hi); have := JF (a := a) (s := l.sum) ha (by omega) hx.1; rcases h2 i hi with h | ⟨h, h'⟩ <;> omega
def bt : List Bool -> List Int -> List Int
 | [], _ => []
 | false :: ms, l => 0 :: bt ms l
 | true :: ms, l => l.headD 0 :: bt ms l.tail
def iG : List Bool -> Nat -> Nat
 | [], _ => 0
 | false :: ms, i => iG ms i + 1
 | true :: _, 0 => 0
 | true :: ms, i + 1 => iG ms i + 1
def bu : List Bool -> Nat
 | [] => 0
 | false :: ms => bu ms
 | true :: ms => bu ms + 1
theorem jT : ∀ (ms : List Bool) (l : List Int), (bt ms l).length = ms.length
 | [], _ => rfl
 | false :: ms, l => by simp [bt, jT ms l]
 | true :: ms, l => by simp [bt, jT ms l.tail]
theorem rK : ∀ (ms : List Bool) (i : Nat), i < bu ms -> iG ms i < ms.length
 | [], i, h => by simp [bu] at h
 | false :: ms, i, h => by have := rK ms i h; simp [iG]; omega
 | true :: ms, 0, _ => by simp [iG]
 | true :: ms, i + 1, h => by have := rK ms i (by simpa [bu] using h); simp [iG]; omega
theorem pa : ∀ (ms : List Bool) (i j : Nat), i < j -> j < bu ms -> iG ms i < iG ms j
 | [], i, j, _, h => by simp [bu] at h
 | false :: ms, i, j, h, h2 => by have := pa ms i j h h2; simp [iG]; omega
 | true :: ms, 0, j + 1, _, _ => by simp [iG]
 | true :: ms, i + 1, j + 1, h, h2 => by have := pa ms i j (by omega) (by simpa [bu] using h2); simp [iG]; omega
theorem gH : ∀ (ms : List Bool) (l : List Int) (i : Nat), l.length = bu ms -> i < bu ms -> (bt ms l).getD (iG ms i) 0 = l.getD i 0
 | [], l, i, _, h => by simp [bu] at h
 | false :: ms, l, i, h, h2 => by simp only [bt, iG, zav]; exact gH ms l i h h2
 | true :: ms, [], i, h, _ => by simp [bu] at h
 | true :: ms, x :: l, 0, h, _ => by simp [bt, iG]
 | true :: ms, x :: l, i + 1, h, h2 => by
  simp only [bt, iG, zav, List.tail_cons]; exact gH ms l i (by simpa [bu] using h) (by simpa [bu] using h2)
theorem oC : ∀ (ms : List Bool) (l : List Int) (i : Nat) (v : Int), l.length = bu ms -> i < bu ms -> (bt ms l).set (iG ms i) v = bt ms (l.set i v)
 | [], l, i, v, _, h => by simp [bu] at h
 | false :: ms, l, i, v, h, h2 => by simp only [bt, iG, zbN]; rw [oC ms l i v h h2]
 | true :: ms, [], i, v, h, _ => by simp [bu] at h
 | true :: ms, x :: l, 0, v, h, _ => by simp [bt, iG]
 | true :: ms, x :: l, i + 1, v, h, h2 => by
  simp only [bt, iG, zbN, List.tail_cons, List.headD_cons]; rw [oC ms l i v (by simpa [bu] using h) (by simpa [bu] using h2)]
theorem rA : ∀ (ms : List Bool) (p : Nat), p < ms.length -> (∃ i, i < bu ms /\ p = iG ms i) \/ ∀ l, (bt ms l).getD p 0 = 0
 | [], p, h => by simp at h
 | false :: ms, 0, _ => .inr fun l => by simp [bt]
 | true :: ms, 0, _ => .inl ⟨0, by simp [bu], by simp [iG]⟩
 | false :: ms, p + 1, h => by
  rcases rA ms p (by simpa using h) with ⟨i, h1, h2⟩ | h2
  . exact .inl ⟨i, h1, by simp [iG, h2]⟩
  . exact .inr fun l => by simp only [bt, zav]; exact h2 l
 | true :: ms, p + 1, h => by
  rcases rA ms p (by simpa using h) with ⟨i, h1, h2⟩ | h2
  . exact .inl ⟨i + 1, by simp [bu, h1], by simp [iG, h2]⟩
  . exact .inr fun l => by simp only [bt, zav]; exact h2 _
theorem zL {l : List Int} {b : Nat} (hb : b < l.length) (h1 : ∀ j, j < l.length -> l.getD j 0 <= l.getD b 0) (h2 : ∀ j, j < b -> l.getD j 0 < l.getD b 0) : dm l = b := by
 have hne : l ≠ [] := by rintro rfl; simp at hb
 obtain ⟨m1, m2⟩ := ke hne; have hB := jL hne; rcases Nat.lt_trichotomy (dm l) b with h | h | h
 . have := h2 _ h; have := m1 b hb; omega
 . exact h
 . have := m2 _ h; have := h1 _ hB; omega
theorem zE (ms : List Bool) (l : List Int) (hl : l.length = bu ms) (hp : 0 < l.getD (dm l) 0) : dm (bt ms l) = iG ms (dm l) := by
 have hne : l ≠ [] := by rintro rfl; simp at hp
 obtain ⟨m1, m2⟩ := ke hne; have hB := jL hne; rw [hl] at hB; refine zL (by rw [jT]; exact rK ms _ hB) (fun j hj => ?_) (fun j hj => ?_)
 . rw [gH ms l _ hl hB]; rw [jT] at hj; rcases rA ms j hj with ⟨i, h1, rfl⟩ | h2
   . rw [gH ms l i hl h1]; exact m1 i (by omega)
   . rw [h2]; omega
 . rw [gH ms l _ hl hB]; have hj2 : j < ms.length := Nat.lt_trans hj (rK ms _ hB); rcases rA ms j hj2 with ⟨i, h1, rfl⟩ | h2
   . rw [gH ms l i hl h1]; refine m2 i ?_
     rcases Nat.lt_trichotomy i (dm l) with h | h | h
     . exact h
     . subst h; omega
     . have := pa ms _ _ h h1; omega
   . rw [h2]; exact hp
theorem v5 {s : Int} (hs : 0 < s) (ms : List Bool) : ∀ (k : Nat) (o l : List Int), o.length = bu ms -> l.length = bu ms -> (∀ x ∈ l, 0 <= x /\ x < s) -> s * (k : Int) <= l.sum ->
 gp 0 k (bt ms o) (bt ms l) = bt ms (gp 0 k o l)
 | 0, o, l, _, _, _, _ => rfl
 | k + 1, o, l, ho, hl, hb, hk => by
  have e1 : s * ((k + 1 : Nat) : Int) = s * k + s := by rw [zay, zbZ]; simp
  rw [e1] at hk; have hk0 : 0 <= s * (k : Int) := zaZ (by omega) (by omega); have hne : l ≠ [] := by rintro rfl; simp at hk; omega
  have hB := jL hne; obtain ⟨hm, hf⟩ := ke hne; have hpos : 0 < l.getD (dm l) 0 := by
   rcases Int.lt_or_le 0 (l.getD (dm l) 0) with h | h
   . exact h
   . have := lG l (fun x hx => by
      obtain ⟨j, hj, rfl⟩ := nJ hx; have := hm j hj; omega)
     omega
  have hmem := hb _ (jc hB); have hs' := qS l (dm l) 0 hB; simp only [gp]; rw [zE ms l hl hpos, gH ms o _ ho (by omega), oC ms o _ _ ho (by omega), oC ms l _ _ hl (by omega)]; refine v5 hs ms k _ _ (by simpa using ho) (by simpa using hl) (fun x hx => ?_) (by omega); rcases zbI hx with h | h
  . exact hb x h
  . omega
theorem ob (f : Int -> Int) (h0 : f 0 = 0) : ∀ (ms : List Bool) (l : List Int), (bt ms l).map f = bt ms (l.map f)
 | [], _ => rfl
 | false :: ms, l => by simp [bt, h0, ob f h0 ms l]
 | true :: ms, l => by
  simp only [bt, za0, ob f h0 ms l.tail]; cases l with
  | nil => simp [h0]
  | cons x l => simp
theorem k9 : ∀ (ms : List Bool) (l : List Int), l.length = bu ms -> (bt ms l).sum = l.sum
 | [], l, h => by rw [zaz h]; rfl
 | false :: ms, l, h => by simp [bt, k9 ms l h]
 | true :: ms, [], h => by simp [bu] at h
 | true :: ms, x :: l, h => by simp [bt, k9 ms l (by simpa [bu] using h)]
theorem sQ : ∀ (ms : List Bool) (l : List Int) (y : Int), y ∈ bt ms l -> y = 0 \/ y ∈ l
 | [], _, y, h => by simp [bt] at h
 | false :: ms, l, y, h => by
  simp only [bt, zbc] at h; rcases h with h | h
  . exact .inl h
  . exact sQ ms l y h
 | true :: ms, l, y, h => by
  simp only [bt, zbc] at h; rcases h with h | h
  . cases l with
    | nil => exact .inl (by simpa using h)
    | cons x l => exact .inr (by simp at h; simp [h])
  . rcases sQ ms l.tail y h with h | h
    . exact .inl h
    . exact .inr (List.mem_of_mem_tail h)
theorem DQ (ms : List Bool) (n : Int) (l : List Int) (hl : l.length = bu ms) (b : Int) (hb0 : 0 <= b) (hb : ∀ x ∈ l, 0 <= x /\ x <= b) (h4 : ms.length * b <= 1152921504606846976) :
 cq n (bt ms l) = bt ms (cq n l) := by
 have hlm : bu ms <= ms.length := by
  clear hl h4
  induction ms with
  | nil => simp [bu]
  | cons c ms ih => cases c <;> simp [bu] <;> omega
 have hlb : (l.length : Int) * b <= ms.length * b := za5 (by omega) hb0; obtain ⟨s1, o1⟩ := ry hb0 hb (by omega); have hb2 : ∀ x ∈ bt ms l, 0 <= x /\ x <= b := fun x hx => by
  rcases sQ ms l x hx with h | h
  . omega
  . exact hb x h
 obtain ⟨s2, o2⟩ := ry hb0 hb2 (by rw [jT]; exact h4); rw [k9 ms l hl] at s2; obtain ⟨hB, _, hs2⟩ := jO o1; have h0 := dG l (fun x hx => (hb x hx).1); unfold cq; rw [o1, o2, s1, s2]; simp only [zbC, zao]
 by_cases h : max n 0 >= l.sum
 . rw [zai h, zaE, zaE]
 . rw [zaT h, zao, zao]; have ef : bw (max n 0) l.sum (bt ms l) = bt ms (bw (max n 0) l.sum l) := ob (fun c => max n 0 * c / l.sum) (by simp) ms l; have er : il (max n 0) l.sum (bt ms l) = bt ms (il (max n 0) l.sum l) := ob (fun c => max n 0 * c % l.sum) (by simp) ms l; have lf : (bw (max n 0) l.sum l).length = bu ms := by simpa [bw] using hl
   have lr : (il (max n 0) l.sum l).length = bu ms := by simpa [il] using hl
   rw [ef, er, k9 ms _ lf]; have hr : ∀ x ∈ il (max n 0) l.sum l, 0 <= x /\ x < l.sum := by
    intro y hy; obtain ⟨x, hx, rfl⟩ := zbp.1 hy; exact ⟨zbA _ (by omega), zbk _ (by omega)⟩
   have hsum := sC (max n 0) l.sum l; have hr0 := dG _ (fun x hx => (hr x hx).1); have hk : 0 <= max n 0 - (bw (max n 0) l.sum l).sum := by
    have : l.sum * (bw (max n 0) l.sum l).sum <= l.sum * max n 0 := by rw [za6 l.sum (max n 0)]; omega
    have := Int.le_of_mul_le_mul_left this (by omega); omega
   exact v5 (s := l.sum) (by omega) ms _ _ _ lf lr hr (by rw [Int.toNat_of_nonneg hk, Int.mul_sub, za6 l.sum (max n 0)]; omega)
theorem Ma {n c p : Int} (h1 : 0 <= n) (h2 : n < p) (h3 : p <= 1152921504606846976) (h4 : 0 <= c) (h5 : c <= 1152921504606846976) : mdV n c p 0 = n * c / p /\ nf n c p 0 = true /\ 0 <= n * c / p /\ n * c / p <= c := by
 have h : n * c / p <= c := by
  have : n * c <= p * c := za5 (by omega) h4; exact Int.ediv_le_of_le_mul (by omega) (by rw [za6 c p]; exact this)
 have ok : nf n c p 0 = true := by rw [CQ h1 (by omega) h4 h5 (by omega) h3 (by omega) (by omega), Ln]; simp; omega
 exact ⟨by unfold mdV; rw [ok, Ln]; rfl, ok, zbs (zaZ h1 h4) (by omega), h⟩
theorem Jg {n c s q : Int} (hq : q = n * c / s) (h1 : 0 <= n) (h2 : 0 < s) (h3 : s <= 1152921504606846976) (h4 : 0 <= c) :
 oj (oj (oj n * oj c) - oj (oj q * oj s)) = n * c % s := by
 show IntKind.u64.wrap (IntKind.u64.wrap (IntKind.u64.wrap n * IntKind.u64.wrap c) - IntKind.u64.wrap (IntKind.u64.wrap q * IntKind.u64.wrap s)) = n * c % s; simp only [mb]; rw [<- Int.mul_emod, <- Int.mul_emod, <- Int.sub_emod]; have e := zba (n * c) s; have a := zbA (n * c) (show s ≠ 0 by omega); have b := zbk (n * c) h2; rw [<- hq] at e; rw [show n * c - q * s = n * c % s by rw [za6 q s]; omega]; exact Int.emod_eq_of_lt a (by omega)
theorem yM {α : Type} (pre done : List α) (x y : α) (rest : List α) (h : done.length = pre.length) : List.set (done ++ x :: rest) pre.length y = done ++ y :: rest := by rw [<- h]; simp
def Ml : aC := ⟨T65.tab, 100, ⟨[.ints .i64], [], 0⟩, ⟨[.int .i64, .bool], [], 0⟩, []⟩
abbrev ye : Type := Int × List Int × Int × Int
def rz (m : Nat) (k : ye -> Option (List Un)) : ye -> Option (List Un) := fun (a0, a1, a2, a3) =>
 bif decide (a3 < a2) then
 chk (inb a3 a1.length) <|
 chk (decide (a3.toNat < a1.length)) <|
 bif (decide ((a1.getD a3.toNat 0) < 0)) then
 some ([.i 0, .b false])
 else
 bif (decide ((a1.getD a3.toNat 0) > (w64 (1152921504606846976 - a0)))) then
 some ([.i 0, .b false])
 else
 k ((w64 (a0 + (a1.getD a3.toNat 0))), a1, a2, (w64 (a3 + 1)))
 else
 some ([.i a0, .b true])
def pE (m : Nat) : Nat -> ye -> Option (List Un) := bo (rz m)
theorem qh (m : Nat) (n : Nat) : pE m (n + 1) = rz m (pE m n) := rfl
def Az (F : ye -> Option (List Un)) : aW := ⟨[.lp [0, 1, 0, 1, 1], .blk 0, .code [1, 1, 1]], ⟨frm 26 [(4, .int .i64), (7, .ints .i64), (8, .int .i64), (9, .int .i64)], [], 0⟩, onU F⟩
theorem Ll (m : Nat) : ∀ n, HO Ml (Az (pE m n)) := au ah T65.right (fun k => [Az k]) (fun k h => (aL h aB)) fun k a => by kernel_rfl
def t100 (m : Nat) : List Int -> Option (List Un) := fun a0 =>
 pE m m (0, a0, (a0.length : Int), 0)
theorem JN (m : Nat) : ∀ (rest pre : List Int) (s : Int) (n : Nat), rest.length < n -> 0 <= s -> s <= 1152921504606846976 -> (pre ++ rest).length < 1099511627776 ->
 pE m n (s, pre ++ rest, ((pre ++ rest).length : Int), (pre.length : Int)) = some [.i (oG rest s).1, .b (oG rest s).2] := by
 intro rest
 induction rest with
 | nil =>
  intro pre s n hn h1 h2 h3; obtain ⟨n, rfl⟩ := al n (by simp at hn; omega); rw [qh]; unfold rz; dsimp only; simp [aF, oG]
 | cons x rest ih =>
  intro pre s n hn h1 h2 h3; obtain ⟨n, rfl⟩ := al n (by simp at hn; omega); simp only [zah, zae] at h3 hn; rw [qh]; unfold rz; dsimp only; simp only [oG]
  by_cases c1 : x < 0
  . rw [zai c1, Bool.true_or, zaE]; simp (disch := omega) only [TRa, TRi, aa, LNl, LNi, zaa, cG]
  . by_cases c2 : x > 1152921504606846976 - s
    . rw [zai c2, Bool.or_true, zaE]; simp (disch := omega) only [TRa, TRi, aa, LNl, LNi, zaa, cG]
    . rw [zaT c1, zaT c2, Bool.false_or, zao]; have := ih (pre ++ [x]) (s + x) n (by omega) (by omega) (by omega) (by simp; omega); simp (disch := omega) only [TRa, TRi, aa, LNl, LNi, zaa, cG]; simp only [LNl, LNi, zaa] at this ⊢; exact this
def f100 : List Int -> Bool × List Un := fun a0 => (decide (a0.length < 1099511627776), [.i (gG a0), .b (jK a0)])
theorem Jj (a0 : List Int) (hc : (decide (a0.length < 1099511627776)) = true) : ∃ m, t100 m a0 = some ([.i (gG a0), .b (jK a0)]) := by
 exact ⟨a0.length + 1, JN _ a0 [] 0 _ (by omega) (by omega) (by omega) (by simpa using zaj hc)⟩
theorem EW : ER 100 (mkE Ml.en Ml.ex f100) := an ah T65.right (fun m => [Az (pE m m)]) (t := t100) (by kernel_rfl) (fun m => (aL (Ll m m) aB)) (fun m a => by kernel_rfl) fun a0 hc => Jj a0 hc
def IQ : Tb Tryz.prog LQ TE XX := T65.add 100 _ EW
def Li : aC := ⟨IQ.tab, 140, ⟨[.int .i64, .int .i64, .ints .i64], [], 0⟩, ⟨[.buf 0 1, .buf 1 1], [.ints .i64, .ints .u64], 0⟩, []⟩
abbrev yp : Type := Int × Int × List Int × Int × Int × List Int × List Int
def rl (m : Nat) (k : yp -> Option (List Un)) : yp -> Option (List Un) := fun (a0, a1, a2, a3, a4, a5, a6) =>
 bif decide (a4 < a3) then
 chk (inb a4 a2.length) <|
 chk (decide (a4.toNat < a2.length)) <|
 chk (inb a4 a5.length) <|
 chk (decide (a4.toNat < a5.length)) <|
 lt ((List.set a5 a4.toNat (mdV a0 (a2.getD a4.toNat 0) a1 0)) : List Int) fun l5 =>
 chk (inb a4 l5.length) <|
 chk (decide (a4.toNat < l5.length)) <|
 chk (inb a4 a6.length) <|
 chk (decide (a4.toNat < a6.length)) <|
 k (a0, a1, a2, a3, (w64 (a4 + 1)), l5, (List.set a6 a4.toNat (oj ((oj ((oj a0) * (oj (a2.getD a4.toNat 0)))) - (oj ((oj (l5.getD a4.toNat 0)) * (oj a1)))))))
 else
 some ([.l a5, .l a6])
def po (m : Nat) : Nat -> yp -> Option (List Un) := bo (rl m)
theorem qG (m : Nat) (n : Nat) : po m (n + 1) = rl m (po m n) := rfl
def AZ (F : yp -> Option (List Un)) : aW := ⟨[.lp [0, 1, 0, 1, 1], .blk 0, .code [1, 1, 1]], ⟨frm 55 [(0, .int .i64), (1, .int .i64), (8, .buf 0 1), (9, .buf 1 1), (18, .ints .i64), (19, .int .i64), (20, .int .i64)], [.ints .i64, .ints .u64], 0⟩, onU F⟩
theorem Ly (m : Nat) : ∀ n, HO Li (AZ (po m n)) := au ah IQ.right (fun k => [AZ k]) (fun k h => (aL h aB)) fun k a => by kernel_rfl
def t140 (m : Nat) : Int × Int × List Int -> Option (List Un) := fun (a0, a1, a2) =>
 chk (kp (a2.length : Int) 8) <|
 chk (kp (a2.length : Int) 8) <|
 po m m (a0, a1, a2, (a2.length : Int), 0, (List.replicate a2.length 0), (List.replicate a2.length 0))
theorem LB (m : Nat) (a s : Int) (h1 : 0 <= a) (h2 : a < s) (h3 : s <= 1152921504606846976) : ∀ (rest pre d1 d2 : List Int) (n : Nat), rest.length < n -> d1.length = pre.length -> d2.length = pre.length -> (∀ x ∈ rest, 0 <= x /\ x <= 1152921504606846976) -> (pre ++ rest).length < 1099511627776 ->
 po m n (a, s, pre ++ rest, ((pre ++ rest).length : Int), (pre.length : Int), d1 ++ List.replicate rest.length 0, d2 ++ List.replicate rest.length 0) = some [.l (d1 ++ bw a s rest), .l (d2 ++ il a s rest)] := by
 intro rest
 induction rest with
 | nil =>
  intro pre d1 d2 n hn p1 p2 hb h4; obtain ⟨n, rfl⟩ := al n (by simp at hn; omega); rw [qG]; unfold rl; dsimp only; simp [aF, bw, il]
 | cons x rest ih =>
  intro pre d1 d2 n hn p1 p2 hb h4; obtain ⟨n, rfl⟩ := al n (by simp at hn; omega); simp only [zah, zae] at h4 hn; rw [qG]; unfold rl; dsimp only; simp only [zae, zbr]; have hx := hb x (by simp); obtain ⟨e1, _, _, _⟩ := Ma h1 h2 h3 hx.1 hx.2; have := ih (pre ++ [x]) (d1 ++ [a * x / s]) (d2 ++ [a * x % s]) n (by omega) (by simp; omega) (by simp; omega) (fun y hy => hb y (by simp [hy])) (by simp; omega); have le := Jg (n := a) (c := x) (s := s) rfl h1 (by omega) h3 hx.1; simp (disch := omega) only [TRa, TRi, aa, LNl, LNi, zaa, cG, e1, yM _ _ _ _ _ p1, Ed _ _ _ _ _ p1, yM _ _ _ _ _ p2]; rw [le]; simp only [LNl, LNi, zaa] at this ⊢; refine this.trans ?_
  simp [bw, il]
def f140 : Int × Int × List Int -> Bool × List Un := fun (a0, a1, a2) => (decide (0 <= a0 /\ a0 < a1 /\ a1 <= 1152921504606846976 /\ a2.length < 1099511627776) && pf a2, [.l (bw a0 a1 a2), .l (il a0 a1 a2)])
theorem Ji (a0 : Int) (a1 : Int) (a2 : List Int) (hc : (decide (0 <= a0 /\ a0 < a1 /\ a1 <= 1152921504606846976 /\ a2.length < 1099511627776) && pf a2) = true) : ∃ m, t140 m (a0, a1, a2) = some ([.l (bw a0 a1 a2), .l (il a0 a1 a2)]) := by
 simp only [zab, zag, sN] at hc; obtain ⟨⟨h1, h2, h3, h4⟩, hb⟩ := hc; refine ⟨a2.length + 1, ?_⟩; unfold t140; simp (disch := omega) only [TRa, TRi, aa]; exact LB (a2.length + 1) a0 a1 h1 h2 h3 a2 [] [] [] (a2.length + 1) (by omega) rfl rfl hb (by simpa using h4)
theorem Es : ER 140 (mkE Li.en Li.ex f140) := an ah IQ.right (fun m => [AZ (po m m)]) (t := t140) (by kernel_rfl) (fun m => (aL (Ly m m) aB)) (fun m a => by kernel_rfl) fun (a0, a1, a2) hc => Ji a0 a1 a2 hc
def Ef : Tb Tryz.prog LQ TE XX := IQ.add 140 _ Es
def Dy : aC := ⟨Ef.tab, 134, ⟨[.int .i64, .ints .i64], [], 0⟩, ⟨[.buf 0 1], [.ints .i64], 0⟩, []⟩
abbrev ym : Type := Int × Int × Int × Int × List Int × List Int
abbrev kH : Type := Int × List Int × List Int
abbrev xT : Type := Int × Int × Int × List Int × List Int
def qV (m : Nat) (k1 : kH -> Option (List Un)) (k : ym -> Option (List Un)) : ym -> Option (List Un) := fun (a0, a1, a2, a3, a4, a5) =>
 bif decide (a3 < a2) then
 chk (inb a3 a5.length) <|
 chk (decide (a3.toNat < a5.length)) <|
 chk (inb a1 a5.length) <|
 chk (decide (a1.toNat < a5.length)) <|
 bif (decide ((a5.getD a3.toNat 0) > (a5.getD a1.toNat 0))) then
 k (a0, a3, a2, (w64 (a3 + 1)), a4, a5)
 else
 k (a0, a1, a2, (w64 (a3 + 1)), a4, a5)
 else
 chk (inb a1 a4.length) <|
 chk (decide (a1.toNat < a4.length)) <|
 chk (inb a1 a4.length) <|
 chk (decide (a1.toNat < a4.length)) <|
 chk (inb a1 a5.length) <|
 chk (decide (a1.toNat < a5.length)) <|
 k1 ((w64 (a0 - 1)), (List.set a4 a1.toNat (w64 ((a4.getD a1.toNat 0) + 1))), (List.set a5 a1.toNat 0))
def pH (m : Nat) (k1 : kH -> Option (List Un)) : Nat -> ym -> Option (List Un) := bo (qV m k1)
theorem qa (m : Nat) (k1 : kH -> Option (List Un)) (n : Nat) : pH m k1 (n + 1) = qV m k1 (pH m k1 n) := rfl
def AT (F : ym -> Option (List Un)) : aW := ⟨[.lp [0, 1, 0, 1, 0, 0, 1, 0, 0, 0, 1, 1, 1, 1, 1, 1, 1, 1], .blk 4, .code [1, 1, 0, 0, 1, 0, 0, 0, 1, 1, 1, 1, 1, 1, 1, 1], .blk 3, .code [1, 1, 0, 0, 0, 1, 1, 1, 1, 1, 1, 1, 1], .lp [0, 0, 1, 1, 1, 1, 1, 1, 1, 1], .blk 2, .code [1, 1, 1, 1, 1, 1, 1, 1, 1]], ⟨frm 80 [(7, .buf 0 1), (8, .buf 1 1), (9, .int .i64), (12, .int .i64), (55, .int .i64), (56, .int .i64)], [.ints .i64, .ints .u64], 0⟩, onU F⟩
def qZ (m : Nat) (k : kH -> Option (List Un)) : kH -> Option (List Un) := fun (a0, a1, a2) =>
 bif decide (a0 > 0) then
 pH m k m (a0, 0, (a2.length : Int), 0, a1, a2)
 else
 some ([.l a1])
def lT (m : Nat) : Nat -> kH -> Option (List Un) := bo (qZ m)
theorem pV (m : Nat) (n : Nat) : lT m (n + 1) = qZ m (lT m n) := rfl
def yt (F : kH -> Option (List Un)) : aW := ⟨[.lp [0, 0, 1, 1, 1, 1, 1, 1, 1, 1], .blk 2, .code [1, 1, 1, 1, 1, 1, 1, 1, 1]], ⟨frm 80 [(7, .buf 0 1), (8, .buf 1 1), (9, .int .i64)], [.ints .i64, .ints .u64], 0⟩, onU F⟩
def qO (m : Nat) (k : xT -> Option (List Un)) : xT -> Option (List Un) := fun (a0, a1, a2, a3, a4) =>
 bif decide (a2 < a1) then
 chk (inb a2 a3.length) <|
 chk (decide (a2.toNat < a3.length)) <|
 k ((w64 (a0 - (a3.getD a2.toNat 0))), a1, (w64 (a2 + 1)), a3, a4)
 else
 lT m m (a0, a3, a4)
def oU (m : Nat) : Nat -> xT -> Option (List Un) := bo (qO m)
theorem pO (m : Nat) (n : Nat) : oU m (n + 1) = qO m (oU m n) := rfl
def A8 (F : xT -> Option (List Un)) : aW := ⟨[.lp [0, 1, 0, 1, 1, 1, 1, 1, 1, 1], .blk 0, .code [1, 1, 1, 1, 1, 1, 1, 1]], ⟨frm 80 [(7, .buf 0 1), (8, .buf 1 1), (9, .int .i64), (40, .buf 0 1), (41, .int .i64), (42, .int .i64)], [.ints .i64, .ints .u64], 0⟩, onU F⟩
theorem Mi (m : Nat) (k1 : kH -> Option (List Un)) (h1 : HO Dy (yt k1)) : ∀ n, HO Dy (AT (pH m k1 n)) := au ah Ef.right (fun k => [yt k1, AT k]) (fun k h => (aL h1 (aL h aB))) fun k a => by kernel_rfl
theorem Lx (m : Nat) : ∀ n, HO Dy (yt (lT m n)) := au ah Ef.right (fun k => [AT (pH m (k) m)]) (fun k h => (aL (Mi m _ h m) aB)) fun k a => by kernel_rfl
theorem MT (m : Nat) : ∀ n, HO Dy (A8 (oU m n)) := au ah Ef.right (fun k => [A8 k, yt (lT m m)]) (fun k h => (aL h (aL (Lx m m) aB))) fun k a => by kernel_rfl
def t134 (m : Nat) : Int × List Int -> Option (List Un) := fun (a0, a1) =>
 chk (decide (a1.length < 1099511627776)) <|
 bif !(jK a1) then
 chk (kp (a1.length : Int) 8) <|
 some ([.l (List.replicate a1.length 0)])
 else
 lt ((if a0 < 0 then 0 else a0) : Int) fun x2 =>
 bif decide (x2 >= (gG a1)) then
 chk (fits (0 + a1.length) 8) <|
 some ([.l a1])
 else
 chk (decide (0 <= x2 /\ x2 < (gG a1) /\ (gG a1) <= 1152921504606846976 /\ a1.length < 1099511627776) && pf a1) <|
 lt ((bw x2 (gG a1) a1) : List Int) fun l3 =>
 oU m m (x2, (l3.length : Int), 0, l3, (il x2 (gG a1) a1))
theorem G8 (m : Nat) (k1 : kH -> Option (List Un)) (left : Int) (out lost : List Int) (h1 : 0 < left) (h2 : left < 4611686018427387904) (hl : out.length = lost.length) (hs : lost.length < 1099511627776)
 (hb : ∀ x ∈ out, 0 <= x /\ x < 4611686018427387904) : ∀ (rest pre : List Int) (b n : Nat), rest.length < n -> lost = pre ++ rest -> b < lost.length ->
 pH m k1 n (left, (b : Int), (lost.length : Int), (pre.length : Int), out, lost) =
  k1 (left - 1, out.set (jn lost rest pre.length b) (out.getD (jn lost rest pre.length b) 0 + 1), lost.set (jn lost rest pre.length b) 0) := by
 intro rest
 induction rest with
 | nil =>
  intro pre b n hn he hlt; obtain ⟨n, rfl⟩ := al n (by simp at hn; omega); have hp : pre.length = lost.length := by rw [he]; simp
  have hm := hb _ (jc (l := out) (i := b) (by omega)); rw [qa]; unfold qV; dsimp only; simp only [jn, zaG]; simp (disch := omega) only [TRa, TRi, aa]
 | cons x rest ih =>
  intro pre b n hn he hlt; obtain ⟨n, rfl⟩ := al n (by simp at hn; omega); have hp : lost.length = pre.length + (rest.length + 1) := by rw [he]; simp
  have hg : lost.getD pre.length 0 = x := by rw [he]; simp
  rw [qa]; unfold qV; dsimp only; simp only [jn, zaG, hg]; have i1 := ih (pre ++ [x]) pre.length n (by simp at hn; omega) (by rw [he]; simp) (by omega); have i2 := ih (pre ++ [x]) b n (by simp at hn; omega) (by rw [he]; simp) hlt; simp only [zah, zae, zaI, zay, zaA, zaa] at i1 i2
  by_cases c : x > lost.getD b 0
  . simp (disch := omega) only [TRa, TRi, aa]; exact i1
  . simp (disch := omega) only [TRa, TRi, aa]; exact i2
theorem Fl (m : Nat) : ∀ (k : Nat) (left : Int) (out lost : List Int) (n : Nat), left.toNat = k -> k < n -> left < 4611686018427387904 -> out.length = lost.length -> lost.length < 1099511627776 -> lost.length < m -> lost ≠ [] -> (∀ x ∈ out, 0 <= x /\ x + left < 4611686018427387904) ->
 lT m n (left, out, lost) = some [.l (gp 0 k out lost)] := by
 intro k
 induction k with
 | zero =>
  intro left out lost n hk hn h2 hl hs hm hne hb; obtain ⟨n, rfl⟩ := al n (by omega); rw [pV]; unfold qZ; dsimp only; simp only [gp]; rw [aF (by omega)]
 | succ k ih =>
  intro left out lost n hk hn h2 hl hs hm hne hb; obtain ⟨n, rfl⟩ := al n (by omega); rw [pV]; unfold qZ; dsimp only; have hB := jL hne; rw [bE (by omega)]; have := G8 m (lT m n) left out lost (by omega) h2 hl hs (fun x hx => by have := hb x hx; omega) lost [] 0 m hm rfl (List.length_pos_iff.2 hne); simp only [zaI, Int.natCast_zero] at this; refine this.trans ?_
  have hq := hb _ (jc (l := out) (i := dm lost) (by omega)); rw [show jn lost lost 0 0 = dm lost from rfl]; refine ih _ _ _ _ (by omega) (by omega) (by omega) (by simp [hl]) (by simpa using hs) (by simpa using hm) (by intro h; simp at h; exact hne h) (fun x hx => ?_); rcases zbI hx with h | h
  . have := hb x h; omega
  . omega
theorem N4 (m : Nat) (lost : List Int) : ∀ (rest pre : List Int) (left : Int) (n : Nat), rest.length < n -> (∀ x ∈ rest, 0 <= x /\ x <= 1152921504606846976) -> -1152921504606846976 <= left - rest.sum -> left <= 1152921504606846976 -> (pre ++ rest).length < 1099511627776 ->
 oU m n (left, ((pre ++ rest).length : Int), (pre.length : Int), pre ++ rest, lost) = lT m m (left - rest.sum, pre ++ rest, lost) := by
 intro rest
 induction rest with
 | nil =>
  intro pre left n hn hb h1 h2 h3; obtain ⟨n, rfl⟩ := al n (by simp at hn; omega); rw [pO]; unfold qO; dsimp only; simp [aF]
 | cons x rest ih =>
  intro pre left n hn hb h1 h2 h3; obtain ⟨n, rfl⟩ := al n (by simp at hn; omega); simp only [zah, zae] at h3 hn; have hx := hb x (by simp); have hs := dG rest (fun y hy => (hb y (by simp [hy])).1); rw [zbn] at h1 ⊢; rw [pO]; unfold qO; dsimp only; have := ih (pre ++ [x]) (left - x) n (by omega) (fun y hy => hb y (by simp [hy])) (by omega) (by omega) (by simp; omega); rw [show left - (x + rest.sum) = left - x - rest.sum by omega]; simp (disch := omega) only [TRa, TRi, aa, LNl, LNi, zaa, cG]; simp only [LNl, LNi, zaa] at this ⊢; exact this
def f134 : Int × List Int -> Bool × List Un := fun (a0, a1) => (decide (a0 <= 9223372036854775807 /\ a1.length < 1099511627776), [.l (cq a0 a1)])
theorem Kt (a0 : Int) (a1 : List Int) (hc : (decide (a0 <= 9223372036854775807 /\ a1.length < 1099511627776)) = true) : ∃ m, t134 m (a0, a1) = some ([.l (cq a0 a1)]) := by
 obtain ⟨h1, h2⟩ := zaj hc; clear hc; refine ⟨1152921504606846976 + a1.length + 2, ?_⟩; unfold t134 cq; dsimp only; rw [aN h2]; cases hok : jK a1 with
 | false =>
  simp only [Bool.not_false, zaE]; simp (disch := omega) only [TRa, TRi, aa]
 | true =>
  simp only [zbC, zao]; obtain ⟨hb, hs, hs2⟩ := jO hok; simp only [lt_eq]; rw [kA a0 0]; generalize hn : max a0 0 = a; have ha : 0 <= a := by omega
  have hr : pf a1 = true := sN.2 hb
  by_cases hge : a >= gG a1
  . simp only [show decide (a >= gG a1) = true by simpa using hge, zaE]; simp (disch := omega) only [TRa, TRi, aa, zaA]
  . simp only [show decide (a >= gG a1) = false by simpa using hge, zao]; obtain ⟨f1, f2, f3⟩ := wI (l := a1) ha (show a < gG a1 by omega) hb; have hlf : (bw a (gG a1) a1).length = a1.length := by simp [bw]
    have hlr : (il a (gG a1) a1).length = a1.length := by simp [il]
    have hne : a1 ≠ [] := by rintro rfl; simp at hs; omega
    have e1 := N4 (1152921504606846976 + a1.length + 2) (il a (gG a1) a1) (bw a (gG a1) a1) [] a (1152921504606846976 + a1.length + 2) (by omega) f1 (by omega) (by omega) (by simp; omega); have e2 := Fl (1152921504606846976 + a1.length + 2) _ (a - (bw a (gG a1) a1).sum) (bw a (gG a1) a1) (il a (gG a1) a1) (1152921504606846976 + a1.length + 2) rfl (by omega) (by omega) (by omega) (by omega) (by omega)
     (by intro h; have := congrArg List.length h; rw [hlr] at this; exact hne (zaz this)) (fun x hx => by have := f1 x hx; omega)
    rw [hr, za9]; simp (disch := omega) only [aN]; exact e1.trans e2
theorem EC : ER 134 (mkE Dy.en Dy.ex f134) := an ah Ef.right (fun m => [A8 (oU m m)]) (t := t134) (by kernel_rfl) (fun m => (aL (MT m m) aB)) (fun m a => by kernel_rfl) fun (a0, a1) hc => Kt a0 a1 hc
def Fc : Tb Tryz.prog LQ TE XX := Ef.add 134 _ EC
@[ext] structure aV where
 ar : Int
 fee : Int
 bB : Int
 aj : Int
 room : Int
instance : Uns aV := Uns.via (B := Int × Int × Int × Int × Int) (fun x => (x.ar, x.fee, x.bB, x.aj, x.room)) (fun x => match x with | (ar, fee, bB, aj, room) => ⟨ar, fee, bB, aj, room⟩) (fun _ => rfl)
def isN : Dat -> Bool
 | .n _ => true
 | .r _ => false
def kM (k : Nat) : Dat -> Bool
 | .r l => l.length == k && l.all isN
 | .n _ => false
theorem AS : ∀ {d : Dat}, isN d = true -> d = .n d.int
 | .n _, _ => rfl
 | .r _, h => by cases h
theorem Bl {d : Dat} (h : kM 3 d = true) : d = .r [.n (d.i 0), .n (d.i 1), .n (d.i 2)] := by
 match d, h with
 | .r [a, b, c], h =>
  simp [kM] at h; obtain ⟨h1, h2, h3⟩ := h; show Dat.r [a, b, c] = .r [.n a.int, .n b.int, .n c.int]; rw [<- AS h1, <- AS h2, <- AS h3]
 | .r [], h => simp [kM] at h
 | .r [a], h => simp [kM] at h
 | .r [a, b], h => simp [kM] at h
 | .r (a :: b :: c :: d :: l), h => simp [kM] at h
def jA (d : Dat) : Bool := kM 3 d && decide (0 <= d.i 1 /\ d.i 1 <= 1125899906842624 /\ 0 <= d.i 2 /\ d.i 2 <= 1125899906842624)
theorem cd {d : Dat} (h : jA d = true) : kM 3 d = true /\ 0 <= d.i 1 /\ d.i 1 <= 1125899906842624 /\ 0 <= d.i 2 /\ d.i 2 <= 1125899906842624 := by
 simp only [jA, zab, zag] at h; exact h
def aO (c : List Dat) : Bool := decide (c.length <= 1000) && c.all jA
theorem bF {c : List Dat} (h : aO c = true) : c.length <= 1000 /\ ∀ d ∈ c, jA d = true := by
 simp only [aO, zab, zag, zan] at h; exact h
theorem ur {c : List Dat} (h1 : c.length <= 1000) (h2 : ∀ d ∈ c, jA d = true) : aO c = true := by
 simp only [aO, zab, zag, zan]; exact ⟨h1, h2⟩
def bU (j : Nat) (x : Int) (d : Dat) : Dat := if j = 1 then .r [.n (d.i 0), .n (d.i 1 - x), .n (d.i 2)] else .r [.n (d.i 0), .n (d.i 1), .n (d.i 2 - x)]
def bH (j : Nat) : List Int -> List Dat -> List Dat
 | x :: xs, d :: c => bU j x d :: bH j xs c
 | _, _ => []
def bC (at_ kind : Int) : Int -> List Int -> List Dat
 | _, [] => []
 | i, x :: xs => (if 0 < x then [.r [.n at_, .n kind, .n i, .n x]] else []) ++ bC at_ kind (i + 1) xs
def jC (at_ kind n : Int) : List Dat := if 0 < n then [.r [.n at_, .n kind, .n (-1), .n n]] else []
def aq (sel : Dat -> Bool) (j : Nat) (n : Int) (c : List Dat) : List Int := cq n (c.map fun d => bif sel d then d.i j else 0)
def aH (r : Int) (d : Dat) : Bool := d.i 0 == r
def bm (at_ kind : Int) : Nat -> Int -> Int -> List Dat -> List Dat × List Dat × Int
 | 0, _, _, c => (c, [], 0)
 | k + 1, r, n, c =>
  ((bm at_ kind k (r + 1) (n - (aq (aH r) 1 n c).sum) (bH 1 (aq (aH r) 1 n c) c)).1,
   bC at_ kind 0 (aq (aH r) 1 n c) ++ (bm at_ kind k (r + 1) (n - (aq (aH r) 1 n c).sum) (bH 1 (aq (aH r) 1 n c) c)).2.1,
   (aq (aH r) 1 n c).sum + (bm at_ kind k (r + 1) (n - (aq (aH r) 1 n c).sum) (bH 1 (aq (aH r) 1 n c) c)).2.2)
def dj (at_ kind rank : Int) (x : aV) (c : List Dat) : aV × List Dat × List Dat :=
 if kind = 1 then ({ x with ar := x.ar - min x.fee x.ar, fee := x.fee - min x.fee x.ar }, c, jC at_ kind (min x.fee x.ar))
 else if kind = 2 then ({ x with ar := x.ar - min x.bB x.ar, bB := x.bB - min x.bB x.ar }, c, jC at_ kind (min x.bB x.ar))
 else if kind = 6 then ({ x with ar := x.ar - min x.room x.ar, room := x.room - min x.room x.ar }, c, jC at_ kind (min x.room x.ar))
 else if kind = 3 then ({ x with ar := x.ar - (aq (aH rank) 2 x.ar c).sum }, bH 2 (aq (aH rank) 2 x.ar c) c, bC at_ kind 0 (aq (aH rank) 2 x.ar c))
 else if kind = 4 then ({ x with ar := x.ar - (bm at_ kind 8 0 (min x.aj x.ar) c).2.2, aj := x.aj - (bm at_ kind 8 0 (min x.aj x.ar) c).2.2 }, (bm at_ kind 8 0 (min x.aj x.ar) c).1, (bm at_ kind 8 0 (min x.aj x.ar) c).2.1)
 else if kind = 5 then ({ x with ar := x.ar - (aq (fun _ => true) 1 (min x.aj x.ar) c).sum, aj := x.aj - (aq (fun _ => true) 1 (min x.aj x.ar) c).sum }, bH 1 (aq (fun _ => true) 1 (min x.aj x.ar) c) c, bC at_ kind 0 (aq (fun _ => true) 1 (min x.aj x.ar) c))
 else if kind = 7 then ({ x with ar := x.ar - (bm at_ kind 8 0 x.ar c).2.2 }, (bm at_ kind 8 0 x.ar c).1, (bm at_ kind 8 0 x.ar c).2.1)
 else (x, c, [])
def dt : Int -> List Dat -> aV -> List Dat -> aV × List Dat × List Dat
 | _, [], x, c => (x, c, [])
 | at_, s :: l, x, c => ((dt (at_ + 1) l (dj at_ (s.i 0) (s.i 1) x c).1 (dj at_ (s.i 0) (s.i 1) x c).2.1).1, (dt (at_ + 1) l (dj at_ (s.i 0) (s.i 1) x c).1 (dj at_ (s.i 0) (s.i 1) x c).2.1).2.1, (dj at_ (s.i 0) (s.i 1) x c).2.2 ++ (dt (at_ + 1) l (dj at_ (s.i 0) (s.i 1) x c).1 (dj at_ (s.i 0) (s.i 1) x c).2.1).2.2)
def mP (x : aV) : Bool := decide ((0 <= x.ar /\ x.ar <= 1152921504606846976) /\ (0 <= x.fee /\ x.fee <= 1152921504606846976) /\ (0 <= x.bB /\ x.bB <= 1152921504606846976) /\ (0 <= x.aj /\ x.aj <= 1152921504606846976) /\ (0 <= x.room /\ x.room <= 1152921504606846976))
theorem qN {x : aV} (h : mP x = true) : (0 <= x.ar /\ x.ar <= 1152921504606846976) /\ (0 <= x.fee /\ x.fee <= 1152921504606846976) /\ (0 <= x.bB /\ x.bB <= 1152921504606846976) /\ (0 <= x.aj /\ x.aj <= 1152921504606846976) /\ (0 <= x.room /\ x.room <= 1152921504606846976) := zaj h
def Dh (sel : Dat -> Bool) (j : Nat) (c : List Dat) : Int := (c.map fun d => bif sel d then d.i j else 0).sum
theorem lR {c : List Dat} (sel : Dat -> Bool) {j : Nat} (hj : j = 1 \/ j = 2) (h : aO c = true) : (∀ x ∈ (c.map fun d => bif sel d then d.i j else 0), 0 <= x /\ x <= 1125899906842624) /\ jK (c.map fun d => bif sel d then d.i j else 0) = true /\ 0 <= Dh sel j c /\ Dh sel j c <= 1125899906842624 * c.length := by
 obtain ⟨h1, h2⟩ := bF h; have hb : ∀ x ∈ (c.map fun d => bif sel d then d.i j else 0), 0 <= x /\ x <= 1125899906842624 := by
  intro x hx; obtain ⟨d, hd, rfl⟩ := zbp.1 hx; have := cd (h2 d hd); cases sel d
  . simp only [zao]; omega
  . rcases hj with rfl | rfl <;> simp only [zaE] <;> omega
 have hl : (c.map fun d => bif sel d then d.i j else 0).length = c.length := by simp
 have hm : ((c.map fun d => bif sel d then d.i j else 0).length : Int) * 1125899906842624 <= 1152921504606846976 := by rw [hl]; omega
 have hs := pn _ 1125899906842624 (by decide) hb; rw [hl] at hs; exact ⟨hb, (ry (by decide) hb hm).2, hs.1, by unfold Dh; omega⟩
theorem yV {n : Int} {l : List Int} (h : n <= 0) : cq n l = cq 0 l := by
 unfold cq; rw [show max n 0 = max 0 0 by omega]
theorem dH {c : List Dat} (sel : Dat -> Bool) {j : Nat} (hj : j = 1 \/ j = 2) (n : Int) (h : aO c = true) : (aq sel j n c).length = c.length /\ (aq sel j n c).sum = min (max n 0) (Dh sel j c) /\ ∀ i, i < c.length -> 0 <= (aq sel j n c).getD i 0 /\ (aq sel j n c).getD i 0 <= bif sel (ag c i) then (ag c i).i j else 0 := by
 obtain ⟨hb, ho, hw0, hw1⟩ := lR sel hj h; have e : aq sel j n c = cq (max n 0) (c.map fun d => bif sel d then d.i j else 0) := by
  by_cases hn : 0 <= n
  . rw [show max n 0 = n by omega]; rfl
  . rw [show max n 0 = 0 by omega]; exact yV (by omega)
 rw [e]; obtain ⟨h1, h2⟩ := yP (a := max n 0) (by omega) ho; refine ⟨by rw [sy]; simp, h1, fun i hi => ?_⟩; have := h2 i (by simpa using hi)
 rwa [show (c.map fun d => bif sel d then d.i j else 0).getD i 0 = bif sel (ag c i) then (ag c i).i j else 0 by simp [zaf, hi, ag]] at this
theorem lF (j : Nat) : ∀ (xs : List Int) (c : List Dat), xs.length = c.length -> (bH j xs c).length = c.length
 | [], [], _ => rfl
 | x :: xs, d :: c, h => by simp [bH, lF j xs c (by simpa using h)]
 | [], _ :: _, h => by simp at h
 | _ :: _, [], h => by simp at h
theorem lO (j : Nat) : ∀ (xs : List Int) (c : List Dat) (i : Nat), xs.length = c.length -> i < c.length -> ag (bH j xs c) i = bU j (xs.getD i 0) (ag c i)
 | [], [], i, _, h => by simp at h
 | x :: xs, d :: c, 0, _, _ => rfl
 | x :: xs, d :: c, i + 1, h, hi => lO j xs c i (by simpa using h) (by simpa using hi)
 | [], _ :: _, _, h, _ => by simp at h
 | _ :: _, [], _, h, _ => by simp at h
theorem om {l : List Dat} {d : Dat} (h : d ∈ l) : ∃ i, i < l.length /\ ag l i = d := by
 obtain ⟨i, hi, rfl⟩ := List.getElem_of_mem h; exact ⟨i, hi, lL hi⟩
theorem mL {l : List Dat} {i : Nat} (h : i < l.length) : ag l i ∈ l := by rw [lL h]; exact zbB h
theorem Ak {d : Dat} {j : Nat} {x : Int} (hj : j = 1 \/ j = 2) (h : jA d = true) (h0 : 0 <= x) (h1 : x <= d.i j) : jA (bU j x d) = true := by
 have := cd h; rcases hj with rfl | rfl
 . simp only [bU, za7, jA, zab, zag, dX, ik]; exact ⟨rfl, by omega⟩
 . simp only [bU, show ¬ (2 : Nat) = 1 by decide, zbe, jA, zab, zag, dX, ik]; exact ⟨rfl, by omega⟩
theorem nP {c : List Dat} (sel : Dat -> Bool) {j : Nat} (hj : j = 1 \/ j = 2) (n : Int) (h : aO c = true) : aO (bH j (aq sel j n c) c) = true /\ (bH j (aq sel j n c) c).length = c.length := by
 obtain ⟨l1, l2, l3⟩ := dH sel hj n h; obtain ⟨h1, h2⟩ := bF h; have hl := lF j _ c l1; refine ⟨ur (by omega) fun d hd => ?_, hl⟩; obtain ⟨i, hi, rfl⟩ := om hd; rw [hl] at hi; rw [lO j _ c i l1 hi]; have := l3 i hi; have hg := h2 _ (mL hi); refine Ak hj hg this.1 ?_
 have h4 := cd hg; cases hs : sel (ag c i) <;> rw [hs] at this
 . rcases hj with rfl | rfl <;> simp only [zao] at this <;> omega
 . exact this.2
theorem ja (a k : Int) : ∀ (xs : List Int) (i : Int), (bC a k i xs).length <= xs.length
 | [], i => by simp [bC]
 | x :: xs, i => by
  have := ja a k xs (i + 1); simp only [bC, zah, zae]
  split <;> simp <;> omega
theorem BN (a k n : Int) : (jC a k n).length <= 1 := by unfold jC; split <;> simp
theorem sE (a kd : Int) : ∀ (k : Nat) (r n : Int) (c : List Dat), aO c = true -> aO (bm a kd k r n c).1 = true /\ (bm a kd k r n c).1.length = c.length /\ (bm a kd k r n c).2.1.length <= k * c.length /\ 0 <= (bm a kd k r n c).2.2 /\ (bm a kd k r n c).2.2 <= max n 0
 | 0, r, n, c, h => ⟨h, rfl, by simp [bm], by simp [bm], by simp only [bm]; omega⟩
 | k + 1, r, n, c, h => by
  obtain ⟨g1, g2⟩ := nP (aH r) (j := 1) (.inl rfl) n h; obtain ⟨l1, l2, l3⟩ := dH (aH r) (j := 1) (.inl rfl) n h; obtain ⟨_, _, w0, w1⟩ := lR (aH r) (j := 1) (.inl rfl) h; obtain ⟨i1, i2, i3, i4, i5⟩ := sE a kd k (r + 1) (n - (aq (aH r) 1 n c).sum) _ g1; have hp := ja a kd (aq (aH r) 1 n c) 0; simp only [bm]; refine ⟨i1, by omega, ?_, by omega, by omega⟩; rw [zah, za4]; rw [g2] at i3; omega
theorem s8 (a kd rk : Int) {x : aV} {c : List Dat} (hx : mP x = true) (h : aO c = true) : mP (dj a kd rk x c).1 = true /\ aO (dj a kd rk x c).2.1 = true /\ (dj a kd rk x c).2.1.length = c.length /\ (dj a kd rk x c).2.2.length <= 8000 := by
 have hx' := qN hx; have hc := (bF h).1; have p1 := BN a kd; have s2 := fun sel j hj n => dH (c := c) sel (j := j) hj n h
 have w2 := fun sel j hj => (lR (c := c) sel (j := j) hj h).2.2
 have g2 := fun sel j hj n => nP (c := c) sel (j := j) hj n h
 have r2 := fun n => sE a kd 8 0 n c h
 unfold dj
 by_cases k1 : kd = 1
 . rw [if_pos k1]; exact ⟨zai (by simp only; omega), h, rfl, by have := p1 (min x.fee x.ar); simp only; omega⟩
 rw [if_neg k1]
 by_cases k1 : kd = 2
 . rw [if_pos k1]; exact ⟨zai (by simp only; omega), h, rfl, by have := p1 (min x.bB x.ar); simp only; omega⟩
 rw [if_neg k1]
 by_cases k1 : kd = 6
 . rw [if_pos k1]; exact ⟨zai (by simp only; omega), h, rfl, by have := p1 (min x.room x.ar); simp only; omega⟩
 rw [if_neg k1]
 by_cases k1 : kd = 3
 . rw [if_pos k1]; have q1 := s2 (aH rk) 2 (.inr rfl) x.ar; have q2 := w2 (aH rk) 2 (.inr rfl); have q3 := g2 (aH rk) 2 (.inr rfl) x.ar; have q4 := ja a kd (aq (aH rk) 2 x.ar c) 0; exact ⟨zai (by simp only; omega), q3.1, q3.2, by simp only; omega⟩
 rw [if_neg k1]
 by_cases k1 : kd = 4
 . rw [if_pos k1]; have q := r2 (min x.aj x.ar); generalize bm a kd 8 0 (min x.aj x.ar) c = y at *
   exact ⟨zai (by simp only; omega), q.1, q.2.1, by simp only; omega⟩
 rw [if_neg k1]
 by_cases k1 : kd = 5
 . rw [if_pos k1]; have q1 := s2 (fun _ => true) 1 (.inl rfl) (min x.aj x.ar); have q2 := w2 (fun _ => true) 1 (.inl rfl); have q3 := g2 (fun _ => true) 1 (.inl rfl) (min x.aj x.ar); have q4 := ja a kd (aq (fun _ => true) 1 (min x.aj x.ar) c) 0; exact ⟨zai (by simp only; omega), q3.1, q3.2, by simp only; omega⟩
 rw [if_neg k1]
 by_cases k1 : kd = 7
 . rw [if_pos k1]; have q := r2 x.ar; generalize bm a kd 8 0 x.ar c = y at *
   exact ⟨zai (by simp only; omega), q.1, q.2.1, by simp only; omega⟩
 rw [if_neg k1]; exact ⟨hx, h, rfl, by simp⟩
theorem Dq : ∀ (l : List Dat) (a : Int) (x : aV) (c : List Dat), mP x = true -> aO c = true -> mP (dt a l x c).1 = true /\ aO (dt a l x c).2.1 = true /\ (dt a l x c).2.1.length = c.length /\ (dt a l x c).2.2.length <= 8000 * l.length
 | [], a, x, c, hx, h => ⟨hx, h, rfl, by simp [dt]⟩
 | s :: l, a, x, c, hx, h => by
  obtain ⟨h1, h2, h3, h4⟩ := s8 a (s.i 0) (s.i 1) hx h; obtain ⟨i1, i2, i3, i4⟩ := Dq l (a + 1) _ _ h1 h2; simp only [dt, zah, zae]; exact ⟨i1, i2, by omega, by omega⟩
def gd (sel : Dat -> Bool) : Int -> List Dat -> List Int
 | _, [] => []
 | i, d :: c => bif sel d then i :: gd sel (i + 1) c else gd sel (i + 1) c
def cV (sel : Dat -> Bool) (j : Nat) : List Dat -> List Int
 | [] => []
 | d :: c => bif sel d then d.i j :: cV sel j c else cV sel j c
def jM (j : Nat) : List Int -> List Int -> List Dat -> List Dat
 | w :: ws, x :: xs, c => jM j ws xs (c.set w.toNat (bU j x (ag c w.toNat)))
 | _, _, c => c
def qK (at_ kind : Int) : List Int -> List Int -> List Dat
 | w :: ws, x :: xs => (if 0 < x then [.r [.n at_, .n kind, .n w, .n x]] else []) ++ qK at_ kind ws xs
 | _, _ => []
theorem D4 {j : Nat} {d : Dat} (h : kM 3 d = true) : bU j 0 d = d := by
 have e := Bl h; unfold bU; rw [zbl, zbl, <- e]
 split <;> rfl
theorem mN (sel : Dat -> Bool) (j : Nat) : ∀ (rest pre : List Dat) (xs : List Int), xs.length = bu (rest.map sel) -> (∀ d ∈ rest, kM 3 d = true) ->
 jM j (gd sel pre.length rest) xs (pre ++ rest) = pre ++ bH j (bt (rest.map sel) xs) rest
 | [], pre, xs, h, _ => by rw [zaz h]; simp [gd, jM, bH, bt]
 | d :: rest, pre, xs, h, hr => by
  have ih := fun xs h y => mN sel j rest (pre ++ [y]) xs h (fun z hz => hr z (by simp [hz]))
  simp only [zah, zae, zaI, zaF, zaW, zaU, zay, zaa, zaA] at ih; simp only [za0] at h; cases hs : sel d
  . rw [hs] at h; simp only [gd, hs, zao, za0, bt, bH]; rw [D4 (hr d (by simp)), <- ih xs h d]
  . rw [hs] at h; cases xs with
    | nil => simp [bu] at h
    | cons x xs =>
     simp only [gd, hs, zaE, za0, bt, bH, jM, zaG, Cw, ax, List.headD_cons, List.tail_cons]; exact ih xs (by simpa [bu] using h) _
theorem ot (a k : Int) (sel : Dat -> Bool) : ∀ (rest : List Dat) (i : Int) (xs : List Int), xs.length = bu (rest.map sel) -> qK a k (gd sel i rest) xs = bC a k i (bt (rest.map sel) xs)
 | [], i, xs, h => by rw [zaz h]; rfl
 | d :: rest, i, xs, h => by
  have ih := fun xs h => ot a k sel rest (i + 1) xs h
  simp only [za0] at h; cases hs : sel d
  . rw [hs] at h; simp only [gd, hs, zao, za0, bt, bC]; rw [ih xs h]; rfl
  . rw [hs] at h; cases xs with
    | nil => simp [bu] at h
    | cons x xs =>
     simp only [gd, hs, zaE, za0, bt, bC, qK, List.headD_cons, List.tail_cons]; rw [ih xs (by simpa [bu] using h)]
theorem wq (sel : Dat -> Bool) (j : Nat) : ∀ c : List Dat, (c.map fun d => bif sel d then d.i j else 0) = bt (c.map sel) (cV sel j c)
 | [] => rfl
 | d :: c => by
  have := wq sel j c; simp only [za0, cV]; cases hs : sel d <;> simp [bt, this]
theorem tI (sel : Dat -> Bool) (j : Nat) : ∀ c : List Dat, (cV sel j c).length = bu (c.map sel)
 | [] => rfl
 | d :: c => by
  have := tI sel j c; cases hs : sel d <;> simp [cV, hs, bu, this]
theorem oK (sel : Dat -> Bool) : ∀ (c : List Dat) (i : Int), (gd sel i c).length = bu (c.map sel)
 | [], _ => rfl
 | d :: c, i => by
  have := oK sel c (i + 1); cases hs : sel d <;> simp [gd, hs, bu, this]
theorem jI : ∀ ms : List Bool, bu ms <= ms.length
 | [] => zam _
 | false :: ms => by have := jI ms; simp [bu]; omega
 | true :: ms => by have := jI ms; simp [bu]; omega
theorem ov (sel : Dat -> Bool) : ∀ (c : List Dat) (i : Int), ∀ w ∈ gd sel i c, i <= w /\ w < i + c.length
 | [], i, w, h => by simp [gd] at h
 | d :: c, i, w, h => by
  have ih := ov sel c (i + 1) w; simp only [zae, zay]; cases hs : sel d <;> simp only [gd, hs, zao, zaE, zbc] at h
  . have := ih h; omega
  . rcases h with h | h
    . omega
    . have := ih h; omega
theorem nN (sel : Dat -> Bool) (j : Nat) : ∀ c : List Dat, ∀ x ∈ cV sel j c, ∃ d ∈ c, x = d.i j
 | [], x, h => by simp [cV] at h
 | d :: c, x, h => by
  cases hs : sel d <;> simp only [cV, hs, zao, zaE, zbc] at h
  . obtain ⟨e, h1, h2⟩ := nN sel j c x h; exact ⟨e, by simp [h1], h2⟩
  . rcases h with h | h
    . exact ⟨d, by simp, h⟩
    . obtain ⟨e, h1, h2⟩ := nN sel j c x h; exact ⟨e, by simp [h1], h2⟩
theorem ju (sel : Dat -> Bool) {j : Nat} (hj : j = 1 \/ j = 2) (n : Int) {c : List Dat} (h : aO c = true) : aq sel j n c = bt (c.map sel) (cq n (cV sel j c)) := by
 obtain ⟨h1, h2⟩ := bF h; unfold aq; rw [wq]; refine DQ (c.map sel) n (cV sel j c) (tI sel j c) 1125899906842624 (by decide) (fun x hx => ?_) (by simp; omega); obtain ⟨d, hd, rfl⟩ := nN sel j c x hx; have := cd (h2 d hd); rcases hj with rfl | rfl <;> omega
theorem tJ (sel : Dat -> Bool) {j : Nat} (hj : j = 1 \/ j = 2) (n : Int) {c : List Dat} (h : aO c = true) : (cq n (cV sel j c)).length = bu (c.map sel) /\ (∀ x ∈ cq n (cV sel j c), 0 <= x /\ x <= 1125899906842624) /\ 0 <= (cq n (cV sel j c)).sum /\ (cq n (cV sel j c)).sum <= 1125899906842624000 /\ (cq n (cV sel j c)).sum = (aq sel j n c).sum := by
 obtain ⟨h1, h2⟩ := bF h; have hb : ∀ x ∈ cV sel j c, 0 <= x /\ x <= 1125899906842624 := fun x hx => by
  obtain ⟨d, hd, rfl⟩ := nN sel j c x hx; have := cd (h2 d hd); rcases hj with rfl | rfl <;> omega
 have hl := tI sel j c; have ht := jI (c.map sel); rw [zbh] at ht; have hok := (ry (l := cV sel j c) (b := 1125899906842624) (by decide) hb (by omega)).2; have e : cq n (cV sel j c) = cq (max n 0) (cV sel j c) := by
  by_cases hn : 0 <= n
  . rw [show max n 0 = n by omega]
  . rw [show max n 0 = 0 by omega]; exact yV (by omega)
 obtain ⟨p1, p2⟩ := yP (a := max n 0) (by omega) hok; have hm : ∀ x ∈ cq n (cV sel j c), 0 <= x /\ x <= 1125899906842624 := by
  intro x hx; obtain ⟨i, hi, rfl⟩ := nJ hx; rw [sy] at hi; rw [e]; have := p2 i hi; have := hb _ (jc hi); omega
 have hlen : (cq n (cV sel j c)).length = bu (c.map sel) := by rw [sy, hl]
 have hs := pn _ _ (by decide) hm; rw [hlen] at hs; refine ⟨hlen, hm, hs.1, by omega, ?_⟩; rw [ju sel hj n h, k9 _ _ hlen]
def Kk : aC := ⟨Fc.tab, 108, ⟨[.ptr 0 0 0, .int .i64, .fn 135 [] [.ptr 3 0 0], .fn 110 [] []], [.cells [.int .i64, .int .i64, .int .i64, .int .i64, .int .i64, .buf 1 3, .int .i64, .int .i64, .buf 2 4], .ai (sI 3), .ai (sI 4), .cells [.int .i64]], 0⟩, ⟨[.int .i64], [.cells [.int .i64, .int .i64, .int .i64, .int .i64, .int .i64, .buf 1 3, .int .i64, .int .i64, .buf 4 4], .ai (sI 3), .gone, .gone, .ai (sI 4)], 0⟩, []⟩
abbrev yD : Type := Int × Int × Int × aV × Int × Int × List Dat × List Int × List Int × List Dat
abbrev xW : Type := Int × Int × Int × aV × Int × Int × List Dat × Int × List Int × List Int × List Dat
def qW (m : Nat) (k : yD -> Option (List Un)) : yD -> Option (List Un) := fun (a0, a1, a2, a3, a4, a5, a6, a7, a8, a9) =>
 bif decide (a2 < a1) then
 chk (inb a2 a8.length) <|
 chk (decide (a2.toNat < a8.length)) <|
 chk (inb a2 a7.length) <|
 chk (decide (a2.toNat < a7.length)) <|
 chk (inb (a7.getD a2.toNat 0) a6.length) <|
 chk (decide ((a7.getD a2.toNat 0).toNat < a6.length)) <|
 chk (decide ((a7.getD a2.toNat 0).toNat < a6.length)) <|
 lt (ag a6 ((a7.getD a2.toNat 0).toNat) : Dat) fun d4 =>
 lt ((List.set a6 ((a7.getD a2.toNat 0).toNat) (.r [.n (d4.i 0), .n (d4.i 1), .n (w64 (((ag a6 ((a7.getD a2.toNat 0).toNat)).i 2) - (a8.getD a2.toNat 0)))])) : List Dat) fun l5 =>
 lt ((w64 (a0 + (a8.getD a2.toNat 0))) : Int) fun x6 =>
 chk (inb a2 a7.length) <|
 chk (decide (a2.toNat < a7.length)) <|
 bif (decide ((a8.getD a2.toNat 0) > 0)) then
 chk (fits (a9.length + 1) 32) <|
 k (x6, a1, (w64 (a2 + 1)), a3, a4, a5, l5, a7, a8, (a9 ++ ([.r [.n a4, .n a5, .n (a7.getD a2.toNat 0), .n (a8.getD a2.toNat 0)]])))
 else
 k (x6, a1, (w64 (a2 + 1)), a3, a4, a5, l5, a7, a8, a9)
 else
 some ([.i a0] ++ Uns.enc (({ a3 with ar := (w64 (a3.ar - a0)) } : aV) : aV) ++ [.i a4, .i a5, .d a6, .d a9])
def ng (m : Nat) : Nat -> yD -> Option (List Un) := bo (qW m)
theorem qm (m : Nat) (n : Nat) : ng m (n + 1) = qW m (ng m n) := rfl
def Bv (F : yD -> Option (List Un)) : aW := ⟨[.lp [0, 1, 0, 1, 1, 1, 1], .blk 2, .code [1, 1, 1, 1, 1]], ⟨frm 88 [(0, .ptr 0 0 0), (3, .fn 110 [] []), (9, .buf 4 1), (13, .int .i64), (44, .buf 5 1), (45, .int .i64), (46, .int .i64)], [.cells [.int .i64, .int .i64, .int .i64, .int .i64, .int .i64, .buf 1 3, .int .i64, .int .i64, .buf 6 4], .ai (sI 3), .gone, .gone, .ints .i64, .ints .i64, .ai (sI 4)], 0⟩, onU F⟩
def qP (m : Nat) (k : xW -> Option (List Un)) : xW -> Option (List Un) := fun (a0, a1, a2, a3, a4, a5, a6, a7, a8, a9, a10) =>
 bif decide (a2 < a1) then
 chk (inb a2 a6.length) <|
 chk (decide (a2.toNat < a6.length)) <|
 lt (ag a6 a2.toNat : Dat) fun d1 =>
 bif (d1.i 0) == a7 then
 chk (fits (a8.length + 1) 8) <|
 chk (fits (a9.length + 1) 8) <|
 k (a0, a1, (w64 (a2 + 1)), a3, a4, a5, a6, a7, (a8 ++ ([a2])), (a9 ++ ([(d1.i 2)])), a10)
 else
 k (a0, a1, (w64 (a2 + 1)), a3, a4, a5, a6, a7, a8, a9, a10)
 else
 chk (decide (a0 <= 9223372036854775807 /\ a9.length < 1099511627776)) <|
 ng m m (0, ((cq a0 a9).length : Int), 0, a3, a4, a5, a6, a8, (cq a0 a9), a10)
def pD (m : Nat) : Nat -> xW -> Option (List Un) := bo (qP m)
theorem qw (m : Nat) (n : Nat) : pD m (n + 1) = qP m (pD m n) := rfl
def AN (F : xW -> Option (List Un)) : aW := ⟨[.lp [0, 1, 0, 1, 1], .blk 0, .code [1, 1, 1]], ⟨frm 88 [(0, .ptr 0 0 0), (1, .int .i64), (2, .fn 135 [] [.ptr 4 0 0]), (3, .fn 110 [] []), (9, .buf 5 1), (10, .buf 6 1), (20, .buf 1 3), (21, .int .i64), (22, .int .i64)], [.cells [.int .i64, .int .i64, .int .i64, .int .i64, .int .i64, .buf 1 3, .int .i64, .int .i64, .buf 7 4], .ai (sI 3), .gone, .gone, .cells [.int .i64], .ints .i64, .ints .i64, .ai (sI 4)], 0⟩, onU F⟩
theorem L4 (m : Nat) : ∀ n, HO Kk (Bv (ng m n)) := au ah Fc.right (fun k => [Bv k]) (fun k h => (aL h aB)) fun k a => by kernel_rfl
theorem MS (m : Nat) : ∀ n, HO Kk (AN (pD m n)) := au ah Fc.right (fun k => [AN k, Bv (ng m m)]) (fun k h => (aL h (aL (L4 m m) aB))) fun k a => by kernel_rfl
def MV (m : Nat) : Int × aV × Int × Int × List Dat × List Dat × Int -> Option (List Un) := fun (a0, a1, a2, a3, a4, a5, a6) =>
 pD m m (a0, (a4.length : Int), 0, a1, a2, a3, a4, a6, [], [], a5)
theorem I3 (m : Nat) (nn : Int) (hnn : nn <= 9223372036854775807) (y : aV) (q kd : Int) (rk : Int) (out : List Dat) : ∀ (rest pre : List Dat) (n : Nat) (who what : List Int), rest.length < n -> (pre ++ rest).length <= 1000 -> who.length <= pre.length -> what.length <= pre.length ->
 pD m n (nn, ((pre ++ rest).length : Int), (pre.length : Int), y, q, kd, pre ++ rest, rk, who, what, out) =
  ng m m (0, ((cq nn (what ++ cV (aH rk) 2 rest)).length : Int), 0, y, q, kd, pre ++ rest, who ++ gd (aH rk) pre.length rest, cq nn (what ++ cV (aH rk) 2 rest), out) := by
 intro rest
 induction rest with
 | nil =>
  intro pre n who what hn hl h1 h2; obtain ⟨n, rfl⟩ := al n (by simp at hn; omega); rw [qw]; unfold qP; dsimp only; simp only [zaY, gd, cV] at hl ⊢; rw [aF (by omega), aN ⟨hnn, by omega⟩]
 | cons x rest ih =>
  intro pre n who what hn hl h1 h2; obtain ⟨n, rfl⟩ := al n (by simp at hn; omega); simp only [zah, zae] at hl hn; rw [qw]; unfold qP; dsimp only; simp only [lt_eq]
  by_cases hs : x.i 0 = rk
  . have := ih (pre ++ [x]) n (who ++ [(pre.length : Int)]) (what ++ [x.i 2]) (by omega) (by simp; omega) (by simp; omega) (by simp; omega); simp only [gd, cV, aH, Gq hs, zaE] at this ⊢; simp (disch := omega) only [TRa, TRi, aa, LNl, LNi, zaa, ax, cG]; simp only [LNl, LNi, zaa] at this ⊢; exact this
  . have := ih (pre ++ [x]) n who what (by omega) (by simp; omega) (by simp; omega) (by simp; omega); simp only [gd, cV, aH, nL hs, zao] at this ⊢; simp (disch := omega) only [TRa, TRi, aa, LNl, LNi, zaa, ax, cG]; simp only [LNl, LNi, zaa] at this ⊢; exact this
theorem IM (m : Nat) (y : aV) (hy : 0 <= y.ar /\ y.ar <= 1152921504606846976) (q kd : Int) : ∀ (rest done ws wd : List Int) (c out : List Dat) (n : Nat) (paid : Int), rest.length < n -> ws.length = rest.length -> wd.length = done.length -> (done ++ rest).length <= 1000 -> (∀ w ∈ ws, 0 <= w /\ w < c.length) -> (∀ x ∈ rest, 0 <= x /\ x <= 1152921504606846976) -> 0 <= paid -> paid + rest.sum <= 1152921504606846976 -> (∀ i, i < c.length -> - paid <= (ag c i).i 2 /\ (ag c i).i 2 <= 1152921504606846976) -> c.length <= 1000 -> out.length + rest.length <= 137438953472 ->
 ng m n (paid, ((done ++ rest).length : Int), (done.length : Int), y, q, kd, c, wd ++ ws, done ++ rest, out) =
  some ([.i (paid + rest.sum)] ++ Uns.enc (({ y with ar := y.ar - (paid + rest.sum) } : aV) : aV) ++ [.i q, .i kd, .d (jM 2 ws rest c), .d (out ++ qK q kd ws rest)]) := by
 intro rest
 induction rest with
 | nil =>
  intro done ws wd c out n paid hn e1 e2 hl hw hx p0 p1 hc cl ol; obtain ⟨n, rfl⟩ := al n (by simp at hn; omega); obtain rfl := zaz e1; rw [qm]; unfold qW; dsimp only; simp only [zaY, jM, qK, List.sum_nil, zbQ] at p1 ⊢; rw [aF (by omega), aa (by omega) (by omega)]
 | cons x rest ih =>
  intro done ws wd c out n paid hn e1 e2 hl hw hx p0 p1 hc cl ol; obtain ⟨n, rfl⟩ := al n (by simp at hn; omega); cases ws with
  | nil => simp at e1
  | cons w ws =>
  simp only [zah, zae, zbn] at hl hn e1 p1 ol; have hx0 := hx x (by simp); have hw0 := hw w (by simp); have hs0 := dG rest (fun z hz => (hx z (by simp [hz])).1); obtain ⟨v, rfl⟩ : ∃ v : Nat, w = (v : Int) := ⟨w.toNat, by omega⟩
  have hr := hc v (by omega); have gw : (wd ++ (v : Int) :: ws).getD done.length 0 = v := by rw [<- e2]; exact cG _ _ _ _
  have hset : ∀ i, i < (c.set v (bU 2 x (ag c v))).length -> - (paid + x) <= (ag (c.set v (bU 2 x (ag c v))) i).i 2 /\ (ag (c.set v (bU 2 x (ag c v))) i).i 2 <= 1152921504606846976 := by
   intro i hi; rw [zbb] at hi
   by_cases e : i = v
   . subst e; have e3 : ag (c.set i (bU 2 x (ag c i))) i = bU 2 x (ag c i) := by simp [ag, hi]
     rw [e3]; simp only [bU, show ¬ (2 : Nat) = 1 by decide, zbe, ik]; omega
   . have e3 : ag (c.set v (bU 2 x (ag c v))) i = ag c i := by simp [ag, zbd, zb6 e]
     rw [e3]; have := hc i hi; omega
  have := ih (done ++ [x]) ws (wd ++ [(v : Int)]) (c.set v (bU 2 x (ag c v))) (out ++ if 0 < x then [.r [.n q, .n kd, .n v, .n x]] else []) n (paid + x) (by omega) (by omega) (by simp [e2]) (by simp; omega) (fun z hz => by have := hw z (by simp [hz]); simpa using this) (fun z hz => hx z (by simp [hz])) (by omega) (by omega) hset (by simpa using cl) (by split <;> simp <;> omega); simp only [jM, qK, zbn, zaG]; rw [show paid + (x + rest.sum) = paid + x + rest.sum by omega]; rw [<- zaF, <- this]; rw [qm]; unfold qW; dsimp only; have ec : done ++ [x] ++ rest = done ++ x :: rest := by simp
  have ew : wd ++ [(v : Int)] ++ ws = wd ++ (v : Int) :: ws := by simp
  rw [ec, ew]; have e5 : (bU 2 x (ag c v)) = Dat.r [.n ((ag c v).i 0), .n ((ag c v).i 1), .n ((ag c v).i 2 - x)] := by simp only [bU, show ¬ (2 : Nat) = 1 by decide, zbe]
  rw [e5]; simp only [lt_eq, zaG, gw, cG, zah, zae, zaI, zaA, zay, zaa]
  by_cases h0 : 0 < x
  . rw [if_pos h0]; simp (disch := omega) only [TRa, TRi, aa, zay]
  . rw [if_neg h0]; simp (disch := omega) only [TRa, TRi, aa, zay, zaY]
def PO : Int × aV × Int × Int × List Dat × List Dat × Int -> Bool × List Un := fun (a0, a1, a2, a3, a4, a5, a6) => (decide (a0 <= 9223372036854775807 /\ 0 <= a1.ar /\ a1.ar <= 1152921504606846976 /\ a5.length <= 68719476736) && aO a4, [.i ((aq (aH a6) 2 a0 a4).sum)] ++ Uns.enc (({ a1 with ar := a1.ar - (aq (aH a6) 2 a0 a4).sum }) : aV) ++ [.i (a2), .i (a3), .d (bH 2 (aq (aH a6) 2 a0 a4) a4), .d (a5 ++ bC a2 a3 0 (aq (aH a6) 2 a0 a4))])
theorem IW (a0 : Int) (a1 : aV) (a2 : Int) (a3 : Int) (a4 : List Dat) (a5 : List Dat) (a6 : Int) (hc : (decide (a0 <= 9223372036854775807 /\ 0 <= a1.ar /\ a1.ar <= 1152921504606846976 /\ a5.length <= 68719476736) && aO a4) = true) : ∃ m, MV m (a0, a1, a2, a3, a4, a5, a6) = some ([.i ((aq (aH a6) 2 a0 a4).sum)] ++ Uns.enc (({ a1 with ar := a1.ar - (aq (aH a6) 2 a0 a4).sum }) : aV) ++ [.i (a2), .i (a3), .d (bH 2 (aq (aH a6) 2 a0 a4) a4), .d (a5 ++ bC a2 a3 0 (aq (aH a6) 2 a0 a4))]) := by
 simp only [zab, zag] at hc; obtain ⟨⟨h1, h2, h3, h4⟩, h5⟩ := hc; obtain ⟨c1, c2⟩ := bF h5; obtain ⟨p1, p2, p3, p4, p5⟩ := tJ (aH a6) (j := 2) (.inr rfl) a0 h5; refine ⟨2000, ?_⟩; unfold MV; refine (I3 2000 a0 h1 a1 a2 a3 a6 a5 a4 [] 2000 [] [] (by omega) (by simpa using c1) (by simp) (by simp)).trans ?_
 simp only [zaU, zaI]; have ht := jI (a4.map (aH a6)); rw [zbh] at ht; have e := IM 2000 a1 ⟨h2, h3⟩ a2 a3 (cq a0 (cV (aH a6) 2 a4)) [] (gd (aH a6) 0 a4) [] a4 a5 2000 0 (by omega) (by rw [p1, oK]) rfl (by simp; omega) (fun w hw => by have := ov _ _ _ w hw; omega) (fun x hx => by have := p2 x hx; omega) (by omega) (by omega) (fun i hi => by have := cd (c2 _ (mL hi)); omega) c1 (by omega); refine e.trans ?_
 have g1 := mN (aH a6) 2 a4 [] (cq a0 (cV (aH a6) 2 a4)) p1 (fun d hd => (cd (c2 d hd)).1); have g2 := ot a2 a3 (aH a6) a4 0 (cq a0 (cV (aH a6) 2 a4)) p1; simp only [zaU, zaI, zaa] at g1 g2; rw [g1, g2, za1, p5, ju (aH a6) (j := 2) (.inr rfl) a0 h5]
theorem Hd : ER 108 (mkE Kk.en Kk.ex PO) := an ah Fc.right (fun m => [AN (pD m m)]) (t := MV) (by kernel_rfl) (fun m => (aL (MS m m) aB)) (fun m a => by kernel_rfl) fun (a0, a1, a2, a3, a4, a5, a6) hc => IW a0 a1 a2 a3 a4 a5 a6 hc
def EM : Tb Tryz.prog LQ TE XX := Fc.add 108 _ Hd
def Hy : aC := ⟨EM.tab, 108, ⟨[.ptr 0 0 0, .int .i64, .fn 135 [] [.ptr 3 0 0], .fn 113 [] []], [.cells [.int .i64, .int .i64, .int .i64, .int .i64, .int .i64, .buf 1 3, .int .i64, .int .i64, .buf 2 4], .ai (sI 3), .ai (sI 4), .cells [.int .i64]], 0⟩, ⟨[.int .i64], [.cells [.int .i64, .int .i64, .int .i64, .int .i64, .int .i64, .buf 1 3, .int .i64, .int .i64, .buf 4 4], .ai (sI 3), .gone, .gone, .ai (sI 4)], 0⟩, []⟩
abbrev w6 : Type := Int × Int × Int × aV × Int × Int × List Dat × List Int × List Int × List Dat
abbrev wQ : Type := Int × Int × Int × aV × Int × Int × List Dat × Int × List Int × List Int × List Dat
def rN (m : Nat) (k : w6 -> Option (List Un)) : w6 -> Option (List Un) := fun (a0, a1, a2, a3, a4, a5, a6, a7, a8, a9) =>
 bif decide (a2 < a1) then
 chk (inb a2 a8.length) <|
 chk (decide (a2.toNat < a8.length)) <|
 chk (inb a2 a7.length) <|
 chk (decide (a2.toNat < a7.length)) <|
 chk (inb (a7.getD a2.toNat 0) a6.length) <|
 chk (decide ((a7.getD a2.toNat 0).toNat < a6.length)) <|
 chk (decide ((a7.getD a2.toNat 0).toNat < a6.length)) <|
 lt (ag a6 ((a7.getD a2.toNat 0).toNat) : Dat) fun d4 =>
 lt ((List.set a6 ((a7.getD a2.toNat 0).toNat) (.r [.n (d4.i 0), .n (w64 (((ag a6 ((a7.getD a2.toNat 0).toNat)).i 1) - (a8.getD a2.toNat 0))), .n (d4.i 2)])) : List Dat) fun l5 =>
 lt ((w64 (a0 + (a8.getD a2.toNat 0))) : Int) fun x6 =>
 chk (inb a2 a7.length) <|
 chk (decide (a2.toNat < a7.length)) <|
 bif (decide ((a8.getD a2.toNat 0) > 0)) then
 chk (fits (a9.length + 1) 32) <|
 k (x6, a1, (w64 (a2 + 1)), a3, a4, a5, l5, a7, a8, (a9 ++ ([.r [.n a4, .n a5, .n (a7.getD a2.toNat 0), .n (a8.getD a2.toNat 0)]])))
 else
 k (x6, a1, (w64 (a2 + 1)), a3, a4, a5, l5, a7, a8, a9)
 else
 some ([.i a0] ++ Uns.enc (({ a3 with ar := (w64 (a3.ar - a0)) } : aV) : aV) ++ [.i a4, .i a5, .d a6, .d a9])
def nw (m : Nat) : Nat -> w6 -> Option (List Un) := bo (rN m)
theorem qk (m : Nat) (n : Nat) : nw m (n + 1) = rN m (nw m n) := rfl
def BM (F : w6 -> Option (List Un)) : aW := ⟨[.lp [0, 1, 0, 1, 1, 1, 1], .blk 2, .code [1, 1, 1, 1, 1]], ⟨frm 88 [(0, .ptr 0 0 0), (3, .fn 113 [] []), (9, .buf 4 1), (13, .int .i64), (44, .buf 5 1), (45, .int .i64), (46, .int .i64)], [.cells [.int .i64, .int .i64, .int .i64, .int .i64, .int .i64, .buf 1 3, .int .i64, .int .i64, .buf 6 4], .ai (sI 3), .gone, .gone, .ints .i64, .ints .i64, .ai (sI 4)], 0⟩, onU F⟩
def rF (m : Nat) (k : wQ -> Option (List Un)) : wQ -> Option (List Un) := fun (a0, a1, a2, a3, a4, a5, a6, a7, a8, a9, a10) =>
 bif decide (a2 < a1) then
 chk (inb a2 a6.length) <|
 chk (decide (a2.toNat < a6.length)) <|
 lt (ag a6 a2.toNat : Dat) fun d1 =>
 bif (d1.i 0) == a7 then
 chk (fits (a8.length + 1) 8) <|
 chk (fits (a9.length + 1) 8) <|
 k (a0, a1, (w64 (a2 + 1)), a3, a4, a5, a6, a7, (a8 ++ ([a2])), (a9 ++ ([(d1.i 1)])), a10)
 else
 k (a0, a1, (w64 (a2 + 1)), a3, a4, a5, a6, a7, a8, a9, a10)
 else
 chk (decide (a0 <= 9223372036854775807 /\ a9.length < 1099511627776)) <|
 nw m m (0, ((cq a0 a9).length : Int), 0, a3, a4, a5, a6, a8, (cq a0 a9), a10)
def oR (m : Nat) : Nat -> wQ -> Option (List Un) := bo (rF m)
theorem qq (m : Nat) (n : Nat) : oR m (n + 1) = rF m (oR m n) := rfl
def Bq (F : wQ -> Option (List Un)) : aW := ⟨[.lp [0, 1, 0, 1, 1], .blk 0, .code [1, 1, 1]], ⟨frm 88 [(0, .ptr 0 0 0), (1, .int .i64), (2, .fn 135 [] [.ptr 4 0 0]), (3, .fn 113 [] []), (9, .buf 5 1), (10, .buf 6 1), (20, .buf 1 3), (21, .int .i64), (22, .int .i64)], [.cells [.int .i64, .int .i64, .int .i64, .int .i64, .int .i64, .buf 1 3, .int .i64, .int .i64, .buf 7 4], .ai (sI 3), .gone, .gone, .cells [.int .i64], .ints .i64, .ints .i64, .ai (sI 4)], 0⟩, onU F⟩
theorem Ls (m : Nat) : ∀ n, HO Hy (BM (nw m n)) := au ah EM.right (fun k => [BM k]) (fun k h => (aL h aB)) fun k a => by kernel_rfl
theorem Nk (m : Nat) : ∀ n, HO Hy (Bq (oR m n)) := au ah EM.right (fun k => [Bq k, BM (nw m m)]) (fun k h => (aL h (aL (Ls m m) aB))) fun k a => by kernel_rfl
def Mj (m : Nat) : Int × aV × Int × Int × List Dat × List Dat × Int -> Option (List Un) := fun (a0, a1, a2, a3, a4, a5, a6) =>
 oR m m (a0, (a4.length : Int), 0, a1, a2, a3, a4, a6, [], [], a5)
theorem Kj (m : Nat) (nn : Int) (hnn : nn <= 9223372036854775807) (y : aV) (q kd : Int) (rk : Int) (out : List Dat) : ∀ (rest pre : List Dat) (n : Nat) (who what : List Int), rest.length < n -> (pre ++ rest).length <= 1000 -> who.length <= pre.length -> what.length <= pre.length ->
 oR m n (nn, ((pre ++ rest).length : Int), (pre.length : Int), y, q, kd, pre ++ rest, rk, who, what, out) =
  nw m m (0, ((cq nn (what ++ cV (aH rk) 1 rest)).length : Int), 0, y, q, kd, pre ++ rest, who ++ gd (aH rk) pre.length rest, cq nn (what ++ cV (aH rk) 1 rest), out) := by
 intro rest
 induction rest with
 | nil =>
  intro pre n who what hn hl h1 h2; obtain ⟨n, rfl⟩ := al n (by simp at hn; omega); rw [qq]; unfold rF; dsimp only; simp only [zaY, gd, cV] at hl ⊢; rw [aF (by omega), aN ⟨hnn, by omega⟩]
 | cons x rest ih =>
  intro pre n who what hn hl h1 h2; obtain ⟨n, rfl⟩ := al n (by simp at hn; omega); simp only [zah, zae] at hl hn; rw [qq]; unfold rF; dsimp only; simp only [lt_eq]
  by_cases hs : x.i 0 = rk
  . have := ih (pre ++ [x]) n (who ++ [(pre.length : Int)]) (what ++ [x.i 1]) (by omega) (by simp; omega) (by simp; omega) (by simp; omega); simp only [gd, cV, aH, Gq hs, zaE] at this ⊢; simp (disch := omega) only [TRa, TRi, aa, LNl, LNi, zaa, ax, cG]; simp only [LNl, LNi, zaa] at this ⊢; exact this
  . have := ih (pre ++ [x]) n who what (by omega) (by simp; omega) (by simp; omega) (by simp; omega); simp only [gd, cV, aH, nL hs, zao] at this ⊢; simp (disch := omega) only [TRa, TRi, aa, LNl, LNi, zaa, ax, cG]; simp only [LNl, LNi, zaa] at this ⊢; exact this
theorem Ix (m : Nat) (y : aV) (hy : 0 <= y.ar /\ y.ar <= 1152921504606846976) (q kd : Int) : ∀ (rest done ws wd : List Int) (c out : List Dat) (n : Nat) (paid : Int), rest.length < n -> ws.length = rest.length -> wd.length = done.length -> (done ++ rest).length <= 1000 -> (∀ w ∈ ws, 0 <= w /\ w < c.length) -> (∀ x ∈ rest, 0 <= x /\ x <= 1152921504606846976) -> 0 <= paid -> paid + rest.sum <= 1152921504606846976 -> (∀ i, i < c.length -> - paid <= (ag c i).i 1 /\ (ag c i).i 1 <= 1152921504606846976) -> c.length <= 1000 -> out.length + rest.length <= 137438953472 ->
 nw m n (paid, ((done ++ rest).length : Int), (done.length : Int), y, q, kd, c, wd ++ ws, done ++ rest, out) =
  some ([.i (paid + rest.sum)] ++ Uns.enc (({ y with ar := y.ar - (paid + rest.sum) } : aV) : aV) ++ [.i q, .i kd, .d (jM 1 ws rest c), .d (out ++ qK q kd ws rest)]) := by
 intro rest
 induction rest with
 | nil =>
  intro done ws wd c out n paid hn e1 e2 hl hw hx p0 p1 hc cl ol; obtain ⟨n, rfl⟩ := al n (by simp at hn; omega); obtain rfl := zaz e1; rw [qk]; unfold rN; dsimp only; simp only [zaY, jM, qK, List.sum_nil, zbQ] at p1 ⊢; rw [aF (by omega), aa (by omega) (by omega)]
 | cons x rest ih =>
  intro done ws wd c out n paid hn e1 e2 hl hw hx p0 p1 hc cl ol; obtain ⟨n, rfl⟩ := al n (by simp at hn; omega); cases ws with
  | nil => simp at e1
  | cons w ws =>
  simp only [zah, zae, zbn] at hl hn e1 p1 ol; have hx0 := hx x (by simp); have hw0 := hw w (by simp); have hs0 := dG rest (fun z hz => (hx z (by simp [hz])).1); obtain ⟨v, rfl⟩ : ∃ v : Nat, w = (v : Int) := ⟨w.toNat, by omega⟩
  have hr := hc v (by omega); have gw : (wd ++ (v : Int) :: ws).getD done.length 0 = v := by rw [<- e2]; exact cG _ _ _ _
  have hset : ∀ i, i < (c.set v (bU 1 x (ag c v))).length -> - (paid + x) <= (ag (c.set v (bU 1 x (ag c v))) i).i 1 /\ (ag (c.set v (bU 1 x (ag c v))) i).i 1 <= 1152921504606846976 := by
   intro i hi; rw [zbb] at hi
   by_cases e : i = v
   . subst e; have e3 : ag (c.set i (bU 1 x (ag c i))) i = bU 1 x (ag c i) := by simp [ag, hi]
     rw [e3]; simp only [bU, za7, dX]; omega
   . have e3 : ag (c.set v (bU 1 x (ag c v))) i = ag c i := by simp [ag, zbd, zb6 e]
     rw [e3]; have := hc i hi; omega
  have := ih (done ++ [x]) ws (wd ++ [(v : Int)]) (c.set v (bU 1 x (ag c v))) (out ++ if 0 < x then [.r [.n q, .n kd, .n v, .n x]] else []) n (paid + x) (by omega) (by omega) (by simp [e2]) (by simp; omega) (fun z hz => by have := hw z (by simp [hz]); simpa using this) (fun z hz => hx z (by simp [hz])) (by omega) (by omega) hset (by simpa using cl) (by split <;> simp <;> omega); simp only [jM, qK, zbn, zaG]; rw [show paid + (x + rest.sum) = paid + x + rest.sum by omega]; rw [<- zaF, <- this]; rw [qk]; unfold rN; dsimp only; have ec : done ++ [x] ++ rest = done ++ x :: rest := by simp
  have ew : wd ++ [(v : Int)] ++ ws = wd ++ (v : Int) :: ws := by simp
  rw [ec, ew]; have e5 : (bU 1 x (ag c v)) = Dat.r [.n ((ag c v).i 0), .n ((ag c v).i 1 - x), .n ((ag c v).i 2)] := by simp only [bU, za7]
  rw [e5]; simp only [lt_eq, zaG, gw, cG, zah, zae, zaI, zaA, zay, zaa]
  by_cases h0 : 0 < x
  . rw [if_pos h0]; simp (disch := omega) only [TRa, TRi, aa, zay]
  . rw [if_neg h0]; simp (disch := omega) only [TRa, TRi, aa, zay, zaY]
def PU : Int × aV × Int × Int × List Dat × List Dat × Int -> Bool × List Un := fun (a0, a1, a2, a3, a4, a5, a6) => (decide (a0 <= 9223372036854775807 /\ 0 <= a1.ar /\ a1.ar <= 1152921504606846976 /\ a5.length <= 68719476736) && aO a4, [.i ((aq (aH a6) 1 a0 a4).sum)] ++ Uns.enc (({ a1 with ar := a1.ar - (aq (aH a6) 1 a0 a4).sum }) : aV) ++ [.i (a2), .i (a3), .d (bH 1 (aq (aH a6) 1 a0 a4) a4), .d (a5 ++ bC a2 a3 0 (aq (aH a6) 1 a0 a4))])
theorem IC (a0 : Int) (a1 : aV) (a2 : Int) (a3 : Int) (a4 : List Dat) (a5 : List Dat) (a6 : Int) (hc : (decide (a0 <= 9223372036854775807 /\ 0 <= a1.ar /\ a1.ar <= 1152921504606846976 /\ a5.length <= 68719476736) && aO a4) = true) : ∃ m, Mj m (a0, a1, a2, a3, a4, a5, a6) = some ([.i ((aq (aH a6) 1 a0 a4).sum)] ++ Uns.enc (({ a1 with ar := a1.ar - (aq (aH a6) 1 a0 a4).sum }) : aV) ++ [.i (a2), .i (a3), .d (bH 1 (aq (aH a6) 1 a0 a4) a4), .d (a5 ++ bC a2 a3 0 (aq (aH a6) 1 a0 a4))]) := by
 simp only [zab, zag] at hc; obtain ⟨⟨h1, h2, h3, h4⟩, h5⟩ := hc; obtain ⟨c1, c2⟩ := bF h5; obtain ⟨p1, p2, p3, p4, p5⟩ := tJ (aH a6) (j := 1) (.inl rfl) a0 h5; refine ⟨2000, ?_⟩; unfold Mj; refine (Kj 2000 a0 h1 a1 a2 a3 a6 a5 a4 [] 2000 [] [] (by omega) (by simpa using c1) (by simp) (by simp)).trans ?_
 simp only [zaU, zaI]; have ht := jI (a4.map (aH a6)); rw [zbh] at ht; have e := Ix 2000 a1 ⟨h2, h3⟩ a2 a3 (cq a0 (cV (aH a6) 1 a4)) [] (gd (aH a6) 0 a4) [] a4 a5 2000 0 (by omega) (by rw [p1, oK]) rfl (by simp; omega) (fun w hw => by have := ov _ _ _ w hw; omega) (fun x hx => by have := p2 x hx; omega) (by omega) (by omega) (fun i hi => by have := cd (c2 _ (mL hi)); omega) c1 (by omega); refine e.trans ?_
 have g1 := mN (aH a6) 1 a4 [] (cq a0 (cV (aH a6) 1 a4)) p1 (fun d hd => (cd (c2 d hd)).1); have g2 := ot a2 a3 (aH a6) a4 0 (cq a0 (cV (aH a6) 1 a4)) p1; simp only [zaU, zaI, zaa] at g1 g2; rw [g1, g2, za1, p5, ju (aH a6) (j := 1) (.inl rfl) a0 h5]
theorem Gl : ER 108 (mkE Hy.en Hy.ex PU) := an ah EM.right (fun m => [Bq (oR m m)]) (t := Mj) (by kernel_rfl) (fun m => (aL (Nk m m) aB)) (fun m a => by kernel_rfl) fun (a0, a1, a2, a3, a4, a5, a6) hc => IC a0 a1 a2 a3 a4 a5 a6 hc
def GZ : Tb Tryz.prog LQ TE XX := EM.add 108 _ Gl
def IS : aC := ⟨GZ.tab, 108, ⟨[.ptr 0 0 0, .int .i64, .fn 112 [] [], .fn 113 [] []], [.cells [.int .i64, .int .i64, .int .i64, .int .i64, .int .i64, .buf 1 3, .int .i64, .int .i64, .buf 2 4], .ai (sI 3), .ai (sI 4)], 0⟩, ⟨[.int .i64], [.cells [.int .i64, .int .i64, .int .i64, .int .i64, .int .i64, .buf 1 3, .int .i64, .int .i64, .buf 3 4], .ai (sI 3), .gone, .ai (sI 4)], 0⟩, []⟩
abbrev yA : Type := Int × Int × Int × aV × Int × Int × List Dat × List Int × List Int × List Dat
abbrev xf : Type := Int × Int × Int × aV × Int × Int × List Dat × List Int × List Int × List Dat
def rh (m : Nat) (k : yA -> Option (List Un)) : yA -> Option (List Un) := fun (a0, a1, a2, a3, a4, a5, a6, a7, a8, a9) =>
 bif decide (a2 < a1) then
 chk (inb a2 a8.length) <|
 chk (decide (a2.toNat < a8.length)) <|
 chk (inb a2 a7.length) <|
 chk (decide (a2.toNat < a7.length)) <|
 chk (inb (a7.getD a2.toNat 0) a6.length) <|
 chk (decide ((a7.getD a2.toNat 0).toNat < a6.length)) <|
 chk (decide ((a7.getD a2.toNat 0).toNat < a6.length)) <|
 lt (ag a6 ((a7.getD a2.toNat 0).toNat) : Dat) fun d4 =>
 lt ((List.set a6 ((a7.getD a2.toNat 0).toNat) (.r [.n (d4.i 0), .n (w64 (((ag a6 ((a7.getD a2.toNat 0).toNat)).i 1) - (a8.getD a2.toNat 0))), .n (d4.i 2)])) : List Dat) fun l5 =>
 lt ((w64 (a0 + (a8.getD a2.toNat 0))) : Int) fun x6 =>
 chk (inb a2 a7.length) <|
 chk (decide (a2.toNat < a7.length)) <|
 bif (decide ((a8.getD a2.toNat 0) > 0)) then
 chk (fits (a9.length + 1) 32) <|
 k (x6, a1, (w64 (a2 + 1)), a3, a4, a5, l5, a7, a8, (a9 ++ ([.r [.n a4, .n a5, .n (a7.getD a2.toNat 0), .n (a8.getD a2.toNat 0)]])))
 else
 k (x6, a1, (w64 (a2 + 1)), a3, a4, a5, l5, a7, a8, a9)
 else
 some ([.i a0] ++ Uns.enc (({ a3 with ar := (w64 (a3.ar - a0)) } : aV) : aV) ++ [.i a4, .i a5, .d a6, .d a9])
def ny (m : Nat) : Nat -> yA -> Option (List Un) := bo (rh m)
theorem qe (m : Nat) (n : Nat) : ny m (n + 1) = rh m (ny m n) := rfl
def Be (F : yA -> Option (List Un)) : aW := ⟨[.lp [0, 1, 0, 1, 1, 1, 1], .blk 2, .code [1, 1, 1, 1, 1]], ⟨frm 88 [(0, .ptr 0 0 0), (3, .fn 113 [] []), (9, .buf 3 1), (13, .int .i64), (44, .buf 4 1), (45, .int .i64), (46, .int .i64)], [.cells [.int .i64, .int .i64, .int .i64, .int .i64, .int .i64, .buf 1 3, .int .i64, .int .i64, .buf 5 4], .ai (sI 3), .gone, .ints .i64, .ints .i64, .ai (sI 4)], 0⟩, onU F⟩
def rJ (m : Nat) (k : xf -> Option (List Un)) : xf -> Option (List Un) := fun (a0, a1, a2, a3, a4, a5, a6, a7, a8, a9) =>
 bif decide (a2 < a1) then
 chk (inb a2 a6.length) <|
 chk (decide (a2.toNat < a6.length)) <|
 chk (fits (a7.length + 1) 8) <|
 chk (fits (a8.length + 1) 8) <|
 k (a0, a1, (w64 (a2 + 1)), a3, a4, a5, a6, (a7 ++ ([a2])), (a8 ++ ([((ag a6 a2.toNat).i 1)])), a9)
 else
 chk (decide (a0 <= 9223372036854775807 /\ a8.length < 1099511627776)) <|
 ny m m (0, ((cq a0 a8).length : Int), 0, a3, a4, a5, a6, a7, (cq a0 a8), a9)
def pB (m : Nat) : Nat -> xf -> Option (List Un) := bo (rJ m)
theorem qD (m : Nat) (n : Nat) : pB m (n + 1) = rJ m (pB m n) := rfl
def AG (F : xf -> Option (List Un)) : aW := ⟨[.lp [0, 1, 0, 1, 1], .blk 0, .code [1, 1, 1]], ⟨frm 88 [(0, .ptr 0 0 0), (1, .int .i64), (2, .fn 112 [] []), (3, .fn 113 [] []), (9, .buf 3 1), (10, .buf 4 1), (20, .buf 1 3), (21, .int .i64), (22, .int .i64)], [.cells [.int .i64, .int .i64, .int .i64, .int .i64, .int .i64, .buf 1 3, .int .i64, .int .i64, .buf 5 4], .ai (sI 3), .gone, .ints .i64, .ints .i64, .ai (sI 4)], 0⟩, onU F⟩
theorem K7 (m : Nat) : ∀ n, HO IS (Be (ny m n)) := au ah GZ.right (fun k => [Be k]) (fun k h => (aL h aB)) fun k a => by kernel_rfl
theorem MO (m : Nat) : ∀ n, HO IS (AG (pB m n)) := au ah GZ.right (fun k => [AG k, Be (ny m m)]) (fun k h => (aL h (aL (K7 m m) aB))) fun k a => by kernel_rfl
def Nj (m : Nat) : Int × aV × Int × Int × List Dat × List Dat -> Option (List Un) := fun (a0, a1, a2, a3, a4, a5) =>
 pB m m (a0, (a4.length : Int), 0, a1, a2, a3, a4, [], [], a5)
theorem ID (m : Nat) (nn : Int) (hnn : nn <= 9223372036854775807) (y : aV) (q kd : Int) (out : List Dat) : ∀ (rest pre : List Dat) (n : Nat) (who what : List Int), rest.length < n -> (pre ++ rest).length <= 1000 -> who.length <= pre.length -> what.length <= pre.length ->
 pB m n (nn, ((pre ++ rest).length : Int), (pre.length : Int), y, q, kd, pre ++ rest, who, what, out) =
  ny m m (0, ((cq nn (what ++ cV (fun _ => true) 1 rest)).length : Int), 0, y, q, kd, pre ++ rest, who ++ gd (fun _ => true) pre.length rest, cq nn (what ++ cV (fun _ => true) 1 rest), out) := by
 intro rest
 induction rest with
 | nil =>
  intro pre n who what hn hl h1 h2; obtain ⟨n, rfl⟩ := al n (by simp at hn; omega); rw [qD]; unfold rJ; dsimp only; simp only [zaY, gd, cV] at hl ⊢; rw [aF (by omega), aN ⟨hnn, by omega⟩]
 | cons x rest ih =>
  intro pre n who what hn hl h1 h2; obtain ⟨n, rfl⟩ := al n (by simp at hn; omega); simp only [zah, zae] at hl hn; rw [qD]; unfold rJ; dsimp only; have := ih (pre ++ [x]) n (who ++ [(pre.length : Int)]) (what ++ [x.i 1]) (by omega) (by simp; omega) (by simp; omega) (by simp; omega); simp only [gd, cV, zaE] at this ⊢; simp (disch := omega) only [TRa, TRi, aa, LNl, LNi, zaa, ax, cG]; simp only [LNl, LNi, zaa] at this ⊢; exact this
theorem IN (m : Nat) (y : aV) (hy : 0 <= y.ar /\ y.ar <= 1152921504606846976) (q kd : Int) : ∀ (rest done ws wd : List Int) (c out : List Dat) (n : Nat) (paid : Int), rest.length < n -> ws.length = rest.length -> wd.length = done.length -> (done ++ rest).length <= 1000 -> (∀ w ∈ ws, 0 <= w /\ w < c.length) -> (∀ x ∈ rest, 0 <= x /\ x <= 1152921504606846976) -> 0 <= paid -> paid + rest.sum <= 1152921504606846976 -> (∀ i, i < c.length -> - paid <= (ag c i).i 1 /\ (ag c i).i 1 <= 1152921504606846976) -> c.length <= 1000 -> out.length + rest.length <= 137438953472 ->
 ny m n (paid, ((done ++ rest).length : Int), (done.length : Int), y, q, kd, c, wd ++ ws, done ++ rest, out) =
  some ([.i (paid + rest.sum)] ++ Uns.enc (({ y with ar := y.ar - (paid + rest.sum) } : aV) : aV) ++ [.i q, .i kd, .d (jM 1 ws rest c), .d (out ++ qK q kd ws rest)]) := by
 intro rest
 induction rest with
 | nil =>
  intro done ws wd c out n paid hn e1 e2 hl hw hx p0 p1 hc cl ol; obtain ⟨n, rfl⟩ := al n (by simp at hn; omega); obtain rfl := zaz e1; rw [qe]; unfold rh; dsimp only; simp only [zaY, jM, qK, List.sum_nil, zbQ] at p1 ⊢; rw [aF (by omega), aa (by omega) (by omega)]
 | cons x rest ih =>
  intro done ws wd c out n paid hn e1 e2 hl hw hx p0 p1 hc cl ol; obtain ⟨n, rfl⟩ := al n (by simp at hn; omega); cases ws with
  | nil => simp at e1
  | cons w ws =>
  simp only [zah, zae, zbn] at hl hn e1 p1 ol; have hx0 := hx x (by simp); have hw0 := hw w (by simp); have hs0 := dG rest (fun z hz => (hx z (by simp [hz])).1); obtain ⟨v, rfl⟩ : ∃ v : Nat, w = (v : Int) := ⟨w.toNat, by omega⟩
  have hr := hc v (by omega); have gw : (wd ++ (v : Int) :: ws).getD done.length 0 = v := by rw [<- e2]; exact cG _ _ _ _
  have hset : ∀ i, i < (c.set v (bU 1 x (ag c v))).length -> - (paid + x) <= (ag (c.set v (bU 1 x (ag c v))) i).i 1 /\ (ag (c.set v (bU 1 x (ag c v))) i).i 1 <= 1152921504606846976 := by
   intro i hi; rw [zbb] at hi
   by_cases e : i = v
   . subst e; have e3 : ag (c.set i (bU 1 x (ag c i))) i = bU 1 x (ag c i) := by simp [ag, hi]
     rw [e3]; simp only [bU, za7, dX]; omega
   . have e3 : ag (c.set v (bU 1 x (ag c v))) i = ag c i := by simp [ag, zbd, zb6 e]
     rw [e3]; have := hc i hi; omega
  have := ih (done ++ [x]) ws (wd ++ [(v : Int)]) (c.set v (bU 1 x (ag c v))) (out ++ if 0 < x then [.r [.n q, .n kd, .n v, .n x]] else []) n (paid + x) (by omega) (by omega) (by simp [e2]) (by simp; omega) (fun z hz => by have := hw z (by simp [hz]); simpa using this) (fun z hz => hx z (by simp [hz])) (by omega) (by omega) hset (by simpa using cl) (by split <;> simp <;> omega); simp only [jM, qK, zbn, zaG]; rw [show paid + (x + rest.sum) = paid + x + rest.sum by omega]; rw [<- zaF, <- this]; rw [qe]; unfold rh; dsimp only; have ec : done ++ [x] ++ rest = done ++ x :: rest := by simp
  have ew : wd ++ [(v : Int)] ++ ws = wd ++ (v : Int) :: ws := by simp
  rw [ec, ew]; have e5 : (bU 1 x (ag c v)) = Dat.r [.n ((ag c v).i 0), .n ((ag c v).i 1 - x), .n ((ag c v).i 2)] := by simp only [bU, za7]
  rw [e5]; simp only [lt_eq, zaG, gw, cG, zah, zae, zaI, zaA, zay, zaa]
  by_cases h0 : 0 < x
  . rw [if_pos h0]; simp (disch := omega) only [TRa, TRi, aa, zay]
  . rw [if_neg h0]; simp (disch := omega) only [TRa, TRi, aa, zay, zaY]
def PL : Int × aV × Int × Int × List Dat × List Dat -> Bool × List Un := fun (a0, a1, a2, a3, a4, a5) => (decide (a0 <= 9223372036854775807 /\ 0 <= a1.ar /\ a1.ar <= 1152921504606846976 /\ a5.length <= 68719476736) && aO a4, [.i ((aq (fun _ => true) 1 a0 a4).sum)] ++ Uns.enc (({ a1 with ar := a1.ar - (aq (fun _ => true) 1 a0 a4).sum }) : aV) ++ [.i (a2), .i (a3), .d (bH 1 (aq (fun _ => true) 1 a0 a4) a4), .d (a5 ++ bC a2 a3 0 (aq (fun _ => true) 1 a0 a4))])
theorem JR (a0 : Int) (a1 : aV) (a2 : Int) (a3 : Int) (a4 : List Dat) (a5 : List Dat) (hc : (decide (a0 <= 9223372036854775807 /\ 0 <= a1.ar /\ a1.ar <= 1152921504606846976 /\ a5.length <= 68719476736) && aO a4) = true) : ∃ m, Nj m (a0, a1, a2, a3, a4, a5) = some ([.i ((aq (fun _ => true) 1 a0 a4).sum)] ++ Uns.enc (({ a1 with ar := a1.ar - (aq (fun _ => true) 1 a0 a4).sum }) : aV) ++ [.i (a2), .i (a3), .d (bH 1 (aq (fun _ => true) 1 a0 a4) a4), .d (a5 ++ bC a2 a3 0 (aq (fun _ => true) 1 a0 a4))]) := by
 simp only [zab, zag] at hc; obtain ⟨⟨h1, h2, h3, h4⟩, h5⟩ := hc; obtain ⟨c1, c2⟩ := bF h5; obtain ⟨p1, p2, p3, p4, p5⟩ := tJ (fun _ => true) (j := 1) (.inl rfl) a0 h5; refine ⟨2000, ?_⟩; unfold Nj; refine (ID 2000 a0 h1 a1 a2 a3 a5 a4 [] 2000 [] [] (by omega) (by simpa using c1) (by simp) (by simp)).trans ?_
 simp only [zaU, zaI]; have ht := jI (a4.map (fun _ => true)); rw [zbh] at ht; have e := IN 2000 a1 ⟨h2, h3⟩ a2 a3 (cq a0 (cV (fun _ => true) 1 a4)) [] (gd (fun _ => true) 0 a4) [] a4 a5 2000 0 (by omega) (by rw [p1, oK]) rfl (by simp; omega) (fun w hw => by have := ov _ _ _ w hw; omega) (fun x hx => by have := p2 x hx; omega) (by omega) (by omega) (fun i hi => by have := cd (c2 _ (mL hi)); omega) c1 (by omega); refine e.trans ?_
 have g1 := mN (fun _ => true) 1 a4 [] (cq a0 (cV (fun _ => true) 1 a4)) p1 (fun d hd => (cd (c2 d hd)).1); have g2 := ot a2 a3 (fun _ => true) a4 0 (cq a0 (cV (fun _ => true) 1 a4)) p1; simp only [zaU, zaI, zaa] at g1 g2; rw [g1, g2, za1, p5, ju (fun _ => true) (j := 1) (.inl rfl) a0 h5]
theorem GF : ER 108 (mkE IS.en IS.ex PL) := an ah GZ.right (fun m => [AG (pB m m)]) (t := Nj) (by kernel_rfl) (fun m => (aL (MO m m) aB)) (fun m a => by kernel_rfl) fun (a0, a1, a2, a3, a4, a5) hc => JR a0 a1 a2 a3 a4 a5 hc
def JB : Tb Tryz.prog LQ TE XX := GZ.add 108 _ GF
def Mf : aC := ⟨JB.tab, 111, ⟨[.ptr 0 0 0, .int .i64], [.cells [.int .i64, .int .i64, .int .i64, .int .i64, .int .i64, .buf 1 3, .int .i64, .int .i64, .buf 2 4], .ai (sI 3), .ai (sI 4)], 0⟩, ⟨[.int .i64], [.cells [.int .i64, .int .i64, .int .i64, .int .i64, .int .i64, .buf 1 3, .int .i64, .int .i64, .buf 3 4], .ai (sI 3), .gone, .ai (sI 4)], 0⟩, []⟩
abbrev yC : Type := Int × Int × Int × aV × Int × Int × List Dat × List Dat
def rm (m : Nat) (k : yC -> Option (List Un)) : yC -> Option (List Un) := fun (a0, a1, a2, a3, a4, a5, a6, a7) =>
 bif decide (a2 < 8) then
 chk (decide ((w64 (a0 - a1)) <= 9223372036854775807 /\ 0 <= a3.ar /\ a3.ar <= 1152921504606846976 /\ a7.length <= 68719476736) && aO a6) <|
 k (a0, (w64 (a1 + ((aq (aH a2) 1 (w64 (a0 - a1)) a6).sum))), (w64 (a2 + 1)), ({ a3 with ar := a3.ar - (aq (aH a2) 1 (w64 (a0 - a1)) a6).sum }), a4, a5, (bH 1 (aq (aH a2) 1 (w64 (a0 - a1)) a6) a6), (a7 ++ bC a4 a5 0 (aq (aH a2) 1 (w64 (a0 - a1)) a6)))
 else
 some ([.i a1] ++ Uns.enc (a3 : aV) ++ [.i a4, .i a5, .d a6, .d a7])
def pI (m : Nat) : Nat -> yC -> Option (List Un) := bo (rm m)
theorem pT (m : Nat) (n : Nat) : pI m (n + 1) = rm m (pI m n) := rfl
def Bd (F : yC -> Option (List Un)) : aW := ⟨[.lp [0, 1, 0, 1, 1], .blk 0, .code [1, 1, 1]], ⟨frm 21 [(0, .ptr 0 0 0), (1, .int .i64), (5, .int .i64), (7, .int .i64)], [.cells [.int .i64, .int .i64, .int .i64, .int .i64, .int .i64, .buf 1 3, .int .i64, .int .i64, .buf 3 4], .ai (sI 3), .gone, .ai (sI 4)], 0⟩, onU F⟩
theorem MF (m : Nat) : ∀ n, HO Mf (Bd (pI m n)) := au ah JB.right (fun k => [Bd k]) (fun k h => (aL h aB)) fun k a => by kernel_rfl
def t111 (m : Nat) : Int × aV × Int × Int × List Dat × List Dat -> Option (List Un) := fun (a0, a1, a2, a3, a4, a5) =>
 pI m m (a0, 0, 0, a1, a2, a3, a4, a5)
theorem On (m : Nat) (nn q kd : Int) : ∀ (k n : Nat) (r paid : Int) (y : aV) (c out : List Dat), k < n -> r + k = 8 -> 0 <= r -> aO c = true -> 0 <= paid -> paid <= nn -> nn - paid <= y.ar -> y.ar <= 1152921504606846976 -> nn <= 1152921504606846976 -> out.length + 1000 * k <= 68719476736 ->
 pI m n (nn, paid, r, y, q, kd, c, out) = some ([.i (paid + (bm q kd k r (nn - paid) c).2.2)] ++ Uns.enc (({ y with ar := y.ar - (bm q kd k r (nn - paid) c).2.2 } : aV) : aV) ++ [.i q, .i kd, .d (bm q kd k r (nn - paid) c).1, .d (out ++ (bm q kd k r (nn - paid) c).2.1)]) := by
 intro k
 induction k with
 | zero =>
  intro n r paid y c out hn hr h0 hc p0 p1 p2 p3 p4 ho; obtain ⟨n, rfl⟩ := al n (by omega); rw [pT]; unfold rm; dsimp only; simp only [bm, zbQ, zbl, zaY]; rw [aF (by omega)]
 | succ k ih =>
  intro n r paid y c out hn hr h0 hc p0 p1 p2 p3 p4 ho; obtain ⟨n, rfl⟩ := al n (by omega); rw [pT]; unfold rm; dsimp only; obtain ⟨l1, l2, l3⟩ := dH (aH r) (j := 1) (.inl rfl) (nn - paid) hc; obtain ⟨_, _, w0, w1⟩ := lR (aH r) (j := 1) (.inl rfl) hc; obtain ⟨g1, g2⟩ := nP (aH r) (j := 1) (.inl rfl) (nn - paid) hc; have hpl := ja q kd (aq (aH r) 1 (nn - paid) c) 0; have hcl := (bF hc).1; rw [bE (by omega), aa (n := nn - paid) (by omega) (by omega), hc, za9, aN ⟨by omega, by omega, by omega, by omega⟩]; have := ih n (r + 1) (paid + (aq (aH r) 1 (nn - paid) c).sum) { y with ar := y.ar - (aq (aH r) 1 (nn - paid) c).sum } (bH 1 (aq (aH r) 1 (nn - paid) c) c) (out ++ bC q kd 0 (aq (aH r) 1 (nn - paid) c)) (by omega) (by omega) (by omega) g1 (by omega) (by omega) (by simp only; omega) (by simp only; omega) p4 (by rw [zah]; omega); rw [aa (n := r + 1) (by omega) (by omega), aa (n := paid + (aq (aH r) 1 (nn - paid) c).sum) (by omega) (by omega), this]; simp only [bm]; rw [show nn - (paid + (aq (aH r) 1 (nn - paid) c).sum) = nn - paid - (aq (aH r) 1 (nn - paid) c).sum by omega]; simp only [Int.add_assoc, zaF, Int.sub_sub]
def f111 : Int × aV × Int × Int × List Dat × List Dat -> Bool × List Un := fun (a0, a1, a2, a3, a4, a5) => (decide (0 <= a0 /\ a0 <= a1.ar /\ a1.ar <= 1152921504606846976 /\ a5.length <= 34359738368) && aO a4, [.i ((bm a2 a3 8 0 a0 a4).2.2)] ++ Uns.enc (({ a1 with ar := a1.ar - (bm a2 a3 8 0 a0 a4).2.2 }) : aV) ++ [.i (a2), .i (a3), .d ((bm a2 a3 8 0 a0 a4).1), .d (a5 ++ (bm a2 a3 8 0 a0 a4).2.1)])
theorem I8 (a0 : Int) (a1 : aV) (a2 : Int) (a3 : Int) (a4 : List Dat) (a5 : List Dat) (hc : (decide (0 <= a0 /\ a0 <= a1.ar /\ a1.ar <= 1152921504606846976 /\ a5.length <= 34359738368) && aO a4) = true) : ∃ m, t111 m (a0, a1, a2, a3, a4, a5) = some ([.i ((bm a2 a3 8 0 a0 a4).2.2)] ++ Uns.enc (({ a1 with ar := a1.ar - (bm a2 a3 8 0 a0 a4).2.2 }) : aV) ++ [.i (a2), .i (a3), .d ((bm a2 a3 8 0 a0 a4).1), .d (a5 ++ (bm a2 a3 8 0 a0 a4).2.1)]) := by
 simp only [zab, zag] at hc; obtain ⟨⟨h1, h2, h3, h4⟩, h5⟩ := hc; refine ⟨20, ?_⟩; have := On 20 a0 a2 a3 8 20 0 0 a1 a4 a5 (by omega) (by omega) (by omega) h5 (by omega) (by omega) (by omega) h3 (by omega) (by omega); simp only [zbl, za1] at this; exact this
theorem F4 : ER 111 (mkE Mf.en Mf.ex f111) := an ah JB.right (fun m => [Bd (pI m m)]) (t := t111) (by kernel_rfl) (fun m => (aL (MF m m) aB)) (fun m a => by kernel_rfl) fun (a0, a1, a2, a3, a4, a5) hc => I8 a0 a1 a2 a3 a4 a5 hc
def Ng : Tb Tryz.prog LQ TE XX := JB.add 111 _ F4
def N80 : aC := ⟨Ng.tab, 80, ⟨[.ptr 0 0 0, .agg [.int .i64, .int .i64]], [.cells [.int .i64, .int .i64, .int .i64, .int .i64, .int .i64, .buf 1 3, .int .i64, .int .i64, .buf 2 4], .ai (sI 3), .ai (sI 4)], 0⟩, ⟨[], [.cells [.int .i64, .int .i64, .int .i64, .int .i64, .int .i64, .buf 1 3, .int .i64, .int .i64, .buf 3 4], .ai (sI 3), .gone, .ai (sI 4)], 0⟩, []⟩
def t80 (m : Nat) : Int × Int × aV × Int × Int × List Dat × List Dat -> Option (List Un) := fun (a0, a1, a2, a3, a4, a5, a6) =>
 bif a0 == 1 then
 lt ((if a2.ar < a2.fee then a2.ar else a2.fee) : Int) fun x1 =>
 lt ((if x1 < 0 then 0 else x1) : Int) fun x2 =>
 bif decide (x2 > 0) then
 chk (fits (a6.length + 1) 32) <|
 some (Uns.enc (({ a2 with ar := (w64 (a2.ar - x2)), fee := (w64 (a2.fee - x2)) } : aV) : aV) ++ [.i a3, .i a4, .d a5, .d (a6 ++ ([.r [.n a3, .n a4, .n (-1), .n x2]]))])
 else
 some (Uns.enc (({ a2 with ar := (w64 (a2.ar - x2)), fee := (w64 (a2.fee - x2)) } : aV) : aV) ++ [.i a3, .i a4, .d a5, .d a6])
 else
 bif a0 == 2 then
 lt ((if a2.ar < a2.bB then a2.ar else a2.bB) : Int) fun x4 =>
 lt ((if x4 < 0 then 0 else x4) : Int) fun x5 =>
 bif decide (x5 > 0) then
 chk (fits (a6.length + 1) 32) <|
 some (Uns.enc (({ a2 with ar := (w64 (a2.ar - x5)), bB := (w64 (a2.bB - x5)) } : aV) : aV) ++ [.i a3, .i a4, .d a5, .d (a6 ++ ([.r [.n a3, .n a4, .n (-1), .n x5]]))])
 else
 some (Uns.enc (({ a2 with ar := (w64 (a2.ar - x5)), bB := (w64 (a2.bB - x5)) } : aV) : aV) ++ [.i a3, .i a4, .d a5, .d a6])
 else
 bif a0 == 6 then
 lt ((if a2.ar < a2.room then a2.ar else a2.room) : Int) fun x7 =>
 lt ((if x7 < 0 then 0 else x7) : Int) fun x8 =>
 bif decide (x8 > 0) then
 chk (fits (a6.length + 1) 32) <|
 some (Uns.enc (({ a2 with ar := (w64 (a2.ar - x8)), room := (w64 (a2.room - x8)) } : aV) : aV) ++ [.i a3, .i a4, .d a5, .d (a6 ++ ([.r [.n a3, .n a4, .n (-1), .n x8]]))])
 else
 some (Uns.enc (({ a2 with ar := (w64 (a2.ar - x8)), room := (w64 (a2.room - x8)) } : aV) : aV) ++ [.i a3, .i a4, .d a5, .d a6])
 else
 bif a0 == 3 then
 chk (decide (a2.ar <= 9223372036854775807 /\ 0 <= a2.ar /\ a2.ar <= 1152921504606846976 /\ a6.length <= 68719476736) && aO a5) <|
 some (Uns.enc (({ a2 with ar := a2.ar - (aq (aH a1) 2 a2.ar a5).sum }) : aV) ++ [.i a3, .i a4, .d (bH 2 (aq (aH a1) 2 a2.ar a5) a5), .d (a6 ++ bC a3 a4 0 (aq (aH a1) 2 a2.ar a5))])
 else
 bif a0 == 4 then
 lt ((if a2.ar < a2.aj then a2.ar else a2.aj) : Int) fun x12 =>
 chk (decide (0 <= x12 /\ x12 <= a2.ar /\ a2.ar <= 1152921504606846976 /\ a6.length <= 34359738368) && aO a5) <|
 lt (({ a2 with ar := a2.ar - (bm a3 a4 8 0 x12 a5).2.2 }) : aV) fun g13 =>
 chk (decide (a2.aj = g13.aj)) <|
 some (Uns.enc (({ g13 with aj := (w64 (a2.aj - ((bm a3 a4 8 0 x12 a5).2.2))) } : aV) : aV) ++ [.i a3, .i a4, .d ((bm a3 a4 8 0 x12 a5).1), .d (a6 ++ (bm a3 a4 8 0 x12 a5).2.1)])
 else
 bif a0 == 5 then
 lt ((if a2.ar < a2.aj then a2.ar else a2.aj) : Int) fun x16 =>
 chk (decide (x16 <= 9223372036854775807 /\ 0 <= a2.ar /\ a2.ar <= 1152921504606846976 /\ a6.length <= 68719476736) && aO a5) <|
 lt (({ a2 with ar := a2.ar - (aq (fun _ => true) 1 x16 a5).sum }) : aV) fun g18 =>
 chk (decide (a2.aj = g18.aj)) <|
 some (Uns.enc (({ g18 with aj := (w64 (a2.aj - ((aq (fun _ => true) 1 x16 a5).sum))) } : aV) : aV) ++ [.i a3, .i a4, .d (bH 1 (aq (fun _ => true) 1 x16 a5) a5), .d (a6 ++ bC a3 a4 0 (aq (fun _ => true) 1 x16 a5))])
 else
 bif a0 == 7 then
 chk (decide (0 <= a2.ar /\ a2.ar <= a2.ar /\ a2.ar <= 1152921504606846976 /\ a6.length <= 34359738368) && aO a5) <|
 some (Uns.enc (({ a2 with ar := a2.ar - (bm a3 a4 8 0 a2.ar a5).2.2 }) : aV) ++ [.i a3, .i a4, .d ((bm a3 a4 8 0 a2.ar a5).1), .d (a6 ++ (bm a3 a4 8 0 a2.ar a5).2.1)])
 else
 some (Uns.enc (a2 : aV) ++ [.i a3, .i a4, .d a5, .d a6])
def f80 : Int × Int × aV × Int × Int × List Dat × List Dat -> Bool × List Un := fun (a0, a1, a2, a3, a4, a5, a6) => (decide (a4 = a0 /\ a6.length <= 17179869184) && (mP a2 && aO a5), Uns.enc (((dj a3 a0 a1 a2 a5).1) : aV) ++ [.i (a3), .i (a4), .d ((dj a3 a0 a1 a2 a5).2.1), .d (a6 ++ (dj a3 a0 a1 a2 a5).2.2)])
set_option maxHeartbeats 2000000 in
theorem K0 (a0 : Int) (a1 : Int) (a2 : aV) (a3 : Int) (a4 : Int) (a5 : List Dat) (a6 : List Dat) (hc : (decide (a4 = a0 /\ a6.length <= 17179869184) && (mP a2 && aO a5)) = true) : ∃ m, t80 m (a0, a1, a2, a3, a4, a5, a6) = some (Uns.enc (((dj a3 a0 a1 a2 a5).1) : aV) ++ [.i (a3), .i (a4), .d ((dj a3 a0 a1 a2 a5).2.1), .d (a6 ++ (dj a3 a0 a1 a2 a5).2.2)]) := by
 simp only [zab, zag] at hc; obtain ⟨⟨rfl, ho⟩, hx, hc⟩ := hc; have hx' := qN hx; have hcl := (bF hc).1; have w2 := fun sel j hj => (lR (c := a5) sel (j := j) hj hc).2.2
 have s2 := fun sel j hj n => (dH (c := a5) sel (j := j) hj n hc).2.1
 have mm : ∀ a b : Int, (if b < a then b else a) = min a b := fun a b => by omega
 have mx : ∀ a : Int, (if a < 0 then 0 else a) = max a 0 := fun a => by omega
 refine ⟨0, ?_⟩; unfold t80 dj; dsimp only; simp only [lt_eq, mm, mx]; have one : ∀ (z : Int) (u : aV) (o2 : List Dat), 0 <= z -> ∀ v : aV, u = v -> (bif decide (z > 0) then chk (fits (a6.length + 1) 32) (some (Uns.enc (u : aV) ++ [.i a3, .i a4, .d a5, .d (a6 ++ ([.r [.n a3, .n a4, .n (-1), .n z]]))])) else some (Uns.enc (u : aV) ++ [.i a3, .i a4, .d a5, .d a6])) = some (Uns.enc (v : aV) ++ [.i a3, .i a4, .d a5, .d (a6 ++ jC a3 a4 z)]) := by
  intro z u o2 hz v huv; subst huv; unfold jC
  by_cases h : z > 0
  . rw [bE h, je (by omega) (by omega), if_pos (by omega)]
  . rw [aF h, if_neg (by omega), zaY]
 by_cases k1 : a4 = 1
 . rw [gK k1, if_pos k1]; rw [show max (min a2.fee a2.ar) 0 = min a2.fee a2.ar by omega]; exact one _ _ [] (by omega) _ (by rw [aa (by omega) (by omega), aa (by omega) (by omega)])
 rw [fL k1, if_neg k1]
 by_cases k2 : a4 = 2
 . rw [gK k2, if_pos k2]; rw [show max (min a2.bB a2.ar) 0 = min a2.bB a2.ar by omega]; exact one _ _ [] (by omega) _ (by rw [aa (by omega) (by omega), aa (by omega) (by omega)])
 rw [fL k2, if_neg k2]
 by_cases k6 : a4 = 6
 . rw [gK k6, if_pos k6]; rw [show max (min a2.room a2.ar) 0 = min a2.room a2.ar by omega]; exact one _ _ [] (by omega) _ (by rw [aa (by omega) (by omega), aa (by omega) (by omega)])
 rw [fL k6, if_neg k6]
 by_cases k3 : a4 = 3
 . rw [gK k3, if_pos k3, hc, za9, aN (by omega)]
 rw [fL k3, if_neg k3]
 by_cases k4 : a4 = 4
 . rw [gK k4, if_pos k4, hc, za9, aN (by omega), aN trivial]; have q := sE a3 a4 8 0 (min a2.aj a2.ar) a5 hc; generalize bm a3 a4 8 0 (min a2.aj a2.ar) a5 = y at *
   rw [aa (by omega) (by omega)]
 rw [fL k4, if_neg k4]
 by_cases k5 : a4 = 5
 . rw [gK k5, if_pos k5, hc, za9, aN (by omega), aN trivial]; have q1 := s2 (fun _ => true) 1 (.inl rfl) (min a2.aj a2.ar); have q2 := w2 (fun _ => true) 1 (.inl rfl); rw [aa (n := a2.aj - _) (by omega) (by omega)]
 rw [fL k5, if_neg k5]
 by_cases k7 : a4 = 7
 . rw [gK k7, if_pos k7, hc, za9, aN (by omega)]
 rw [fL k7, if_neg k7, zaY]
theorem HJ : ER 80 (mkE N80.en N80.ex f80) := an ah Ng.right (fun m => []) (t := t80) (by kernel_rfl) (fun m => aB) (fun m a => by kernel_rfl) fun (a0, a1, a2, a3, a4, a5, a6) hc => K0 a0 a1 a2 a3 a4 a5 a6 hc
def T80 : Tb Tryz.prog LQ TE XX := Ng.add 80 _ HJ
def N38 : aC := ⟨T80.tab, 38, ⟨[.int .i64, .agg [.int .i64, .int .i64, .int .i64, .int .i64, .ai (sI 3)], .ai (sI 2)], [], 0⟩, ⟨[.buf 0 4, .int .i64, .agg [.int .i64, .int .i64, .int .i64, .int .i64, .buf 1 3]], [.ai (sI 4), .ai (sI 3)], 0⟩, []⟩
abbrev Ct : Type := List Dat × Int × Int × Int × Int × Int × Int × aV × Int × Int × List Dat × List Dat × List Dat
def w8 (m : Nat) (k : Ct -> Option (List Un)) : Ct -> Option (List Un) := fun (a0, a1, a2, a3, a4, a5, a6, a7, a8, a9, a10, a11, a12) =>
 bif decide (a2 < a1) then
 chk (inb a2 a0.length) <|
 chk (decide (a2.toNat < a0.length)) <|
 lt (ag a0 a2.toNat : Dat) fun d1 =>
 chk (decide ((d1.i 0) = (d1.i 0) /\ a12.length <= 17179869184) && (mP a7 && aO a11)) <|
 k (a0, a1, (w64 (a2 + 1)), a3, a4, a5, a6, ((dj a2 (d1.i 0) (d1.i 1) a7 a11).1), a2, (d1.i 0), a10, ((dj a2 (d1.i 0) (d1.i 1) a7 a11).2.1), (a12 ++ (dj a2 (d1.i 0) (d1.i 1) a7 a11).2.2))
 else
 some ([.i a7.ar, .i a7.fee, .i a7.bB, .i a7.aj, .i a7.room, .d a12, .d a11])
def wk (m : Nat) : Nat -> Ct -> Option (List Un) := bo (w8 m)
theorem uo (m : Nat) (n : Nat) : wk m (n + 1) = w8 m (wk m n) := rfl
def G6 (F : Ct -> Option (List Un)) : aW := ⟨[.lp [0, 1, 0, 1, 1, 1], .blk 0, .code [1, 1, 1, 1]], ⟨frm 52 [(8, .ptr 0 0 0), (9, .ptr 1 0 0), (20, .ai (sI 2)), (21, .int .i64), (22, .int .i64)], [.cells [.int .i64, .int .i64, .int .i64, .int .i64, .buf 2 3], .cells [.int .i64, .int .i64, .int .i64, .int .i64, .int .i64, .buf 3 3, .int .i64, .int .i64, .buf 4 4], .ai (sI 3), .ai (sI 3), .ai (sI 4)], 0⟩, onU F⟩
theorem NU (m : Nat) : ∀ n, HO N38 (G6 (wk m n)) := au ah T80.right (fun k => [G6 k]) (fun k h => (aL h aB)) fun k a => by kernel_rfl
def t38 (m : Nat) : Int × Int × Int × Int × Int × List Dat × List Dat -> Option (List Un) := fun (a0, a1, a2, a3, a4, a5, a6) =>
 chk (decide (a5.length < 1000000)) <|
 wk m m (a6, (a6.length : Int), 0, 0, 0, 0, 0, (⟨a0, a1, a2, a3, a4⟩ : aV), 0, 0, [], a5, [])
theorem O8 (m : Nat) (z1 z2 z3 z4 : Int) (zl : List Dat) : ∀ (rest pre : List Dat) (n : Nat) (y : aV) (q kd : Int) (c out : List Dat), rest.length < n -> (pre ++ rest).length <= 1000000 -> mP y = true -> aO c = true -> out.length <= 8000 * pre.length ->
 wk m n (pre ++ rest, ((pre ++ rest).length : Int), (pre.length : Int), z1, z2, z3, z4, y, q, kd, zl, c, out) = some [.i (dt pre.length rest y c).1.ar, .i (dt pre.length rest y c).1.fee, .i (dt pre.length rest y c).1.bB, .i (dt pre.length rest y c).1.aj, .i (dt pre.length rest y c).1.room, .d (out ++ (dt pre.length rest y c).2.2), .d (dt pre.length rest y c).2.1] := by
 intro rest
 induction rest with
 | nil =>
  intro pre n y q kd c out hn hl hy hc ho; obtain ⟨n, rfl⟩ := al n (by simp at hn; omega); rw [uo]; unfold w8; dsimp only; simp [aF, dt]
 | cons x rest ih =>
  intro pre n y q kd c out hn hl hy hc ho; obtain ⟨n, rfl⟩ := al n (by simp at hn; omega); simp only [zae, zah] at hn hl; obtain ⟨s1, s2, s3, s4⟩ := s8 pre.length (x.i 0) (x.i 1) hy hc; have := ih (pre ++ [x]) n _ (pre.length : Int) (x.i 0) _ (out ++ (dj pre.length (x.i 0) (x.i 1) y c).2.2) (by omega) (by simp; omega) s1 s2 (by simp; omega); simp only [dt]; rw [uo]; unfold w8; dsimp only; simp only [hy, hc, Bool.and_self, za9]; simp only [zaG, ax, lt_eq]; generalize dj pre.length (x.i 0) (x.i 1) y c = u at *
  simp only [hy, hc, Bool.and_self, za9, zaS, true_and]; simp (disch := omega) only [TRa, TRi, aa, LNl, LNi, zaa, ax]; simp only [LNl, LNi, zaa] at this ⊢; exact this
def f38 : Int × Int × Int × Int × Int × List Dat × List Dat -> Bool × List Un := fun (a0, a1, a2, a3, a4, a5, a6) => (decide (a6.length <= 1000000) && (mP ⟨a0, a1, a2, a3, a4⟩ && aO a5), [.i ((dt 0 a6 ⟨a0, a1, a2, a3, a4⟩ a5).1.ar), .i ((dt 0 a6 ⟨a0, a1, a2, a3, a4⟩ a5).1.fee), .i ((dt 0 a6 ⟨a0, a1, a2, a3, a4⟩ a5).1.bB), .i ((dt 0 a6 ⟨a0, a1, a2, a3, a4⟩ a5).1.aj), .i ((dt 0 a6 ⟨a0, a1, a2, a3, a4⟩ a5).1.room), .d ((dt 0 a6 ⟨a0, a1, a2, a3, a4⟩ a5).2.2), .d ((dt 0 a6 ⟨a0, a1, a2, a3, a4⟩ a5).2.1)])
theorem LY (a0 : Int) (a1 : Int) (a2 : Int) (a3 : Int) (a4 : Int) (a5 : List Dat) (a6 : List Dat) (hc : (decide (a6.length <= 1000000) && (mP ⟨a0, a1, a2, a3, a4⟩ && aO a5)) = true) : ∃ m, t38 m (a0, a1, a2, a3, a4, a5, a6) = some ([.i ((dt 0 a6 ⟨a0, a1, a2, a3, a4⟩ a5).1.ar), .i ((dt 0 a6 ⟨a0, a1, a2, a3, a4⟩ a5).1.fee), .i ((dt 0 a6 ⟨a0, a1, a2, a3, a4⟩ a5).1.bB), .i ((dt 0 a6 ⟨a0, a1, a2, a3, a4⟩ a5).1.aj), .i ((dt 0 a6 ⟨a0, a1, a2, a3, a4⟩ a5).1.room), .d ((dt 0 a6 ⟨a0, a1, a2, a3, a4⟩ a5).2.2), .d ((dt 0 a6 ⟨a0, a1, a2, a3, a4⟩ a5).2.1)]) := by
 simp only [zab, zag] at hc; obtain ⟨h1, h2, h3⟩ := hc; have hl := (bF h3).1; refine ⟨a6.length + 1, ?_⟩; unfold t38; dsimp only; rw [aN (by omega)]; exact O8 _ 0 0 0 0 [] a6 [] (a6.length + 1) _ 0 0 a5 [] (by omega) (by simpa using h1) h2 h3 (by simp)
theorem Ig : ER 38 (mkE N38.en N38.ex f38) := an ah T80.right (fun m => [G6 (wk m m)]) (t := t38) (by kernel_rfl) (fun m => (aL (NU m m) aB)) (fun m a => by kernel_rfl) fun (a0, a1, a2, a3, a4, a5, a6) hc => LY a0 a1 a2 a3 a4 a5 a6 hc
def T38 : Tb Tryz.prog LQ TE XX := T80.add 38 _ Ig
theorem fp (j : Nat) : ∀ l : List Dat, (∀ d ∈ l, 0 <= d.i j) -> 0 <= ao j l
 | [], _ => by simp [ao]
 | d :: l, h => by
  have := h d (by simp); have := fp j l fun x hx => h x (by simp [hx])
  simp only [ao]; omega
theorem uE (j : Nat) : ∀ a b : List Dat, ao j (a ++ b) = ao j a + ao j b
 | [], b => by simp [ao]
 | d :: a, b => by simp only [zaW, ao, uE j a b]; omega
theorem sm (a k : Int) : ∀ (xs : List Int) (i : Int), (∀ x ∈ xs, 0 <= x) -> ao 3 (bC a k i xs) = xs.sum
 | [], i, _ => rfl
 | x :: xs, i, h => by
  have := sm a k xs (i + 1) fun y hy => h y (by simp [hy])
  have h0 := h x (by simp); simp only [bC, uE, zbn, this]
  by_cases hx : 0 < x
  . rw [if_pos hx]; simp [ao, eM]
  . rw [if_neg hx]; simp only [ao]; omega
theorem Ao {c : List Dat} (sel : Dat -> Bool) {j : Nat} (hj : j = 1 \/ j = 2) (n : Int) (h : aO c = true) : ∀ x ∈ aq sel j n c, 0 <= x := fun x hx => by
 obtain ⟨l1, l2, l3⟩ := dH sel hj n h; obtain ⟨i, hi, rfl⟩ := nJ hx; rw [l1] at hi; exact (l3 i hi).1
def bh (f : Dat -> Bool) : List Dat -> Int
 | [] => 0
 | d :: l => (bif f d then d.i 3 else 0) + bh f l
theorem hG (f : Dat -> Bool) : ∀ a b : List Dat, bh f (a ++ b) = bh f a + bh f b
 | [], b => by simp [bh]
 | d :: a, b => by simp only [zaW, bh, hG f a b]; omega
theorem fu (f : Dat -> Bool) : ∀ l : List Dat, (∀ d ∈ l, f d = false) -> bh f l = 0
 | [], _ => rfl
 | d :: l, h => by simp only [bh, h d (by simp), fu f l (fun x hx => h x (by simp [hx])), zao]; rfl
theorem y7 (f : Dat -> Bool) : ∀ l : List Dat, (∀ d ∈ l, f d = true) -> bh f l = ao 3 l
 | [], _ => rfl
 | d :: l, h => by simp only [bh, ao, h d (by simp), y7 f l (fun x hx => h x (by simp [hx])), zaE]
theorem oW {f g : Dat -> Bool} : ∀ l : List Dat, (∀ d ∈ l, f d = g d) -> bh f l = bh g l
 | [], _ => rfl
 | d :: l, h => by simp only [bh, h d (by simp), oW l (fun x hx => h x (by simp [hx]))]
def kF (d : Dat) : Bool := d.i 1 == 1
def kR (d : Dat) : Bool := d.i 1 == 2
def kT (d : Dat) : Bool := d.i 1 == 6
def kI (d : Dat) : Bool := d.i 1 == 3
def kB (d : Dat) : Bool := !kF d && !kR d && !kT d && !kI d
def kP (d : Dat) : Bool := kB d && d.i 1 != 7
def toI (i : Nat) (d : Dat) : Bool := kI d && d.i 2 == (i : Int)
def toB (i : Nat) (d : Dat) : Bool := kB d && d.i 2 == (i : Int)
theorem j7 (a k : Int) : ∀ (xs : List Int) (i : Int), ∀ d ∈ bC a k i xs, d.i 0 = a /\ d.i 1 = k /\ (i <= d.i 2 /\ d.i 2 < i + xs.length) /\ 1 <= d.i 3 /\ d.i 3 = xs.getD (d.i 2 - i).toNat 0
 | [], i, d, h => by simp [bC] at h
 | x :: xs, i, d, h => by
  simp only [bC, zbS] at h; rcases h with h | h
  . by_cases hx : 0 < x
    . rw [if_pos hx] at h; rw [List.mem_singleton.1 h]; refine ⟨rfl, rfl, ?_, ?_, ?_⟩
      . simp only [ik, zae, zay]; omega
      . simp only [eM]; omega
      . simp only [ik, eM, Int.sub_self, Int.toNat_zero, zaH]
    . rw [if_neg hx] at h; cases h
  . obtain ⟨h1, h2, h3, h4, h5⟩ := j7 a k xs (i + 1) d h; simp only [zae, zay]; refine ⟨h1, h2, by omega, h4, ?_⟩; rw [show (d.i 2 - i).toNat = (d.i 2 - (i + 1)).toNat + 1 by omega, zav]; exact h5
theorem wa (a k : Int) : ∀ (xs : List Int) (i : Int) (j : Nat), (∀ x ∈ xs, 0 <= x) -> bh (fun d => d.i 2 == i + j) (bC a k i xs) = xs.getD j 0
 | [], i, j, _ => by simp [bC, bh]
 | x :: xs, i, j, h => by
  have h0 := h x (by simp); simp only [bC, hG]; cases j with
  | zero =>
   have e : bh (fun d => d.i 2 == i + ((0 : Nat) : Int)) (bC a k (i + 1) xs) = 0 := fu _ _ fun d hd => by
    have := j7 a k xs (i + 1) d hd; simp only [beq_eq_false_iff_ne]; omega
   rw [e, zaH]
   by_cases hx : 0 < x
   . rw [if_pos hx]; simp [bh, ik, eM]
   . rw [if_neg hx]; simp only [bh]; omega
  | succ j =>
   have := wa a k xs (i + 1) j fun y hy => h y (by simp [hy])
   rw [show i + 1 + (j : Int) = i + ((j + 1 : Nat) : Int) by omega] at this; rw [this, zav]
   by_cases hx : 0 < x
   . rw [if_pos hx]; simp only [bh, ik]; rw [show (i == i + ((j + 1 : Nat) : Int)) = false by simp only [beq_eq_false_iff_ne]; omega]; simp
   . rw [if_neg hx]; simp [bh]
structure Kept (x : aV) (c ps : List Dat) (x' : aV) (c' : List Dat) : Prop where
 ar : x'.ar = x.ar - ao 3 ps
 fee : x'.fee = x.fee - bh kF ps
 bB : x'.bB = x.bB - bh kR ps
 room : x'.room = x.room - bh kT ps
 pri : x'.aj = x.aj - bh kP ps
 len : c'.length = c.length
 row : ∀ i, i < c.length -> ag c' i = .r [.n ((ag c i).i 0), .n ((ag c i).i 1 - bh (toB i) ps), .n ((ag c i).i 2 - bh (toI i) ps)]
theorem Kept.refl {x : aV} {c : List Dat} (h : ∀ d ∈ c, kM 3 d = true) : Kept x c [] x c := by
 refine ⟨by simp [ao], by simp [bh], by simp [bh], by simp [bh], by simp [bh], rfl, fun i hi => ?_⟩; simp only [bh, zbl]; exact Bl (h _ (mL hi))
theorem Kept.trans {x x' x'' : aV} {c c' c'' ps qs : List Dat} (a : Kept x c ps x' c') (b : Kept x' c' qs x'' c'') : Kept x c (ps ++ qs) x'' c'' := by
 refine ⟨?_, ?_, ?_, ?_, ?_, b.len.trans a.len, fun i hi => ?_⟩
 . rw [b.ar, a.ar, uE]; omega
 . rw [b.fee, a.fee, hG]; omega
 . rw [b.bB, a.bB, hG]; omega
 . rw [b.room, a.room, hG]; omega
 . rw [b.pri, a.pri, hG]; omega
 . rw [b.row i (by rw [a.len]; exact hi), a.row i hi, hG, hG]; simp only [My, dX, ik]; rw [show (ag c i).i 1 - bh (toB i) ps - bh (toB i) qs = (ag c i).i 1 - (bh (toB i) ps + bh (toB i) qs) by omega, show (ag c i).i 2 - bh (toI i) ps - bh (toI i) qs = (ag c i).i 2 - (bh (toI i) ps + bh (toI i) qs) by omega]
theorem Kept.shares {c : List Dat} (sel : Dat -> Bool) (n : Int) (h : aO c = true) (x : aV) (a : Int) {j : Nat} {kd : Int} (hk : (j = 2 /\ kd = 3) \/ (j = 1 /\ (kd = 4 \/ kd = 5 \/ kd = 7))) :
 Kept x c (bC a kd 0 (aq sel j n c)) { x with ar := x.ar - (aq sel j n c).sum, aj := if kd = 4 \/ kd = 5 then x.aj - (aq sel j n c).sum else x.aj } (bH j (aq sel j n c) c) := by
 have hj : j = 1 \/ j = 2 := by omega
 obtain ⟨l1, l2, l3⟩ := dH sel hj n h; obtain ⟨h1, h2⟩ := bF h; have hm := Ao sel hj n h; have hp := j7 a kd (aq sel j n c) 0; have hs := sm a kd (aq sel j n c) 0 hm; have hat := fun i => wa a kd (aq sel j n c) 0 i hm
 have kk : ∀ d ∈ bC a kd 0 (aq sel j n c), kF d = false /\ kR d = false /\ kT d = false /\ kI d = (kd == 3) /\ kB d = !(kd == 3) := fun d hd => by
  have := (hp d hd).2.1; simp only [kB, kF, kR, kT, kI, this]; rcases hk with ⟨_, rfl⟩ | ⟨_, rfl | rfl | rfl⟩ <;> decide
 refine ⟨by rw [hs], ?_, ?_, ?_, ?_, lF j _ c l1, fun i hi => ?_⟩
 . rw [fu kF _ fun d hd => (kk d hd).1]; simp
 . rw [fu kR _ fun d hd => (kk d hd).2.1]; simp
 . rw [fu kT _ fun d hd => (kk d hd).2.2.1]; simp
 . by_cases h45 : kd = 4 \/ kd = 5
   . simp only [if_pos h45]; rw [y7 kP _ fun d hd => by
      have := (kk d hd).2.2.2.2; have h6 := (hp d hd).2.1; simp only [kP, this, h6]; rcases h45 with rfl | rfl <;> rfl, hs]
   . simp only [if_neg h45]; rw [fu kP _ fun d hd => by
      have := (kk d hd).2.2.2.2; have h6 := (hp d hd).2.1; simp only [kP, this, h6]; rcases hk with ⟨_, rfl⟩ | ⟨_, rfl | rfl | rfl⟩
      . rfl
      . exact absurd (.inl rfl) h45
      . exact absurd (.inr rfl) h45
      . rfl]
     simp
 . rw [lO j _ c i l1 hi]; have e2 := hat i; simp only [za1] at e2; rcases hk with ⟨rfl, rfl⟩ | ⟨rfl, hk⟩
   . have a1 : bh (toB i) (bC a 3 0 (aq sel 2 n c)) = 0 := fu _ _ fun d hd => by simp only [toB, (kk d hd).2.2.2.2]; rfl
     have a2 : bh (toI i) (bC a 3 0 (aq sel 2 n c)) = (aq sel 2 n c).getD i 0 := by
      rw [<- e2]; exact oW _ fun d hd => by simp only [toI, (kk d hd).2.2.2.1]; rfl
     rw [a1, a2]; simp only [bU, show ¬ (2 : Nat) = 1 by decide, zbe, zbl]
   . have k3 : (kd == 3) = false := by rcases hk with rfl | rfl | rfl <;> rfl
     have a1 : bh (toI i) (bC a kd 0 (aq sel 1 n c)) = 0 := fu _ _ fun d hd => by simp only [toI, (kk d hd).2.2.2.1, k3]; rfl
     have a2 : bh (toB i) (bC a kd 0 (aq sel 1 n c)) = (aq sel 1 n c).getD i 0 := by
      rw [<- e2]; exact oW _ fun d hd => by simp only [toB, (kk d hd).2.2.2.2, k3]; rfl
     rw [a1, a2]; simp only [bU, za7, zbl]
theorem Kept.uB {a kd : Int} (hk : kd = 4 \/ kd = 7) : ∀ (k : Nat) (r n : Int) (x : aV) (c : List Dat), aO c = true ->
 Kept x c (bm a kd k r n c).2.1 { x with ar := x.ar - (bm a kd k r n c).2.2, aj := if kd = 4 then x.aj - (bm a kd k r n c).2.2 else x.aj } (bm a kd k r n c).1
 | 0, r, n, x, c, h => by
  have := Kept.refl (x := x) fun d hd => (cd ((bF h).2 d hd)).1
  simp only [bm, zbl, ite_self]; exact this
 | k + 1, r, n, x, c, h => by
  obtain ⟨g1, g2⟩ := nP (aH r) (j := 1) (.inl rfl) n h; have a1 := Kept.shares (aH r) n h x a (j := 1) (kd := kd) (.inr ⟨rfl, by omega⟩); have a2 := Kept.uB (a := a) hk k (r + 1) (n - (aq (aH r) 1 n c).sum) { x with ar := x.ar - (aq (aH r) 1 n c).sum, aj := if kd = 4 \/ kd = 5 then x.aj - (aq (aH r) 1 n c).sum else x.aj } _ g1; have := a1.trans a2; simp only [bm]; have e : (if kd = 4 \/ kd = 5 then x.aj - (aq (aH r) 1 n c).sum else x.aj) = if kd = 4 then x.aj - (aq (aH r) 1 n c).sum else x.aj := by
   rcases hk with rfl | rfl <;> simp
  simp only [e] at this; generalize (bm a kd k (r + 1) (n - (aq (aH r) 1 n c).sum) (bH 1 (aq (aH r) 1 n c) c)).2.2 = y at *
  by_cases h4 : kd = 4
  . simp only [if_pos h4, Int.sub_sub] at this ⊢; exact this
  . simp only [if_neg h4, Int.sub_sub] at this ⊢; exact this
def zh (n : Nat) (a kd : Int) (d : Dat) : Prop := d.i 0 = a /\ d.i 1 = kd /\ 1 <= d.i 3 /\ (-1 <= d.i 2 /\ d.i 2 < n) /\ (d.i 2 < 0 ↔ (kd = 1 \/ kd = 2 \/ kd = 6))
theorem oO {a kd : Int} {xs : List Int} {n : Nat} (hl : xs.length = n) (hk : ¬ (kd = 1 \/ kd = 2 \/ kd = 6)) : ∀ d ∈ bC a kd 0 xs, zh n a kd d := fun d hd => by
 obtain ⟨h1, h2, h3, h4, h5⟩ := j7 a kd xs 0 d hd; exact ⟨h1, h2, h4, by omega, by omega⟩
theorem m6 {a kd : Int} (hk : ¬ (kd = 1 \/ kd = 2 \/ kd = 6)) : ∀ (k : Nat) (r n : Int) (c : List Dat), aO c = true -> ∀ d ∈ (bm a kd k r n c).2.1, zh c.length a kd d
 | 0, r, n, c, h, d, hd => by simp [bm] at hd
 | k + 1, r, n, c, h, d, hd => by
  obtain ⟨g1, g2⟩ := nP (aH r) (j := 1) (.inl rfl) n h; obtain ⟨l1, l2, l3⟩ := dH (aH r) (j := 1) (.inl rfl) n h; simp only [bm] at hd; rcases zbS.1 hd with hd | hd
  . exact oO l1 hk d hd
  . have := m6 hk k (r + 1) _ _ g1 d hd
    rwa [g2] at this
theorem ml {x : aV} {c : List Dat} (h : aO c = true) (a kd n : Int) (h0 : 0 <= n) (hk : kd = 1 \/ kd = 2 \/ kd = 6) :
 Kept x c (jC a kd n) { x with ar := x.ar - n, fee := if kd = 1 then x.fee - n else x.fee, bB := if kd = 2 then x.bB - n else x.bB, room := if kd = 6 then x.room - n else x.room } c /\ ∀ d ∈ jC a kd n, zh c.length a kd d := by
 have hr : ∀ d ∈ c, kM 3 d = true := fun d hd => (cd ((bF h).2 d hd)).1
 unfold jC
 by_cases hn : 0 < n
 . rw [if_pos hn]; refine ⟨⟨by simp [ao, eM], ?_, ?_, ?_, ?_, rfl, fun i hi => ?_⟩, fun d hd => ?_⟩
   . simp only [bh, kF, dX, eM]; rcases hk with rfl | rfl | rfl <;> simp
   . simp only [bh, kR, dX, eM]; rcases hk with rfl | rfl | rfl <;> simp
   . simp only [bh, kT, dX, eM]; rcases hk with rfl | rfl | rfl <;> simp
   . simp only [bh, kP, kB, kF, kR, kT, kI, dX, eM]; rcases hk with rfl | rfl | rfl <;> simp
   . have a1 : bh (toB i) [Dat.r [.n a, .n kd, .n (-1), .n n]] = 0 := by simp only [bh, toB, kB, kF, kR, kT, kI, dX, ik]; rcases hk with rfl | rfl | rfl <;> simp
     have a2 : bh (toI i) [Dat.r [.n a, .n kd, .n (-1), .n n]] = 0 := by simp only [bh, toI, kI, dX, ik]; rcases hk with rfl | rfl | rfl <;> simp
     rw [a1, a2, zbl, zbl]; exact Bl (hr _ (mL hi))
   . rw [List.mem_singleton.1 hd]; refine ⟨rfl, rfl, ?_, ?_, ?_⟩
     . show (1 : Int) <= n; exact hn
     . exact ⟨zb5 (-1), by show (-1 : Int) < (c.length : Int); omega⟩
     . show (-1 : Int) < 0 ↔ _; exact ⟨fun _ => hk, fun _ => by decide⟩
 . rw [if_neg hn]; obtain rfl : n = 0 := by omega
   simp only [zbl, ite_self]; exact ⟨Kept.refl hr, fun d hd => by cases hd⟩
theorem BG (a kd rk : Int) {x : aV} {c : List Dat} (hx : mP x = true) (h : aO c = true) : Kept x c (dj a kd rk x c).2.2 (dj a kd rk x c).1 (dj a kd rk x c).2.1 /\ ∀ d ∈ (dj a kd rk x c).2.2, zh c.length a kd d := by
 have hx' := qN hx; have s1 := fun sel j hj n => (dH (c := c) sel (j := j) hj n h).1
 unfold dj
 by_cases k1 : kd = 1
 . rw [if_pos k1]; have := ml (x := x) h a kd (min x.fee x.ar) (by omega) (.inl k1); subst k1; exact this
 rw [if_neg k1]
 by_cases k2 : kd = 2
 . rw [if_pos k2]; have := ml (x := x) h a kd (min x.bB x.ar) (by omega) (.inr (.inl k2)); subst k2; exact this
 rw [if_neg k2]
 by_cases k6 : kd = 6
 . rw [if_pos k6]; have := ml (x := x) h a kd (min x.room x.ar) (by omega) (.inr (.inr k6)); subst k6; exact this
 rw [if_neg k6]; have hk : ¬ (kd = 1 \/ kd = 2 \/ kd = 6) := by omega
 by_cases k3 : kd = 3
 . rw [if_pos k3]; have := Kept.shares (aH rk) x.ar h x a (j := 2) (kd := kd) (.inl ⟨rfl, k3⟩); rw [if_neg (by omega)] at this; exact ⟨this, oO (s1 (aH rk) 2 (.inr rfl) x.ar) hk⟩
 rw [if_neg k3]
 by_cases k4 : kd = 4
 . rw [if_pos k4]; have := Kept.uB (a := a) (kd := kd) (.inl k4) 8 0 (min x.aj x.ar) x c h; simp only [if_pos k4] at this; have hp := m6 (a := a) hk 8 0 (min x.aj x.ar) c h; generalize bm a kd 8 0 (min x.aj x.ar) c = y at *
   exact ⟨this, hp⟩
 rw [if_neg k4]
 by_cases k5 : kd = 5
 . rw [if_pos k5]; have := Kept.shares (fun _ => true) (min x.aj x.ar) h x a (j := 1) (kd := kd) (.inr ⟨rfl, by omega⟩); rw [if_pos (by omega)] at this; exact ⟨this, oO (s1 (fun _ => true) 1 (.inl rfl) _) hk⟩
 rw [if_neg k5]
 by_cases k7 : kd = 7
 . rw [if_pos k7]; have := Kept.uB (a := a) (kd := kd) (.inr k7) 8 0 x.ar x c h; simp only [if_neg k4] at this; have hp := m6 (a := a) hk 8 0 x.ar c h; generalize bm a kd 8 0 x.ar c = y at *
   exact ⟨this, hp⟩
 rw [if_neg k7]; exact ⟨Kept.refl fun d hd => (cd ((bF h).2 d hd)).1, fun d hd => by cases hd⟩
def EZ (n : Nat) (a : Int) (l : List Dat) (d : Dat) : Prop := (a <= d.i 0 /\ d.i 0 < a + l.length) /\ zh n (d.i 0) (ag l (d.i 0 - a).toNat |>.i 0) d
theorem vo : ∀ (l : List Dat) (a : Int) (x : aV) (c : List Dat), mP x = true -> aO c = true -> Kept x c (dt a l x c).2.2 (dt a l x c).1 (dt a l x c).2.1 /\ (∀ d ∈ (dt a l x c).2.2, EZ c.length a l d) /\ (dt a l x c).2.2.Pairwise fun d e => d.i 0 <= e.i 0
 | [], a, x, c, hx, h => ⟨Kept.refl fun d hd => (cd ((bF h).2 d hd)).1, fun d hd => by simp [dt] at hd, List.Pairwise.nil⟩
 | s :: l, a, x, c, hx, h => by
  obtain ⟨h1, h2, h3, h4⟩ := s8 a (s.i 0) (s.i 1) hx h; obtain ⟨k1, k2⟩ := BG a (s.i 0) (s.i 1) hx h; obtain ⟨i1, i2, i3⟩ := vo l (a + 1) _ _ h1 h2; simp only [dt]; refine ⟨k1.trans i1, fun d hd => ?_, ?_⟩
  . rcases zbS.1 hd with hd | hd
    . obtain ⟨g0, g1, g2, g3, g4⟩ := k2 d hd; refine ⟨by rw [g0, zae]; omega, ?_⟩; rw [g0, Int.sub_self]; exact ⟨g0, g1, g2, g3, g4⟩
    . obtain ⟨g0, g1⟩ := i2 d hd; rw [h3] at g1; refine ⟨by rw [zae]; omega, ?_⟩; rw [show (d.i 0 - a).toNat = (d.i 0 - (a + 1)).toNat + 1 by omega]; exact g1
  . rw [List.pairwise_append]; refine ⟨?_, i3, fun d hd e he => ?_⟩
    . refine List.Pairwise.imp_of_mem (R := fun _ _ => True) (fun {d e} hd he _ => ?_) (List.pairwise_of_forall fun _ _ => trivial); rw [(k2 d hd).1, (k2 e he).1]; exact zb5 _
    . have := (k2 d hd).1; have := (i2 e he).1; omega
def cC (u p l r : Int) : Int := min (min (max (u - p) 0) (max (l - r) 0)) (max u 0)
def N85 : aC := ⟨T38.tab, 85, ⟨[.int .i64, .int .i64, .int .i64, .int .i64], [], 0⟩, ⟨[.int .i64], [], 0⟩, []⟩
def t85 (m : Nat) : Int × Int × Int × Int -> Option (List Un) := fun (a0, a1, a2, a3) =>
 lt ((if (w64 (a0 - a1)) < 0 then 0 else (w64 (a0 - a1))) : Int) fun x1 =>
 lt ((if (w64 (a2 - a3)) < 0 then 0 else (w64 (a2 - a3))) : Int) fun x2 =>
 lt ((if a0 < 0 then 0 else a0) : Int) fun x3 =>
 some ([.i (if x3 < (if x2 < x1 then x2 else x1) then x3 else (if x2 < x1 then x2 else x1))])
def f85 : Int × Int × Int × Int -> Bool × List Un := fun (a0, a1, a2, a3) => (decide ((-1152921504606846976 <= a0 /\ a0 <= 1152921504606846976) /\ (-1152921504606846976 <= a1 /\ a1 <= 1152921504606846976) /\ (-1152921504606846976 <= a2 /\ a2 <= 1152921504606846976) /\ (-1152921504606846976 <= a3 /\ a3 <= 1152921504606846976)), [.i (cC a0 a1 a2 a3)])
theorem Lq (a0 : Int) (a1 : Int) (a2 : Int) (a3 : Int) (hc : (decide ((-1152921504606846976 <= a0 /\ a0 <= 1152921504606846976) /\ (-1152921504606846976 <= a1 /\ a1 <= 1152921504606846976) /\ (-1152921504606846976 <= a2 /\ a2 <= 1152921504606846976) /\ (-1152921504606846976 <= a3 /\ a3 <= 1152921504606846976))) = true) : ∃ m, t85 m (a0, a1, a2, a3) = some ([.i (cC a0 a1 a2 a3)]) := by
 have h := zaj hc; refine ⟨0, ?_⟩; unfold t85 cC; simp only [lt_eq]; rw [aa (n := a0 - a1) (by omega) (by omega), aa (n := a2 - a3) (by omega) (by omega)]
 congr 3
 omega
theorem I2 : ER 85 (mkE N85.en N85.ex f85) := an ah T38.right (fun m => []) (t := t85) (by kernel_rfl) (fun m => aB) (fun m a => by kernel_rfl) fun (a0, a1, a2, a3) hc => Lq a0 a1 a2 a3 hc
def T85 : Tb Tryz.prog LQ TE XX := T38.add 85 _ I2
def bT (n : Int) : Nat -> List Int
 | 0 => []
 | k + 1 => n :: bT (n + 1) k
theorem fw : ∀ (k : Nat) (n : Int), (bT n k).length = k
 | 0, _ => rfl
 | k + 1, n => by simp [bT, fw k]
theorem vg : ∀ (k j : Nat) (n : Int), j < k -> (bT n k).getD j 0 = n + j
 | 0, j, n, h => by omega
 | k + 1, 0, n, h => by simp [bT]
 | k + 1, j + 1, n, h => by
  simp only [bT, zav, vg k j (n + 1) (by omega)]; omega
theorem xP {c : List Dat} {i : Nat} (h : i < c.length) : (bT 0 c.length).getD i 0 = (i : Int) := by rw [vg _ _ _ h]; omega
theorem b9 {c : List Dat} {i : Nat} (h : i < c.length) (hg : ∀ d ∈ c, aI d = true) : aI (ag c i) = true := hg _ (s9 h)
theorem JE {d : Dat} (h : aI d = true) : w64 (w64 (d.i 1 - w64 (d.i 3 - d.i 4)) - d.i 6) = bc d := by
 have := bZ h; rw [aa (n := d.i 3 - d.i 4) (by omega) (by omega), aa (n := d.i 1 - _) (by omega) (by omega), aa (by omega) (by omega)]; rfl
theorem vw (j : Nat) : ∀ (c : List Dat) (i : Nat), i < c.length -> ao j (c.drop i) = (ag c i).i j + ao j (c.drop (i + 1))
 | [], i, h => by simp at h
 | d :: c, 0, _ => by simp [ao, ag]
 | d :: c, i + 1, h => by
  have := vw j c i (by simpa using h); simpa [ag] using this
def ML : aC := ⟨T85.tab, 116, ⟨[.buf 0 1], [.dq 1 7 0, .ai (sI 7)], 2⟩, ⟨[.int .i64], [.dq 1 7 0, .ai (sI 7)], 2⟩, []⟩
abbrev wE : Type := Int × Int × Int × List Int × List Dat
def rn (m : Nat) (k : wE -> Option (List Un)) : wE -> Option (List Un) := fun (a0, a1, a2, a3, a4) =>
 bif decide (a2 < a1) then
 chk (inb a2 a3.length) <|
 chk (decide (a2.toNat < a3.length)) <|
 bif (!((decide ((a3.getD a2.toNat 0) < 0)) && true)) then
 chk (decide (0 <= (a3.getD a2.toNat 0))) <|
 chk (decide ((a3.getD a2.toNat 0).toNat < a4.length)) <|
 k ((w64 (a0 + ((ag a4 ((a3.getD a2.toNat 0).toNat)).i 6))), a1, (w64 (a2 + 1)), a3, a4)
 else
 k (a0, a1, (w64 (a2 + 1)), a3, a4)
 else
 some ([.i a0, .l a3, .d a4])
def oT (m : Nat) : Nat -> wE -> Option (List Un) := bo (rn m)
theorem qA (m : Nat) (n : Nat) : oT m (n + 1) = rn m (oT m n) := rfl
def AL (F : wE -> Option (List Un)) : aW := ⟨[.lp [0, 1, 0, 1, 1], .blk 0, .code [1, 1, 1]], ⟨frm 22 [(3, .int .i64), (6, .buf 0 1), (7, .int .i64), (8, .int .i64)], [.dq 1 7 0, .ai (sI 7)], 2⟩, onU F⟩
theorem Mo (m : Nat) : ∀ n, HO ML (AL (oT m n)) := au ah T85.right (fun k => [AL k]) (fun k h => (aL h aB)) fun k a => by kernel_rfl
def t116 (m : Nat) : List Int × List Dat -> Option (List Un) := fun (a0, a1) =>
 oT m m (0, (a0.length : Int), 0, a0, a1)
theorem Ld (m : Nat) (c : List Dat) (hl : c.length <= 1000) (hg : ∀ d ∈ c, aI d = true) : ∀ (k i n : Nat) (s : Int), i + k = c.length -> k < n -> 0 <= s -> s <= 1099511627776 * i ->
 oT m n (s, (c.length : Int), (i : Int), bT 0 c.length, c) = some [.i (s + ao 6 (c.drop i)), .l (bT 0 c.length), .d c] := by
 intro k
 induction k with
 | zero =>
  intro i n s hi hn s0 s1; obtain ⟨n, rfl⟩ := al n (by omega); rw [qA]; unfold rn; dsimp only; rw [aF (by omega), List.drop_eq_nil_of_le (by omega)]; simp [ao]
 | succ k ih =>
  intro i n s hi hn s0 s1; obtain ⟨n, rfl⟩ := al n (by omega); have hk := xP (c := c) (i := i) (by omega); have hL := fw c.length 0; have hx := bZ (b9 (i := i) (by omega) hg); have := ih (i + 1) n (s + (ag c i).i 6) (by omega) (by omega) (by omega) (by omega); rw [vw 6 c i (by omega), <- Int.add_assoc]; rw [qA]; unfold rn; dsimp only; simp only [zaG, hk, hL, za9, zaS]; simp (disch := omega) only [TRa, TRi, aa, LNl, LNi, zaa]; simp only [LNl, LNi, zaa] at this ⊢; exact this
def f116 : List Int × List Dat -> Bool × List Un := fun (a0, a1) => ((decide (a0 = bT 0 a1.length)) && (decide (a1.length <= 1000) && a1.all aI), [.i (ao 6 a1), .l (a0), .d (a1)])
theorem Iz (a0 : List Int) (a1 : List Dat) (hc : ((decide (a0 = bT 0 a1.length)) && (decide (a1.length <= 1000) && a1.all aI)) = true) : ∃ m, t116 m (a0, a1) = some ([.i (ao 6 a1), .l (a0), .d (a1)]) := by
 simp only [zab, zag, zan] at hc; obtain ⟨rfl, h1, h2⟩ := hc; refine ⟨a1.length + 1, ?_⟩; unfold t116; dsimp only; rw [fw]; exact (Ld _ a1 h1 h2 a1.length 0 _ 0 (by omega) (by omega) (by omega) (by simp)).trans (by simp only [za1, zbP])
theorem Gb : ER 116 (mkE ML.en ML.ex f116) := an ah T85.right (fun m => [AL (oT m m)]) (t := t116) (by kernel_rfl) (fun m => (aL (Mo m m) aB)) (fun m a => by kernel_rfl) fun (a0, a1) hc => Iz a0 a1 hc
def IP : Tb Tryz.prog LQ TE XX := T85.add 116 _ Gb
def fk (c : List Dat) : Nat -> Nat -> Int -> Int
 | 0, _, o => o
 | k + 1, i, o => fk c k (i + 1) (if 0 < bc (ag c i) /\ (o < 0 \/ (ag c o.toNat).i 0 <= (ag c i).i 0) then (i : Int) else o)
theorem xt (c : List Dat) : ∀ (k i : Nat) (o : Int), i + k = c.length -> -1 <= o -> o < c.length -> -1 <= fk c k i o /\ fk c k i o < c.length
 | 0, _, o, _, h1, h2 => ⟨h1, h2⟩
 | k + 1, i, o, h, h1, h2 => by
  unfold fk
  split
  . exact xt c k (i + 1) _ (by omega) (by omega) (by omega)
  . exact xt c k (i + 1) _ (by omega) (by omega) (by omega)
def Lh : aC := ⟨IP.tab, 117, ⟨[.buf 0 1], [.dq 1 7 0, .ai (sI 7)], 2⟩, ⟨[.np 1 7 0], [.dq 1 7 0, .ai (sI 7)], 2⟩, []⟩
abbrev xV : Type := Int × Int × Int × List Int × List Dat
def rM (m : Nat) (k : xV -> Option (List Un)) : xV -> Option (List Un) := fun (a0, a1, a2, a3, a4) =>
 bif decide (a2 < a1) then
 chk (inb a2 a3.length) <|
 chk (decide (a2.toNat < a3.length)) <|
 bif (!((decide ((a3.getD a2.toNat 0) < 0)) && true)) then
 chk (decide (0 <= (a3.getD a2.toNat 0))) <|
 chk (decide ((a3.getD a2.toNat 0).toNat < a4.length)) <|
 lt (ag a4 ((a3.getD a2.toNat 0).toNat) : Dat) fun d2 =>
 bif decide ((w64 (w64 ((d2.i 1) - w64 ((d2.i 3) - (d2.i 4))) - (d2.i 6))) > 0) then
 bif ((decide (a0 < 0)) && true) then
 k ((a3.getD a2.toNat 0), a1, (w64 (a2 + 1)), a3, a4)
 else
 chk (decide (0 <= (a3.getD a2.toNat 0))) <|
 chk (decide ((a3.getD a2.toNat 0).toNat < a4.length)) <|
 chk (decide (0 <= a0)) <|
 chk (decide (a0.toNat < a4.length)) <|
 bif (decide (((ag a4 ((a3.getD a2.toNat 0).toNat)).i 0) >= ((ag a4 a0.toNat).i 0))) then
 k ((a3.getD a2.toNat 0), a1, (w64 (a2 + 1)), a3, a4)
 else
 k (a0, a1, (w64 (a2 + 1)), a3, a4)
 else
 k (a0, a1, (w64 (a2 + 1)), a3, a4)
 else
 k (a0, a1, (w64 (a2 + 1)), a3, a4)
 else
 some ([.i a0, .l a3, .d a4])
def pe (m : Nat) : Nat -> xV -> Option (List Un) := bo (rM m)
theorem qf (m : Nat) (n : Nat) : pe m (n + 1) = rM m (pe m n) := rfl
def BL (F : xV -> Option (List Un)) : aW := ⟨[.lp [0, 1, 0, 1, 1], .blk 0, .code [1, 1, 1]], ⟨frm 41 [(3, .np 1 7 0), (6, .buf 0 1), (7, .int .i64), (8, .int .i64)], [.dq 1 7 0, .ai (sI 7)], 2⟩, onU F⟩
theorem MX (m : Nat) : ∀ n, HO Lh (BL (pe m n)) := au ah IP.right (fun k => [BL k]) (fun k h => (aL h aB)) fun k a => by kernel_rfl
def t117 (m : Nat) : List Int × List Dat -> Option (List Un) := fun (a0, a1) =>
 pe m m ((-1), (a0.length : Int), 0, a0, a1)
theorem NT (m : Nat) (c : List Dat) (hl : c.length <= 1000) (hg : ∀ d ∈ c, aI d = true) : ∀ (k i n : Nat) (o : Int), i + k = c.length -> k < n -> -1 <= o -> o < c.length ->
 pe m n (o, (c.length : Int), (i : Int), bT 0 c.length, c) = some [.i (fk c k i o), .l (bT 0 c.length), .d c] := by
 intro k
 induction k with
 | zero =>
  intro i n o hi hn o0 o1; obtain ⟨n, rfl⟩ := al n (by omega); rw [qf]; unfold rM; dsimp only; rw [aF (by omega)]; rfl
 | succ k ih =>
  intro i n o hi hn o0 o1; obtain ⟨n, rfl⟩ := al n (by omega); have hk := xP (c := c) (i := i) (by omega); have hL := fw c.length 0; have hx := bZ (b9 (i := i) (by omega) hg); have ia := ih (i + 1) n (i : Int) (by omega) (by omega) (by omega) (by omega); have ib := ih (i + 1) n o (by omega) (by omega) (by omega) (by omega); rw [qf]; unfold rM; dsimp only; unfold fk; have e := JE (b9 (c := c) (i := i) (by omega) hg); simp only [lt_eq, zaG, hk, hL, za9, zaS, e, ge_iff_le, gt_iff_lt]
  by_cases h1 : 0 < bc (ag c i)
  . by_cases h2 : o < 0
    . have hc : 0 < bc (ag c i) /\ (o < 0 \/ (ag c o.toNat).i 0 <= (ag c i).i 0) := ⟨h1, .inl h2⟩
      rw [if_pos hc]; simp (disch := omega) only [TRa, TRi, aa, LNl, LNi, zaa]; simp only [zay, zaa] at ia ib ⊢; exact ia
    . by_cases h3 : (ag c o.toNat).i 0 <= (ag c i).i 0
      . have hc : 0 < bc (ag c i) /\ (o < 0 \/ (ag c o.toNat).i 0 <= (ag c i).i 0) := ⟨h1, .inr h3⟩
        rw [if_pos hc]; simp (disch := omega) only [TRa, TRi, aa, LNl, LNi, zaa]; simp only [zay, zaa] at ia ib ⊢; exact ia
      . have hc : ¬ (0 < bc (ag c i) /\ (o < 0 \/ (ag c o.toNat).i 0 <= (ag c i).i 0)) := fun h => h.2.elim h2 h3
        rw [if_neg hc]; simp (disch := omega) only [TRa, TRi, aa, LNl, LNi, zaa]; simp only [zay, zaa] at ia ib ⊢; exact ib
  . have hc : ¬ (0 < bc (ag c i) /\ (o < 0 \/ (ag c o.toNat).i 0 <= (ag c i).i 0)) := fun h => h1 h.1
    rw [if_neg hc]; simp (disch := omega) only [TRa, TRi, aa, LNl, LNi, zaa]; simp only [zay, zaa] at ia ib ⊢; exact ib
def f117 : List Int × List Dat -> Bool × List Un := fun (a0, a1) => ((decide (a0 = bT 0 a1.length)) && (decide (a1.length <= 1000) && a1.all aI), [.i (fk a1 a1.length 0 (-1)), .l (a0), .d (a1)])
theorem Ka (a0 : List Int) (a1 : List Dat) (hc : ((decide (a0 = bT 0 a1.length)) && (decide (a1.length <= 1000) && a1.all aI)) = true) : ∃ m, t117 m (a0, a1) = some ([.i (fk a1 a1.length 0 (-1)), .l (a0), .d (a1)]) := by
 simp only [zab, zag, zan] at hc; obtain ⟨rfl, h1, h2⟩ := hc; refine ⟨a1.length + 1, ?_⟩; unfold t117; dsimp only; rw [fw]; exact NT _ a1 h1 h2 a1.length 0 _ (-1) (by omega) (by omega) (by omega) (by omega)
theorem Fu : ER 117 (mkE Lh.en Lh.ex f117) := an ah IP.right (fun m => [BL (pe m m)]) (t := t117) (by kernel_rfl) (fun m => (aL (MX m m) aB)) (fun m a => by kernel_rfl) fun (a0, a1) hc => Ka a0 a1 hc
def HA : Tb Tryz.prog LQ TE XX := IP.add 117 _ Fu
def ff (c : List Dat) : Nat -> Nat -> Int -> Int
 | 0, _, o => o
 | k + 1, i, o => ff c k (i + 1) (if 0 < (ag c i).i 6 /\ (o < 0 \/ (ag c i).i 0 < (ag c o.toNat).i 0) then (i : Int) else o)
theorem xU (c : List Dat) : ∀ (k i : Nat) (o : Int), i + k = c.length -> -1 <= o -> o < c.length -> -1 <= ff c k i o /\ ff c k i o < c.length
 | 0, _, o, _, h1, h2 => ⟨h1, h2⟩
 | k + 1, i, o, h, h1, h2 => by
  unfold ff
  split
  . exact xU c k (i + 1) _ (by omega) (by omega) (by omega)
  . exact xU c k (i + 1) _ (by omega) (by omega) (by omega)
def Lw : aC := ⟨HA.tab, 119, ⟨[.buf 0 1], [.dq 1 7 0, .ai (sI 7)], 2⟩, ⟨[.np 1 7 0], [.dq 1 7 0, .ai (sI 7)], 2⟩, []⟩
abbrev yk : Type := Int × Int × Int × List Int × List Dat
def rf (m : Nat) (k : yk -> Option (List Un)) : yk -> Option (List Un) := fun (a0, a1, a2, a3, a4) =>
 bif decide (a2 < a1) then
 chk (inb a2 a3.length) <|
 chk (decide (a2.toNat < a3.length)) <|
 bif (!((decide ((a3.getD a2.toNat 0) < 0)) && true)) then
 chk (decide (0 <= (a3.getD a2.toNat 0))) <|
 chk (decide ((a3.getD a2.toNat 0).toNat < a4.length)) <|
 bif decide (((ag a4 ((a3.getD a2.toNat 0).toNat)).i 6) > 0) then
 bif ((decide (a0 < 0)) && true) then
 k ((a3.getD a2.toNat 0), a1, (w64 (a2 + 1)), a3, a4)
 else
 chk (decide (0 <= (a3.getD a2.toNat 0))) <|
 chk (decide ((a3.getD a2.toNat 0).toNat < a4.length)) <|
 chk (decide (0 <= a0)) <|
 chk (decide (a0.toNat < a4.length)) <|
 bif (decide (((ag a4 ((a3.getD a2.toNat 0).toNat)).i 0) < ((ag a4 a0.toNat).i 0))) then
 k ((a3.getD a2.toNat 0), a1, (w64 (a2 + 1)), a3, a4)
 else
 k (a0, a1, (w64 (a2 + 1)), a3, a4)
 else
 k (a0, a1, (w64 (a2 + 1)), a3, a4)
 else
 k (a0, a1, (w64 (a2 + 1)), a3, a4)
 else
 some ([.i a0, .l a3, .d a4])
def pG (m : Nat) : Nat -> yk -> Option (List Un) := bo (rf m)
theorem qd (m : Nat) (n : Nat) : pG m (n + 1) = rf m (pG m n) := rfl
def AJ (F : yk -> Option (List Un)) : aW := ⟨[.lp [0, 1, 0, 1, 1], .blk 0, .code [1, 1, 1]], ⟨frm 41 [(3, .np 1 7 0), (6, .buf 0 1), (7, .int .i64), (8, .int .i64)], [.dq 1 7 0, .ai (sI 7)], 2⟩, onU F⟩
theorem MD (m : Nat) : ∀ n, HO Lw (AJ (pG m n)) := au ah HA.right (fun k => [AJ k]) (fun k h => (aL h aB)) fun k a => by kernel_rfl
def t119 (m : Nat) : List Int × List Dat -> Option (List Un) := fun (a0, a1) =>
 pG m m ((-1), (a0.length : Int), 0, a0, a1)
theorem OJ (m : Nat) (c : List Dat) (hl : c.length <= 1000) (hg : ∀ d ∈ c, aI d = true) : ∀ (k i n : Nat) (o : Int), i + k = c.length -> k < n -> -1 <= o -> o < c.length ->
 pG m n (o, (c.length : Int), (i : Int), bT 0 c.length, c) = some [.i (ff c k i o), .l (bT 0 c.length), .d c] := by
 intro k
 induction k with
 | zero =>
  intro i n o hi hn o0 o1; obtain ⟨n, rfl⟩ := al n (by omega); rw [qd]; unfold rf; dsimp only; rw [aF (by omega)]; rfl
 | succ k ih =>
  intro i n o hi hn o0 o1; obtain ⟨n, rfl⟩ := al n (by omega); have hk := xP (c := c) (i := i) (by omega); have hL := fw c.length 0; have hx := bZ (b9 (i := i) (by omega) hg); have ia := ih (i + 1) n (i : Int) (by omega) (by omega) (by omega) (by omega); have ib := ih (i + 1) n o (by omega) (by omega) (by omega) (by omega); rw [qd]; unfold rf; dsimp only; unfold ff; have e := JE (b9 (c := c) (i := i) (by omega) hg); simp only [lt_eq, zaG, hk, hL, za9, zaS, e, ge_iff_le, gt_iff_lt]
  by_cases h1 : 0 < (ag c i).i 6
  . by_cases h2 : o < 0
    . have hc : 0 < (ag c i).i 6 /\ (o < 0 \/ (ag c i).i 0 < (ag c o.toNat).i 0) := ⟨h1, .inl h2⟩
      rw [if_pos hc]; simp (disch := omega) only [TRa, TRi, aa, LNl, LNi, zaa]; simp only [zay, zaa] at ia ib ⊢; exact ia
    . by_cases h3 : (ag c i).i 0 < (ag c o.toNat).i 0
      . have hc : 0 < (ag c i).i 6 /\ (o < 0 \/ (ag c i).i 0 < (ag c o.toNat).i 0) := ⟨h1, .inr h3⟩
        rw [if_pos hc]; simp (disch := omega) only [TRa, TRi, aa, LNl, LNi, zaa]; simp only [zay, zaa] at ia ib ⊢; exact ia
      . have hc : ¬ (0 < (ag c i).i 6 /\ (o < 0 \/ (ag c i).i 0 < (ag c o.toNat).i 0)) := fun h => h.2.elim h2 h3
        rw [if_neg hc]; simp (disch := omega) only [TRa, TRi, aa, LNl, LNi, zaa]; simp only [zay, zaa] at ia ib ⊢; exact ib
  . have hc : ¬ (0 < (ag c i).i 6 /\ (o < 0 \/ (ag c i).i 0 < (ag c o.toNat).i 0)) := fun h => h1 h.1
    rw [if_neg hc]; simp (disch := omega) only [TRa, TRi, aa, LNl, LNi, zaa]; simp only [zay, zaa] at ia ib ⊢; exact ib
def f119 : List Int × List Dat -> Bool × List Un := fun (a0, a1) => ((decide (a0 = bT 0 a1.length)) && (decide (a1.length <= 1000) && a1.all aI), [.i (ff a1 a1.length 0 (-1)), .l (a0), .d (a1)])
theorem I0 (a0 : List Int) (a1 : List Dat) (hc : ((decide (a0 = bT 0 a1.length)) && (decide (a1.length <= 1000) && a1.all aI)) = true) : ∃ m, t119 m (a0, a1) = some ([.i (ff a1 a1.length 0 (-1)), .l (a0), .d (a1)]) := by
 simp only [zab, zag, zan] at hc; obtain ⟨rfl, h1, h2⟩ := hc; refine ⟨a1.length + 1, ?_⟩; unfold t119; dsimp only; rw [fw]; exact OJ _ a1 h1 h2 a1.length 0 _ (-1) (by omega) (by omega) (by omega) (by omega)
theorem ED : ER 119 (mkE Lw.en Lw.ex f119) := an ah HA.right (fun m => [AJ (pG m m)]) (t := t119) (by kernel_rfl) (fun m => (aL (MD m m) aB)) (fun m a => by kernel_rfl) fun (a0, a1) hc => I0 a0 a1 hc
def EE : Tb Tryz.prog LQ TE XX := HA.add 119 _ ED
theorem me (i : Nat) (y : Dat) : ∀ (l : List Dat) (j : Nat), j < l.length -> ao i (l.set j y) = ao i l - (ag l j).i i + y.i i
 | [], j, h => by simp at h
 | d :: l, 0, h => by simp only [List.set_cons_zero, ao, ag, zaH]; omega
 | d :: l, j + 1, h => by
  have := me i y l j (by simpa using h); simp only [ag] at this; simp only [zbN, ao, ag, zav, this]; omega
theorem sA {l : List Dat} {j : Nat} {y : Dat} (h : j < l.length) : ag (l.set j y) j = y := by
 unfold ag; rw [zaf, List.getElem?_set_self h]; rfl
theorem lv {l : List Dat} {j i : Nat} {y : Dat} (h : i ≠ j) : ag (l.set j y) i = ag l i := by
 unfold ag; rw [zaf, zaf, List.getElem?_set_ne (by omega)]
def wF (p : Dat -> Prop) [DecidablePred p] : List Dat -> Nat
 | [] => 0
 | d :: l => (if p d then 1 else 0) + wF p l
theorem xE (p : Dat -> Prop) [DecidablePred p] : ∀ l : List Dat, wF p l <= l.length
 | [] => zam _
 | d :: l => by have := xE p l; simp only [wF, zae]; split <;> omega
theorem te (p : Dat -> Prop) [DecidablePred p] (y : Dat) (hy : ¬ p y) : ∀ (l : List Dat) (j : Nat), j < l.length -> p (ag l j) -> wF p (l.set j y) + 1 = wF p l
 | [], j, h, _ => by simp at h
 | d :: l, 0, h, hp => by
  have hp : p d := hp; simp only [List.set_cons_zero, wF, if_neg hy, if_pos hp]; omega
 | d :: l, j + 1, h, hp => by
  have := te p y hy l j (by simpa using h) hp; simp only [zbN, wF]; omega
def dr (c : List Dat) : Prop := c.length <= 1000 /\ ∀ d ∈ c, aI d = true
theorem ez {c : List Dat} (h : dr c) : (decide (c.length <= 1000) && c.all aI) = true := by
 rw [zab, zan]; exact ⟨zai h.1, h.2⟩
theorem mK {c : List Dat} {j : Nat} {y : Dat} (h : dr c) (hy : aI y = true) : dr (c.set j y) := ⟨by rw [zbb]; exact h.1, C3 h.2 hy⟩
theorem rL (c : List Dat) : ∀ (k i : Nat) (o : Int), i + k = c.length -> (o < 0 \/ 0 < bc (ag c o.toNat)) -> (fk c k i o < 0 -> o < 0 /\ ∀ j, i <= j -> j < c.length -> bc (ag c j) <= 0) /\ (0 <= fk c k i o -> 0 < bc (ag c (fk c k i o).toNat))
 | 0, i, o, h, ho => ⟨fun h1 => ⟨h1, fun j h2 h3 => by omega⟩, fun h1 => by simp only [fk] at h1 ⊢; omega⟩
 | k + 1, i, o, h, ho => by
  unfold fk
  split
  . rename_i hc; obtain ⟨a, b⟩ := rL c k (i + 1) (i : Int) (by omega) (.inr (by rw [zaG]; exact hc.1)); exact ⟨fun h1 => by have := (a h1).1; omega, b⟩
  . rename_i hc; obtain ⟨a, b⟩ := rL c k (i + 1) o (by omega) ho; refine ⟨fun h1 => ⟨(a h1).1, fun j h2 h3 => ?_⟩, b⟩
    by_cases hj : j = i
    . subst hj; have := (a h1).1; omega
    . exact (a h1).2 j (by omega) h3
theorem rC (c : List Dat) : ∀ (k i : Nat) (o : Int), i + k = c.length -> (o < 0 \/ 0 < (ag c o.toNat).i 6) -> (ff c k i o < 0 -> o < 0 /\ ∀ j, i <= j -> j < c.length -> (ag c j).i 6 <= 0) /\ (0 <= ff c k i o -> 0 < (ag c (ff c k i o).toNat).i 6)
 | 0, i, o, h, ho => ⟨fun h1 => ⟨h1, fun j h2 h3 => by omega⟩, fun h1 => by simp only [ff] at h1 ⊢; omega⟩
 | k + 1, i, o, h, ho => by
  unfold ff
  split
  . rename_i hc; obtain ⟨a, b⟩ := rC c k (i + 1) (i : Int) (by omega) (.inr (by rw [zaG]; exact hc.1)); exact ⟨fun h1 => by have := (a h1).1; omega, b⟩
  . rename_i hc; obtain ⟨a, b⟩ := rC c k (i + 1) o (by omega) ho; refine ⟨fun h1 => ⟨(a h1).1, fun j h2 h3 => ?_⟩, b⟩
    by_cases hj : j = i
    . subst hj; have := (a h1).1; omega
    . exact (a h1).2 j (by omega) h3
def qM : Nat -> Int -> List Dat -> List Dat
 | 0, _, c => c
 | k + 1, t, c => if ao 6 c < t then (if fk c c.length 0 (-1) < 0 then c else qM k t (c.set (fk c c.length 0 (-1)).toNat (dx (t - ao 6 c) (ag c (fk c c.length 0 (-1)).toNat)))) else c
def pt : Nat -> Int -> List Dat -> List Dat
 | 0, _, c => c
 | k + 1, t, c => if t < ao 6 c then (if ff c c.length 0 (-1) < 0 then c else pt k t (c.set (ff c c.length 0 (-1)).toNat (fz (ao 6 c - t) (ag c (ff c c.length 0 (-1)).toNat)))) else c
def fh (t : Int) (c : List Dat) : List Dat := pt (c.length + 2) (max t 0) (qM (c.length + 2) (max t 0) c)
theorem GA (w : Int) (d : Dat) : (dx w d).i 6 = d.i 6 + lY w d /\ bc (dx w d) = bc d - lY w d := by
 simp only [dx, bc, dX, eM, uG, nc]; exact ⟨trivial, by omega⟩
theorem Ir (w : Int) (d : Dat) : (fz w d).i 6 = d.i 6 - lx w d := by
 simp only [fz, nc]
def sr (t : Int) (c : List Dat) : Nat := if ao 6 c < t then wF (fun d => 0 < bc d) c + 1 else 0
def tM (t : Int) (c : List Dat) : Nat := if t < ao 6 c then wF (fun d => 0 < d.i 6) c + 1 else 0
theorem KG {t : Int} {c : List Dat} (hg : dr c) (hs : ao 6 c < t) (hj : 0 <= fk c c.length 0 (-1)) :
 (fk c c.length 0 (-1)).toNat < c.length /\ dr (c.set (fk c c.length 0 (-1)).toNat (dx (t - ao 6 c) (ag c (fk c c.length 0 (-1)).toNat))) /\ sr t (c.set (fk c c.length 0 (-1)).toNat (dx (t - ao 6 c) (ag c (fk c c.length 0 (-1)).toNat))) < sr t c /\
 ao 6 (c.set (fk c c.length 0 (-1)).toNat (dx (t - ao 6 c) (ag c (fk c c.length 0 (-1)).toNat))) <= t := by
 have h1 := xt c c.length 0 (-1) (by omega) (by omega) (by omega); have h2 := (rL c c.length 0 (-1) (by omega) (.inl (by omega))).2 hj; generalize fk c c.length 0 (-1) = o at *
 have h3 : o.toNat < c.length := by omega
 have hn := b9 h3 hg.2; have e6 := GA (t - ao 6 c) (ag c o.toNat); have es := me 6 (dx (t - ao 6 c) (ag c o.toNat)) c o.toNat h3; have hp : lY (t - ao 6 c) (ag c o.toNat) = min (t - ao 6 c) (bc (ag c o.toNat)) := by unfold lY; omega
 refine ⟨h3, mK hg (z9 _ hn), ?_, by omega⟩; unfold sr; rw [if_pos hs]
 split
 . rename_i hlt; have := te (fun d => 0 < bc d) (dx (t - ao 6 c) (ag c o.toNat)) (by show ¬ 0 < bc _; omega) c o.toNat h3 h2; omega
 . omega
theorem KF {t : Int} {c : List Dat} (hg : dr c) (hs : t < ao 6 c) (hj : 0 <= ff c c.length 0 (-1)) :
 (ff c c.length 0 (-1)).toNat < c.length /\ dr (c.set (ff c c.length 0 (-1)).toNat (fz (ao 6 c - t) (ag c (ff c c.length 0 (-1)).toNat))) /\ tM t (c.set (ff c c.length 0 (-1)).toNat (fz (ao 6 c - t) (ag c (ff c c.length 0 (-1)).toNat))) < tM t c /\
 t <= ao 6 (c.set (ff c c.length 0 (-1)).toNat (fz (ao 6 c - t) (ag c (ff c c.length 0 (-1)).toNat))) := by
 have h1 := xU c c.length 0 (-1) (by omega) (by omega) (by omega); have h2 := (rC c c.length 0 (-1) (by omega) (.inl (by omega))).2 hj; generalize ff c c.length 0 (-1) = o at *
 have h3 : o.toNat < c.length := by omega
 have hn := b9 h3 hg.2; have e6 := Ir (ao 6 c - t) (ag c o.toNat); have es := me 6 (fz (ao 6 c - t) (ag c o.toNat)) c o.toNat h3; have hp : lx (ao 6 c - t) (ag c o.toNat) = min (ao 6 c - t) ((ag c o.toNat).i 6) := by unfold lx; omega
 refine ⟨h3, mK hg (A0 _ hn), ?_, by omega⟩; unfold tM; rw [if_pos hs]
 split
 . rename_i hlt; have := te (fun d => 0 < d.i 6) (fz (ao 6 c - t) (ag c o.toNat)) (by show ¬ 0 < (fz _ _).i 6; omega) c o.toNat h3 h2; omega
 . omega
theorem Aj (t : Int) (c : List Dat) : sr t c < c.length + 2 := by
 have := xE (fun d => 0 < bc d) c; unfold sr; split <;> omega
theorem Af (t : Int) (c : List Dat) : tM t c < c.length + 2 := by
 have := xE (fun d => 0 < d.i 6) c; unfold tM; split <;> omega
theorem yQ {c : List Dat} (hg : dr c) : 0 <= ao 6 c /\ ao 6 c <= 1125899906842624000 := by
 have := (gO c hg.2).2.2.1; have := hg.1; omega
def N84 : aC := ⟨EE.tab, 84, ⟨[.int .i64, .buf 0 1], [.dq 1 7 0, .ai (sI 7)], 0⟩, ⟨[.int .i64], [.dq 1 7 0, .ai (sI 7)], 0⟩, []⟩
abbrev Cb : Type := Int × Int × List Int × List Dat
abbrev Ch : Type := Int × Int × List Int × List Dat
def Bc (m : Nat) (k : Cb -> Option (List Un)) : Cb -> Option (List Un) := fun (a0, a1, a2, a3) =>
 bif decide (a1 > a0) then
 chk ((decide (a2 = bT 0 a3.length)) && (decide (a3.length <= 1000) && a3.all aI)) <|
 lt ((ff a3 a3.length 0 (-1)) : Int) fun x6 =>
 bif ((decide (x6 < 0)) && true) then
 some ([.i a1, .l a2, .d a3])
 else
 chk (decide (0 <= x6 /\ x6.toNat < a3.length) && aI (ag a3 x6.toNat)) <|
 lt ((a3.set x6.toNat (fz (w64 (a1 - a0)) (ag a3 x6.toNat))) : List Dat) fun l9 =>
 chk ((decide (a2 = bT 0 l9.length)) && (decide (l9.length <= 1000) && l9.all aI)) <|
 k (a0, (ao 6 l9), a2, l9)
 else
 chk ((decide (a2 = bT 0 a3.length)) && (decide (a3.length <= 1000) && a3.all aI)) <|
 some ([.i (ao 6 a3), .l a2, .d a3])
def vH (m : Nat) : Nat -> Cb -> Option (List Un) := bo (Bc m)
theorem Ay (m : Nat) (n : Nat) : vH m (n + 1) = Bc m (vH m n) := rfl
def F3 (F : Cb -> Option (List Un)) : aW := ⟨[.lp [0, 1, 0, 1, 1, 1], .blk 2, .code [1, 1, 1, 1]], ⟨frm 47 [(0, .int .i64), (1, .buf 0 1), (7, .int .i64)], [.dq 1 7 0, .ai (sI 7)], 0⟩, onU F⟩
def Bw (m : Nat) (k : Ch -> Option (List Un)) : Ch -> Option (List Un) := fun (a0, a1, a2, a3) =>
 bif decide (a1 < a0) then
 chk ((decide (a2 = bT 0 a3.length)) && (decide (a3.length <= 1000) && a3.all aI)) <|
 lt ((fk a3 a3.length 0 (-1)) : Int) fun x2 =>
 bif ((decide (x2 < 0)) && true) then
 some ([.i a1, .l a2, .d a3])
 else
 chk (decide (0 <= x2 /\ x2.toNat < a3.length) && aI (ag a3 x2.toNat)) <|
 lt ((a3.set x2.toNat (dx (w64 (a0 - a1)) (ag a3 x2.toNat))) : List Dat) fun l5 =>
 chk ((decide (a2 = bT 0 l5.length)) && (decide (l5.length <= 1000) && l5.all aI)) <|
 k (a0, (ao 6 l5), a2, l5)
 else
 chk ((decide (a2 = bT 0 a3.length)) && (decide (a3.length <= 1000) && a3.all aI)) <|
 vH m m (a0, (ao 6 a3), a2, a3)
def wi (m : Nat) : Nat -> Ch -> Option (List Un) := bo (Bw m)
theorem A5 (m : Nat) (n : Nat) : wi m (n + 1) = Bw m (wi m n) := rfl
def F5 (F : Ch -> Option (List Un)) : aW := ⟨[.lp [0, 1, 0, 1, 1], .blk 0, .code [1, 1, 1]], ⟨frm 47 [(0, .int .i64), (1, .buf 0 1), (5, .int .i64)], [.dq 1 7 0, .ai (sI 7)], 0⟩, onU F⟩
theorem NC (m : Nat) : ∀ n, HO N84 (F3 (vH m n)) := au ah EE.right (fun k => [F3 k]) (fun k h => (aL h aB)) fun k a => by kernel_rfl
theorem OK (m : Nat) : ∀ n, HO N84 (F5 (wi m n)) := au ah EE.right (fun k => [F5 k, F3 (vH m m)]) (fun k h => (aL h (aL (NC m m) aB))) fun k a => by kernel_rfl
def t84 (m : Nat) : Int × List Int × List Dat -> Option (List Un) := fun (a0, a1, a2) =>
 chk ((decide (a1 = bT 0 a2.length)) && (decide (a2.length <= 1000) && a2.all aI)) <|
 wi m m ((if a0 < 0 then 0 else a0), (ao 6 a2), a1, a2)
theorem Pb (m : Nat) (t : Int) (h0 : 0 <= t) (h1 : t <= 1152921504606846976) : ∀ (k n : Nat) (c : List Dat), tM t c < k -> k <= n -> dr c ->
 vH m n (t, ao 6 c, bT 0 c.length, c) = some [.i (ao 6 (pt k t c)), .l (bT 0 c.length), .d (pt k t c)] := by
 intro k
 induction k with
 | zero => intro n c h; omega
 | succ k ih =>
  intro n c hm hn hg; obtain ⟨n, rfl⟩ := al n (by omega); have hgb := ez hg; have hb := yQ hg; unfold pt; rw [Ay]; unfold Bc; dsimp only; simp only [hgb, za9, zaS, gt_iff_lt]
  by_cases hs : t < ao 6 c
  . rw [if_pos hs, bE hs, hP]
    by_cases hj : ff c c.length 0 (-1) < 0
    . rw [if_pos hj]; simp only [lt_eq]; rw [bE hj]
    . rw [if_neg hj]; obtain ⟨a1, a2, a3, a4⟩ := KF hg hs (by omega); have a5 := ez a2; have := ih n _ (by omega) (by omega) a2; rw [zbb] at this; simp only [lt_eq]; have hnr := b9 a1 hg.2; rw [aF hj, aa (n := ao 6 c - t) (by omega) (by omega), hnr, za9, aN ⟨by omega, a1⟩, a5, zbb, zai rfl, zbg, hP]; exact this
  . rw [if_neg hs, aF hs, hP]
theorem Nz (m : Nat) (t : Int) (h0 : 0 <= t) (h1 : t <= 1152921504606846976) : ∀ (k n : Nat) (c : List Dat), sr t c < k -> k <= n -> c.length + 2 <= m -> dr c ->
 wi m n (t, ao 6 c, bT 0 c.length, c) = some [.i (ao 6 (pt (c.length + 2) t (qM k t c))), .l (bT 0 c.length), .d (pt (c.length + 2) t (qM k t c))] := by
 intro k
 induction k with
 | zero => intro n c h; omega
 | succ k ih =>
  intro n c hm hn hml hg; obtain ⟨n, rfl⟩ := al n (by omega); have hgb := ez hg; have hb := yQ hg; unfold qM; rw [A5]; unfold Bw; dsimp only; simp only [hgb, za9, zaS]
  by_cases hs : ao 6 c < t
  . rw [if_pos hs, bE hs, hP]
    by_cases hj : fk c c.length 0 (-1) < 0
    . rw [if_pos hj]; simp only [lt_eq]; rw [bE hj, pt, if_neg (by omega)]
    . rw [if_neg hj]; obtain ⟨a1, a2, a3, a4⟩ := KG hg hs (by omega); have a5 := ez a2; have := ih n _ (by omega) (by omega) (by rw [zbb]; exact hml) a2; rw [zbb] at this; simp only [lt_eq]; have hnr := b9 a1 hg.2; rw [aF hj, aa (n := t - ao 6 c) (by omega) (by omega), hnr, za9, aN ⟨by omega, a1⟩, a5, zbb, zai rfl, zbg, hP]; exact this
  . rw [if_neg hs, aF hs, hP]; exact Pb m t h0 h1 (c.length + 2) m c (Af t c) hml hg
def f84 : Int × List Int × List Dat -> Bool × List Un := fun (a0, a1, a2) => (decide (a0 <= 1152921504606846976) && ((decide (a1 = bT 0 a2.length)) && (decide (a2.length <= 1000) && a2.all aI)), [.i (ao 6 (fh a0 a2)), .l (a1), .d (fh a0 a2)])
theorem L8 (a0 : Int) (a1 : List Int) (a2 : List Dat) (hc : (decide (a0 <= 1152921504606846976) && ((decide (a1 = bT 0 a2.length)) && (decide (a2.length <= 1000) && a2.all aI))) = true) : ∃ m, t84 m (a0, a1, a2) = some ([.i (ao 6 (fh a0 a2)), .l (a1), .d (fh a0 a2)]) := by
 simp only [zab, zag, zan] at hc; obtain ⟨h0, rfl, h1, h2⟩ := hc; have hg : dr a2 := ⟨h1, h2⟩
 refine ⟨a2.length + 2, ?_⟩; unfold t84 fh; dsimp only; rw [ez hg, zai rfl, kA, zbg, hP]; exact Nz _ (max a0 0) (by omega) (by omega) (a2.length + 2) _ a2 (Aj _ _) (by omega) (by omega) hg
theorem Kw : ER 84 (mkE N84.en N84.ex f84) := an ah EE.right (fun m => [F5 (wi m m)]) (t := t84) (by kernel_rfl) (fun m => (aL (OK m m) aB)) (fun m a => by kernel_rfl) fun (a0, a1, a2) hc => L8 a0 a1 a2 hc
def T84 : Tb Tryz.prog LQ TE XX := EE.add 84 _ Kw
end
end Go.Proofs.YtcbnpnaagbhknaaGreat
