/- Part of a proof: Deal, Right, Trust, Notes, View, Same, Begins, Pool, Pro, Flow, FlowAid, FlowPlain, Loss. Conditions: none. -/
import Derived.Test.YtcbnpnaagbhknaaGreatQ4
set_option linter.unusedVariables false
set_option linter.unusedSimpArgs false
set_option linter.unnecessarySimpa false
set_option linter.unusedSectionVars false
namespace Go.Proofs.YtcbnpnaagbhknaaGreat
noncomputable section
open Go Go.Proofs.YtcbnpnaagbhknaaGreat.Ev
set_option maxRecDepth 20000
def Pe : aD := ⟨T49.tab, 124, ⟨[.int .i64, .int .i64, .int .i64], [], 0⟩, ⟨[.bool], [], 0⟩, []⟩
def t124 (m : Nat) : Int × Int × Int -> Option (List Un) := fun (a0, a1, a2) =>
 bif decide (a0 >= a1) then
 some ([.b (decide (a0 <= a2))])
 else
 some ([.b false])
def f124 : Int × Int × Int -> Bool × List Un := fun (a0, a1, a2) => (true, [.b (decide (a1 <= a0 /\ a0 <= a2))])
theorem J8 (a0 : Int) (a1 : Int) (a2 : Int) : ∃ m, t124 m (a0, a1, a2) = some ([.b (decide (a1 <= a0 /\ a0 <= a2))]) := by
 refine ⟨0, ?_⟩; unfold t124
 by_cases h : a1 <= a0 <;> by_cases h2 : a0 <= a2 <;> simp [h, h2]
theorem Gi : ER 124 (mkE Pe.en Pe.ex f124) := an ah T49.right (fun m => []) (t := t124) (by kernel_rfl) (fun m => aA) (fun m a => by kernel_rfl) fun (a0, a1, a2) hc => J8 a0 a1 a2
def Ke : Tb Tryz.prog LQ TE XX := T49.add 124 _ Gi
def vz (a b : Int) : List Dat -> Int -> Int
 | [], _ => -1
 | d :: l, i => if a = d.i 0 /\ b = d.i 1 then i else vz a b l (i + 1)
theorem Am (a b : Int) : ∀ (l : List Dat) (i : Int), 0 <= i -> (0 <= vz a b l i ↔ gk l a b = true)
 | [], i, h => by simp [vz, gk]
 | d :: l, i, h => by
  have := Am a b l (i + 1) (by omega); simp only [gk, List.any_cons, zbh, zab, zaw] at this ⊢; unfold vz
  by_cases hc : a = d.i 0 /\ b = d.i 1
  . rw [if_pos hc]; exact ⟨fun _ => .inl ⟨hc.1.symm, hc.2.symm⟩, fun _ => h⟩
  . rw [if_neg hc, this]; exact ⟨.inr, fun h => h.resolve_left fun e => hc ⟨e.1.symm, e.2.symm⟩⟩
def My : aD := ⟨Ke.tab, 136, ⟨[.ai (sI 2), .agg [.int .i64, .int .i64]], [], 0⟩, ⟨[.int .i64], [], 0⟩, []⟩
abbrev xY : Type := List Dat × Int × Int × Int × Int
def se (m : Nat) (k : xY -> Option (List Un)) : xY -> Option (List Un) := fun (a0, a1, a2, a3, a4) =>
 bif decide (a2 < a1) then
 chk (inb a2 a0.length) <|
 chk (decide (a2.toNat < a0.length)) <|
 lt (ag a0 a2.toNat : Dat) fun d1 =>
 bif ((a3 == (d1.i 0)) && ((a4 == (d1.i 1)) && true)) then
 some ([.i a2])
 else
 k (a0, a1, (w64 (a2 + 1)), a3, a4)
 else
 some ([.i (-1)])
def pU (m : Nat) : Nat -> xY -> Option (List Un) := br (se m)
theorem qQ (m : Nat) (n : Nat) : pU m (n + 1) = se m (pU m n) := rfl
def A1 (F : xY -> Option (List Un)) : ba := ⟨[.lp [0, 1, 0, 1], .blk 0, .code [1, 1]], ⟨frm 19 [(0, .ai (sI 2)), (3, .ptr 0 0 0), (7, .int .i64), (8, .int .i64)], [.cells [.int .i64, .int .i64]], 0⟩, onU F⟩
theorem LN (m : Nat) : ∀ n, HO My (A1 (pU m n)) := au ah Ke.right (fun k => [A1 k]) (fun k h => (aL h aA)) fun k a => by kernel_rfl
def t136 (m : Nat) : List Dat × Int × Int -> Option (List Un) := fun (a0, a1, a2) =>
 pU m m (a0, (a0.length : Int), 0, a1, a2)
theorem QH (m : Nat) (a b : Int) : ∀ (rest pre : List Dat) (n : Nat), rest.length < n -> (pre ++ rest).length < 1099511627776 ->
 pU m n (pre ++ rest, ((pre ++ rest).length : Int), (pre.length : Int), a, b) = some [.i (vz a b rest pre.length)] := by
 intro rest
 induction rest with
 | nil =>
  intro pre n hn hl; obtain ⟨n, rfl⟩ := al n (by simp at hn; omega); rw [qQ]; unfold se; dsimp only; simp [aE, vz]
 | cons x rest ih =>
  intro pre n hn hl; obtain ⟨n, rfl⟩ := al n (by simp at hn; omega); simp only [zac, zad] at hn hl; have := ih (pre ++ [x]) n (by omega) (by simp; omega); rw [qQ]; unfold se; dsimp only; simp only [vz]
  by_cases h1 : a = x.i 0
  . by_cases h2 : b = x.i 1
    . rw [if_pos ⟨h1, h2⟩]; simp (disch := omega) only [TRa, TRi, aa, LNl, LNi, zaa, ax]
    . rw [if_neg (fun h => h2 h.2)]; simp (disch := omega) only [TRa, TRi, aa, LNl, LNi, zaa, ax]; simp only [LNl, LNi, zaa] at this ⊢; exact this
  . rw [if_neg (fun h => h1 h.1)]; simp (disch := omega) only [TRa, TRi, aa, LNl, LNi, zaa, ax]; simp only [LNl, LNi, zaa] at this ⊢; exact this
def f136 : List Dat × Int × Int -> Bool × List Un := fun (a0, a1, a2) => (decide (a0.length < 1099511627776), [.i (vz a1 a2 a0 0)])
theorem JF (a0 : List Dat) (a1 : Int) (a2 : Int) (hc : (decide (a0.length < 1099511627776)) = true) : ∃ m, t136 m (a0, a1, a2) = some ([.i (vz a1 a2 a0 0)]) := by
 refine ⟨a0.length + 1, ?_⟩; exact QH _ a1 a2 a0 [] _ (by omega) (zak hc)
theorem HD : ER 136 (mkE My.en My.ex f136) := an ah Ke.right (fun m => [A1 (pU m m)]) (t := t136) (by kernel_rfl) (fun m => (aL (LN m m) aA)) (fun m a => by kernel_rfl) fun (a0, a1, a2) hc => JF a0 a1 a2 hc
def Mr : Tb Tryz.prog LQ TE XX := Ke.add 136 _ HD
def Po : aD := ⟨Mr.tab, 125, ⟨[.ai (sI 2), .agg [.int .i64, .int .i64]], [], 0⟩, ⟨[.bool], [], 0⟩, []⟩
def t125 (m : Nat) : List Dat × Int × Int -> Option (List Un) := fun (a0, a1, a2) =>
 chk (decide (a0.length < 1099511627776)) <|
 some ([.b (decide ((vz a1 a2 a0 0) >= 0))])
def f125 : List Dat × Int × Int -> Bool × List Un := fun (a0, a1, a2) => (decide (a0.length < 1099511627776), [.b (gk a0 a1 a2)])
theorem Kj (a0 : List Dat) (a1 : Int) (a2 : Int) (hc : (decide (a0.length < 1099511627776)) = true) : ∃ m, t125 m (a0, a1, a2) = some ([.b (gk a0 a1 a2)]) := by
 refine ⟨0, ?_⟩; have e := Am a1 a2 a0 0 (zcb 0); have h := zak hc; unfold t125; simp (disch := omega) only [TRa, TRi, aa]; cases h : gk a0 a1 a2 <;> simp [h] at e ⊢ <;> omega
theorem Hk : ER 125 (mkE Po.en Po.ex f125) := an ah Mr.right (fun m => []) (t := t125) (by kernel_rfl) (fun m => aA) (fun m a => by kernel_rfl) fun (a0, a1, a2) hc => Kj a0 a1 a2 hc
def IP : Tb Tryz.prog LQ TE XX := Mr.add 125 _ Hk
theorem J3 {c y : Bool} : (bif c then some [Un.b y] else some [.b false]) = some [.b (c && y)] := by cases c <;> rfl
def ni (d : bq) : Bool :=
 decide (0 <= d.b.oc /\ d.b.oc <= 100000) && (decide (0 <= d.b.ic /\ d.b.ic <= 100000) && (decide (0 <= d.b.late /\ d.b.late <= 100000) && (decide (0 <= d.b.nm /\ d.b.nm <= 100000) && (decide (0 <= d.b.clean /\ d.b.clean <= 100000) &&
 (decide (1 <= d.a.year /\ d.a.year <= 9000) && (decide (1 <= d.a.month /\ d.a.month <= 12) && (decide (0 <= d.a.basis /\ d.a.basis <= 2) && (decide (0 <= d.b.fee /\ d.b.fee <= 5000) && (decide (0 <= d.b.aX /\ d.b.aX <= 1099511627776) &&
 (decide (0 <= d.b.target /\ d.b.target <= 10000) && (decide (0 <= d.b.advance /\ d.b.advance <= 1099511627776) && decide (0 <= d.b.eK /\ d.b.eK <= 600))))))))))))
def N98 : aD := ⟨IP.tab, 98, ⟨[.agg [.int .i64, .int .i64, .int .i64, .ai (sI 2), .ai (sI 3), .int .i64, .int .i64, .int .i64, .int .i64, .int .i64, .int .i64, .int .i64, .int .i64, .int .i64, .int .i64, .ai (sI 2), .ai (sI 2), .ai (sI 2)]], [], 0⟩, ⟨[.bool], [], 0⟩, []⟩
abbrev CX : Type := Int × Int × bq × List Int
def Ce (m : Nat) (k : CX -> Option (List Un)) : CX -> Option (List Un) := fun (a0, a1, a2, a3) =>
 bif decide (a1 < a0) then
 chk (inb a1 a3.length) <|
 chk (decide (a1.toNat < a3.length)) <|
 bif !(decide (0 <= (a3.getD a1.toNat 0) /\ (a3.getD a1.toNat 0) <= 100000)) then
 some ([.b false])
 else
 k (a0, (w64 (a1 + 1)), a2, a3)
 else
 bif (decide (1 <= a2.a.year /\ a2.a.year <= 9000)) then
 bif (decide (1 <= a2.a.month /\ a2.a.month <= 12)) then
 bif (decide (0 <= a2.a.basis /\ a2.a.basis <= 2)) then
 bif (decide (0 <= a2.b.fee /\ a2.b.fee <= 5000)) then
 bif (decide (0 <= a2.b.aX /\ a2.b.aX <= 1099511627776)) then
 bif (decide (0 <= a2.b.target /\ a2.b.target <= 10000)) then
 bif (decide (0 <= a2.b.advance /\ a2.b.advance <= 1099511627776)) then
 some ([.b (decide (0 <= a2.b.eK /\ a2.b.eK <= 600))])
 else
 some ([.b false])
 else
 some ([.b false])
 else
 some ([.b false])
 else
 some ([.b false])
 else
 some ([.b false])
 else
 some ([.b false])
 else
 some ([.b false])
def tc (m : Nat) : Nat -> CX -> Option (List Un) := br (Ce m)
theorem Bp (m : Nat) (n : Nat) : tc m (n + 1) = Ce m (tc m n) := rfl
def FZ (F : CX -> Option (List Un)) : ba := ⟨[.lp [0, 1, 0, 1], .blk 0, .code [1, 1]], ⟨frm 68 [(1, .ptr 0 0 0), (20, .buf 1 1), (21, .int .i64), (22, .int .i64)], [.cells [.int .i64, .int .i64, .int .i64, .ai (sI 2), .ai (sI 3), .int .i64, .int .i64, .int .i64, .int .i64, .int .i64, .int .i64, .int .i64, .int .i64, .int .i64, .int .i64, .ai (sI 2), .ai (sI 2), .ai (sI 2)], .ints .i64], 0⟩, onU F⟩
theorem OH (m : Nat) : ∀ n, HO N98 (FZ (tc m n)) := au ah IP.right (fun k => [FZ k]) (fun k h => (aL h aA)) fun k a => by kernel_rfl
def t98 (m : Nat) : bq -> Option (List Un) := fun a0 =>
 tc m m (5, 0, a0, ([a0.b.oc, a0.b.ic, a0.b.late, a0.b.nm, a0.b.clean] : List Int))
def f98 : bq -> Bool × List Un := fun a0 => (true, [.b (ni a0)])
set_option maxHeartbeats 2000000 in
theorem Nl (a0 : bq) : ∃ m, t98 m a0 = some ([.b (ni a0)]) := by
 refine ⟨6, ?_⟩; unfold t98; rw [show tc 6 6 = tc 6 (0 + 1 + 1 + 1 + 1 + 1 + 1) from rfl]; simp only [Bp]; unfold Ce; dsimp only; simp (disch := omega) only [TRa, TRi, aa, zac, zax, zaH, zat, Int.reduceToNat, Nat.reduceAdd, za2, Int.reduceAdd, zaU, zaP, Int.reduceLT]; simp only [J3]; rfl
theorem Jh : ER 98 (mkE N98.en N98.ex f98) := an ah IP.right (fun m => [FZ (tc m m)]) (t := t98) (by kernel_rfl) (fun m => (aL (OH m m) aA)) (fun m a => by kernel_rfl) fun a0 hc => Nl a0
def T98 : Tb Tryz.prog LQ TE XX := IP.add 98 _ Jh
def jb : Int -> Int -> List Dat -> Option Int
 | _, all, [] => some all
 | last, all, d :: l => if d.i 0 <= last then none else if 0 <= d.i 1 /\ d.i 1 <= 1099511627776 - all then jb (d.i 0) (all + d.i 1) l else none
def eW (l : List Dat) : Option Int := if 1 <= l.length /\ l.length <= 64 then jb 0 0 l else none
def KA (o : Option Int) : Option (List Un) := some [.i (o.getD 0), .b o.isSome]
def N96 : aD := ⟨T98.tab, 96, ⟨[.ai (sI 2)], [], 0⟩, ⟨[.int .i64, .bool], [], 0⟩, []⟩
abbrev CS : Type := Int × Int × List Dat × Int × Int
def yf (m : Nat) (k : CS -> Option (List Un)) : CS -> Option (List Un) := fun (a0, a1, a2, a3, a4) =>
 bif decide (a4 < a3) then
 chk (inb a4 a2.length) <|
 chk (decide (a4.toNat < a2.length)) <|
 lt (ag a2 a4.toNat : Dat) fun d2 =>
 bif decide ((d2.i 0) <= a0) then
 some ([.i 0, .b false])
 else
 bif !(decide (0 <= (d2.i 1) /\ (d2.i 1) <= (w64 (1099511627776 - a1)))) then
 some ([.i 0, .b false])
 else
 k ((d2.i 0), (w64 (a1 + (d2.i 1))), a2, a3, (w64 (a4 + 1)))
 else
 some ([.i a1, .b true])
def vG (m : Nat) : Nat -> CS -> Option (List Un) := br (yf m)
theorem vk (m : Nat) (n : Nat) : vG m (n + 1) = yf m (vG m n) := rfl
def G7 (F : CS -> Option (List Un)) : ba := ⟨[.lp [0, 1, 0, 1, 1, 1], .blk 0, .code [1, 1, 1, 1]], ⟨frm 38 [(4, .int .i64), (5, .int .i64), (12, .ai (sI 2)), (13, .int .i64), (14, .int .i64)], [], 0⟩, onU F⟩
theorem Pp (m : Nat) : ∀ n, HO N96 (G7 (vG m n)) := au ah T98.right (fun k => [G7 k]) (fun k h => (aL h aA)) fun k a => by kernel_rfl
def t96 (m : Nat) : List Dat -> Option (List Un) := fun a0 =>
 bif !(decide (1 <= (a0.length : Int) /\ (a0.length : Int) <= 64)) then
 some ([.i 0, .b false])
 else
 vG m m (0, 0, a0, (a0.length : Int), 0)
theorem ID (m : Nat) : ∀ (rest pre : List Dat) (n : Nat) (last all : Int), rest.length < n -> (pre ++ rest).length <= 64 -> 0 <= all -> all <= 1099511627776 ->
 vG m n (last, all, pre ++ rest, ((pre ++ rest).length : Int), (pre.length : Int)) = KA (jb last all rest) := by
 intro rest
 induction rest with
 | nil =>
  intro pre n last all hn hl h0 h1; obtain ⟨n, rfl⟩ := al n (by simp at hn; omega); rw [vk]; unfold yf; dsimp only; simp [aE, jb, KA]
 | cons x rest ih =>
  intro pre n last all hn hl h0 h1; obtain ⟨n, rfl⟩ := al n (by simp at hn; omega); simp only [zac, zad] at hn hl; rw [vk]; unfold yf; dsimp only; simp only [jb]
  by_cases c1 : x.i 0 <= last
  . rw [if_pos c1]; simp (disch := omega) only [TRa, TRi, aa, LNl, LNi, zaa, ax]; rfl
  . rw [if_neg c1]
    by_cases c2 : 0 <= x.i 1 /\ x.i 1 <= 1099511627776 - all
    . rw [if_pos c2]; have := ih (pre ++ [x]) n (x.i 0) (all + x.i 1) (by omega) (by simp; omega) (by omega) (by omega); simp (disch := omega) only [TRa, TRi, aa, LNl, LNi, zaa, ax]; simp only [LNl, LNi, zaa] at this ⊢; exact this
    . rw [if_neg c2]; simp (disch := omega) only [TRa, TRi, aa, LNl, LNi, zaa, ax]; rfl
def f96 : List Dat -> Bool × List Un := fun a0 => (true, [.i ((eW a0).getD 0), .b ((eW a0).isSome)])
theorem MU (a0 : List Dat) : ∃ m, t96 m a0 = some ([.i ((eW a0).getD 0), .b ((eW a0).isSome)]) := by
 refine ⟨65, ?_⟩; unfold t96 eW
 by_cases h : 1 <= a0.length /\ a0.length <= 64
 . rw [if_pos h]; simp (disch := omega) only [TRa, TRi, aa]; exact ID 65 a0 [] 65 0 0 (by omega) h.2 (by omega) (by omega)
 . rw [if_neg h]; simp (disch := omega) only [TRa, TRi, aa]; rfl
theorem JR : ER 96 (mkE N96.en N96.ex f96) := an ah T98.right (fun m => [G7 (vG m m)]) (t := t96) (by kernel_rfl) (fun m => (aL (Pp m m) aA)) (fun m a => by kernel_rfl) fun a0 hc => MU a0
def T96 : Tb Tryz.prog LQ TE XX := T98.add 96 _ JR
def mE (most : Int) : Int -> List Dat -> Option Int
 | all, [] => some all
 | all, d :: l => if (0 <= d.i 0 /\ d.i 0 <= 7) /\ (1 <= d.i 1 /\ d.i 1 <= most - all) /\ (0 <= d.i 2 /\ d.i 2 <= 5000) then mE most (all + d.i 1) l else none
def jH (most : Int) (l : List Dat) : Option Int := if 1 <= l.length /\ l.length <= 8 then mE most 0 l else none
def N97 : aD := ⟨T96.tab, 97, ⟨[.ai (sI 3), .int .i64], [], 0⟩, ⟨[.int .i64, .bool], [], 0⟩, []⟩
abbrev Cy : Type := Int × Int × List Dat × Int × Int
def yv (m : Nat) (k : Cy -> Option (List Un)) : Cy -> Option (List Un) := fun (a0, a1, a2, a3, a4) =>
 bif decide (a4 < a3) then
 chk (inb a4 a2.length) <|
 chk (decide (a4.toNat < a2.length)) <|
 lt (ag a2 a4.toNat : Dat) fun d2 =>
 bif !(decide (0 <= (d2.i 0) /\ (d2.i 0) <= 7)) then
 some ([.i 0, .b false])
 else
 bif !(decide (1 <= (d2.i 1) /\ (d2.i 1) <= (w64 (a0 - a1)))) then
 some ([.i 0, .b false])
 else
 bif !(decide (0 <= (d2.i 2) /\ (d2.i 2) <= 5000)) then
 some ([.i 0, .b false])
 else
 k (a0, (w64 (a1 + (d2.i 1))), a2, a3, (w64 (a4 + 1)))
 else
 some ([.i a1, .b true])
def xd (m : Nat) : Nat -> Cy -> Option (List Un) := br (yv m)
theorem uy (m : Nat) (n : Nat) : xd m (n + 1) = yv m (xd m n) := rfl
def He (F : Cy -> Option (List Un)) : ba := ⟨[.lp [0, 1, 0, 1, 1, 1], .blk 0, .code [1, 1, 1, 1]], ⟨frm 44 [(1, .int .i64), (6, .int .i64), (13, .ai (sI 3)), (14, .int .i64), (15, .int .i64)], [], 0⟩, onU F⟩
theorem OY (m : Nat) : ∀ n, HO N97 (He (xd m n)) := au ah T96.right (fun k => [He k]) (fun k h => (aL h aA)) fun k a => by kernel_rfl
def t97 (m : Nat) : List Dat × Int -> Option (List Un) := fun (a0, a1) =>
 bif !(decide (1 <= (a0.length : Int) /\ (a0.length : Int) <= 8)) then
 some ([.i 0, .b false])
 else
 xd m m (a1, 0, a0, (a0.length : Int), 0)
theorem Is (m : Nat) (most : Int) (hm : 0 <= most /\ most <= 1099511627776) : ∀ (rest pre : List Dat) (n : Nat) (all : Int), rest.length < n -> (pre ++ rest).length <= 8 -> 0 <= all -> all <= most ->
 xd m n (most, all, pre ++ rest, ((pre ++ rest).length : Int), (pre.length : Int)) = KA (mE most all rest) := by
 intro rest
 induction rest with
 | nil =>
  intro pre n all hn hl h0 h1; obtain ⟨n, rfl⟩ := al n (by simp at hn; omega); rw [uy]; unfold yv; dsimp only; simp [aE, mE, KA]
 | cons x rest ih =>
  intro pre n all hn hl h0 h1; obtain ⟨n, rfl⟩ := al n (by simp at hn; omega); simp only [zac, zad] at hn hl; rw [uy]; unfold yv; dsimp only; simp only [mE]
  by_cases c1 : 0 <= x.i 0 /\ x.i 0 <= 7
  . by_cases c2 : 1 <= x.i 1 /\ x.i 1 <= most - all
    . by_cases c3 : 0 <= x.i 2 /\ x.i 2 <= 5000
      . rw [if_pos ⟨c1, c2, c3⟩]; have := ih (pre ++ [x]) n (all + x.i 1) (by omega) (by simp; omega) (by omega) (by omega); simp (disch := omega) only [TRa, TRi, aa, LNl, LNi, zaa, ax]; simp only [LNl, LNi, zaa] at this ⊢; exact this
      . rw [if_neg (fun h => c3 h.2.2)]; simp (disch := omega) only [TRa, TRi, aa, LNl, LNi, zaa, ax]; rfl
    . rw [if_neg (fun h => c2 h.2.1)]; simp (disch := omega) only [TRa, TRi, aa, LNl, LNi, zaa, ax]; rfl
  . rw [if_neg (fun h => c1 h.1)]; simp (disch := omega) only [TRa, TRi, aa, LNl, LNi, zaa, ax]; rfl
def f97 : List Dat × Int -> Bool × List Un := fun (a0, a1) => (decide (0 <= a1 /\ a1 <= 1099511627776), [.i ((jH a1 a0).getD 0), .b ((jH a1 a0).isSome)])
theorem NH (a0 : List Dat) (a1 : Int) (hc : (decide (0 <= a1 /\ a1 <= 1099511627776)) = true) : ∃ m, t97 m (a0, a1) = some ([.i ((jH a1 a0).getD 0), .b ((jH a1 a0).isSome)]) := by
 have hm := zak hc; refine ⟨65, ?_⟩; unfold t97 jH
 by_cases h : 1 <= a0.length /\ a0.length <= 8
 . rw [if_pos h]; simp (disch := omega) only [TRa, TRi, aa]; exact Is 65 a1 hm a0 [] 65 0 (by omega) h.2 (by omega) (by omega)
 . rw [if_neg h]; simp (disch := omega) only [TRa, TRi, aa]; rfl
theorem H7 : ER 97 (mkE N97.en N97.ex f97) := an ah T96.right (fun m => [He (xd m m)]) (t := t97) (by kernel_rfl) (fun m => (aL (OY m m) aA)) (fun m a => by kernel_rfl) fun (a0, a1) hc => NH a0 a1 hc
def T97 : Tb Tryz.prog LQ TE XX := T96.add 97 _ H7
def Hb (d : Dat) : Bool := decide (1 <= d.i 0 /\ d.i 0 <= 7) && decide (0 <= d.i 1 /\ d.i 1 <= (if d.i 0 = 3 then 7 else 0))
def th : List Dat -> List Dat -> Bool
 | _, [] => true
 | pre, d :: l => Hb d && (!gk pre (d.i 0) (d.i 1) && th (pre ++ [d]) l)
def eu (l : List Dat) : Bool := decide (1 <= (l.length : Int) /\ (l.length : Int) <= 16) && th [] l
def N99 : aD := ⟨T97.tab, 99, ⟨[.ai (sI 2)], [], 0⟩, ⟨[.bool], [], 0⟩, []⟩
abbrev Dq : Type := List Dat × List Dat × Int × Int
def yS (m : Nat) (k : Dq -> Option (List Un)) : Dq -> Option (List Un) := fun (a0, a1, a2, a3) =>
 bif decide (a3 < a2) then
 chk (inb a3 a1.length) <|
 chk (decide (a3.toNat < a1.length)) <|
 lt (ag a1 a3.toNat : Dat) fun d2 =>
 bif (d2.i 0) == 3 then
 bif !(decide (1 <= (d2.i 0) /\ (d2.i 0) <= 7)) then
 some ([.b false])
 else
 bif !(decide (0 <= (d2.i 1) /\ (d2.i 1) <= 7)) then
 some ([.b false])
 else
 chk (decide (0 <= a3) && (true && decide (0 <= a3.toNat /\ a3.toNat <= a0.length))) <|
 chk (decide ((List.take a3.toNat a0).length < 1099511627776)) <|
 bif (gk (List.take a3.toNat a0) (d2.i 0) (d2.i 1)) then
 some ([.b false])
 else
 k (a0, a1, a2, (w64 (a3 + 1)))
 else
 bif !(decide (1 <= (d2.i 0) /\ (d2.i 0) <= 7)) then
 some ([.b false])
 else
 bif !(decide (0 <= (d2.i 1) /\ (d2.i 1) <= 0)) then
 some ([.b false])
 else
 chk (decide (0 <= a3) && (true && decide (0 <= a3.toNat /\ a3.toNat <= a0.length))) <|
 chk (decide ((List.take a3.toNat a0).length < 1099511627776)) <|
 bif (gk (List.take a3.toNat a0) (d2.i 0) (d2.i 1)) then
 some ([.b false])
 else
 k (a0, a1, a2, (w64 (a3 + 1)))
 else
 some ([.b true])
def wL (m : Nat) : Nat -> Dq -> Option (List Un) := br (yS m)
theorem uK (m : Nat) (n : Nat) : wL m (n + 1) = yS m (wL m n) := rfl
def GH (F : Dq -> Option (List Un)) : ba := ⟨[.lp [0, 1, 0, 1, 1], .blk 0, .code [1, 1, 1]], ⟨frm 39 [(0, .ai (sI 2)), (10, .ai (sI 2)), (11, .int .i64), (12, .int .i64)], [], 0⟩, onU F⟩
theorem Oc (m : Nat) : ∀ n, HO N99 (GH (wL m n)) := au ah T97.right (fun k => [GH k]) (fun k h => (aL h aA)) fun k a => by kernel_rfl
def t99 (m : Nat) : List Dat -> Option (List Un) := fun a0 =>
 bif !(decide (1 <= (a0.length : Int) /\ (a0.length : Int) <= 16)) then
 some ([.b false])
 else
 wL m m (a0, a0, (a0.length : Int), 0)
theorem Ju (m : Nat) : ∀ (rest pre : List Dat) (n : Nat), rest.length < n -> (pre ++ rest).length <= 16 ->
 wL m n (pre ++ rest, pre ++ rest, ((pre ++ rest).length : Int), (pre.length : Int)) = some [.b (th pre rest)] := by
 intro rest
 induction rest with
 | nil =>
  intro pre n hn hl; obtain ⟨n, rfl⟩ := al n (by simp at hn; omega); rw [uK]; unfold yS; dsimp only; simp [aE, th]
 | cons x rest ih =>
  intro pre n hn hl; obtain ⟨n, rfl⟩ := al n (by simp at hn; omega); simp only [zac, zad] at hn hl; rw [uK]; unfold yS; dsimp only; have := ih (pre ++ [x]) n (by omega) (by simp; omega); simp only [th, Hb]
  by_cases c1 : 1 <= x.i 0 /\ x.i 0 <= 7
  . by_cases c3 : x.i 0 = 3
    . by_cases c2 : 0 <= x.i 1 /\ x.i 1 <= 7
      . cases h : gk pre (x.i 0) (x.i 1)
        . simp (disch := omega) only [TRa, TRi, aa, LNl, LNi, zaa, ax, zaJ]; simp only [List.take_left, h, zao, if_pos c3, zai c1, zai c2, zbi, Bool.not_false]
          (try simp (disch := omega) only [TRa, TRi, aa, LNl, LNi, zaa, ax, zaJ])
          simp only [LNl, LNi, zaa] at this ⊢; exact this
        . simp (disch := omega) only [TRa, TRi, aa, LNl, LNi, zaa, ax, zaJ]; simp only [List.take_left, h, zaE, if_pos c3, zai c1, zai c2, zbi, zbC, zbE]
      . simp (disch := omega) only [TRa, TRi, aa, LNl, LNi, zaa, ax, zaJ]; simp only [if_pos c3, zaQ c2, Bool.and_false, zbE]
    . by_cases c2 : 0 <= x.i 1 /\ x.i 1 <= 0
      . cases h : gk pre (x.i 0) (x.i 1)
        . simp (disch := omega) only [TRa, TRi, aa, LNl, LNi, zaa, ax, zaJ]; simp only [List.take_left, h, zao, if_neg c3, zai c1, zai c2, zbi, Bool.not_false]
          (try simp (disch := omega) only [TRa, TRi, aa, LNl, LNi, zaa, ax, zaJ])
          simp only [LNl, LNi, zaa] at this ⊢; exact this
        . simp (disch := omega) only [TRa, TRi, aa, LNl, LNi, zaa, ax, zaJ]; simp only [List.take_left, h, zaE, if_neg c3, zai c1, zai c2, zbi, zbC, zbE]
      . simp (disch := omega) only [TRa, TRi, aa, LNl, LNi, zaa, ax, zaJ]; simp only [if_neg c3, zaQ c2, Bool.and_false, zbE]
  . by_cases c3 : x.i 0 = 3
    . omega
    . simp (disch := omega) only [TRa, TRi, aa, LNl, LNi, zaa, ax, zaJ]; simp only [zaQ c1, zbE]
def f99 : List Dat -> Bool × List Un := fun a0 => (true, [.b (eu a0)])
theorem Nx (a0 : List Dat) : ∃ m, t99 m a0 = some ([.b (eu a0)]) := by
 refine ⟨17, ?_⟩; unfold t99 eu
 by_cases h : 1 <= (a0.length : Int) /\ (a0.length : Int) <= 16
 . rw [zai h, zbi]; simp (disch := omega) only [TRa, TRi, aa]; exact Ju 17 a0 [] 17 (by omega) (by simp; omega)
 . rw [zaQ h, zbE]; simp (disch := omega) only [TRa, TRi, aa]
theorem Ip : ER 99 (mkE N99.en N99.ex f99) := an ah T97.right (fun m => [GH (wL m m)]) (t := t99) (by kernel_rfl) (fun m => (aL (Oc m m) aA)) (fun m a => by kernel_rfl) fun a0 hc => Nx a0
def T99 : Tb Tryz.prog LQ TE XX := T97.add 99 _ Ip
def cr (d : bq) : Option (Int × Int) :=
 match eW d.bh with
 | none => none
 | some p => match jH p d.notes with
  | none => none
  | some n => if ni d && (eu d.s0 && (eu d.s1 && eu d.s2)) then some (p, n) else none
theorem xe : ∀ (l : List Dat) (last all r : Int), 0 <= all -> all <= 1099511627776 -> jb last all l = some r -> all <= r /\ r <= 1099511627776
 | [], last, all, r, h0, h1, h => by simp [jb] at h; omega
 | d :: l, last, all, r, h0, h1, h => by
  unfold jb at h
  split at h
  . cases h
  . split at h
    . have := xe l _ _ r (by omega) (by omega) h; omega
    . cases h
theorem Ec {l : List Dat} {r : Int} (h : eW l = some r) : 0 <= r /\ r <= 1099511627776 := by
 unfold eW at h
 split at h
 . exact xe l 0 0 r (by omega) (by omega) h
 . cases h
def N61 : aD := ⟨T99.tab, 61, ⟨[.agg [.int .i64, .int .i64, .int .i64, .ai (sI 2), .ai (sI 3), .int .i64, .int .i64, .int .i64, .int .i64, .int .i64, .int .i64, .int .i64, .int .i64, .int .i64, .int .i64, .ai (sI 2), .ai (sI 2), .ai (sI 2)]], [], 0⟩, ⟨[.int .i64, .int .i64, .bool], [], 0⟩, [[0, 1, 0, 1, 1, 1, 1]]⟩
def t61 (m : Nat) : bq -> Option (List Un) := fun a0 =>
 chk (decide (0 <= ((eW a0.bh).getD 0) /\ ((eW a0.bh).getD 0) <= 1099511627776)) <|
 bif !((eW a0.bh).isSome) then
 some ([.i 0, .i 0, .b false])
 else
 bif !((jH ((eW a0.bh).getD 0) a0.notes).isSome) then
 some ([.i 0, .i 0, .b false])
 else
 bif !(ni a0) then
 some ([.i 0, .i 0, .b false])
 else
 bif !(eu a0.s0) then
 some ([.i 0, .i 0, .b false])
 else
 bif !(eu a0.s1) then
 some ([.i 0, .i 0, .b false])
 else
 bif !(eu a0.s2) then
 some ([.i 0, .i 0, .b false])
 else
 some ([.i ((eW a0.bh).getD 0), .i ((jH ((eW a0.bh).getD 0) a0.notes).getD 0), .b true])
def f61 : bq -> Bool × List Un := fun a0 => (true, [.i (((cr a0).getD (0, 0)).1), .i (((cr a0).getD (0, 0)).2), .b ((cr a0).isSome)])
theorem Np (a0 : bq) : ∃ m, t61 m a0 = some ([.i (((cr a0).getD (0, 0)).1), .i (((cr a0).getD (0, 0)).2), .b ((cr a0).isSome)]) := by
 refine ⟨0, ?_⟩; unfold t61 cr; cases hl : eW a0.bh with
 | none => simp [lt, chk]
 | some p =>
  have hb := Ec hl; simp only [lt_eq, zbo, Option.isSome_some, zbC, zao]; rw [aP hb]; cases hn : jH p a0.notes with
  | none => simp
  | some n =>
   simp only [Option.isSome_some, zbC, zao, zbo]; cases ni a0 <;> cases eu a0.s0 <;> cases eu a0.s1 <;> cases eu a0.s2 <;> rfl
theorem Il : ER 61 (mkE N61.en N61.ex f61) := an ah T99.right (fun m => []) (t := t61) (by kernel_rfl) (fun m => aA) (fun m a => by kernel_rfl) fun a0 hc => Np a0
def T61 : Tb Tryz.prog LQ TE XX := T99.add 61 _ Il
def N26 : aD := ⟨T61.tab, 26, ⟨[.agg [.int .i64, .int .i64, .int .i64, .ai (sI 2), .ai (sI 3), .int .i64, .int .i64, .int .i64, .int .i64, .int .i64, .int .i64, .int .i64, .int .i64, .int .i64, .int .i64, .ai (sI 2), .ai (sI 2), .ai (sI 2)]], [], 0⟩, ⟨[.bool], [], 0⟩, []⟩
def t26 (m : Nat) : bq -> Option (List Un) := fun a0 =>
 some ([.b ((cr a0).isSome)])
def f26 : bq -> Bool × List Un := fun a0 => (true, [.b ((cr a0).isSome)])
theorem Ny (a0 : bq) : ∃ m, t26 m a0 = some ([.b ((cr a0).isSome)]) := by
 exact ⟨0, rfl⟩
theorem KH : ER 26 (mkE N26.en N26.ex f26) := an ah T61.right (fun m => []) (t := t26) (by kernel_rfl) (fun m => aA) (fun m a => by kernel_rfl) fun a0 hc => Ny a0
def T26 : Tb Tryz.prog LQ TE XX := T61.add 26 _ KH
def N89 : aD := ⟨T26.tab, 89, ⟨[.agg [.int .i64, .int .i64, .int .i64, .ai (sI 2), .ai (sI 3), .int .i64, .int .i64, .int .i64, .int .i64, .int .i64, .int .i64, .int .i64, .int .i64, .int .i64, .int .i64, .ai (sI 2), .ai (sI 2), .ai (sI 2)]], [], 0⟩, ⟨[.int .i64], [], 0⟩, []⟩
def t89 (m : Nat) : bq -> Option (List Un) := fun a0 =>
 some ([.i (((cr a0).getD (0, 0)).1)])
def f89 : bq -> Bool × List Un := fun a0 => (true, [.i (((cr a0).getD (0, 0)).1)])
theorem Nk (a0 : bq) : ∃ m, t89 m a0 = some ([.i (((cr a0).getD (0, 0)).1)]) := by
 exact ⟨0, rfl⟩
theorem Kz : ER 89 (mkE N89.en N89.ex f89) := an ah T26.right (fun m => []) (t := t89) (by kernel_rfl) (fun m => aA) (fun m a => by kernel_rfl) fun a0 hc => Nk a0
def T89 : Tb Tryz.prog LQ TE XX := T26.add 89 _ Kz
def N59 : aD := ⟨T89.tab, 59, ⟨[.ai (sB 4)], [], 0⟩, ⟨[.buf 0 5], [.ai (sB 4)], 0⟩, []⟩
def t59 (m : Nat) : List Dat -> Option (List Un) := fun a0 =>
 bif decide (a0.length = 0) then
 both (
 some ([.d ([])])) (
 chk (fits (0 + a0.length) 40) <|
 some ([.d a0]))
 else
 chk (fits (0 + a0.length) 40) <|
 some ([.d a0])
def f59 : List Dat -> Bool × List Un := fun a0 => (decide (a0.length < 1000000), [.d (a0)])
theorem Nb (a0 : List Dat) (hc : (decide (a0.length < 1000000)) = true) : ∃ m, t59 m a0 = some ([.d (a0)]) := by
 have h := zak hc; refine ⟨0, ?_⟩; unfold t59; cases a0 with
 | nil => simp (disch := omega) only [TRa, TRi, aa, zax, gC, za4, gA]
 | cons x l =>
  simp only [zac] at h ⊢; simp (disch := omega) only [TRa, TRi, aa]
theorem JQ : ER 59 (mkE N59.en N59.ex f59) := an ah T89.right (fun m => []) (t := t59) (by kernel_rfl) (fun m => aA) (fun m a => by kernel_rfl) fun a0 hc => Nb a0 hc
def T59 : Tb Tryz.prog LQ TE XX := T89.add 59 _ JQ
def N62 : aD := ⟨T59.tab, 62, ⟨[.ai (sI 2)], [], 0⟩, ⟨[.buf 0 2], [.ai (sI 2)], 0⟩, []⟩
def t62 (m : Nat) : List Dat -> Option (List Un) := fun a0 =>
 bif decide (a0.length = 0) then
 both (
 some ([.d ([])])) (
 chk (fits (0 + a0.length) 16) <|
 some ([.d a0]))
 else
 chk (fits (0 + a0.length) 16) <|
 some ([.d a0])
def f62 : List Dat -> Bool × List Un := fun a0 => (decide (a0.length < 1000000), [.d (a0)])
theorem Mb (a0 : List Dat) (hc : (decide (a0.length < 1000000)) = true) : ∃ m, t62 m a0 = some ([.d (a0)]) := by
 have h := zak hc; refine ⟨0, ?_⟩; unfold t62; cases a0 with
 | nil => simp (disch := omega) only [TRa, TRi, aa, zax, gC, za4, gA]
 | cons x l =>
  simp only [zac] at h ⊢; simp (disch := omega) only [TRa, TRi, aa]
theorem Ic : ER 62 (mkE N62.en N62.ex f62) := an ah T59.right (fun m => []) (t := t62) (by kernel_rfl) (fun m => aA) (fun m a => by kernel_rfl) fun a0 hc => Mb a0 hc
def T62 : Tb Tryz.prog LQ TE XX := T59.add 62 _ Ic
def N63 : aD := ⟨T62.tab, 63, ⟨[.ai (sI 3)], [], 0⟩, ⟨[.buf 0 3], [.ai (sI 3)], 0⟩, []⟩
def t63 (m : Nat) : List Dat -> Option (List Un) := fun a0 =>
 bif decide (a0.length = 0) then
 both (
 some ([.d ([])])) (
 chk (fits (0 + a0.length) 24) <|
 some ([.d a0]))
 else
 chk (fits (0 + a0.length) 24) <|
 some ([.d a0])
def f63 : List Dat -> Bool × List Un := fun a0 => (decide (a0.length < 1000000), [.d (a0)])
theorem NI (a0 : List Dat) (hc : (decide (a0.length < 1000000)) = true) : ∃ m, t63 m a0 = some ([.d (a0)]) := by
 have h := zak hc; refine ⟨0, ?_⟩; unfold t63; cases a0 with
 | nil => simp (disch := omega) only [TRa, TRi, aa, zax, gC, za4, gA]
 | cons x l =>
  simp only [zac] at h ⊢; simp (disch := omega) only [TRa, TRi, aa]
theorem IG : ER 63 (mkE N63.en N63.ex f63) := an ah T62.right (fun m => []) (t := t63) (by kernel_rfl) (fun m => aA) (fun m a => by kernel_rfl) fun a0 hc => NI a0 hc
def T63 : Tb Tryz.prog LQ TE XX := T62.add 63 _ IG
def N64 : aD := ⟨T63.tab, 64, ⟨[.ai (sI 2)], [], 0⟩, ⟨[.buf 0 2], [.ai (sI 2)], 0⟩, []⟩
def t64 (m : Nat) : List Dat -> Option (List Un) := fun a0 =>
 bif decide (a0.length = 0) then
 both (
 some ([.d ([])])) (
 chk (fits (0 + a0.length) 16) <|
 some ([.d a0]))
 else
 chk (fits (0 + a0.length) 16) <|
 some ([.d a0])
def f64 : List Dat -> Bool × List Un := fun a0 => (decide (a0.length < 1000000), [.d (a0)])
theorem N0 (a0 : List Dat) (hc : (decide (a0.length < 1000000)) = true) : ∃ m, t64 m a0 = some ([.d (a0)]) := by
 have h := zak hc; refine ⟨0, ?_⟩; unfold t64; cases a0 with
 | nil => simp (disch := omega) only [TRa, TRi, aa, zax, gC, za4, gA]
 | cons x l =>
  simp only [zac] at h ⊢; simp (disch := omega) only [TRa, TRi, aa]
theorem KL : ER 64 (mkE N64.en N64.ex f64) := an ah T63.right (fun m => []) (t := t64) (by kernel_rfl) (fun m => aA) (fun m a => by kernel_rfl) fun a0 hc => N0 a0 hc
def T64 : Tb Tryz.prog LQ TE XX := T63.add 64 _ KL
def N67 : aD := ⟨T64.tab, 67, ⟨[.ai (sI 7)], [], 0⟩, ⟨[.buf 0 7], [.ai (sI 7)], 0⟩, []⟩
def t67 (m : Nat) : List Dat -> Option (List Un) := fun a0 =>
 bif decide (a0.length = 0) then
 both (
 some ([.d ([])])) (
 chk (fits (0 + a0.length) 56) <|
 some ([.d a0]))
 else
 chk (fits (0 + a0.length) 56) <|
 some ([.d a0])
def f67 : List Dat -> Bool × List Un := fun a0 => (decide (a0.length < 1000000), [.d (a0)])
theorem MZ (a0 : List Dat) (hc : (decide (a0.length < 1000000)) = true) : ∃ m, t67 m a0 = some ([.d (a0)]) := by
 have h := zak hc; refine ⟨0, ?_⟩; unfold t67; cases a0 with
 | nil => simp (disch := omega) only [TRa, TRi, aa, zax, gC, za4, gA]
 | cons x l =>
  simp only [zac] at h ⊢; simp (disch := omega) only [TRa, TRi, aa]
theorem Kv : ER 67 (mkE N67.en N67.ex f67) := an ah T64.right (fun m => []) (t := t67) (by kernel_rfl) (fun m => aA) (fun m a => by kernel_rfl) fun a0 hc => MZ a0 hc
def T67 : Tb Tryz.prog LQ TE XX := T64.add 67 _ Kv
def N79 : aD := ⟨T67.tab, 79, ⟨[.ai (sI 3)], [], 0⟩, ⟨[.buf 0 3], [.ai (sI 3)], 0⟩, []⟩
def t79 (m : Nat) : List Dat -> Option (List Un) := fun a0 =>
 bif decide (a0.length = 0) then
 both (
 some ([.d ([])])) (
 chk (fits (0 + a0.length) 24) <|
 some ([.d a0]))
 else
 chk (fits (0 + a0.length) 24) <|
 some ([.d a0])
def f79 : List Dat -> Bool × List Un := fun a0 => (decide (a0.length < 1000000), [.d (a0)])
theorem LW (a0 : List Dat) (hc : (decide (a0.length < 1000000)) = true) : ∃ m, t79 m a0 = some ([.d (a0)]) := by
 have h := zak hc; refine ⟨0, ?_⟩; unfold t79; cases a0 with
 | nil => simp (disch := omega) only [TRa, TRi, aa, zax, gC, za4, gA]
 | cons x l =>
  simp only [zac] at h ⊢; simp (disch := omega) only [TRa, TRi, aa]
theorem Im : ER 79 (mkE N79.en N79.ex f79) := an ah T67.right (fun m => []) (t := t79) (by kernel_rfl) (fun m => aA) (fun m a => by kernel_rfl) fun a0 hc => LW a0 hc
def T79 : Tb Tryz.prog LQ TE XX := T67.add 79 _ Im
def N93 : aD := ⟨T79.tab, 93, ⟨[.ints .i64], [], 0⟩, ⟨[.buf 0 1], [.ints .i64], 0⟩, []⟩
def t93 (m : Nat) : List Int -> Option (List Un) := fun a0 =>
 bif decide (a0.length = 0) then
 both (
 some ([.l ([])])) (
 chk (fits (0 + a0.length) 8) <|
 some ([.l a0]))
 else
 chk (fits (0 + a0.length) 8) <|
 some ([.l a0])
def f93 : List Int -> Bool × List Un := fun a0 => (decide (a0.length < 1000000), [.l (a0)])
theorem Mw (a0 : List Int) (hc : (decide (a0.length < 1000000)) = true) : ∃ m, t93 m a0 = some ([.l (a0)]) := by
 have h := zak hc; refine ⟨0, ?_⟩; unfold t93; cases a0 with
 | nil => simp (disch := omega) only [TRa, TRi, aa, zax, gC, za4, gA]
 | cons x l =>
  simp only [zac] at h ⊢; simp (disch := omega) only [TRa, TRi, aa]
theorem Iz : ER 93 (mkE N93.en N93.ex f93) := an ah T79.right (fun m => []) (t := t93) (by kernel_rfl) (fun m => aA) (fun m a => by kernel_rfl) fun a0 hc => Mw a0 hc
def T93 : Tb Tryz.prog LQ TE XX := T79.add 93 _ Iz
def N27 : aD := ⟨T93.tab, 27, ⟨[.agg [.int .i64, .int .i64, .int .i64, .ai (sI 2), .ai (sI 3), .int .i64, .int .i64, .int .i64, .int .i64, .int .i64, .int .i64, .int .i64, .int .i64, .int .i64, .int .i64, .ai (sI 2), .ai (sI 2), .ai (sI 2)]], [], 0⟩, ⟨[.agg [.int .i64, .int .i64, .int .i64, .buf 0 2, .buf 1 3, .int .i64, .int .i64, .int .i64, .int .i64, .int .i64, .int .i64, .int .i64, .int .i64, .int .i64, .int .i64, .buf 2 2, .buf 3 2, .buf 4 2]], [.ai (sI 2), .ai (sI 3), .ai (sI 2), .ai (sI 2), .ai (sI 2)], 0⟩, [[0, 1, 0, 1, 1, 1]]⟩
def t27 (m : Nat) : bq -> Option (List Un) := fun a0 =>
 chk (decide (a0.bh.length < 1000000)) <|
 chk (decide (a0.notes.length < 1000000)) <|
 chk (decide (a0.s0.length < 1000000)) <|
 chk (decide (a0.s1.length < 1000000)) <|
 chk (decide (a0.s2.length < 1000000)) <|
 some (Uns.enc (a0.a : aw) ++ Uns.enc (a0.b : az) ++ [.d a0.bh, .d a0.notes, .d a0.s0, .d a0.s1, .d a0.s2])
def f27 : bq -> Bool × List Un := fun a0 => (decide (a0.bh.length < 1000000 /\ a0.notes.length < 1000000 /\ a0.s0.length < 1000000 /\ a0.s1.length < 1000000 /\ a0.s2.length < 1000000), Uns.enc ((a0.a) : aw) ++ Uns.enc ((a0.b) : az) ++ [.d (a0.bh), .d (a0.notes), .d (a0.s0), .d (a0.s1), .d (a0.s2)])
theorem Nf (a0 : bq) (hc : (decide (a0.bh.length < 1000000 /\ a0.notes.length < 1000000 /\ a0.s0.length < 1000000 /\ a0.s1.length < 1000000 /\ a0.s2.length < 1000000)) = true) : ∃ m, t27 m a0 = some (Uns.enc ((a0.a) : aw) ++ Uns.enc ((a0.b) : az) ++ [.d (a0.bh), .d (a0.notes), .d (a0.s0), .d (a0.s1), .d (a0.s2)]) := by
 obtain ⟨h1, h2, h3, h4, h5⟩ := zak hc; refine ⟨0, ?_⟩; unfold t27; simp (disch := omega) only [TRa, TRi, aa]
theorem I5 : ER 27 (mkE N27.en N27.ex f27) := an ah T93.right (fun m => []) (t := t27) (by kernel_rfl) (fun m => aA) (fun m a => by kernel_rfl) fun a0 hc => Nf a0 hc
def T27 : Tb Tryz.prog LQ TE XX := T93.add 27 _ I5
def N29 : aD := ⟨T27.tab, 29, ⟨[.int .i64], [], 0⟩, ⟨[.agg [.int .i64, .int .i64]], [], 0⟩, []⟩
def t29 (m : Nat) : Int -> Option (List Un) := fun a0 =>
 bif (decide ((([0, a0]).getD 0 0) < 0)) then
 some ([.i 0, .i 0])
 else
 bif (decide ((([0, a0]).getD 0 0) > 1152921504606846976)) then
 some ([.i 0, .i 0])
 else
 lt ((w64 (0 + (([0, a0]).getD 0 0))) : Int) fun x3 =>
 bif (decide ((([0, a0]).getD 1 0) < 0)) then
 some ([.i 0, .i 0])
 else
 bif (decide ((([0, a0]).getD 1 0) > (w64 (1152921504606846976 - x3)))) then
 some ([.i 0, .i 0])
 else
 some ([.i (w64 (x3 + (([0, a0]).getD 1 0))), .i 0])
def f29 : Int -> Bool × List Un := fun a0 => (decide (0 <= a0 /\ a0 <= 1152921504606846976), [.i (a0), .i (0)])
theorem MF (a0 : Int) (hc : (decide (0 <= a0 /\ a0 <= 1152921504606846976)) = true) : ∃ m, t29 m a0 = some ([.i (a0), .i (0)]) := by
 have h := zak hc; refine ⟨0, ?_⟩; unfold t29; simp only [zaH, zat]; simp (disch := omega) only [TRa, TRi, aa, za2, zbm]
theorem K3 : ER 29 (mkE N29.en N29.ex f29) := an ah T27.right (fun m => []) (t := t29) (by kernel_rfl) (fun m => aA) (fun m a => by kernel_rfl) fun a0 hc => MF a0 hc
def T29 : Tb Tryz.prog LQ TE XX := T27.add 29 _ K3
def N30 : aD := ⟨T29.tab, 30, ⟨[.agg [.int .i64, .int .i64, .int .i64]], [], 0⟩, ⟨[.agg [.int .i64, .int .i64, .int .i64, .int .i64, .int .i64, .int .i64, .int .i64]], [], 0⟩, []⟩
def t30 (m : Nat) : Int × Int × Int -> Option (List Un) := fun (a0, a1, a2) =>
 some ([.i a0, .i a1, .i a2, .i 0, .i 0, .i 0, .i 0])
def f30 : Int × Int × Int -> Bool × List Un := fun (a0, a1, a2) => (true, [.i (a0), .i (a1), .i (a2), .i (0), .i (0), .i (0), .i (0)])
theorem MR (a0 : Int) (a1 : Int) (a2 : Int) : ∃ m, t30 m (a0, a1, a2) = some ([.i (a0), .i (a1), .i (a2), .i (0), .i (0), .i (0), .i (0)]) := by
 exact ⟨0, rfl⟩
theorem IL : ER 30 (mkE N30.en N30.ex f30) := an ah T29.right (fun m => []) (t := t30) (by kernel_rfl) (fun m => aA) (fun m a => by kernel_rfl) fun (a0, a1, a2) hc => MR a0 a1 a2
def T30 : Tb Tryz.prog LQ TE XX := T29.add 30 _ IL
def gx (d : Dat) : Dat := .r [.n (d.i 0), .n (d.i 1), .n 0, .n 0, .n (bI false)]
def N28 : aD := ⟨T30.tab, 28, ⟨[.ai (sI 2)], [], 0⟩, ⟨[.ptr 0 0 0], [.cells [.buf 1 5], .ai (sB 4)], 0⟩, []⟩
abbrev DH : Type := List Dat × Int × Int × List Dat
def xW (m : Nat) (k : DH -> Option (List Un)) : DH -> Option (List Un) := fun (a0, a1, a2, a3) =>
 bif decide (a2 < a1) then
 chk (inb a2 a0.length) <|
 chk (decide (a2.toNat < a0.length)) <|
 lt (ag a0 a2.toNat : Dat) fun d1 =>
 chk (fits (a3.length + 1) 40) <|
 k (a0, a1, (w64 (a2 + 1)), (a3 ++ ([.r [.n (d1.i 0), .n (d1.i 1), .n 0, .n 0, .n (bI false)]])))
 else
 some ([.d a3])
def wx (m : Nat) : Nat -> DH -> Option (List Un) := br (xW m)
theorem sQ (m : Nat) (n : Nat) : wx m (n + 1) = xW m (wx m n) := rfl
def E8 (F : DH -> Option (List Un)) : ba := ⟨[.lp [0, 1, 0, 1, 1], .blk 0, .code [1, 1, 1]], ⟨frm 27 [(3, .ptr 0 0 0), (8, .ai (sI 2)), (9, .int .i64), (10, .int .i64)], [.cells [.buf 1 5], .ai (sB 4)], 0⟩, onU F⟩
theorem OB (m : Nat) : ∀ n, HO N28 (E8 (wx m n)) := au ah T30.right (fun k => [E8 k]) (fun k h => (aL h aA)) fun k a => by kernel_rfl
def t28 (m : Nat) : List Dat -> Option (List Un) := fun a0 =>
 wx m m (a0, (a0.length : Int), 0, [])
theorem HV (m : Nat) : ∀ (rest pre : List Dat) (n : Nat), rest.length < n -> (pre ++ rest).length < 1000000 ->
 wx m n (pre ++ rest, ((pre ++ rest).length : Int), (pre.length : Int), pre.map gx) = some [.d ((pre ++ rest).map gx)] := by
 intro rest
 induction rest with
 | nil =>
  intro pre n hn hl; obtain ⟨n, rfl⟩ := al n (by simp at hn; omega); rw [sQ]; unfold xW; dsimp only; simp [aE]
 | cons x rest ih =>
  intro pre n hn hl; obtain ⟨n, rfl⟩ := al n (by simp at hn; omega); simp only [zac, zad] at hn hl; rw [sQ]; unfold xW; dsimp only; have := ih (pre ++ [x]) n (by omega) (by simp; omega); rw [List.map_append] at this; simp (disch := omega) only [TRa, TRi, aa, LNl, LNi, zaa, ax]; simp only [LNl, LNi, zaa] at this ⊢; exact this
def f28 : List Dat -> Bool × List Un := fun a0 => (decide (a0.length < 1000000), [.d (a0.map gx)])
theorem Nt (a0 : List Dat) (hc : (decide (a0.length < 1000000)) = true) : ∃ m, t28 m a0 = some ([.d (a0.map gx)]) := by
 exact ⟨a0.length + 1, HV _ a0 [] _ (by omega) (zak hc)⟩
theorem Je : ER 28 (mkE N28.en N28.ex f28) := an ah T30.right (fun m => [E8 (wx m m)]) (t := t28) (by kernel_rfl) (fun m => (aL (OB m m) aA)) (fun m a => by kernel_rfl) fun a0 hc => Nt a0 hc
def T28 : Tb Tryz.prog LQ TE XX := T30.add 28 _ Je
@[ext] structure ak where
 rin : Int
 bk : Int
 out : Int
 fee : Int
 mode : Int
 bf : Int
 period : Int
 aC : Int
 aK : Int
 oZ : Bool
instance : Uns ak := Uns.via (B := Int × Int × Int × Int × Int × Int × Int × Int × Int × Bool) (fun x => (x.rin, x.bk, x.out, x.fee, x.mode, x.bf, x.period, x.aC, x.aK, x.oZ)) (fun x => match x with | (rin, bk, out, fee, mode, bf, period, aC, aK, oZ) => ⟨rin, bk, out, fee, mode, bf, period, aC, aK, oZ⟩) (fun _ => rfl)
def cg (p : Nat) : List BP := [.cells [.int .i64, .int .i64, .int .i64, .buf (p + 1) 2, .buf (p + 2) 3, .int .i64, .int .i64, .int .i64, .int .i64, .int .i64, .int .i64, .int .i64, .int .i64, .int .i64, .int .i64, .buf (p + 3) 2, .buf (p + 4) 2, .buf (p + 5) 2, .ptr (p + 6) 0 0, .buf (p + 8) 7, .int .i64, .int .i64, .int .i64, .int .i64, .int .i64, .int .i64, .int .i64, .int .i64, .int .i64, .bool], .ai (sI 2), .ai (sI 3), .ai (sI 2), .ai (sI 2), .ai (sI 2), .cells [.buf (p + 7) 5], .ai (sB 4), .ai (sI 7)]
structure ae where
 a : aw
 b : az
 n : ak
 bh : List Dat
 notes : List Dat
 s0 : List Dat
 s1 : List Dat
 s2 : List Dat
 aZ : List Dat
 tr : List Dat
def ql (d : Dat) : Dat := .r [.n (d.i 0), .n (d.i 1), .n (d.i 2), .n 0, .n 0, .n 0, .n 0]
def cJ (d : bq) : ae := ⟨d.a, d.b, ⟨d.b.aX, 0, 0, 0, 0, 0, 0, 0, 0, false⟩, d.bh, d.notes, d.s0, d.s1, d.s2, d.bh.map gx, d.notes.map ql⟩
def iC (d : bq) : ae := if (cr d).isSome then cJ d else ⟨⟨0, 0, 0⟩, ⟨0, 0, 0, 0, 0, 0, 0, 0, 0, 0⟩, ⟨0, 0, 0, 0, 0, 0, 0, 0, 0, false⟩, [], [], [], [], [], [], []⟩
theorem vv {d : bq} (h : (cr d).isSome = true) : 0 <= d.b.aX /\ d.b.aX <= 1099511627776 := by
 unfold cr at h
 split at h
 . cases h
 . split at h
   . cases h
   . split at h
     . rename_i hc; simp only [zab, ni, zag] at hc; omega
     . cases h
def N9 : aD := ⟨T28.tab, 9, ⟨[.agg [.int .i64, .int .i64, .int .i64, .ai (sI 2), .ai (sI 3), .int .i64, .int .i64, .int .i64, .int .i64, .int .i64, .int .i64, .int .i64, .int .i64, .int .i64, .int .i64, .ai (sI 2), .ai (sI 2), .ai (sI 2)]], [], 0⟩, ⟨[.np 0 0 0, .int .i64], cg 0, 0⟩, []⟩
abbrev Jg : Type := List Dat × Int × Int × aw × az × ak × List Dat × List Dat × List Dat × List Dat × List Dat × List Dat × List Dat
def Da (m : Nat) (k : Jg -> Option (List Un)) : Jg -> Option (List Un) := fun (a0, a1, a2, a3, a4, a5, a6, a7, a8, a9, a10, a11, a12) =>
 bif decide (a2 < a1) then
 chk (inb a2 a0.length) <|
 chk (decide (a2.toNat < a0.length)) <|
 lt (ag a0 a2.toNat : Dat) fun d1 =>
 chk (fits (a11.length + 1) 56) <|
 k (a0, a1, (w64 (a2 + 1)), a3, a4, a5, a6, a7, a8, a9, a10, (a11 ++ ([.r [.n (d1.i 0), .n (d1.i 1), .n (d1.i 2), .n 0, .n 0, .n 0, .n 0]])), a12)
 else
 some ([.i 0, .i 0] ++ Uns.enc (a3 : aw) ++ Uns.enc (a4 : az) ++ Uns.enc (a5 : ak) ++ [.d a6, .d a7, .d a8, .d a9, .d a10, .d a12, .d a11])
def EG (m : Nat) : Nat -> Jg -> Option (List Un) := br (Da m)
theorem vX (m : Nat) (n : Nat) : EG m (n + 1) = Da m (EG m n) := rfl
def Ly (F : Jg -> Option (List Un)) : ba := ⟨[.lp [0, 1, 0, 1, 1, 1], .blk 0, .code [1, 1, 1, 1]], ⟨frm 40 [(4, .ptr 0 0 0), (21, .ai (sI 3)), (22, .int .i64), (23, .int .i64)], [.cells [.int .i64, .int .i64, .int .i64, .buf 1 2, .buf 2 3, .int .i64, .int .i64, .int .i64, .int .i64, .int .i64, .int .i64, .int .i64, .int .i64, .int .i64, .int .i64, .buf 3 2, .buf 4 2, .buf 5 2, .ptr 6 0 0, .buf 7 7, .int .i64, .int .i64, .int .i64, .int .i64, .int .i64, .int .i64, .int .i64, .int .i64, .int .i64, .bool], .ai (sI 2), .ai (sI 3), .ai (sI 2), .ai (sI 2), .ai (sI 2), .cells [.buf 8 5], .ai (sI 7), .ai (sB 4)], 0⟩, onU F⟩
theorem QP (m : Nat) : ∀ n, HO N9 (Ly (EG m n)) := au ah T28.right (fun k => [Ly k]) (fun k h => (aL h aA)) fun k a => by kernel_rfl
def t9 (m : Nat) : bq -> Option (List Un) := fun a0 =>
 bif !((cr a0).isSome) then
 some ([.i (-1), .i 2] ++ Uns.enc ((⟨0, 0, 0⟩ : aw) : aw) ++ Uns.enc ((⟨0, 0, 0, 0, 0, 0, 0, 0, 0, 0⟩ : az) : az) ++ Uns.enc ((⟨0, 0, 0, 0, 0, 0, 0, 0, 0, false⟩ : ak) : ak) ++ [.d ([]), .d ([]), .d ([]), .d ([]), .d ([]), .d ([]), .d ([])])
 else
 chk (decide (a0.bh.length < 1000000 /\ a0.notes.length < 1000000 /\ a0.s0.length < 1000000 /\ a0.s1.length < 1000000 /\ a0.s2.length < 1000000)) <|
 chk (decide (a0.bh.length < 1000000)) <|
 chk (decide (0 <= a0.b.aX /\ a0.b.aX <= 1152921504606846976)) <|
 EG m m (a0.notes, (a0.notes.length : Int), 0, a0.a, a0.b, (⟨a0.b.aX, 0, 0, 0, 0, 0, 0, 0, 0, false⟩ : ak), a0.bh, a0.notes, a0.s0, a0.s1, a0.s2, [], (a0.bh.map gx))
theorem Et (m : Nat) (a : aw) (b : az) (n0 : ak) (x1 x2 x3 x4 x5 x6 : List Dat) : ∀ (rest pre : List Dat) (n : Nat), rest.length < n -> (pre ++ rest).length < 1000000 ->
 EG m n (pre ++ rest, ((pre ++ rest).length : Int), (pre.length : Int), a, b, n0, x1, x2, x3, x4, x5, pre.map ql, x6) = some ([.i 0, .i 0] ++ Uns.enc (a : aw) ++ Uns.enc (b : az) ++ Uns.enc (n0 : ak) ++ [.d x1, .d x2, .d x3, .d x4, .d x5, .d x6, .d ((pre ++ rest).map ql)]) := by
 intro rest
 induction rest with
 | nil =>
  intro pre n hn hl; obtain ⟨n, rfl⟩ := al n (by simp at hn; omega); rw [vX]; unfold Da; dsimp only; simp [aE]
 | cons x rest ih =>
  intro pre n hn hl; obtain ⟨n, rfl⟩ := al n (by simp at hn; omega); simp only [zac, zad] at hn hl; rw [vX]; unfold Da; dsimp only; have := ih (pre ++ [x]) n (by omega) (by simp; omega); rw [List.map_append] at this; simp (disch := omega) only [TRa, TRi, aa, LNl, LNi, zaa, ax]; simp only [LNl, LNi, zaa] at this ⊢; exact this
def f9 : bq -> Bool × List Un := fun a0 => (decide (a0.bh.length < 1000000 /\ a0.notes.length < 1000000 /\ a0.s0.length < 1000000 /\ a0.s1.length < 1000000 /\ a0.s2.length < 1000000), [.i (((if (cr a0).isSome then 0 else -1) : Int)), .i (((if (cr a0).isSome then 0 else 2) : Int))] ++ Uns.enc (((iC a0).a) : aw) ++ Uns.enc (((iC a0).b) : az) ++ Uns.enc (((iC a0).n) : ak) ++ [.d ((iC a0).bh), .d ((iC a0).notes), .d ((iC a0).s0), .d ((iC a0).s1), .d ((iC a0).s2), .d ((iC a0).aZ), .d ((iC a0).tr)])
theorem OT (a0 : bq) (hc : (decide (a0.bh.length < 1000000 /\ a0.notes.length < 1000000 /\ a0.s0.length < 1000000 /\ a0.s1.length < 1000000 /\ a0.s2.length < 1000000)) = true) : ∃ m, t9 m a0 = some ([.i (((if (cr a0).isSome then 0 else -1) : Int)), .i (((if (cr a0).isSome then 0 else 2) : Int))] ++ Uns.enc (((iC a0).a) : aw) ++ Uns.enc (((iC a0).b) : az) ++ Uns.enc (((iC a0).n) : ak) ++ [.d ((iC a0).bh), .d ((iC a0).notes), .d ((iC a0).s0), .d ((iC a0).s1), .d ((iC a0).s2), .d ((iC a0).aZ), .d ((iC a0).tr)]) := by
 have h := zak hc; refine ⟨a0.notes.length + 1, ?_⟩; unfold t9 iC; cases hs : (cr a0).isSome
 . rfl
 . have hr := vv hs; simp only [zbC, zao, za8]; rw [aP h, aP (by omega), aP (by omega)]; exact Et _ _ _ _ _ _ _ _ _ _ a0.notes [] _ (by omega) (by simp; omega)
theorem Mv : ER 9 (mkE N9.en N9.ex f9) := an ah T28.right (fun m => [Ly (EG m m)]) (t := t9) (by kernel_rfl) (fun m => (aL (QP m m) aA)) (fun m a => by kernel_rfl) fun a0 hc => OT a0 hc
def T9 : Tb Tryz.prog LQ TE XX := T28.add 9 _ Mv
def N77 : aD := ⟨T9.tab, 77, ⟨[.agg [.int .i64, .int .i64]], [], 0⟩, ⟨[.int .i64], [], 0⟩, []⟩
def t77 (m : Nat) : Int × Int -> Option (List Un) := fun (a0, a1) =>
 some ([.i (w64 (a0 - a1))])
def f77 : Int × Int -> Bool × List Un := fun (a0, a1) => (true, [.i (w64 (a0 - a1))])
theorem MO (a0 : Int) (a1 : Int) : ∃ m, t77 m (a0, a1) = some ([.i (w64 (a0 - a1))]) := by
 exact ⟨0, rfl⟩
theorem Jy : ER 77 (mkE N77.en N77.ex f77) := an ah T9.right (fun m => []) (t := t77) (by kernel_rfl) (fun m => aA) (fun m a => by kernel_rfl) fun (a0, a1) hc => MO a0 a1
def T77 : Tb Tryz.prog LQ TE XX := T9.add 77 _ Jy
def N74 : aD := ⟨T77.tab, 74, ⟨[.agg [.int .i64, .int .i64, .int .i64, .int .i64, .int .i64, .int .i64, .int .i64]], [], 0⟩, ⟨[.int .i64], [], 0⟩, []⟩
def t74 (m : Nat) : Int × Int × Int × Int × Int × Int × Int -> Option (List Un) := fun (a0, a1, a2, a3, a4, a5, a6) =>
 some ([.i (w64 ((w64 (a1 - (w64 (a3 - a4)))) - a6))])
def f74 : Int × Int × Int × Int × Int × Int × Int -> Bool × List Un := fun (a0, a1, a2, a3, a4, a5, a6) => (true, [.i (w64 (w64 (a1 - w64 (a3 - a4)) - a6))])
theorem NY (a0 : Int) (a1 : Int) (a2 : Int) (a3 : Int) (a4 : Int) (a5 : Int) (a6 : Int) : ∃ m, t74 m (a0, a1, a2, a3, a4, a5, a6) = some ([.i (w64 (w64 (a1 - w64 (a3 - a4)) - a6))]) := by
 exact ⟨0, rfl⟩
theorem KT : ER 74 (mkE N74.en N74.ex f74) := an ah T77.right (fun m => []) (t := t74) (by kernel_rfl) (fun m => aA) (fun m a => by kernel_rfl) fun (a0, a1, a2, a3, a4, a5, a6) hc => NY a0 a1 a2 a3 a4 a5 a6
def T74 : Tb Tryz.prog LQ TE XX := T77.add 74 _ KT
def bj (d : Dat) : Int := d.i 1 - (d.i 3 - d.i 4) - d.i 6
def aI (d : Dat) : Bool := decide (0 <= d.i 1 /\ d.i 1 <= 1099511627776 /\ 0 <= d.i 3 /\ d.i 4 = 0 /\ 0 <= d.i 6 /\ d.i 3 + d.i 6 <= d.i 1 /\ 0 <= d.i 5 /\ d.i 5 <= 1125899906842624)
def lN (c : Int) (d : Dat) : Int := max (min c (bj d)) 0
def rj (c : Int) (d : Dat) : Dat := .r [.n (d.i 0), .n (d.i 1), .n (d.i 2), .n (d.i 3 + lN c d), .n (d.i 4), .n (d.i 5), .n (d.i 6)]
def dH (c : Int) (d : Dat) : Dat := .r [.n (d.i 0), .n (d.i 1), .n (d.i 2), .n (d.i 3), .n (d.i 4), .n (d.i 5), .n (d.i 6 + lN c d)]
def lF (c : Int) (d : Dat) : Int := max (min c (d.i 6)) 0
def fu (c : Int) (d : Dat) : Dat := .r [.n (d.i 0), .n (d.i 1), .n (d.i 2), .n (d.i 3), .n (d.i 4), .n (d.i 5), .n (d.i 6 - lF c d)]
def yQ (c : Int) (d : Dat) : Dat := .r [.n (d.i 0), .n (d.i 1), .n (d.i 2), .n (d.i 3), .n (d.i 4), .n (d.i 5 + c), .n (d.i 6)]
def N83 : aD := ⟨T74.tab, 83, ⟨[.np 0 7 0, .int .i64], [.ai (sI 7)], 0⟩, ⟨[.int .i64], [.ai (sI 7)], 0⟩, []⟩
def t83 (m : Nat) : Int × Int × List Dat -> Option (List Un) := fun (a0, a1, a2) =>
 chk (decide (0 <= a0)) <|
 chk (decide (a0.toNat < a2.length)) <|
 lt (ag a2 a0.toNat : Dat) fun d1 =>
 lt ((w64 (w64 ((d1.i 1) - w64 ((d1.i 3) - (d1.i 4))) - (d1.i 6))) : Int) fun x2 =>
 lt ((if x2 < a1 then x2 else a1) : Int) fun x3 =>
 lt ((if x3 < 0 then 0 else x3) : Int) fun x4 =>
 chk (decide (0 <= a0)) <|
 chk (decide (a0.toNat < a2.length)) <|
 lt (ag a2 a0.toNat : Dat) fun d5 =>
 lt ((([(d5.i 3), x4]).getD 0 0) : Int) fun x6 =>
 bif decide (x6 < 0) then
 some ([.i 0, .d a2])
 else
 bif (decide (x6 > 1152921504606846976)) then
 some ([.i 0, .d a2])
 else
 lt ((([(d5.i 3), x4]).getD 1 0) : Int) fun x8 =>
 bif decide (x8 < 0) then
 some ([.i 0, .d a2])
 else
 bif decide (x8 > (w64 (1152921504606846976 - (w64 (0 + x6))))) then
 some ([.i 0, .d a2])
 else
 chk (decide (a0.toNat < a2.length)) <|
 lt (ag a2 a0.toNat : Dat) fun d11 =>
 some ([.i x4, .d (List.set a2 a0.toNat (.r [.n (d11.i 0), .n (d11.i 1), .n (d11.i 2), .n (w64 ((w64 (0 + x6)) + x8)), .n (d11.i 4), .n (d11.i 5), .n (d11.i 6)]))])
def f83 : Int × Int × List Dat -> Bool × List Un := fun (a0, a1, a2) => (decide (0 <= a0 /\ a0.toNat < a2.length) && aI (ag a2 a0.toNat), [.i (lN a1 (ag a2 a0.toNat)), .d (a2.set a0.toNat (rj a1 (ag a2 a0.toNat)))])
theorem LF (a0 : Int) (a1 : Int) (a2 : List Dat) (hc : (decide (0 <= a0 /\ a0.toNat < a2.length) && aI (ag a2 a0.toNat)) = true) : ∃ m, t83 m (a0, a1, a2) = some ([.i (lN a1 (ag a2 a0.toNat)), .d (a2.set a0.toNat (rj a1 (ag a2 a0.toNat)))]) := by
 simp only [zab, zag, aI] at hc; obtain ⟨⟨h1, h2⟩, h⟩ := hc; refine ⟨0, ?_⟩; unfold t83; dsimp only; simp only [lt_eq]; generalize ag a2 a0.toNat = d at *
 have hv : ∀ c, lN c d = max (min c (bj d)) 0 := fun _ => rfl
 simp only [rj, dH, fu, yQ, lF, hv, bj]; simp only [zaH, zat, lt_eq, jB, kV]; simp (disch := omega) only [TRa, TRi, aa, za2]
theorem Jr : ER 83 (mkE N83.en N83.ex f83) := an ah T74.right (fun m => []) (t := t83) (by kernel_rfl) (fun m => aA) (fun m a => by kernel_rfl) fun (a0, a1, a2) hc => LF a0 a1 a2 hc
def T83 : Tb Tryz.prog LQ TE XX := T74.add 83 _ Jr
def O7 : aD := ⟨T83.tab, 118, ⟨[.np 0 7 0, .int .i64], [.ai (sI 7)], 0⟩, ⟨[.int .i64], [.ai (sI 7)], 0⟩, []⟩
def t118 (m : Nat) : Int × Int × List Dat -> Option (List Un) := fun (a0, a1, a2) =>
 chk (decide (0 <= a0)) <|
 chk (decide (a0.toNat < a2.length)) <|
 lt (ag a2 a0.toNat : Dat) fun d1 =>
 lt ((w64 (w64 ((d1.i 1) - w64 ((d1.i 3) - (d1.i 4))) - (d1.i 6))) : Int) fun x2 =>
 lt ((if x2 < a1 then x2 else a1) : Int) fun x3 =>
 lt ((if x3 < 0 then 0 else x3) : Int) fun x4 =>
 chk (decide (0 <= a0)) <|
 chk (decide (a0.toNat < a2.length)) <|
 chk (decide (0 <= a0)) <|
 chk (decide (a0.toNat < a2.length)) <|
 lt (ag a2 a0.toNat : Dat) fun d6 =>
 some ([.i x4, .d (List.set a2 a0.toNat (.r [.n (d6.i 0), .n (d6.i 1), .n (d6.i 2), .n (d6.i 3), .n (d6.i 4), .n (d6.i 5), .n (w64 (((ag a2 a0.toNat).i 6) + x4))]))])
def f118 : Int × Int × List Dat -> Bool × List Un := fun (a0, a1, a2) => (decide (0 <= a0 /\ a0.toNat < a2.length) && aI (ag a2 a0.toNat), [.i (lN a1 (ag a2 a0.toNat)), .d (a2.set a0.toNat (dH a1 (ag a2 a0.toNat)))])
theorem KZ (a0 : Int) (a1 : Int) (a2 : List Dat) (hc : (decide (0 <= a0 /\ a0.toNat < a2.length) && aI (ag a2 a0.toNat)) = true) : ∃ m, t118 m (a0, a1, a2) = some ([.i (lN a1 (ag a2 a0.toNat)), .d (a2.set a0.toNat (dH a1 (ag a2 a0.toNat)))]) := by
 simp only [zab, zag, aI] at hc; obtain ⟨⟨h1, h2⟩, h⟩ := hc; refine ⟨0, ?_⟩; unfold t118; dsimp only; simp only [lt_eq]; generalize ag a2 a0.toNat = d at *
 have hv : ∀ c, lN c d = max (min c (bj d)) 0 := fun _ => rfl
 simp only [rj, dH, fu, yQ, lF, hv, bj]; simp only [zaH, zat, lt_eq, jB, kV]; simp (disch := omega) only [TRa, TRi, aa, za2]
theorem GO : ER 118 (mkE O7.en O7.ex f118) := an ah T83.right (fun m => []) (t := t118) (by kernel_rfl) (fun m => aA) (fun m a => by kernel_rfl) fun (a0, a1, a2) hc => KZ a0 a1 a2 hc
def Md : Tb Tryz.prog LQ TE XX := T83.add 118 _ GO
def OZ : aD := ⟨Md.tab, 120, ⟨[.np 0 7 0, .int .i64], [.ai (sI 7)], 0⟩, ⟨[.int .i64], [.ai (sI 7)], 0⟩, []⟩
def t120 (m : Nat) : Int × Int × List Dat -> Option (List Un) := fun (a0, a1, a2) =>
 chk (decide (0 <= a0)) <|
 chk (decide (a0.toNat < a2.length)) <|
 lt (ag a2 a0.toNat : Dat) fun d1 =>
 lt ((if (d1.i 6) < a1 then (d1.i 6) else a1) : Int) fun x2 =>
 lt ((if x2 < 0 then 0 else x2) : Int) fun x3 =>
 chk (decide (0 <= a0)) <|
 chk (decide (a0.toNat < a2.length)) <|
 chk (decide (0 <= a0)) <|
 chk (decide (a0.toNat < a2.length)) <|
 lt (ag a2 a0.toNat : Dat) fun d5 =>
 some ([.i x3, .d (List.set a2 a0.toNat (.r [.n (d5.i 0), .n (d5.i 1), .n (d5.i 2), .n (d5.i 3), .n (d5.i 4), .n (d5.i 5), .n (w64 (((ag a2 a0.toNat).i 6) - x3))]))])
def f120 : Int × Int × List Dat -> Bool × List Un := fun (a0, a1, a2) => (decide (0 <= a0 /\ a0.toNat < a2.length) && aI (ag a2 a0.toNat), [.i (lF a1 (ag a2 a0.toNat)), .d (a2.set a0.toNat (fu a1 (ag a2 a0.toNat)))])
theorem Kn (a0 : Int) (a1 : Int) (a2 : List Dat) (hc : (decide (0 <= a0 /\ a0.toNat < a2.length) && aI (ag a2 a0.toNat)) = true) : ∃ m, t120 m (a0, a1, a2) = some ([.i (lF a1 (ag a2 a0.toNat)), .d (a2.set a0.toNat (fu a1 (ag a2 a0.toNat)))]) := by
 simp only [zab, zag, aI] at hc; obtain ⟨⟨h1, h2⟩, h⟩ := hc; refine ⟨0, ?_⟩; unfold t120; dsimp only; simp only [lt_eq]; generalize ag a2 a0.toNat = d at *
 have hv : ∀ c, lN c d = max (min c (bj d)) 0 := fun _ => rfl
 simp only [rj, dH, fu, yQ, lF, hv, bj]; simp only [zaH, zat, lt_eq, jB, kV]; simp (disch := omega) only [TRa, TRi, aa, za2]
theorem GB : ER 120 (mkE OZ.en OZ.ex f120) := an ah Md.right (fun m => []) (t := t120) (by kernel_rfl) (fun m => aA) (fun m a => by kernel_rfl) fun (a0, a1, a2) hc => Kn a0 a1 a2 hc
def LR : Tb Tryz.prog LQ TE XX := Md.add 120 _ GB
def N75 : aD := ⟨LR.tab, 75, ⟨[.np 0 7 0, .int .i64], [.ai (sI 7)], 0⟩, ⟨[.bool], [.ai (sI 7)], 0⟩, []⟩
def t75 (m : Nat) : Int × Int × List Dat -> Option (List Un) := fun (a0, a1, a2) =>
 chk (decide (0 <= a0)) <|
 chk (decide (a0.toNat < a2.length)) <|
 lt (ag a2 a0.toNat : Dat) fun d1 =>
 lt ((([(d1.i 5), a1]).getD 0 0) : Int) fun x2 =>
 bif decide (x2 < 0) then
 some ([.b false, .d a2])
 else
 bif (decide (x2 > 1152921504606846976)) then
 some ([.b false, .d a2])
 else
 lt ((([(d1.i 5), a1]).getD 1 0) : Int) fun x4 =>
 bif decide (x4 < 0) then
 some ([.b false, .d a2])
 else
 bif decide (x4 > (w64 (1152921504606846976 - (w64 (0 + x2))))) then
 some ([.b false, .d a2])
 else
 chk (decide (0 <= a0)) <|
 chk (decide (a0.toNat < a2.length)) <|
 lt (ag a2 a0.toNat : Dat) fun d7 =>
 some ([.b true, .d (List.set a2 a0.toNat (.r [.n (d7.i 0), .n (d7.i 1), .n (d7.i 2), .n (d7.i 3), .n (d7.i 4), .n (w64 ((w64 (0 + x2)) + x4)), .n (d7.i 6)]))])
def f75 : Int × Int × List Dat -> Bool × List Un := fun (a0, a1, a2) => (decide (0 <= a1 /\ a1 <= 1125899906842624) && (decide (0 <= a0 /\ a0.toNat < a2.length) && aI (ag a2 a0.toNat)), [.b (true), .d (a2.set a0.toNat (yQ a1 (ag a2 a0.toNat)))])
theorem NA (a0 : Int) (a1 : Int) (a2 : List Dat) (hc : (decide (0 <= a1 /\ a1 <= 1125899906842624) && (decide (0 <= a0 /\ a0.toNat < a2.length) && aI (ag a2 a0.toNat))) = true) : ∃ m, t75 m (a0, a1, a2) = some ([.b (true), .d (a2.set a0.toNat (yQ a1 (ag a2 a0.toNat)))]) := by
 simp only [zab, zag, aI] at hc; obtain ⟨h0, ⟨h1, h2⟩, h⟩ := hc; refine ⟨0, ?_⟩; unfold t75; dsimp only; simp only [lt_eq]; generalize ag a2 a0.toNat = d at *
 have hv : ∀ c, lN c d = max (min c (bj d)) 0 := fun _ => rfl
 simp only [rj, dH, fu, yQ, lF, hv, bj]; simp only [zaH, zat, lt_eq, jB, kV]; simp (disch := omega) only [TRa, TRi, aa, za2]
theorem IF : ER 75 (mkE N75.en N75.ex f75) := an ah LR.right (fun m => []) (t := t75) (by kernel_rfl) (fun m => aA) (fun m a => by kernel_rfl) fun (a0, a1, a2) hc => NA a0 a1 a2 hc
def T75 : Tb Tryz.prog LQ TE XX := LR.add 75 _ IF
def bw (f : Dat -> Int) : List Dat -> Int
 | [] => 0
 | d :: l => f d + bw f l
theorem cj {d : Dat} (h : aI d = true) : 0 <= d.i 1 /\ d.i 1 <= 1099511627776 /\ 0 <= d.i 3 /\ d.i 4 = 0 /\ 0 <= d.i 6 /\ d.i 3 + d.i 6 <= d.i 1 /\ 0 <= d.i 5 /\ d.i 5 <= 1125899906842624 := zak h
def N76 : aD := ⟨T75.tab, 76, ⟨[.ai (sI 7)], [], 0⟩, ⟨[.int .i64, .int .i64, .int .i64], [], 0⟩, []⟩
abbrev DX : Type := Int × Int × Int × List Dat × Int × Int
def yj (m : Nat) (k : DX -> Option (List Un)) : DX -> Option (List Un) := fun (a0, a1, a2, a3, a4, a5) =>
 bif decide (a5 < a4) then
 chk (inb a5 a3.length) <|
 chk (decide (a5.toNat < a3.length)) <|
 lt (ag a3 a5.toNat : Dat) fun d1 =>
 k ((w64 (a0 + (w64 (w64 ((d1.i 1) - w64 ((d1.i 3) - (d1.i 4))) - (d1.i 6))))), (w64 (a1 + (d1.i 5))), (w64 (a2 + (d1.i 6))), a3, a4, (w64 (a5 + 1)))
 else
 some ([.i a0, .i a1, .i a2])
def wM (m : Nat) : Nat -> DX -> Option (List Un) := br (yj m)
theorem tt (m : Nat) (n : Nat) : wM m (n + 1) = yj m (wM m n) := rfl
def Gj (F : DX -> Option (List Un)) : ba := ⟨[.lp [0, 1, 0, 1], .blk 0, .code [1, 1]], ⟨frm 29 [(2, .int .i64), (3, .int .i64), (4, .int .i64), (7, .ai (sI 7)), (8, .int .i64), (9, .int .i64)], [], 0⟩, onU F⟩
theorem O8 (m : Nat) : ∀ n, HO N76 (Gj (wM m n)) := au ah T75.right (fun k => [Gj k]) (fun k h => (aL h aA)) fun k a => by kernel_rfl
def t76 (m : Nat) : List Dat -> Option (List Un) := fun a0 =>
 wM m m (0, 0, 0, a0, (a0.length : Int), 0)
theorem Fw (m : Nat) : ∀ (rest pre : List Dat) (n : Nat) (b s t : Int), rest.length < n -> (pre ++ rest).length <= 1000 -> (∀ d ∈ rest, aI d = true) -> 0 <= b -> b <= 1099511627776 * pre.length -> 0 <= s -> s <= 1125899906842624 * pre.length -> 0 <= t -> t <= 1099511627776 * pre.length ->
 wM m n (b, s, t, pre ++ rest, ((pre ++ rest).length : Int), (pre.length : Int)) = some [.i (b + bw bj rest), .i (s + ao 5 rest), .i (t + ao 6 rest)] := by
 intro rest
 induction rest with
 | nil =>
  intro pre n b s t hn hl hg b0 b1 s0 s1 t0 t1; obtain ⟨n, rfl⟩ := al n (by simp at hn; omega); rw [tt]; unfold yj; dsimp only; simp [aE, bw, ao]
 | cons x rest ih =>
  intro pre n b s t hn hl hg b0 b1 s0 s1 t0 t1; obtain ⟨n, rfl⟩ := al n (by simp at hn; omega); simp only [zac, zad] at hn hl; have hx := cj (hg x (by simp)); rw [tt]; unfold yj; dsimp only; have := ih (pre ++ [x]) n (b + bj x) (s + x.i 5) (t + x.i 6) (by omega) (by simp; omega) (fun d hd => hg d (by simp [hd])) (by unfold bj; omega) (by simp [bj]; omega) (by omega) (by simp; omega) (by omega) (by simp; omega); simp only [bw, ao, bj] at this ⊢; simp (disch := omega) only [TRa, TRi, aa, LNl, LNi, zaa, ax]; simp only [LNl, LNi, zaa] at this ⊢; exact this
def f76 : List Dat -> Bool × List Un := fun a0 => (decide (a0.length <= 1000) && a0.all aI, [.i (bw bj a0), .i (ao 5 a0), .i (ao 6 a0)])
theorem N2 (a0 : List Dat) (hc : (decide (a0.length <= 1000) && a0.all aI) = true) : ∃ m, t76 m a0 = some ([.i (bw bj a0), .i (ao 5 a0), .i (ao 6 a0)]) := by
 simp only [zab, zag, zan] at hc; refine ⟨a0.length + 1, ?_⟩; exact (Fw (a0.length + 1) a0 [] (a0.length + 1) 0 0 0 (by omega) (by simpa using hc.1) hc.2 (by omega) (by simp) (by omega) (by simp) (by omega) (by simp)).trans (by simp only [za2])
theorem HY : ER 76 (mkE N76.en N76.ex f76) := an ah T75.right (fun m => [Gj (wM m m)]) (t := t76) (by kernel_rfl) (fun m => (aL (O8 m m) aA)) (fun m a => by kernel_rfl) fun a0 hc => N2 a0 hc
def T76 : Tb Tryz.prog LQ TE XX := T75.add 76 _ HY
def unD (d : Dat) : Int := d.i 1 - (d.i 3 - d.i 4)
def N35 : aD := ⟨T76.tab, 35, ⟨[.np 0 0 0], cg 0, 9⟩, ⟨[.int .i64, .int .i64, .int .i64, .int .i64], cg 0, 9⟩, []⟩
abbrev Db : Type := Int × Int × Int × Int × Int × Int × aw × az × ak × List Dat × List Dat × List Dat × List Dat × List Dat × List Dat × List Dat
def xH (m : Nat) (k : Db -> Option (List Un)) : Db -> Option (List Un) := fun (a0, a1, a2, a3, a4, a5, a6, a7, a8, a9, a10, a11, a12, a13, a14, a15) =>
 bif decide (a5 < a4) then
 chk (inb a5 a15.length) <|
 chk (decide (a5.toNat < a15.length)) <|
 lt (ag a15 a5.toNat : Dat) fun d1 =>
 k (a0, a1, a2, (w64 (a3 + (w64 ((d1.i 1) - (w64 ((d1.i 3) - (d1.i 4))))))), a4, (w64 (a5 + 1)), a6, a7, a8, a9, a10, a11, a12, a13, a14, a15)
 else
 some ([.i a0, .i a1, .i a2, .i a3] ++ Uns.enc (a6 : aw) ++ Uns.enc (a7 : az) ++ Uns.enc (a8 : ak) ++ [.d a9, .d a10, .d a11, .d a12, .d a13, .d a14, .d a15])
def wZ (m : Nat) : Nat -> Db -> Option (List Un) := br (xH m)
theorem sG (m : Nat) (n : Nat) : wZ m (n + 1) = xH m (wZ m n) := rfl
def Fz (F : Db -> Option (List Un)) : ba := ⟨[.lp [0, 1, 0, 1, 1], .blk 0, .code [1, 1, 1]], ⟨frm 40 [(2, .int .i64), (3, .int .i64), (4, .int .i64), (5, .int .i64), (20, .buf 8 7), (21, .int .i64), (22, .int .i64)], cg 0, 9⟩, onU F⟩
theorem Pg (m : Nat) : ∀ n, HO N35 (Fz (wZ m n)) := au ah T76.right (fun k => [Fz k]) (fun k h => (aL h aA)) fun k a => by kernel_rfl
def t35 (m : Nat) : Int × aw × az × ak × List Dat × List Dat × List Dat × List Dat × List Dat × List Dat × List Dat -> Option (List Un) := fun (a0, a1, a2, a3, a4, a5, a6, a7, a8, a9, a10) =>
 chk (decide (0 <= a0)) <|
 chk (decide (a10.length <= 1000) && a10.all aI) <|
 chk (decide (0 <= a0)) <|
 wZ m m ((bw bj a10), (ao 5 a10), (ao 6 a10), 0, (a10.length : Int), 0, a1, a2, a3, a4, a5, a6, a7, a8, a9, a10)
theorem EB (m : Nat) (b s t : Int) (xa : aw) (xb : az) (xn : ak) (x1 x2 x3 x4 x5 x6 : List Dat) : ∀ (rest pre : List Dat) (n : Nat) (u : Int), rest.length < n -> (pre ++ rest).length <= 1000 -> (∀ d ∈ rest, aI d = true) -> 0 <= u -> u <= 1099511627776 * pre.length ->
 wZ m n (b, s, t, u, ((pre ++ rest).length : Int), (pre.length : Int), xa, xb, xn, x1, x2, x3, x4, x5, x6, pre ++ rest) = some ([.i b, .i s, .i t, .i (u + bw unD rest)] ++ Uns.enc xa ++ Uns.enc xb ++ Uns.enc xn ++ [.d x1, .d x2, .d x3, .d x4, .d x5, .d x6, .d (pre ++ rest)]) := by
 intro rest
 induction rest with
 | nil =>
  intro pre n u hn hl hg u0 u1; obtain ⟨n, rfl⟩ := al n (by simp at hn; omega); rw [sG]; unfold xH; dsimp only; simp [aE, bw]
 | cons x rest ih =>
  intro pre n u hn hl hg u0 u1; obtain ⟨n, rfl⟩ := al n (by simp at hn; omega); simp only [zac, zad] at hn hl; have hx := cj (hg x (by simp)); rw [sG]; unfold xH; dsimp only; have := ih (pre ++ [x]) n (u + unD x) (by omega) (by simp; omega) (fun d hd => hg d (by simp [hd])) (by unfold unD; omega) (by simp [unD]; omega); simp only [bw, unD] at this ⊢; simp (disch := omega) only [TRa, TRi, aa, LNl, LNi, zaa, ax]; simp only [LNl, LNi, zaa] at this ⊢; exact this
def f35 : Int × aw × az × ak × List Dat × List Dat × List Dat × List Dat × List Dat × List Dat × List Dat -> Bool × List Un := fun (a0, a1, a2, a3, a4, a5, a6, a7, a8, a9, a10) => (decide (0 <= a0) && (decide (a10.length <= 1000) && a10.all aI), [.i (bw bj a10), .i (ao 5 a10), .i (ao 6 a10), .i (bw unD a10)] ++ Uns.enc ((a1) : aw) ++ Uns.enc ((a2) : az) ++ Uns.enc ((a3) : ak) ++ [.d (a4), .d (a5), .d (a6), .d (a7), .d (a8), .d (a9), .d (a10)])
theorem L6 (a0 : Int) (a1 : aw) (a2 : az) (a3 : ak) (a4 : List Dat) (a5 : List Dat) (a6 : List Dat) (a7 : List Dat) (a8 : List Dat) (a9 : List Dat) (a10 : List Dat) (hc : (decide (0 <= a0) && (decide (a10.length <= 1000) && a10.all aI)) = true) : ∃ m, t35 m (a0, a1, a2, a3, a4, a5, a6, a7, a8, a9, a10) = some ([.i (bw bj a10), .i (ao 5 a10), .i (ao 6 a10), .i (bw unD a10)] ++ Uns.enc ((a1) : aw) ++ Uns.enc ((a2) : az) ++ Uns.enc ((a3) : ak) ++ [.d (a4), .d (a5), .d (a6), .d (a7), .d (a8), .d (a9), .d (a10)]) := by
 have hc' := hc; simp only [zab, zag, zan] at hc'; refine ⟨a10.length + 1, ?_⟩; unfold t35; dsimp only; rw [(zaq.1 hc).2, iw]; simp (disch := omega) only [aP]; exact (EB (a10.length + 1) _ _ _ _ _ _ _ _ _ _ _ _ a10 [] (a10.length + 1) 0 (by omega) (by simpa using hc'.2.1) hc'.2.2 (by omega) (by simp)).trans (by simp only [za2, zaV])
theorem JP : ER 35 (mkE N35.en N35.ex f35) := an ah T76.right (fun m => [Fz (wZ m m)]) (t := t35) (by kernel_rfl) (fun m => (aL (Pg m m) aA)) (fun m a => by kernel_rfl) fun (a0, a1, a2, a3, a4, a5, a6, a7, a8, a9, a10) hc => L6 a0 a1 a2 a3 a4 a5 a6 a7 a8 a9 a10 hc
def T35 : Tb Tryz.prog LQ TE XX := T76.add 35 _ JP
theorem Ea {d : Dat} (c : Int) (h : aI d = true) : aI (rj c d) = true := by
 have := cj h; refine zai ?_
 simp only [rj, lN, bj, et, eT, uk, nu, nT]; omega
theorem Ab {d : Dat} (c : Int) (h : aI d = true) : aI (dH c d) = true := by
 have := cj h; refine zai ?_
 simp only [dH, lN, bj, et, eT, uk, nu, nT]; omega
theorem Bv {d : Dat} (c : Int) (h : aI d = true) : aI (fu c d) = true := by
 have := cj h; refine zai ?_
 simp only [fu, lF, et, eT, uk, nu, nT]; omega
theorem gQ : ∀ l : List Dat, (∀ d ∈ l, aI d = true) -> (0 <= bw bj l /\ bw bj l <= 1099511627776 * l.length) /\ (0 <= ao 5 l /\ ao 5 l <= 1125899906842624 * l.length) /\ (0 <= ao 6 l /\ ao 6 l <= 1099511627776 * l.length) /\ (0 <= bw unD l /\ bw unD l <= 1099511627776 * l.length) /\ bw unD l = bw bj l + ao 6 l
 | [], _ => by simp [bw, ao]
 | d :: l, h => by
  have h1 := cj (h d (by simp)); have h2 := gQ l fun x hx => h x (by simp [hx])
  simp only [bw, ao, zac, zay, bj, unD] at h2 ⊢; omega
theorem Al (f : Dat -> Int) (y : Dat) : ∀ (l : List Dat) (j : Nat), j < l.length -> bw f (l.set j y) = bw f l - f (ag l j) + f y
 | [], j, h => by simp at h
 | d :: l, 0, h => by simp only [List.set_cons_zero, bw, ag, zaH]; omega
 | d :: l, j + 1, h => by
  have := Al f y l j (by simpa using h); simp only [ag] at this; simp only [zbQ, bw, ag, zat, this]; omega
theorem DE {p : Dat -> Prop} {l : List Dat} {j : Nat} {y : Dat} (h : ∀ d ∈ l, p d) (hy : p y) : ∀ d ∈ l.set j y, p d := fun d hd => by
 rcases zbJ hd with h1 | rfl
 . exact h d h1
 . exact hy
theorem vi {l : List Dat} {j : Nat} (h : j < l.length) : ag l j ∈ l := by rw [mj h]; exact zbv h
def N86 : aD := ⟨T35.tab, 86, ⟨[.agg [.bool, .bool, .bool, .bool]], [], 0⟩, ⟨[.bool], [], 0⟩, []⟩
def t86 (m : Nat) : Bool × Bool × Bool × Bool -> Option (List Un) := fun (a0, a1, a2, a3) =>
 bif !a0 then
 some ([.b true])
 else
 bif !a2 then
 some ([.b true])
 else
 some ([.b !a3])
def f86 : Bool × Bool × Bool × Bool -> Bool × List Un := fun (a0, a1, a2, a3) => (true, [.b (!a0 || (!a2 || !a3))])
theorem LJ (a0 : Bool) (a1 : Bool) (a2 : Bool) (a3 : Bool) : ∃ m, t86 m (a0, a1, a2, a3) = some ([.b (!a0 || (!a2 || !a3))]) := by
 refine ⟨0, ?_⟩; unfold t86; cases a0 <;> cases a2 <;> cases a3 <;> rfl
theorem IQ : ER 86 (mkE N86.en N86.ex f86) := an ah T35.right (fun m => []) (t := t86) (by kernel_rfl) (fun m => aA) (fun m a => by kernel_rfl) fun (a0, a1, a2, a3) hc => LJ a0 a1 a2 a3
def T86 : Tb Tryz.prog LQ TE XX := T35.add 86 _ IQ
def dE (mode bf eK : Int) (oc ic late nm : Bool) : Int × Int :=
 if mode = 2 \/ ic = false then (2, 0)
 else if oc = false \/ late = false \/ nm = false then (1, 0)
 else if mode ≠ 1 \/ eK <= bf \/ bf + 1 = eK then (0, 0)
 else (1, bf + 1)
def N43 : aD := ⟨T86.tab, 43, ⟨[.agg [.int .i64, .int .i64], .int .i64, .agg [.bool, .bool, .bool, .bool]], [], 0⟩, ⟨[.agg [.int .i64, .int .i64]], [], 0⟩, []⟩
def t43 (m : Nat) : Int × Int × Int × Bool × Bool × Bool × Bool -> Option (List Un) := fun (a0, a1, a2, a3, a4, a5, a6) =>
 bif a0 == 2 then
 some ([.i 2, .i 0])
 else
 bif !a4 then
 some ([.i 2, .i 0])
 else
 bif (!a3 || (!a5 || !a6)) then
 some ([.i 1, .i 0])
 else
 bif a0 != 1 then
 some ([.i 0, .i 0])
 else
 bif decide (a1 >= a2) then
 some ([.i 0, .i 0])
 else
 bif (w64 (a1 + 1)) == a2 then
 some ([.i 0, .i 0])
 else
 some ([.i 1, .i (w64 (a1 + 1))])
def f43 : Int × Int × Int × Bool × Bool × Bool × Bool -> Bool × List Un := fun (a0, a1, a2, a3, a4, a5, a6) => (decide (0 <= a1 /\ a1 <= 1000000), [.i ((dE a0 a1 a2 a3 a4 a5 a6).1), .i ((dE a0 a1 a2 a3 a4 a5 a6).2)])
theorem NN (a0 : Int) (a1 : Int) (a2 : Int) (a3 : Bool) (a4 : Bool) (a5 : Bool) (a6 : Bool) (hc : (decide (0 <= a1 /\ a1 <= 1000000)) = true) : ∃ m, t43 m (a0, a1, a2, a3, a4, a5, a6) = some ([.i ((dE a0 a1 a2 a3 a4 a5 a6).1), .i ((dE a0 a1 a2 a3 a4 a5 a6).2)]) := by
 have h := zak hc; refine ⟨0, ?_⟩; unfold t43 dE
 by_cases h1 : a0 = 2
 . simp (disch := omega) only [TRa, TRi, aa]; simp [h1]
 . cases a4
   . simp (disch := omega) only [TRa, TRi, aa]; simp
   . cases a3 <;> cases a5 <;> cases a6 <;> simp [h1, fX] <;> by_cases h2 : a0 = 1 <;> by_cases h3 : a2 <= a1 <;> by_cases h4 : a1 + 1 = a2 <;> simp (disch := omega) only [TRa, TRi, aa] <;> simp [h2, h3, h4]
theorem IU : ER 43 (mkE N43.en N43.ex f43) := an ah T86.right (fun m => []) (t := t43) (by kernel_rfl) (fun m => aA) (fun m a => by kernel_rfl) fun (a0, a1, a2, a3, a4, a5, a6) hc => NN a0 a1 a2 a3 a4 a5 a6 hc
def T43 : Tb Tryz.prog LQ TE XX := T86.add 43 _ IU
def dg (n : Int) : Int := if n < 1 then 0 else if n < 3 then 1 else if n < 6 then 2 else 3
def OF : aD := ⟨T43.tab, 122, ⟨[.int .i64], [], 0⟩, ⟨[.int .i64], [], 0⟩, []⟩
def t122 (m : Nat) : Int -> Option (List Un) := fun a0 =>
 bif decide (a0 < 1) then
 some ([.i 0])
 else
 bif decide (a0 < 3) then
 some ([.i 1])
 else
 bif decide (a0 < 6) then
 some ([.i 2])
 else
 some ([.i 3])
def f122 : Int -> Bool × List Un := fun a0 => (true, [.i (dg a0)])
theorem Iv (a0 : Int) : ∃ m, t122 m a0 = some ([.i (dg a0)]) := by
 refine ⟨0, ?_⟩; unfold t122 dg
 by_cases h1 : a0 < 1 <;> by_cases h2 : a0 < 3 <;> by_cases h3 : a0 < 6 <;> simp [h1, h2, h3]
theorem E5 : ER 122 (mkE OF.en OF.ex f122) := an ah T43.right (fun m => []) (t := t122) (by kernel_rfl) (fun m => aA) (fun m a => by kernel_rfl) fun a0 hc => Iv a0
def JW : Tb Tryz.prog LQ TE XX := T43.add 122 _ E5
def cR (d : Dat) : Bool := decide (0 <= d.i 1 /\ d.i 1 <= 1099511627776)
def cq (j : Int) (l : List Dat) : Int := bw (fun d => if dg (d.i 3) = j then d.i 1 else 0) l
theorem Eo (n : Int) : dg n = 0 \/ dg n = 1 \/ dg n = 2 \/ dg n = 3 := by
 unfold dg
 split
 . exact .inl rfl
 . split
   . exact .inr (.inl rfl)
   . split
     . exact .inr (.inr (.inl rfl))
     . exact .inr (.inr (.inr rfl))
theorem oK {d : Dat} (h : cR d = true) : 0 <= d.i 1 /\ d.i 1 <= 1099511627776 := zak h
def N90 : aD := ⟨JW.tab, 90, ⟨[.ai (sB 4)], [], 0⟩, ⟨[.agg [.int .i64, .int .i64, .int .i64, .int .i64]], [], 0⟩, []⟩
abbrev CI : Type := List Dat × Int × Int × Int × Int × Int × Int × Int × Int × Int × Int
def xC (m : Nat) (k : CI -> Option (List Un)) : CI -> Option (List Un) := fun (a0, a1, a2, a3, a4, a5, a6, a7, a8, a9, a10) =>
 bif decide (a2 < a1) then
 chk (inb a2 a0.length) <|
 chk (decide (a2.toNat < a0.length)) <|
 lt (ag a0 a2.toNat : Dat) fun d1 =>
 chk (inb (dg (d1.i 3)) 4) <|
 chk (decide ((dg (d1.i 3)).toNat < 4)) <|
 lt ((List.getD [a7, a8, a9, a10] ((dg (d1.i 3)).toNat) 0) : Int) fun x2 =>
 chk (inb (dg (d1.i 3)) 4) <|
 chk (decide ((dg (d1.i 3)).toNat < 4)) <|
 k (a0, a1, (w64 (a2 + 1)), a3, a4, a5, a6, (bif decide ((dg (d1.i 3)).toNat = 0) then (w64 (x2 + (d1.i 1))) else a7), (bif decide ((dg (d1.i 3)).toNat = 1) then (w64 (x2 + (d1.i 1))) else a8), (bif decide ((dg (d1.i 3)).toNat = 2) then (w64 (x2 + (d1.i 1))) else a9), (bif decide ((dg (d1.i 3)).toNat = 3) then (w64 (x2 + (d1.i 1))) else a10))
 else
 some ([.i a7, .i a8, .i a9, .i a10])
def wD (m : Nat) : Nat -> CI -> Option (List Un) := br (xC m)
theorem tu (m : Nat) (n : Nat) : wD m (n + 1) = xC m (wD m n) := rfl
def HS (F : CI -> Option (List Un)) : ba := ⟨[.lp [0, 1, 0, 1, 1], .blk 0, .code [1, 1, 1]], ⟨frm 24 [(2, .ptr 0 0 0), (3, .ptr 1 0 0), (6, .ai (sB 4)), (7, .int .i64), (8, .int .i64)], [.cells [.int .i64, .int .i64, .int .i64, .int .i64], .cells [.int .i64, .int .i64, .int .i64, .int .i64]], 0⟩, onU F⟩
theorem Of (m : Nat) : ∀ n, HO N90 (HS (wD m n)) := au ah JW.right (fun k => [HS k]) (fun k h => (aL h aA)) fun k a => by kernel_rfl
def t90 (m : Nat) : List Dat -> Option (List Un) := fun a0 =>
 wD m m (a0, (a0.length : Int), 0, 0, 0, 0, 0, 0, 0, 0, 0)
set_option maxHeartbeats 2000000 in
theorem Ix (m : Nat) (z0 z1 z2 z3 : Int) : ∀ (rest pre : List Dat) (n : Nat) (b0 b1 b2 b3 : Int), rest.length < n -> (pre ++ rest).length <= 1000 -> (∀ d ∈ rest, cR d = true) -> (0 <= b0 /\ b0 <= 1099511627776 * pre.length) -> (0 <= b1 /\ b1 <= 1099511627776 * pre.length) -> (0 <= b2 /\ b2 <= 1099511627776 * pre.length) -> (0 <= b3 /\ b3 <= 1099511627776 * pre.length) ->
 wD m n (pre ++ rest, ((pre ++ rest).length : Int), (pre.length : Int), z0, z1, z2, z3, b0, b1, b2, b3) = some [.i (b0 + cq 0 rest), .i (b1 + cq 1 rest), .i (b2 + cq 2 rest), .i (b3 + cq 3 rest)] := by
 intro rest
 induction rest with
 | nil =>
  intro pre n b0 b1 b2 b3 hn hl hg h0 h1 h2 h3; obtain ⟨n, rfl⟩ := al n (by simp at hn; omega); rw [tu]; unfold xC; dsimp only; simp [aE, bw, cq]
 | cons x rest ih =>
  intro pre n b0 b1 b2 b3 hn hl hg h0 h1 h2 h3; obtain ⟨n, rfl⟩ := al n (by simp at hn; omega); simp only [zac, zad] at hn hl; have hx := oK (hg x (by simp)); have ih' := fun b0 b1 b2 b3 => ih (pre ++ [x]) n b0 b1 b2 b3 (by omega) (by simp; omega) (fun d hd => hg d (by simp [hd]))
  rw [tu]; unfold xC; dsimp only; simp only [cq, bw] at ih' ⊢; rcases Eo (x.i 3) with hb | hb | hb | hb
  . have := ih' (b0 + x.i 1) b1 b2 b3 (by simp; omega) (by simp; omega) (by simp; omega) (by simp; omega); simp (disch := omega) only [TRa, TRi, aa, LNl, LNi, zaa, ax, hb, Int.reduceToNat, zaH, zat, za8, Int.reduceEq, zbg]; simp only [Nat.reduceEqDiff, zaU, zaP, zaE, zao, reduceCtorEq, Nat.zero_ne_one, Nat.one_ne_zero, za8, zbg, Int.reduceEq, za2]; simp only [LNl, LNi, zaa] at this ⊢; exact this
  . have := ih' b0 (b1 + x.i 1) b2 b3 (by simp; omega) (by simp; omega) (by simp; omega) (by simp; omega); simp (disch := omega) only [TRa, TRi, aa, LNl, LNi, zaa, ax, hb, Int.reduceToNat, zaH, zat, za8, Int.reduceEq, zbg]; simp only [Nat.reduceEqDiff, zaU, zaP, zaE, zao, reduceCtorEq, Nat.zero_ne_one, Nat.one_ne_zero, za8, zbg, Int.reduceEq, za2]; simp only [LNl, LNi, zaa] at this ⊢; exact this
  . have := ih' b0 b1 (b2 + x.i 1) b3 (by simp; omega) (by simp; omega) (by simp; omega) (by simp; omega); simp (disch := omega) only [TRa, TRi, aa, LNl, LNi, zaa, ax, hb, Int.reduceToNat, zaH, zat, za8, Int.reduceEq, zbg]; simp only [Nat.reduceEqDiff, zaU, zaP, zaE, zao, reduceCtorEq, Nat.zero_ne_one, Nat.one_ne_zero, za8, zbg, Int.reduceEq, za2]; simp only [LNl, LNi, zaa] at this ⊢; exact this
  . have := ih' b0 b1 b2 (b3 + x.i 1) (by simp; omega) (by simp; omega) (by simp; omega) (by simp; omega); simp (disch := omega) only [TRa, TRi, aa, LNl, LNi, zaa, ax, hb, Int.reduceToNat, zaH, zat, za8, Int.reduceEq, zbg]; simp only [Nat.reduceEqDiff, zaU, zaP, zaE, zao, reduceCtorEq, Nat.zero_ne_one, Nat.one_ne_zero, za8, zbg, Int.reduceEq, za2]; simp only [LNl, LNi, zaa] at this ⊢; exact this
def f90 : List Dat -> Bool × List Un := fun a0 => (decide (a0.length <= 1000) && a0.all cR, [.i (cq 0 a0), .i (cq 1 a0), .i (cq 2 a0), .i (cq 3 a0)])
theorem LH (a0 : List Dat) (hc : (decide (a0.length <= 1000) && a0.all cR) = true) : ∃ m, t90 m a0 = some ([.i (cq 0 a0), .i (cq 1 a0), .i (cq 2 a0), .i (cq 3 a0)]) := by
 simp only [zab, zag, zan] at hc; refine ⟨a0.length + 1, ?_⟩; exact (Ix (a0.length + 1) _ _ _ _ a0 [] (a0.length + 1) 0 0 0 0 (by omega) (by simpa using hc.1) hc.2 (by simp) (by simp) (by simp) (by simp)).trans (by simp only [za2])
theorem IW : ER 90 (mkE N90.en N90.ex f90) := an ah JW.right (fun m => [HS (wD m m)]) (t := t90) (by kernel_rfl) (fun m => (aL (Of m m) aA)) (fun m a => by kernel_rfl) fun a0 hc => LH a0 hc
def T90 : Tb Tryz.prog LQ TE XX := JW.add 90 _ IW
def zK (a b c d k : Int) : Int := (if k <= 0 then a else 0) + (if k <= 1 then b else 0) + (if k <= 2 then c else 0) + (if k <= 3 then d else 0)
def N91 : aD := ⟨T90.tab, 91, ⟨[.agg [.int .i64, .int .i64, .int .i64, .int .i64], .int .i64], [], 0⟩, ⟨[.int .i64], [], 0⟩, []⟩
abbrev CG : Type := Int × Int × Int × Int × Int × Int
def nG (m : Nat) (k : CG -> Option (List Un)) : CG -> Option (List Un) := fun (a0, a1, a2, a3, a4, a5) =>
 bif decide (a1 < 4) then
 chk (inb a1 4) <|
 chk (decide (a1.toNat < 4)) <|
 k ((w64 (a0 + (List.getD [a2, a3, a4, a5] a1.toNat 0))), (w64 (a1 + 1)), a2, a3, a4, a5)
 else
 some ([.i a0])
def fQ (m : Nat) : Nat -> CG -> Option (List Un) := br (nG m)
theorem ji (m : Nat) (n : Nat) : fQ m (n + 1) = nG m (fQ m n) := rfl
def Fu (F : CG -> Option (List Un)) : ba := ⟨[.lp [0, 1, 0, 1, 1], .blk 0, .code [1, 1, 1]], ⟨frm 19 [(2, .ptr 0 0 0), (5, .int .i64), (6, .int .i64)], [.cells [.int .i64, .int .i64, .int .i64, .int .i64]], 0⟩, onU F⟩
theorem OI (m : Nat) : ∀ n, HO N91 (Fu (fQ m n)) := au ah T90.right (fun k => [Fu k]) (fun k h => (aL h aA)) fun k a => by kernel_rfl
def t91 (m : Nat) : Int × Int × Int × Int × Int -> Option (List Un) := fun (a0, a1, a2, a3, a4) =>
 fQ m m (0, (if a4 < 0 then 0 else a4), a0, a1, a2, a3)
def f91 : Int × Int × Int × Int × Int -> Bool × List Un := fun (a0, a1, a2, a3, a4) => (decide (0 <= a0 /\ a0 <= 1152921504606846976 /\ 0 <= a1 /\ a1 <= 1152921504606846976 /\ 0 <= a2 /\ a2 <= 1152921504606846976 /\ 0 <= a3 /\ a3 <= 1152921504606846976), [.i (zK a0 a1 a2 a3 a4)])
theorem NT (a0 : Int) (a1 : Int) (a2 : Int) (a3 : Int) (a4 : Int) (hc : (decide (0 <= a0 /\ a0 <= 1152921504606846976 /\ 0 <= a1 /\ a1 <= 1152921504606846976 /\ 0 <= a2 /\ a2 <= 1152921504606846976 /\ 0 <= a3 /\ a3 <= 1152921504606846976)) = true) : ∃ m, t91 m (a0, a1, a2, a3, a4) = some ([.i (zK a0 a1 a2 a3 a4)]) := by
 have h := zak hc; refine ⟨6, ?_⟩; unfold t91 zK; dsimp only; have f0 : ∀ (n : Nat) (i s : Int), 4 <= i -> fQ 6 (n + 1) (s, i, a0, a1, a2, a3) = some [.i s] := by
  intro n i s hi; rw [ji]; unfold nG; dsimp only; rw [aE (by omega)]
 have f3 : ∀ (n : Nat) (s : Int), 0 <= s -> s <= 3458764513820540928 -> fQ 6 (n + 2) (s, 3, a0, a1, a2, a3) = some [.i (s + a3)] := by
  intro n s h1 h2; rw [ji]; unfold nG; dsimp only; simp (disch := omega) only [bF, dT, aP, Int.reduceToNat, zaH, zat, aa, Int.reduceAdd, f0]
 have f2 : ∀ (n : Nat) (s : Int), 0 <= s -> s <= 2305843009213693952 -> fQ 6 (n + 3) (s, 2, a0, a1, a2, a3) = some [.i (s + a2 + a3)] := by
  intro n s h1 h2; rw [ji]; unfold nG; dsimp only; simp (disch := omega) only [bF, dT, aP, Int.reduceToNat, zaH, zat, aa, Int.reduceAdd, f3]
 have f1 : ∀ (n : Nat) (s : Int), 0 <= s -> s <= 1152921504606846976 -> fQ 6 (n + 4) (s, 1, a0, a1, a2, a3) = some [.i (s + a1 + a2 + a3)] := by
  intro n s h1 h2; rw [ji]; unfold nG; dsimp only; simp (disch := omega) only [bF, dT, aP, Int.reduceToNat, zaH, zat, aa, Int.reduceAdd, f2]
 by_cases k0 : a4 <= 0
 . rw [show (if a4 < 0 then 0 else a4) = (0 : Int) by split <;> omega, show fQ 6 6 = fQ 6 (5 + 1) from rfl, ji]; unfold nG; dsimp only; simp (disch := omega) only [bF, dT, aP, Int.reduceToNat, zaH, zat, aa, Int.reduceAdd, za2]; rw [show fQ 6 5 = fQ 6 (1 + 4) from rfl, f1 _ _ (by omega) (by omega), if_pos k0, if_pos (by omega), if_pos (by omega), if_pos (by omega)]
 . rw [if_neg (show ¬ a4 < 0 by omega), if_neg k0]
   by_cases k1 : a4 = 1
   . subst k1; rw [show fQ 6 6 = fQ 6 (2 + 4) from rfl, f1 _ _ (by omega) (by omega)]; simp
   . by_cases k2 : a4 = 2
     . subst k2; rw [show fQ 6 6 = fQ 6 (3 + 3) from rfl, f2 _ _ (by omega) (by omega)]; simp
     . by_cases k3 : a4 = 3
       . subst k3; rw [show fQ 6 6 = fQ 6 (4 + 2) from rfl, f3 _ _ (by omega) (by omega)]; simp
       . rw [f0 _ _ _ (by omega), if_neg (by omega), if_neg (by omega), if_neg (by omega)]; simp
theorem K8 : ER 91 (mkE N91.en N91.ex f91) := an ah T90.right (fun m => [Fu (fQ m m)]) (t := t91) (by kernel_rfl) (fun m => (aL (OI m m) aA)) (fun m a => by kernel_rfl) fun (a0, a1, a2, a3, a4) hc => NT a0 a1 a2 a3 a4 hc
def T91 : Tb Tryz.prog LQ TE XX := T90.add 91 _ K8
theorem Qp (a : List Dat) : (ag [.r [.r a]] 0).d 0 = a := rfl
def N32 : aD := ⟨T91.tab, 32, ⟨[.dpt [.ai (sB 4)]], [], 0⟩, ⟨[.int .i64], [], 0⟩, []⟩
abbrev Dj : Type := Int × List Dat × Int × Int
def yP (m : Nat) (k : Dj -> Option (List Un)) : Dj -> Option (List Un) := fun (a0, a1, a2, a3) =>
 bif decide (a3 < a2) then
 chk (inb a3 a1.length) <|
 chk (decide (a3.toNat < a1.length)) <|
 k ((w64 (a0 + ((ag a1 a3.toNat).i 1))), a1, a2, (w64 (a3 + 1)))
 else
 some ([.i a0])
def vY (m : Nat) : Nat -> Dj -> Option (List Un) := br (yP m)
theorem uJ (m : Nat) (n : Nat) : vY m (n + 1) = yP m (vY m n) := rfl
def FV (F : Dj -> Option (List Un)) : ba := ⟨[.lp [0, 1, 0, 1, 1], .blk 0, .code [1, 1, 1]], ⟨frm 22 [(3, .int .i64), (9, .ai (sB 4)), (10, .int .i64), (11, .int .i64)], [], 0⟩, onU F⟩
theorem Qa (m : Nat) : ∀ n, HO N32 (FV (vY m n)) := au ah T91.right (fun k => [FV k]) (fun k h => (aL h aA)) fun k a => by kernel_rfl
def t32 (m : Nat) : List Dat -> Option (List Un) := fun a0 =>
 chk (decide (0 < a0.length)) <|
 vY m m (0, ((ag a0 0).d 0), (((ag a0 0).d 0).length : Int), 0)
theorem HR (m : Nat) : ∀ (rest pre : List Dat) (n : Nat) (b : Int), rest.length < n -> (pre ++ rest).length <= 1000 -> (∀ d ∈ rest, cR d = true) -> 0 <= b -> b <= 1099511627776 * pre.length ->
 vY m n (b, pre ++ rest, ((pre ++ rest).length : Int), (pre.length : Int)) = some [.i (b + ao 1 rest)] := by
 intro rest
 induction rest with
 | nil =>
  intro pre n b hn hl hg h0 h1; obtain ⟨n, rfl⟩ := al n (by simp at hn; omega); rw [uJ]; unfold yP; dsimp only; simp [aE, ao]
 | cons x rest ih =>
  intro pre n b hn hl hg h0 h1; obtain ⟨n, rfl⟩ := al n (by simp at hn; omega); simp only [zac, zad] at hn hl; have hx := oK (hg x (by simp)); rw [uJ]; unfold yP; dsimp only; have := ih (pre ++ [x]) n (b + x.i 1) (by omega) (by simp; omega) (fun d hd => hg d (by simp [hd])) (by omega) (by simp; omega); simp only [ao] at this ⊢; simp (disch := omega) only [TRa, TRi, aa, LNl, LNi, zaa, ax]; simp only [LNl, LNi, zaa] at this ⊢; exact this
def f32 : List Dat -> Bool × List Un := fun a0 => (decide (0 < a0.length) && (decide (((ag a0 0).d 0).length <= 1000) && ((ag a0 0).d 0).all cR), [.i (ao 1 ((ag a0 0).d 0))])
theorem Na (a0 : List Dat) (hc : (decide (0 < a0.length) && (decide (((ag a0 0).d 0).length <= 1000) && ((ag a0 0).d 0).all cR)) = true) : ∃ m, t32 m a0 = some ([.i (ao 1 ((ag a0 0).d 0))]) := by
 simp only [zab, zag, zan] at hc; refine ⟨((ag a0 0).d 0).length + 1, ?_⟩; unfold t32; rw [aP hc.1]; exact (HR _ ((ag a0 0).d 0) [] (((ag a0 0).d 0).length + 1) 0 (by omega) (by simpa using hc.2.1) hc.2.2 (by omega) (by simp)).trans (by simp only [za2])
theorem JO : ER 32 (mkE N32.en N32.ex f32) := an ah T91.right (fun m => [FV (vY m m)]) (t := t32) (by kernel_rfl) (fun m => (aL (Qa m m) aA)) (fun m a => by kernel_rfl) fun a0 hc => Na a0 hc
def T32 : Tb Tryz.prog LQ TE XX := T91.add 32 _ JO
def N20 : aD := ⟨T32.tab, 20, ⟨[.dpt [.ai (sB 4)]], [], 0⟩, ⟨[.buf 0 5], [.ai (sB 4)], 0⟩, []⟩
def t20 (m : Nat) : List Dat -> Option (List Un) := fun a0 =>
 chk (decide (0 < a0.length)) <|
 chk (decide (((ag a0 0).d 0).length < 1000000)) <|
 some ([.d ((ag a0 0).d 0)])
def f20 : List Dat -> Bool × List Un := fun a0 => (decide (0 < a0.length) && decide (((ag a0 0).d 0).length < 1000000), [.d ((ag a0 0).d 0)])
theorem MC (a0 : List Dat) (hc : (decide (0 < a0.length) && decide (((ag a0 0).d 0).length < 1000000)) = true) : ∃ m, t20 m a0 = some ([.d ((ag a0 0).d 0)]) := by
 simp only [zab, zag] at hc; refine ⟨0, ?_⟩; unfold t20; rw [aP hc.1, aP hc.2]
theorem Ia : ER 20 (mkE N20.en N20.ex f20) := an ah T32.right (fun m => []) (t := t20) (by kernel_rfl) (fun m => aA) (fun m a => by kernel_rfl) fun a0 hc => MC a0 hc
def T20 : Tb Tryz.prog LQ TE XX := T32.add 20 _ Ia
theorem me (j : Int) : ∀ (l : List Dat), (∀ d ∈ l, cR d = true) -> 0 <= cq j l /\ cq j l <= 1099511627776 * l.length
 | [], _ => by simp [cq, bw]
 | x :: l, h => by
  have h1 := oK (h x (by simp)); have h2 := me j l fun d hd => h d (by simp [hd])
  simp only [cq, bw, zac, zay, zaa] at h2 ⊢
  split <;> omega
def N45 : aD := ⟨T20.tab, 45, ⟨[.np 0 0 0, .int .i64, .int .i64], cg 0, 9⟩, ⟨[.agg [.int .i64, .int .i64, .int .i64, .int .i64, .int .i64, .int .i64, .int .i64]], cg 0, 9⟩, []⟩
def t45 (m : Nat) : Int × Int × Int × aw × az × ak × List Dat × List Dat × List Dat × List Dat × List Dat × List Dat × List Dat -> Option (List Un) := fun (a0, a1, a2, a3, a4, a5, a6, a7, a8, a9, a10, a11, a12) =>
 chk (decide (0 <= a0) && (decide (a12.length <= 1000) && a12.all aI)) <|
 chk (decide (0 <= a0)) <|
 chk (decide (0 < ([.r [.r a11]] : List Dat).length) && (decide (((ag ([.r [.r a11]] : List Dat) 0).d 0).length <= 1000) && ((ag ([.r [.r a11]] : List Dat) 0).d 0).all cR)) <|
 chk (decide (0 <= a0)) <|
 chk (decide (0 <= a0)) <|
 chk (decide (0 < ([.r [.r a11]] : List Dat).length) && decide (((ag ([.r [.r a11]] : List Dat) 0).d 0).length < 1000000)) <|
 lt (((ag ([.r [.r a11]] : List Dat) 0).d 0) : List Dat) fun l5 =>
 chk (decide (l5.length <= 1000) && l5.all cR) <|
 chk (decide (0 <= (cq 0 l5) /\ (cq 0 l5) <= 1152921504606846976 /\ 0 <= (cq 1 l5) /\ (cq 1 l5) <= 1152921504606846976 /\ 0 <= (cq 2 l5) /\ (cq 2 l5) <= 1152921504606846976 /\ 0 <= (cq 3 l5) /\ (cq 3 l5) <= 1152921504606846976)) <|
 chk (decide (0 <= a0)) <|
 chk (decide (0 <= a0)) <|
 some ([.i (ao 1 ((ag ([.r [.r a11]] : List Dat) 0).d 0)), .i (((cr (⟨a3, a6, a7, a4, a8, a9, a10⟩ : bq)).getD (0, 0)).1), .i (bw bj a12), .i (if 1099511627776 < a1 then 1099511627776 else a1), .i (if 1099511627776 < a2 then 1099511627776 else a2), .i (zK (cq 0 l5) (cq 1 l5) (cq 2 l5) (cq 3 l5) 2), .i (w64 (a5.aC - a5.aK))] ++ Uns.enc (a3 : aw) ++ Uns.enc (a4 : az) ++ Uns.enc (a5 : ak) ++ [.d a6, .d a7, .d a8, .d a9, .d a10, .d a11, .d a12])
def f45 : Int × Int × Int × aw × az × ak × List Dat × List Dat × List Dat × List Dat × List Dat × List Dat × List Dat -> Bool × List Un := fun (a0, a1, a2, a3, a4, a5, a6, a7, a8, a9, a10, a11, a12) => (decide (0 <= a0) && ((decide (a11.length <= 1000) && a11.all cR) && (decide (a12.length <= 1000) && a12.all aI)), [.i (ao 1 a11), .i (((cr (⟨a3, a6, a7, a4, a8, a9, a10⟩ : bq)).getD (0, 0)).1), .i (bw bj a12), .i (min a1 1099511627776), .i (min a2 1099511627776), .i (cq 2 a11 + cq 3 a11), .i (w64 (a5.aC - a5.aK))] ++ Uns.enc ((a3) : aw) ++ Uns.enc ((a4) : az) ++ Uns.enc ((a5) : ak) ++ [.d (a6), .d (a7), .d (a8), .d (a9), .d (a10), .d (a11), .d (a12)])
theorem LM (a0 : Int) (a1 : Int) (a2 : Int) (a3 : aw) (a4 : az) (a5 : ak) (a6 : List Dat) (a7 : List Dat) (a8 : List Dat) (a9 : List Dat) (a10 : List Dat) (a11 : List Dat) (a12 : List Dat) (hc : (decide (0 <= a0) && ((decide (a11.length <= 1000) && a11.all cR) && (decide (a12.length <= 1000) && a12.all aI))) = true) : ∃ m, t45 m (a0, a1, a2, a3, a4, a5, a6, a7, a8, a9, a10, a11, a12) = some ([.i (ao 1 a11), .i (((cr (⟨a3, a6, a7, a4, a8, a9, a10⟩ : bq)).getD (0, 0)).1), .i (bw bj a12), .i (min a1 1099511627776), .i (min a2 1099511627776), .i (cq 2 a11 + cq 3 a11), .i (w64 (a5.aC - a5.aK))] ++ Uns.enc ((a3) : aw) ++ Uns.enc ((a4) : az) ++ Uns.enc ((a5) : ak) ++ [.d (a6), .d (a7), .d (a8), .d (a9), .d (a10), .d (a11), .d (a12)]) := by
 have hc' := hc; simp only [zab, zag, zan] at hc'; obtain ⟨h0, ⟨h1, h2⟩, h3, h4⟩ := hc'; have q1 : (decide (a11.length <= 1000) && a11.all cR) = true := (zaq.1 (zaq.1 hc).2).1; have q2 : (decide (a12.length <= 1000) && a12.all aI) = true := (zaq.1 (zaq.1 hc).2).2; have l0 := me 0 a11 h2; have l1 := me 1 a11 h2; have l2 := me 2 a11 h2; have l3 := me 3 a11 h2; refine ⟨0, ?_⟩; unfold t45; dsimp only [lt, Qp, List.length_cons, List.length_nil]; simp only [zai h0, q1, q2, Bool.and_self, iw, show decide (0 < 0 + 1) = true from rfl, zai (show a11.length < 1000000 by omega)]; rw [aP (by omega)]; simp only [jB, zK, Int.reduceLE, za8, zbg, za2, zbi]; exact bo (by rw [zab]; exact ⟨@zai _ _ h1, zan.2 h2⟩) (bo (@zai _ _ (by omega)) rfl)
theorem Kr : ER 45 (mkE N45.en N45.ex f45) := an ah T20.right (fun m => []) (t := t45) (by kernel_rfl) (fun m => aA) (fun m a => by kernel_rfl) fun (a0, a1, a2, a3, a4, a5, a6, a7, a8, a9, a10, a11, a12) hc => LM a0 a1 a2 a3 a4 a5 a6 a7 a8 a9 a10 a11 a12 hc
def T45 : Tb Tryz.prog LQ TE XX := T20.add 45 _ Kr
theorem wm (pre pre' : List Dat) (x : Dat) (rest : List Dat) (h : pre'.length = pre.length) : ag (pre' ++ x :: rest) pre.length = x := by rw [<- h]; exact ax pre' x rest
def vW : Nat -> Nat -> Dat -> Dat -> Bool
 | _, 0, _, _ => true
 | j, n + 1, x, y => x.i j == y.i j && vW (j + 1) n x y
def cL (n : Nat) : List Dat -> List Dat -> Bool
 | [], [] => true
 | x :: a, y :: b => vW 0 n x y && cL n a b
 | _, _ => false
def Cp : Nat -> Nat -> Dat -> Dat -> Bool
 | j, 0, x, y => x.b j == y.b j
 | j, n + 1, x, y => x.i j == y.i j && Cp (j + 1) n x y
theorem pI (n : Nat) : ∀ (a b : List Dat), a.length ≠ b.length -> cL n a b = false
 | [], [], h => absurd rfl h
 | [], _ :: _, _ => rfl
 | _ :: _, [], _ => rfl
 | x :: a, y :: b, h => by simp [cL, pI n a b (by simpa using h)]
def N56 : aD := ⟨T45.tab, 56, ⟨[.ai (sI 3), .ai (sI 3)], [], 0⟩, ⟨[.bool], [], 0⟩, []⟩
abbrev CQ : Type := List Dat × List Dat × Int
def xK (m : Nat) (k : CQ -> Option (List Un)) : CQ -> Option (List Un) := fun (a0, a1, a2) =>
 bif (decide (a2 < (a0.length : Int))) then
 chk (inb a2 a0.length) <|
 chk (decide (a2.toNat < a0.length)) <|
 lt (ag a0 a2.toNat : Dat) fun d3 =>
 chk (inb a2 a1.length) <|
 chk (decide (a2.toNat < a1.length)) <|
 lt (ag a1 a2.toNat : Dat) fun d4 =>
 bif (!(((d3.i 0) == (d4.i 0)) && (((d3.i 1) == (d4.i 1)) && (((d3.i 2) == (d4.i 2)) && true)))) then
 some ([.b false])
 else
 k (a0, a1, (w64 (a2 + 1)))
 else
 some ([.b true])
def vR (m : Nat) : Nat -> CQ -> Option (List Un) := br (xK m)
theorem tW (m : Nat) (n : Nat) : vR m (n + 1) = xK m (vR m n) := rfl
def HQ (F : CQ -> Option (List Un)) : ba := ⟨[.lp [0, 1, 0, 1, 1], .blk 0, .code [1, 1, 1]], ⟨frm 26 [(0, .ai (sI 3)), (1, .ai (sI 3)), (5, .int .i64)], [], 0⟩, onU F⟩
theorem ON (m : Nat) : ∀ n, HO N56 (HQ (vR m n)) := au ah T45.right (fun k => [HQ k]) (fun k h => (aL h aA)) fun k a => by kernel_rfl
def t56 (m : Nat) : List Dat × List Dat -> Option (List Un) := fun (a0, a1) =>
 bif ((a0.length : Int) != (a1.length : Int)) then
 some ([.b false])
 else
 vR m m (a0, a1, 0)
theorem K6 (m : Nat) : ∀ (rest rest' pre pre' : List Dat) (n : Nat), rest.length < n -> pre'.length = pre.length -> rest'.length = rest.length -> (pre ++ rest).length < 1099511627776 ->
 vR m n (pre ++ rest, pre' ++ rest', (pre.length : Int)) = some [.b (cL 3 rest rest')] := by
 intro rest
 induction rest with
 | nil =>
  intro rest' pre pre' n hn hp hr hl; obtain ⟨n, rfl⟩ := al n (by simp at hn; omega); obtain rfl : rest' = [] := zaB (by simpa using hr); rw [tW]; unfold xK; dsimp only; simp [aE, cL]
 | cons x rest ih =>
  intro rest' pre pre' n hn hp hr hl; obtain ⟨n, rfl⟩ := al n (by simp at hn; omega); obtain ⟨y, rest', rfl⟩ : ∃ y l, rest' = y :: l := by cases rest' with | nil => simp at hr | cons y l => exact ⟨y, l, rfl⟩
  simp only [zac, zad] at hn hl hr; have := ih rest' (pre ++ [x]) (pre' ++ [y]) n (by omega) (by simp [hp]) (by omega) (by simp; omega); rw [tW]; unfold xK; dsimp only; simp only [cL, vW, Cp, Nat.reduceAdd]; simp (disch := omega) only [TRa, TRi, aa, LNl, LNi, zaa, ax, wm _ _ _ _ hp]; simp only [LNl, LNi, zaa] at this ⊢
  (try simp only [bne, cond_not])
  cases (x.i 0 == y.i 0) <;> cases (x.i 1 == y.i 1) <;> cases (x.i 2 == y.i 2)
  all_goals (first | exact this | rfl)
def f56 : List Dat × List Dat -> Bool × List Un := fun (a0, a1) => (decide (a0.length < 1099511627776), [.b (cL 3 a0 a1)])
theorem NW (a0 : List Dat) (a1 : List Dat) (hc : (decide (a0.length < 1099511627776)) = true) : ∃ m, t56 m (a0, a1) = some ([.b (cL 3 a0 a1)]) := by
 have hs := zak hc; refine ⟨a0.length + 1, ?_⟩; unfold t56; dsimp only
 by_cases h : a0.length = a1.length
 . rw [oR (by omega)]; exact K6 _ a0 a1 [] [] _ (by omega) rfl h.symm (by simpa using hs)
 . rw [og (by omega), pI _ _ _ h]
theorem IA : ER 56 (mkE N56.en N56.ex f56) := an ah T45.right (fun m => [HQ (vR m m)]) (t := t56) (by kernel_rfl) (fun m => (aL (ON m m) aA)) (fun m a => by kernel_rfl) fun (a0, a1) hc => NW a0 a1 hc
def T56 : Tb Tryz.prog LQ TE XX := T45.add 56 _ IA
def N55 : aD := ⟨T56.tab, 55, ⟨[.ai (sI 4), .ai (sI 4)], [], 0⟩, ⟨[.bool], [], 0⟩, []⟩
abbrev DK : Type := List Dat × List Dat × Int
def xk (m : Nat) (k : DK -> Option (List Un)) : DK -> Option (List Un) := fun (a0, a1, a2) =>
 bif (decide (a2 < (a0.length : Int))) then
 chk (inb a2 a0.length) <|
 chk (decide (a2.toNat < a0.length)) <|
 lt (ag a0 a2.toNat : Dat) fun d3 =>
 chk (inb a2 a1.length) <|
 chk (decide (a2.toNat < a1.length)) <|
 lt (ag a1 a2.toNat : Dat) fun d4 =>
 bif (!(((d3.i 0) == (d4.i 0)) && (((d3.i 1) == (d4.i 1)) && (((d3.i 2) == (d4.i 2)) && (((d3.i 3) == (d4.i 3)) && true))))) then
 some ([.b false])
 else
 k (a0, a1, (w64 (a2 + 1)))
 else
 some ([.b true])
def wq (m : Nat) : Nat -> DK -> Option (List Un) := br (xk m)
theorem tN (m : Nat) (n : Nat) : wq m (n + 1) = xk m (wq m n) := rfl
def FC (F : DK -> Option (List Un)) : ba := ⟨[.lp [0, 1, 0, 1, 1], .blk 0, .code [1, 1, 1]], ⟨frm 26 [(0, .ai (sI 4)), (1, .ai (sI 4)), (5, .int .i64)], [], 0⟩, onU F⟩
theorem PZ (m : Nat) : ∀ n, HO N55 (FC (wq m n)) := au ah T56.right (fun k => [FC k]) (fun k h => (aL h aA)) fun k a => by kernel_rfl
def t55 (m : Nat) : List Dat × List Dat -> Option (List Un) := fun (a0, a1) =>
 bif ((a0.length : Int) != (a1.length : Int)) then
 some ([.b false])
 else
 wq m m (a0, a1, 0)
theorem IN (m : Nat) : ∀ (rest rest' pre pre' : List Dat) (n : Nat), rest.length < n -> pre'.length = pre.length -> rest'.length = rest.length -> (pre ++ rest).length < 1099511627776 ->
 wq m n (pre ++ rest, pre' ++ rest', (pre.length : Int)) = some [.b (cL 4 rest rest')] := by
 intro rest
 induction rest with
 | nil =>
  intro rest' pre pre' n hn hp hr hl; obtain ⟨n, rfl⟩ := al n (by simp at hn; omega); obtain rfl : rest' = [] := zaB (by simpa using hr); rw [tN]; unfold xk; dsimp only; simp [aE, cL]
 | cons x rest ih =>
  intro rest' pre pre' n hn hp hr hl; obtain ⟨n, rfl⟩ := al n (by simp at hn; omega); obtain ⟨y, rest', rfl⟩ : ∃ y l, rest' = y :: l := by cases rest' with | nil => simp at hr | cons y l => exact ⟨y, l, rfl⟩
  simp only [zac, zad] at hn hl hr; have := ih rest' (pre ++ [x]) (pre' ++ [y]) n (by omega) (by simp [hp]) (by omega) (by simp; omega); rw [tN]; unfold xk; dsimp only; simp only [cL, vW, Cp, Nat.reduceAdd]; simp (disch := omega) only [TRa, TRi, aa, LNl, LNi, zaa, ax, wm _ _ _ _ hp]; simp only [LNl, LNi, zaa] at this ⊢
  (try simp only [bne, cond_not])
  cases (x.i 0 == y.i 0) <;> cases (x.i 1 == y.i 1) <;> cases (x.i 2 == y.i 2) <;> cases (x.i 3 == y.i 3)
  all_goals (first | exact this | rfl)
def f55 : List Dat × List Dat -> Bool × List Un := fun (a0, a1) => (decide (a0.length < 1099511627776), [.b (cL 4 a0 a1)])
theorem LP (a0 : List Dat) (a1 : List Dat) (hc : (decide (a0.length < 1099511627776)) = true) : ∃ m, t55 m (a0, a1) = some ([.b (cL 4 a0 a1)]) := by
 have hs := zak hc; refine ⟨a0.length + 1, ?_⟩; unfold t55; dsimp only
 by_cases h : a0.length = a1.length
 . rw [oR (by omega)]; exact IN _ a0 a1 [] [] _ (by omega) rfl h.symm (by simpa using hs)
 . rw [og (by omega), pI _ _ _ h]
theorem JV : ER 55 (mkE N55.en N55.ex f55) := an ah T56.right (fun m => [FC (wq m m)]) (t := t55) (by kernel_rfl) (fun m => (aL (PZ m m) aA)) (fun m a => by kernel_rfl) fun (a0, a1) hc => LP a0 a1 hc
def T55 : Tb Tryz.prog LQ TE XX := T56.add 55 _ JV
def m8 (p q r s l : Int) : Bool := decide (0 <= p) && (decide (p <= 1099511627776) && (decide (0 <= q) && (decide (q <= 1099511627776) && (decide (0 <= r) && (decide (r <= 1099511627776) && (decide (0 <= s) && (decide (s <= 1099511627776) && (decide (0 <= l) && decide (l <= 12)))))))))
theorem AB {α : Type} {x : Int} {a b : α} : (bif decide (x < 0) then a else b) = bif decide (0 <= x) then b else a := by
 by_cases h : x < 0
 . rw [zai h, zaQ (show ¬ 0 <= x by omega)]; rfl
 . rw [zaQ h, zai (show 0 <= x by omega)]; rfl
theorem yT {α : Type} {x y : Int} {a b : α} : (bif decide (x > y) then a else b) = bif decide (x <= y) then b else a := by
 by_cases h : x > y
 . rw [zai h, zaQ (show ¬ x <= y by omega)]; rfl
 . rw [zaQ h, zai (show x <= y by omega)]; rfl
theorem kH {c y : Bool} : (bif c then some [Un.b y] else some [Un.b false]) = some [.b (c && y)] := by cases c <;> rfl
def PW : aD := ⟨T55.tab, 101, ⟨[.agg [.int .i64, .int .i64, .int .i64, .int .i64, .int .i64, .int .i64, .bool]], [], 0⟩, ⟨[.bool], [], 0⟩, [[0, 1, 0, 1]]⟩
def t101 (m : Nat) : Int × Int × Int × Int × Int × Int × Bool -> Option (List Un) := fun (a0, a1, a2, a3, a4, a5, a6) =>
 lt ((([a1, a2, a3, a4]).getD 0 0) : Int) fun x1 =>
 bif decide (x1 < 0) then
 some ([.b false])
 else
 bif (decide (x1 > 1099511627776)) then
 some ([.b false])
 else
 lt ((([a1, a2, a3, a4]).getD 1 0) : Int) fun x3 =>
 bif decide (x3 < 0) then
 some ([.b false])
 else
 bif (decide (x3 > 1099511627776)) then
 some ([.b false])
 else
 lt ((([a1, a2, a3, a4]).getD 2 0) : Int) fun x5 =>
 bif decide (x5 < 0) then
 some ([.b false])
 else
 bif (decide (x5 > 1099511627776)) then
 some ([.b false])
 else
 lt ((([a1, a2, a3, a4]).getD 3 0) : Int) fun x7 =>
 bif decide (x7 < 0) then
 some ([.b false])
 else
 bif (decide (x7 > 1099511627776)) then
 some ([.b false])
 else
 bif decide (a5 >= 0) then
 some ([.b (decide (a5 <= 12))])
 else
 some ([.b false])
def f101 : Int × Int × Int × Int × Int × Int × Bool -> Bool × List Un := fun (a0, a1, a2, a3, a4, a5, a6) => (true, [.b (m8 a1 a2 a3 a4 a5)])
theorem KX (a0 : Int) (a1 : Int) (a2 : Int) (a3 : Int) (a4 : Int) (a5 : Int) (a6 : Bool) : ∃ m, t101 m (a0, a1, a2, a3, a4, a5, a6) = some ([.b (m8 a1 a2 a3 a4 a5)]) := by
 refine ⟨0, ?_⟩; unfold t101 m8; simp only [lt_eq, zaH, zat, AB, yT]; simp only [ge_iff_le, kH]
theorem Fl : ER 101 (mkE PW.en PW.ex f101) := an ah T55.right (fun m => []) (t := t101) (by kernel_rfl) (fun m => aA) (fun m a => by kernel_rfl) fun (a0, a1, a2, a3, a4, a5, a6) hc => KX a0 a1 a2 a3 a4 a5 a6
def JL : Tb Tryz.prog LQ TE XX := T55.add 101 _ Fl
def ug : Int -> List Dat -> Bool
 | _, [] => true
 | last, d :: l => if d.i 0 <= last then false else if m8 (d.i 1) (d.i 2) (d.i 3) (d.i 4) (d.i 5) then ug (d.i 0) l else false
def qk (l : List Dat) : Bool := decide (l.length <= 64) && ug 0 l
def N68 : aD := ⟨JL.tab, 68, ⟨[.ai (sB 6)], [], 0⟩, ⟨[.bool], [], 0⟩, []⟩
abbrev DJ : Type := Int × List Dat × Int × Int
def yi (m : Nat) (k : DJ -> Option (List Un)) : DJ -> Option (List Un) := fun (a0, a1, a2, a3) =>
 bif decide (a3 < a2) then
 chk (inb a3 a1.length) <|
 chk (decide (a3.toNat < a1.length)) <|
 lt (ag a1 a3.toNat : Dat) fun d2 =>
 bif decide ((d2.i 0) <= a0) then
 some ([.b false])
 else
 bif !(m8 (d2.i 1) (d2.i 2) (d2.i 3) (d2.i 4) (d2.i 5)) then
 some ([.b false])
 else
 k ((d2.i 0), a1, a2, (w64 (a3 + 1)))
 else
 some ([.b true])
def wo (m : Nat) : Nat -> DJ -> Option (List Un) := br (yi m)
theorem uZ (m : Nat) (n : Nat) : wo m (n + 1) = yi m (wo m n) := rfl
def GC (F : DJ -> Option (List Un)) : ba := ⟨[.lp [0, 1, 0, 1, 1, 1], .blk 0, .code [1, 1, 1, 1]], ⟨frm 27 [(3, .int .i64), (9, .ai (sB 6)), (10, .int .i64), (11, .int .i64)], [], 0⟩, onU F⟩
theorem Oz (m : Nat) : ∀ n, HO N68 (GC (wo m n)) := au ah JL.right (fun k => [GC k]) (fun k h => (aL h aA)) fun k a => by kernel_rfl
def t68 (m : Nat) : List Dat -> Option (List Un) := fun a0 =>
 bif (decide ((a0.length : Int) > 64)) then
 some ([.b false])
 else
 wo m m (0, a0, (a0.length : Int), 0)
theorem OW (m : Nat) : ∀ (rest pre : List Dat) (n : Nat) (last : Int), rest.length < n -> (pre ++ rest).length <= 64 ->
 wo m n (last, pre ++ rest, ((pre ++ rest).length : Int), (pre.length : Int)) = some [.b (ug last rest)] := by
 intro rest
 induction rest with
 | nil =>
  intro pre n last hn hl; obtain ⟨n, rfl⟩ := al n (by simp at hn; omega); rw [uZ]; unfold yi; dsimp only; simp [aE, ug]
 | cons x rest ih =>
  intro pre n last hn hl; obtain ⟨n, rfl⟩ := al n (by simp at hn; omega); simp only [zac, zad] at hn hl; have := ih (pre ++ [x]) n (x.i 0) (by omega) (by simp; omega); rw [uZ]; unfold yi; dsimp only; simp only [LNl, LNi, zaa] at this ⊢; unfold ug
  by_cases h1 : x.i 0 <= last
  . simp (disch := omega) only [TRa, TRi, aa, LNl, LNi, zaa, ax]; rw [if_pos h1]
  . rw [if_neg h1]
    by_cases h2 : m8 (x.i 1) (x.i 2) (x.i 3) (x.i 4) (x.i 5) = true
    . rw [if_pos h2]; simp (disch := omega) only [TRa, TRi, aa, LNl, LNi, zaa, ax, h2]; exact this
    . rw [if_neg h2]; have h2 : m8 (x.i 1) (x.i 2) (x.i 3) (x.i 4) (x.i 5) = false := by simpa using h2
      simp (disch := omega) only [TRa, TRi, aa, LNl, LNi, zaa, ax, h2]
def f68 : List Dat -> Bool × List Un := fun a0 => (true, [.b (qk a0)])
theorem MX (a0 : List Dat) : ∃ m, t68 m a0 = some ([.b (qk a0)]) := by
 unfold qk
 by_cases h : a0.length <= 64
 . refine ⟨a0.length + 1, ?_⟩; have := OW (a0.length + 1) a0 [] (a0.length + 1) 0 (by omega) (by simpa using h); unfold t68; rw [aE (by omega), zai h, zbi]; exact this
 . refine ⟨0, ?_⟩; unfold t68; rw [bF (by omega), zaQ h]; rfl
theorem Kb : ER 68 (mkE N68.en N68.ex f68) := an ah JL.right (fun m => [GC (wo m m)]) (t := t68) (by kernel_rfl) (fun m => (aL (Oz m m) aA)) (fun m a => by kernel_rfl) fun a0 hc => MX a0
def T68 : Tb Tryz.prog LQ TE XX := JL.add 68 _ Kb
def B8 (bal lost : Int) (oZ : Bool) (pr pp it rc lt : Int) (df : Bool) : Bool :=
 bif oZ then (pr == 0) && ((pp == 0) && ((it == 0) && ((lt == 0) && (!df && decide (rc <= lost)))))
 else bif decide (w64 (w64 (bal - pr) - pp) < 0) then false
 else bif df then (bif decide (rc <= w64 (lost + w64 (w64 (bal - pr) - pp))) then true else rc == 0) else rc == 0
theorem ES {c x y : Bool} : (bif c then some [Un.b x] else some [Un.b y]) = some [.b (bif c then x else y)] := by cases c <;> rfl
def N70 : aD := ⟨T68.tab, 70, ⟨[.agg [.int .i64, .int .i64, .int .i64, .int .i64, .bool], .agg [.int .i64, .int .i64, .int .i64, .int .i64, .int .i64, .int .i64, .bool]], [], 0⟩, ⟨[.bool], [], 0⟩, []⟩
def t70 (m : Nat) : Int × Int × Int × Int × Bool × Int × Int × Int × Int × Int × Int × Bool -> Option (List Un) := fun (a0, a1, a2, a3, a4, a5, a6, a7, a8, a9, a10, a11) =>
 bif a4 then
 bif a6 == 0 then
 bif a7 == 0 then
 bif a8 == 0 then
 bif a10 == 0 then
 bif !a11 then
 some ([.b (decide (a9 <= a2))])
 else
 some ([.b false])
 else
 some ([.b false])
 else
 some ([.b false])
 else
 some ([.b false])
 else
 some ([.b false])
 else
 lt ((w64 ((w64 (a1 - a6)) - a7)) : Int) fun x1 =>
 bif decide (x1 < 0) then
 some ([.b false])
 else
 bif a11 then
 bif (decide (a9 <= (w64 (a2 + x1)))) then
 some ([.b true])
 else
 some ([.b (a9 == 0)])
 else
 some ([.b (a9 == 0)])
def f70 : Int × Int × Int × Int × Bool × Int × Int × Int × Int × Int × Int × Bool -> Bool × List Un := fun (a0, a1, a2, a3, a4, a5, a6, a7, a8, a9, a10, a11) => (true, [.b (B8 a1 a2 a4 a6 a7 a8 a9 a10 a11)])
theorem Nw (a0 : Int) (a1 : Int) (a2 : Int) (a3 : Int) (a4 : Bool) (a5 : Int) (a6 : Int) (a7 : Int) (a8 : Int) (a9 : Int) (a10 : Int) (a11 : Bool) : ∃ m, t70 m (a0, a1, a2, a3, a4, a5, a6, a7, a8, a9, a10, a11) = some ([.b (B8 a1 a2 a4 a6 a7 a8 a9 a10 a11)]) := by
 refine ⟨0, ?_⟩; unfold t70 B8; simp only [lt_eq, ES]; cases a4 <;> simp only [zaE, zao]
 cases (a6 == 0) <;> cases (a7 == 0) <;> cases (a8 == 0) <;> cases (a10 == 0) <;> cases a11 <;> rfl
theorem K4 : ER 70 (mkE N70.en N70.ex f70) := an ah T68.right (fun m => []) (t := t70) (by kernel_rfl) (fun m => aA) (fun m a => by kernel_rfl) fun (a0, a1, a2, a3, a4, a5, a6, a7, a8, a9, a10, a11) hc => Nw a0 a1 a2 a3 a4 a5 a6 a7 a8 a9 a10 a11
def T70 : Tb Tryz.prog LQ TE XX := T68.add 70 _ K4
def tz (bal pr pp : Int) (df : Bool) : Int := bif df then 0 else w64 (bal - w64 (pr + pp))
def gN (bal pr pp : Int) (df : Bool) : Int := bif df then w64 (bal - w64 (pr + pp)) else 0
def nU (bal lost pr pp rc : Int) (df : Bool) : Int := bif df then w64 (w64 (lost + w64 (bal - w64 (pr + pp))) - rc) else w64 (lost - rc)
def nF (bal : Int) (oZ : Bool) (pr pp lt : Int) (df : Bool) : Int := bif df then 0 else bif oZ then 0 else bif w64 (bal - w64 (pr + pp)) == 0 then 0 else lt
def N71 : aD := ⟨T70.tab, 71, ⟨[.agg [.int .i64, .int .i64, .int .i64, .int .i64, .bool], .agg [.int .i64, .int .i64, .int .i64, .int .i64, .int .i64, .int .i64, .bool]], [], 0⟩, ⟨[.agg [.int .i64, .int .i64, .int .i64, .int .i64, .bool], .agg [.int .i64, .int .i64, .int .i64, .int .i64]], [], 0⟩, []⟩
def t71 (m : Nat) : Int × Int × Int × Int × Bool × Int × Int × Int × Int × Int × Int × Bool -> Option (List Un) := fun (a0, a1, a2, a3, a4, a5, a6, a7, a8, a9, a10, a11) =>
 lt ((w64 (a1 - (w64 (a6 + a7)))) : Int) fun x1 =>
 bif a11 then
 some ([.i a0, .i 0, .i (w64 ((w64 (a2 + x1)) - a9)), .i 0, .b true, .i (w64 (a6 + a7)), .i a8, .i x1, .i a9])
 else
 bif a4 then
 some ([.i a0, .i x1, .i (w64 (a2 - a9)), .i 0, .b a4, .i (w64 (a6 + a7)), .i a8, .i 0, .i a9])
 else
 bif x1 == 0 then
 some ([.i a0, .i x1, .i (w64 (a2 - a9)), .i 0, .b a4, .i (w64 (a6 + a7)), .i a8, .i 0, .i a9])
 else
 some ([.i a0, .i x1, .i (w64 (a2 - a9)), .i a10, .b a4, .i (w64 (a6 + a7)), .i a8, .i 0, .i a9])
def f71 : Int × Int × Int × Int × Bool × Int × Int × Int × Int × Int × Int × Bool -> Bool × List Un := fun (a0, a1, a2, a3, a4, a5, a6, a7, a8, a9, a10, a11) => (true, [.i (a0), .i (tz a1 a6 a7 a11), .i (nU a1 a2 a6 a7 a9 a11), .i (nF a1 a4 a6 a7 a10 a11), .b ((a11 || a4)), .i (w64 (a6 + a7)), .i (a8), .i (gN a1 a6 a7 a11), .i (a9)])
theorem LA (a0 : Int) (a1 : Int) (a2 : Int) (a3 : Int) (a4 : Bool) (a5 : Int) (a6 : Int) (a7 : Int) (a8 : Int) (a9 : Int) (a10 : Int) (a11 : Bool) : ∃ m, t71 m (a0, a1, a2, a3, a4, a5, a6, a7, a8, a9, a10, a11) = some ([.i (a0), .i (tz a1 a6 a7 a11), .i (nU a1 a2 a6 a7 a9 a11), .i (nF a1 a4 a6 a7 a10 a11), .b ((a11 || a4)), .i (w64 (a6 + a7)), .i (a8), .i (gN a1 a6 a7 a11), .i (a9)]) := by
 refine ⟨0, ?_⟩; unfold t71 tz nU nF gN; simp only [lt_eq]; cases a11 <;> cases a4 <;> simp only [zaE, zao, Bool.or_true, Bool.or_false] <;> first | rfl | (cases (w64 (a1 - w64 (a6 + a7)) == 0) <;> rfl)
theorem Ig : ER 71 (mkE N71.en N71.ex f71) := an ah T70.right (fun m => []) (t := t71) (by kernel_rfl) (fun m => aA) (fun m a => by kernel_rfl) fun (a0, a1, a2, a3, a4, a5, a6, a7, a8, a9, a10, a11) hc => LA a0 a1 a2 a3 a4 a5 a6 a7 a8 a9 a10 a11
def T71 : Tb Tryz.prog LQ TE XX := T70.add 71 _ Ig
def fj (id : Int) : Int -> List Dat -> Int
 | _, [] => -1
 | i, d :: l => if d.i 0 = id then i else fj id (i + 1) l
def Lv : aD := ⟨T71.tab, 102, ⟨[.ai (sB 4), .fn 103 [] [.ptr 0 0 0]], [.cells [.int .i64]], 1⟩, ⟨[.int .i64], [.cells [.int .i64]], 1⟩, []⟩
abbrev yr : Type := List Dat × Int × Int × Int
def sm (m : Nat) (k : yr -> Option (List Un)) : yr -> Option (List Un) := fun (a0, a1, a2, a3) =>
 bif decide (a2 < a1) then
 chk (inb a2 a0.length) <|
 chk (decide (a2.toNat < a0.length)) <|
 bif ((ag a0 a2.toNat).i 0) == a3 then
 some ([.i a2, .i a3])
 else
 k (a0, a1, (w64 (a2 + 1)), a3)
 else
 some ([.i (-1), .i a3])
def pg (m : Nat) : Nat -> yr -> Option (List Un) := br (sm m)
theorem qm (m : Nat) (n : Nat) : pg m (n + 1) = sm m (pg m n) := rfl
def Bb (F : yr -> Option (List Un)) : ba := ⟨[.lp [0, 1, 0, 1], .blk 0, .code [1, 1]], ⟨frm 19 [(0, .ai (sB 4)), (1, .fn 103 [] [.ptr 0 0 0]), (7, .int .i64), (8, .int .i64)], [.cells [.int .i64]], 1⟩, onU F⟩
theorem N1 (m : Nat) : ∀ n, HO Lv (Bb (pg m n)) := au ah T71.right (fun k => [Bb k]) (fun k h => (aL h aA)) fun k a => by kernel_rfl
def t102 (m : Nat) : List Dat × Int -> Option (List Un) := fun (a0, a1) =>
 pg m m (a0, (a0.length : Int), 0, a1)
theorem Oq (m : Nat) (id : Int) : ∀ (rest pre : List Dat) (n : Nat), rest.length < n -> (pre ++ rest).length < 1000000 ->
 pg m n (pre ++ rest, ((pre ++ rest).length : Int), (pre.length : Int), id) = some [.i (fj id pre.length rest), .i id] := by
 intro rest
 induction rest with
 | nil =>
  intro pre n hn hl; obtain ⟨n, rfl⟩ := al n (by simp at hn; omega); rw [qm]; unfold sm; dsimp only; simp [aE, fj]
 | cons x rest ih =>
  intro pre n hn hl; obtain ⟨n, rfl⟩ := al n (by simp at hn; omega); simp only [zac, zad] at hn hl; have := ih (pre ++ [x]) n (by omega) (by simp; omega); rw [qm]; unfold sm; dsimp only; simp only [LNl, LNi, zaa] at this ⊢; unfold fj
  by_cases h1 : x.i 0 = id
  . simp (disch := omega) only [TRa, TRi, aa, LNl, LNi, zaa, ax]; rw [if_pos h1]
  . rw [if_neg h1]; simp (disch := omega) only [TRa, TRi, aa, LNl, LNi, zaa, ax]; exact this
def f102 : List Dat × Int -> Bool × List Un := fun (a0, a1) => (decide (a0.length < 1000000), [.i (fj a1 0 a0), .i (a1)])
theorem Jn (a0 : List Dat) (a1 : Int) (hc : (decide (a0.length < 1000000)) = true) : ∃ m, t102 m (a0, a1) = some ([.i (fj a1 0 a0), .i (a1)]) := by
 have h := zak hc; exact ⟨a0.length + 1, Oq _ a1 a0 [] _ (by omega) (by simpa using h)⟩
theorem G6 : ER 102 (mkE Lv.en Lv.ex f102) := an ah T71.right (fun m => [Bb (pg m m)]) (t := t102) (by kernel_rfl) (fun m => (aL (N1 m m) aA)) (fun m a => by kernel_rfl) fun (a0, a1) hc => Jn a0 a1 hc
def Kf : Tb Tryz.prog LQ TE XX := T71.add 102 _ G6
def l8 (x d : Dat) : Dat := .r [.n (x.i 0), .n (tz (x.i 1) (d.i 1) (d.i 2) (d.b 6)), .n (nU (x.i 1) (x.i 2) (d.i 1) (d.i 2) (d.i 4) (d.b 6)), .n (nF (x.i 1) (x.b 4) (d.i 1) (d.i 2) (d.i 5) (d.b 6)), .n (bI (d.b 6 || x.b 4))]
structure HE where
 p : Int
 q : Int
 l : Int
 r : Int
 e : Int
 aZ : List Dat
def EU (x d : Dat) : Bool := B8 (x.i 1) (x.i 2) (x.b 4) (d.i 1) (d.i 2) (d.i 3) (d.i 4) (d.i 5) (d.b 6)
def jN : List Dat -> Int -> Int -> Int -> Int -> List Dat -> Option HE
 | l, p, q, s, r, [] => some ⟨p, q, s, r, 0, l⟩
 | l, p, q, s, r, d :: t => if fj (d.i 0) 0 l < 0 then none else
  if EU (ag l (fj (d.i 0) 0 l).toNat) d = true then
   jN (l.set (fj (d.i 0) 0 l).toNat (l8 (ag l (fj (d.i 0) 0 l).toNat) d)) (w64 (p + w64 (d.i 1 + d.i 2))) (w64 (q + d.i 3)) (w64 (s + gN ((ag l (fj (d.i 0) 0 l).toNat).i 1) (d.i 1) (d.i 2) (d.b 6))) (w64 (r + d.i 4)) t
  else none
def aB (lines l : List Dat) : HE := if qk lines = true then (jN l 0 0 0 0 lines).getD ⟨0, 0, 0, 0, 3, l⟩ else ⟨0, 0, 0, 0, 3, l⟩
theorem yu (id : Int) : ∀ (l : List Dat) (i : Int), fj id i l = -1 \/ (i <= fj id i l /\ fj id i l < i + l.length)
 | [], i => .inl rfl
 | d :: l, i => by
  unfold fj
  by_cases h : d.i 0 = id
  . rw [if_pos h]; exact .inr ⟨by omega, by simp; omega⟩
  . rw [if_neg h]; rcases yu id l (i + 1) with h | ⟨h1, h2⟩
    . exact .inl h
    . refine .inr ⟨by omega, ?_⟩; simp only [zac]; omega
def N33 : aD := ⟨Kf.tab, 33, ⟨[.ptr 0 0 0, .ai (sB 6)], [.cells [.buf 1 5], .ai (sB 4)], 0⟩, ⟨[.agg [.int .i64, .int .i64, .int .i64, .int .i64], .int .i64], [.cells [.buf 2 5], .gone, .ai (sB 4)], 0⟩, []⟩
abbrev C4 : Type := List Dat × Int × Int × Int × Int × Int × Int × Int × Int × Int × Int × List Dat × List Dat
def xj (m : Nat) (k : C4 -> Option (List Un)) : C4 -> Option (List Un) := fun (a0, a1, a2, a3, a4, a5, a6, a7, a8, a9, a10, a11, a12) =>
 bif decide (a2 < a1) then
 chk (inb a2 a0.length) <|
 chk (decide (a2.toNat < a0.length)) <|
 lt (ag a0 a2.toNat : Dat) fun d1 =>
 chk (decide (a12.length < 1000000)) <|
 bif (decide ((fj (d1.i 0) 0 a12) < 0)) then
 some ([.i 0, .i 0, .i 0, .i 0, .i 3, .d a11])
 else
 chk (inb (fj (d1.i 0) 0 a12) a12.length) <|
 chk (decide ((fj (d1.i 0) 0 a12).toNat < a12.length)) <|
 lt (ag a12 ((fj (d1.i 0) 0 a12).toNat) : Dat) fun d3 =>
 bif !(B8 (d3.i 1) (d3.i 2) (d3.b 4) (d1.i 1) (d1.i 2) (d1.i 3) (d1.i 4) (d1.i 5) (d1.b 6)) then
 some ([.i 0, .i 0, .i 0, .i 0, .i 3, .d a11])
 else
 chk (inb (fj (d1.i 0) 0 a12) a12.length) <|
 chk (decide ((fj (d1.i 0) 0 a12).toNat < a12.length)) <|
 lt (ag a12 ((fj (d1.i 0) 0 a12).toNat) : Dat) fun d5 =>
 chk (inb (fj (d1.i 0) 0 a12) a12.length) <|
 chk (decide ((fj (d1.i 0) 0 a12).toNat < a12.length)) <|
 k (a0, a1, (w64 (a2 + 1)), a3, a4, a5, a6, (w64 (a7 + (w64 ((d1.i 1) + (d1.i 2))))), (w64 (a8 + (d1.i 3))), (w64 (a9 + (gN (d5.i 1) (d1.i 1) (d1.i 2) (d1.b 6)))), (w64 (a10 + (d1.i 4))), a11, (List.set a12 ((fj (d1.i 0) 0 a12).toNat) (.r [.n (d5.i 0), .n (tz (d5.i 1) (d1.i 1) (d1.i 2) (d1.b 6)), .n (nU (d5.i 1) (d5.i 2) (d1.i 1) (d1.i 2) (d1.i 4) (d1.b 6)), .n (nF (d5.i 1) (d5.b 4) (d1.i 1) (d1.i 2) (d1.i 5) (d1.b 6)), .n (bI ((d1.b 6) || (d5.b 4)))])))
 else
 some ([.i a7, .i a8, .i a9, .i a10, .i 0, .d a12])
def vH (m : Nat) : Nat -> C4 -> Option (List Un) := br (xj m)
theorem tn (m : Nat) (n : Nat) : vH m (n + 1) = xj m (vH m n) := rfl
def HW (F : C4 -> Option (List Un)) : ba := ⟨[.lp [0, 1, 0, 1, 1, 1, 1], .blk 0, .code [1, 1, 1, 1, 1]], ⟨frm 89 [(0, .ptr 0 0 0), (4, .ptr 2 0 0), (6, .ptr 3 0 0), (7, .ptr 4 0 0), (18, .ai (sB 6)), (19, .int .i64), (20, .int .i64)], [.cells [.buf 5 5], .gone, .cells [.int .i64, .int .i64, .int .i64, .int .i64], .cells [.buf 6 5], .cells [.int .i64, .int .i64, .int .i64, .int .i64], .ai (sB 4), .ai (sB 4)], 0⟩, onU F⟩
theorem OE (m : Nat) : ∀ n, HO N33 (HW (vH m n)) := au ah Kf.right (fun k => [HW k]) (fun k h => (aL h aA)) fun k a => by kernel_rfl
def t33 (m : Nat) : List Dat × List Dat -> Option (List Un) := fun (a0, a1) =>
 bif !(qk a0) then
 some ([.i 0, .i 0, .i 0, .i 0, .i 3, .d a1])
 else
 chk (decide (a1.length < 1000000)) <|
 vH m m (a0, (a0.length : Int), 0, 0, 0, 0, 0, 0, 0, 0, 0, a1, a1)
def G1 (l0 : List Dat) (o : Option HE) : List Un := match o with | some x => [.i x.p, .i x.q, .i x.l, .i x.r, .i x.e, .d x.aZ] | none => [.i 0, .i 0, .i 0, .i 0, .i 3, .d l0]
theorem N5 (m : Nat) (l0 : List Dat) : ∀ (rest pre : List Dat) (n : Nat) (p q s r : Int) (l : List Dat), rest.length < n -> (pre ++ rest).length <= 64 -> l.length < 1000000 ->
 vH m n (pre ++ rest, ((pre ++ rest).length : Int), (pre.length : Int), 0, 0, 0, 0, p, q, s, r, l0, l) = some (G1 l0 (jN l p q s r rest)) := by
 intro rest
 induction rest with
 | nil =>
  intro pre n p q s r l hn hl hll; obtain ⟨n, rfl⟩ := al n (by simp at hn; omega); rw [tn]; unfold xj; dsimp only; simp [aE, jN, G1]
 | cons x rest ih =>
  intro pre n p q s r l hn hl hll; obtain ⟨n, rfl⟩ := al n (by simp at hn; omega); simp only [zac, zad] at hn hl; rw [tn]; unfold xj; dsimp only; simp (disch := omega) only [TRa, TRi, aa, LNl, LNi, zaa, ax]; unfold jN; rcases yu (x.i 0) l 0 with h1 | ⟨h1, h2⟩
  . rw [bF (by omega), if_pos (by omega)]; rfl
  . rw [aE (by omega), if_neg (by omega)]; simp (disch := omega) only [TRa, TRi, aa, LNl, LNi, zaa, ax]
    by_cases h3 : EU (ag l (fj (x.i 0) 0 l).toNat) x = true
    . rw [if_pos h3]; have h4 := h3; unfold EU at h4; rw [h4]; have := ih (pre ++ [x]) n (w64 (p + w64 (x.i 1 + x.i 2))) (w64 (q + x.i 3)) (w64 (s + gN ((ag l (fj (x.i 0) 0 l).toNat).i 1) (x.i 1) (x.i 2) (x.b 6))) (w64 (r + x.i 4)) (l.set (fj (x.i 0) 0 l).toNat (l8 (ag l (fj (x.i 0) 0 l).toNat) x)) (by omega) (by simp; omega) (by simpa using hll)
      try simp (disch := omega) only [TRa, TRi, aa, LNl, LNi, zaa, ax]
      simp only [LNl, LNi, zaa] at this ⊢; exact this
    . rw [if_neg h3]; have h4 := h3; unfold EU at h4; rw [show B8 _ _ _ _ _ _ _ _ _ = false from Bool.eq_false_iff.2 h4]; rfl
def f33 : List Dat × List Dat -> Bool × List Un := fun (a0, a1) => (decide (a1.length < 1000000), [.i ((aB a0 a1).p), .i ((aB a0 a1).q), .i ((aB a0 a1).l), .i ((aB a0 a1).r), .i ((aB a0 a1).e), .d ((aB a0 a1).aZ)])
theorem LD (a0 : List Dat) (a1 : List Dat) (hc : (decide (a1.length < 1000000)) = true) : ∃ m, t33 m (a0, a1) = some ([.i ((aB a0 a1).p), .i ((aB a0 a1).q), .i ((aB a0 a1).l), .i ((aB a0 a1).r), .i ((aB a0 a1).e), .d ((aB a0 a1).aZ)]) := by
 have h := zak hc; unfold aB; cases ht : qk a0 with
 | false =>
  refine ⟨0, ?_⟩; unfold t33; dsimp only; rw [ht]; rfl
 | true =>
  have hl : a0.length <= 64 := by
   simp only [qk, zab, zag] at ht; exact ht.1
  refine ⟨a0.length + 1, ?_⟩; have := N5 (a0.length + 1) a1 a0 [] (a0.length + 1) 0 0 0 0 a1 (by omega) (by simpa using hl) h; unfold t33; dsimp only; rw [ht]; simp only [zbC, zao, za8]; rw [aP h]; refine this.trans ?_
  cases jN a1 0 0 0 0 a0 <;> rfl
theorem Lg : ER 33 (mkE N33.en N33.ex f33) := an ah Kf.right (fun m => [HW (vH m m)]) (t := t33) (by kernel_rfl) (fun m => (aL (OE m m) aA)) (fun m a => by kernel_rfl) fun (a0, a1) hc => LD a0 a1 hc
def T33 : Tb Tryz.prog LQ TE XX := Kf.add 33 _ Lg
def N31 : aD := ⟨T33.tab, 31, ⟨[.np 0 0 0], cg 0, 9⟩, ⟨[.ptr 9 0 0], cg 0 ++ cg 9, 9⟩, []⟩
def t31 (m : Nat) : Int × aw × az × ak × List Dat × List Dat × List Dat × List Dat × List Dat × List Dat × List Dat -> Option (List Un) := fun (a0, a1, a2, a3, a4, a5, a6, a7, a8, a9, a10) =>
 chk (decide (0 <= a0)) <|
 chk (decide (0 <= a0)) <|
 chk (decide ((⟨a1, a4, a5, a2, a6, a7, a8⟩ : bq).bh.length < 1000000 /\ (⟨a1, a4, a5, a2, a6, a7, a8⟩ : bq).notes.length < 1000000 /\ (⟨a1, a4, a5, a2, a6, a7, a8⟩ : bq).s0.length < 1000000 /\ (⟨a1, a4, a5, a2, a6, a7, a8⟩ : bq).s1.length < 1000000 /\ (⟨a1, a4, a5, a2, a6, a7, a8⟩ : bq).s2.length < 1000000)) <|
 chk (decide (0 <= a0)) <|
 chk (decide (a9.length < 1000000)) <|
 chk (decide (0 <= a0)) <|
 chk (decide (a10.length < 1000000)) <|
 some (Uns.enc (a1 : aw) ++ Uns.enc (a2 : az) ++ Uns.enc (a3 : ak) ++ [.d a4, .d a5, .d a6, .d a7, .d a8, .d a9, .d a10] ++ Uns.enc (((⟨a1, a4, a5, a2, a6, a7, a8⟩ : bq).a) : aw) ++ Uns.enc (((⟨a1, a4, a5, a2, a6, a7, a8⟩ : bq).b) : az) ++ Uns.enc (a3 : ak) ++ [.d ((⟨a1, a4, a5, a2, a6, a7, a8⟩ : bq).bh), .d ((⟨a1, a4, a5, a2, a6, a7, a8⟩ : bq).notes), .d ((⟨a1, a4, a5, a2, a6, a7, a8⟩ : bq).s0), .d ((⟨a1, a4, a5, a2, a6, a7, a8⟩ : bq).s1), .d ((⟨a1, a4, a5, a2, a6, a7, a8⟩ : bq).s2), .d a9, .d a10])
def f31 : Int × aw × az × ak × List Dat × List Dat × List Dat × List Dat × List Dat × List Dat × List Dat -> Bool × List Un := fun (a0, a1, a2, a3, a4, a5, a6, a7, a8, a9, a10) => (decide (0 <= a0) && decide (a4.length < 1000000 /\ a5.length < 1000000 /\ a6.length < 1000000 /\ a7.length < 1000000 /\ a8.length < 1000000 /\ a9.length < 1000000 /\ a10.length < 1000000), Uns.enc ((a1) : aw) ++ Uns.enc ((a2) : az) ++ Uns.enc ((a3) : ak) ++ [.d (a4), .d (a5), .d (a6), .d (a7), .d (a8), .d (a9), .d (a10)] ++ Uns.enc ((a1) : aw) ++ Uns.enc ((a2) : az) ++ Uns.enc ((a3) : ak) ++ [.d (a4), .d (a5), .d (a6), .d (a7), .d (a8), .d (a9), .d (a10)])
theorem NO (a0 : Int) (a1 : aw) (a2 : az) (a3 : ak) (a4 : List Dat) (a5 : List Dat) (a6 : List Dat) (a7 : List Dat) (a8 : List Dat) (a9 : List Dat) (a10 : List Dat) (hc : (decide (0 <= a0) && decide (a4.length < 1000000 /\ a5.length < 1000000 /\ a6.length < 1000000 /\ a7.length < 1000000 /\ a8.length < 1000000 /\ a9.length < 1000000 /\ a10.length < 1000000)) = true) : ∃ m, t31 m (a0, a1, a2, a3, a4, a5, a6, a7, a8, a9, a10) = some (Uns.enc ((a1) : aw) ++ Uns.enc ((a2) : az) ++ Uns.enc ((a3) : ak) ++ [.d (a4), .d (a5), .d (a6), .d (a7), .d (a8), .d (a9), .d (a10)] ++ Uns.enc ((a1) : aw) ++ Uns.enc ((a2) : az) ++ Uns.enc ((a3) : ak) ++ [.d (a4), .d (a5), .d (a6), .d (a7), .d (a8), .d (a9), .d (a10)]) := by
 simp only [zab, zag] at hc; obtain ⟨h0, h1, h2, h3, h4, h5, h6, h7⟩ := hc; refine ⟨0, ?_⟩; unfold t31; dsimp only; simp (disch := omega) only [lt_eq, aP, iw]
theorem Ja : ER 31 (mkE N31.en N31.ex f31) := an ah T33.right (fun m => []) (t := t31) (by kernel_rfl) (fun m => aA) (fun m a => by kernel_rfl) fun (a0, a1, a2, a3, a4, a5, a6, a7, a8, a9, a10) hc => NO a0 a1 a2 a3 a4 a5 a6 a7 a8 a9 a10 hc
def T31 : Tb Tryz.prog LQ TE XX := T33.add 31 _ Ja
def N65 : aD := ⟨T31.tab, 65, ⟨[.np 0 0 20, .int .i64], cg 0, 0⟩, ⟨[.bool], cg 0, 0⟩, []⟩
def t65 (m : Nat) : Int × Int × aw × az × ak × List Dat × List Dat × List Dat × List Dat × List Dat × List Dat × List Dat -> Option (List Un) := fun (a0, a1, a2, a3, a4, a5, a6, a7, a8, a9, a10, a11) =>
 chk (decide (0 <= a0)) <|
 lt ((([a4.rin, a1]).getD 0 0) : Int) fun x1 =>
 bif decide (x1 < 0) then
 some ([.b false] ++ Uns.enc (a2 : aw) ++ Uns.enc (a3 : az) ++ Uns.enc (a4 : ak) ++ [.d a5, .d a6, .d a7, .d a8, .d a9, .d a10, .d a11])
 else
 bif (decide (x1 > 1152921504606846976)) then
 some ([.b false] ++ Uns.enc (a2 : aw) ++ Uns.enc (a3 : az) ++ Uns.enc (a4 : ak) ++ [.d a5, .d a6, .d a7, .d a8, .d a9, .d a10, .d a11])
 else
 lt ((([a4.rin, a1]).getD 1 0) : Int) fun x3 =>
 bif decide (x3 < 0) then
 some ([.b false] ++ Uns.enc (a2 : aw) ++ Uns.enc (a3 : az) ++ Uns.enc (a4 : ak) ++ [.d a5, .d a6, .d a7, .d a8, .d a9, .d a10, .d a11])
 else
 bif decide (x3 > (w64 (1152921504606846976 - (w64 (0 + x1))))) then
 some ([.b false] ++ Uns.enc (a2 : aw) ++ Uns.enc (a3 : az) ++ Uns.enc (a4 : ak) ++ [.d a5, .d a6, .d a7, .d a8, .d a9, .d a10, .d a11])
 else
 chk (decide (0 <= a0)) <|
 some ([.b true] ++ Uns.enc (a2 : aw) ++ Uns.enc (a3 : az) ++ Uns.enc (({ a4 with rin := (w64 ((w64 (0 + x1)) + x3)) } : ak) : ak) ++ [.d a5, .d a6, .d a7, .d a8, .d a9, .d a10, .d a11])
def f65 : Int × Int × aw × az × ak × List Dat × List Dat × List Dat × List Dat × List Dat × List Dat × List Dat -> Bool × List Un := fun (a0, a1, a2, a3, a4, a5, a6, a7, a8, a9, a10, a11) => (decide (0 <= a0) && decide ((0 : Int) <= a4.rin /\ (0 : Int) <= a1 /\ a4.rin + a1 <= (1152921504606846976 : Int)), [.b (true)] ++ Uns.enc ((a2) : aw) ++ Uns.enc ((a3) : az) ++ Uns.enc (({ a4 with rin := a4.rin + a1 }) : ak) ++ [.d (a5), .d (a6), .d (a7), .d (a8), .d (a9), .d (a10), .d (a11)])
theorem NU (a0 : Int) (a1 : Int) (a2 : aw) (a3 : az) (a4 : ak) (a5 : List Dat) (a6 : List Dat) (a7 : List Dat) (a8 : List Dat) (a9 : List Dat) (a10 : List Dat) (a11 : List Dat) (hc : (decide (0 <= a0) && decide ((0 : Int) <= a4.rin /\ (0 : Int) <= a1 /\ a4.rin + a1 <= (1152921504606846976 : Int))) = true) : ∃ m, t65 m (a0, a1, a2, a3, a4, a5, a6, a7, a8, a9, a10, a11) = some ([.b (true)] ++ Uns.enc ((a2) : aw) ++ Uns.enc ((a3) : az) ++ Uns.enc (({ a4 with rin := a4.rin + a1 }) : ak) ++ [.d (a5), .d (a6), .d (a7), .d (a8), .d (a9), .d (a10), .d (a11)]) := by
 simp only [zab, zag] at hc; obtain ⟨h0, h1, h2, h3⟩ := hc; refine ⟨0, ?_⟩; unfold t65; dsimp only; simp only [lt_eq, zaH, zat]; simp (disch := omega) only [TRa, TRi, aa, za2]
theorem IJ : ER 65 (mkE N65.en N65.ex f65) := an ah T31.right (fun m => []) (t := t65) (by kernel_rfl) (fun m => aA) (fun m a => by kernel_rfl) fun (a0, a1, a2, a3, a4, a5, a6, a7, a8, a9, a10, a11) hc => NU a0 a1 a2 a3 a4 a5 a6 a7 a8 a9 a10 a11 hc
def T65 : Tb Tryz.prog LQ TE XX := T31.add 65 _ IJ
def oD : List Int -> Int -> Int × Bool
 | [], s => (s, true)
 | x :: l, s => bif (decide (x < 0) || decide (x > 1152921504606846976 - s)) then (0, false) else oD l (s + x)
def gJ (l : List Int) : Int := (oD l 0).1
def jV (l : List Int) : Bool := (oD l 0).2
def qe (l : List Int) : Bool := l.all fun x => decide (0 <= x /\ x <= 1152921504606846976)
theorem CY : ∀ (l : List Int) (s b : Int), 0 <= s -> 0 <= b -> (∀ x ∈ l, 0 <= x /\ x <= b) -> s + l.length * b <= 1152921504606846976 -> oD l s = (s + l.sum, true)
 | [], s, b, _, _, _, _ => by simp [oD]
 | x :: l, s, b, h1, h2, h3, h4 => by
  have hx := h3 x (by simp); have hm : 0 <= (l.length : Int) * b := za0 (by omega) h2; have e : ((x :: l).length : Int) * b = l.length * b + b := by rw [zac, zay, zbV]; simp
  rw [e] at h4; have := CY l (s + x) b (by omega) h2 (fun y hy => h3 y (by simp [hy])) (by omega); simp only [oD]; rw [show (decide (x < 0) || decide (x > 1152921504606846976 - s)) = false by simp; omega, zao, this, zbn]
  congr 1
  omega
theorem pN : ∀ (l : List Int) (b : Int), 0 <= b -> (∀ x ∈ l, 0 <= x /\ x <= b) -> 0 <= l.sum /\ l.sum <= l.length * b
 | [], b, _, _ => by simp
 | x :: l, b, h2, h3 => by
  have hx := h3 x (by simp); have e : ((x :: l).length : Int) * b = l.length * b + b := by rw [zac, zay, zbV]; simp
  have := pN l b h2 (fun y hy => h3 y (by simp [hy])); rw [e, zbn]; omega
theorem rY {l : List Int} {b : Int} (h2 : 0 <= b) (h3 : ∀ x ∈ l, 0 <= x /\ x <= b) (h4 : l.length * b <= 1152921504606846976) : gJ l = l.sum /\ jV l = true := by
 have := CY l 0 b (by omega) h2 h3 (by omega); unfold gJ jV; rw [this]; simp
def bE (n s : Int) (l : List Int) : List Int := l.map fun c => n * c / s
def iD (n s : Int) (l : List Int) : List Int := l.map fun c => n * c % s
theorem uR {l : List Int} : qe l = true ↔ ∀ x ∈ l, 0 <= x /\ x <= 1152921504606846976 := by simp [qe]
def jy (l : List Int) : List Int -> Nat -> Nat -> Nat
 | [], _, b => b
 | x :: r, i, b => jy l r (i + 1) (bif decide (x > l.getD b 0) then i else b)
def dz (l : List Int) : Nat := jy l l 0 0
def gy (z : Int) : Nat -> List Int -> List Int -> List Int
 | 0, o, _ => o
 | k + 1, o, l => gy z k (o.set (dz l) (o.getD (dz l) 0 + 1)) (l.set (dz l) z)
def cu (n : Int) (l : List Int) : List Int :=
 bif !(jV l) then List.replicate l.length 0 else
 bif decide (max n 0 >= gJ l) then l else
 gy 0 (max n 0 - (bE (max n 0) (gJ l) l).sum).toNat (bE (max n 0) (gJ l) l) (iD (max n 0) (gJ l) l)
theorem AI (l : List Int) : ∀ (r : List Int) (i b : Nat), b < l.length -> i + r.length <= l.length -> jy l r i b < l.length
 | [], _, b, h, _ => h
 | x :: r, i, b, h, h2 => by
  simp only [zac] at h2; unfold jy; refine AI l r (i + 1) _ ?_ (by omega); cases decide (x > l.getD b 0)
  . exact h
  . show i < l.length; omega
theorem ku {l : List Int} (h : l ≠ []) : dz l < l.length := AI l l 0 0 (List.length_pos_iff.2 h) (by simp)
theorem zr : ∀ (l : List Int) (s : Int), 0 <= s -> s <= 1152921504606846976 -> (oD l s).2 = true -> (∀ x ∈ l, 0 <= x /\ x <= 1152921504606846976) /\ (oD l s).1 = s + l.sum /\ s + l.sum <= 1152921504606846976
 | [], s, h1, h2, _ => by simp [oD, h2]
 | x :: l, s, h1, h2, h3 => by
  simp only [oD] at h3 ⊢
  by_cases hx : x < 0 \/ x > 1152921504606846976 - s
  . rw [show (decide (x < 0) || decide (x > 1152921504606846976 - s)) = true by simpa using hx] at h3; cases h3
  . rw [show (decide (x < 0) || decide (x > 1152921504606846976 - s)) = false by simp; omega] at h3 ⊢; simp only [zao] at h3 ⊢; obtain ⟨a, b, c⟩ := zr l (s + x) (by omega) (by omega) h3; refine ⟨fun y hy => ?_, by rw [b, zbn]; omega, by rw [zbn]; omega⟩; rcases za3.1 hy with rfl | hy
    . omega
    . exact a y hy
theorem kb {l : List Int} (h : jV l = true) : (∀ x ∈ l, 0 <= x /\ x <= 1152921504606846976) /\ gJ l = l.sum /\ l.sum <= 1152921504606846976 := by
 obtain ⟨a, b, c⟩ := zr l 0 (by omega) (by omega) h; exact ⟨a, by unfold gJ; omega, by omega⟩
theorem dS : ∀ (l : List Int), (∀ x ∈ l, 0 <= x) -> 0 <= l.sum
 | [], _ => by simp
 | x :: l, h => by
  have := h x (by simp); have := dS l (fun y hy => h y (by simp [hy])); rw [zbn]; omega
theorem vh {f g : Int -> Int} : ∀ (l : List Int), (∀ x ∈ l, f x <= g x) -> (l.map f).sum <= (l.map g).sum
 | [], _ => by simp
 | x :: l, h => by
  have := h x (by simp); have := vh l (fun y hy => h y (by simp [hy])); simp only [zaT, zbn]; omega
theorem xP {n s : Int} {l : List Int} (h1 : 0 <= n) (h2 : n < s) (hb : ∀ x ∈ l, 0 <= x /\ x <= 1152921504606846976) : (∀ y ∈ bE n s l, 0 <= y /\ y <= 1152921504606846976) /\ 0 <= (bE n s l).sum /\ (bE n s l).sum <= l.sum := by
 have e : ∀ x ∈ l, 0 <= n * x / s /\ n * x / s <= x := fun x hx => by
  have hx := hb x hx; refine ⟨zbu (za0 h1 hx.1) (by omega), ?_⟩; have : n * x <= s * x := za6 (by omega) hx.1; exact Int.ediv_le_of_le_mul (by omega) (by rw [za7 x s]; exact this)
 have a : ∀ y ∈ bE n s l, 0 <= y /\ y <= 1152921504606846976 := by
  intro y hy; obtain ⟨x, hx, rfl⟩ := zbr.1 hy; have := e x hx; have := hb x hx; omega
 refine ⟨a, dS _ (fun y hy => (a y hy).1), ?_⟩; have := vh (f := fun c => n * c / s) (g := id) l (fun x hx => (e x hx).2); simpa [bE] using this
theorem jm {l : List Int} {i : Nat} (h : i < l.length) : l.getD i 0 ∈ l := by
 rw [zah, zae h]; exact zbv h
theorem wC (z : Int) : ∀ (k : Nat) (o l : List Int), (gy z k o l).length = o.length
 | 0, _, _ => rfl
 | k + 1, o, l => by simp [gy, wC z k]
theorem sZ (n : Int) (l : List Int) : (cu n l).length = l.length := by
 unfold cu; cases jV l
 . simp
 . cases decide (max n 0 >= gJ l)
   . simp [wC, bE]
   . simp
theorem so : ∀ (l : List Int) (b : Nat) (v : Int), b < l.length -> (l.set b v).sum = l.sum - l.getD b 0 + v
 | [], b, v, h => by simp at h
 | x :: l, 0, v, _ => by simp; omega
 | x :: l, b + 1, v, h => by
  have := so l b v (by simpa using h); simp only [zbQ, zbn, zat]; omega
theorem hG (l : List Int) (b i : Nat) (v : Int) (h : b < l.length) : (l.set b v).getD i 0 = if i = b then v else l.getD i 0 := by
 simp only [zah, zbf]
 by_cases e : b = i
 . subst e; simp [h]
 . rw [if_neg e, if_neg (zcd e)]
theorem pM (l : List Int) : ∀ (r pre : List Int) (b : Nat), l = pre ++ r -> b < l.length -> (∀ j, j < pre.length -> l.getD j 0 <= l.getD b 0) -> (∀ j, j < b -> l.getD j 0 < l.getD b 0) -> b <= pre.length ->
 (∀ j, j < l.length -> l.getD j 0 <= l.getD (jy l r pre.length b) 0) /\ ∀ j, j < jy l r pre.length b -> l.getD j 0 < l.getD (jy l r pre.length b) 0
 | [], pre, b, he, hb, h1, h2, _ => by
  have : pre.length = l.length := by rw [he]; simp
  exact ⟨fun j hj => h1 j (by omega), h2⟩
 | x :: r, pre, b, he, hb, h1, h2, h3 => by
  have hg : l.getD pre.length 0 = x := by rw [he]; simp
  have hl : l.length = pre.length + (r.length + 1) := by rw [he]; simp
  have hp : (pre ++ [x]).length = pre.length + 1 := by simp
  simp only [jy]; rw [<- hp]
  by_cases hx : x > l.getD b 0
  . rw [show decide (x > l.getD b 0) = true from zai hx, zaE]; refine pM l r (pre ++ [x]) pre.length (by rw [he]; simp) (by omega) (fun j hj => ?_) (fun j hj => ?_) (by omega)
    . rw [hp] at hj
      by_cases e : j = pre.length
      . subst e; omega
      . have := h1 j (by omega); omega
    . have := h1 j hj; omega
  . rw [show decide (x > l.getD b 0) = false from zaQ hx, zao]; refine pM l r (pre ++ [x]) b (by rw [he]; simp) hb (fun j hj => ?_) h2 (by omega); rw [hp] at hj
    by_cases e : j = pre.length
    . subst e; omega
    . exact h1 j (by omega)
theorem k8 {l : List Int} (h : l ≠ []) : (∀ j, j < l.length -> l.getD j 0 <= l.getD (dz l) 0) /\ ∀ j, j < dz l -> l.getD j 0 < l.getD (dz l) 0 :=
 pM l l [] 0 rfl (List.length_pos_iff.2 h) (fun j hj => by simp at hj) (fun j hj => by omega) (by simp)
theorem lP : ∀ (l : List Int), (∀ x ∈ l, x <= 0) -> l.sum <= 0
 | [], _ => by simp
 | x :: l, h => by
  have := h x (by simp); have := lP l (fun y hy => h y (by simp [hy])); rw [zbn]; omega
theorem oe {l : List Int} {x : Int} (h : x ∈ l) : ∃ j, j < l.length /\ l.getD j 0 = x := by
 obtain ⟨j, hj, rfl⟩ := List.getElem_of_mem h; exact ⟨j, hj, by rw [zah, zae hj]; rfl⟩
theorem wS {s : Int} (hs : 0 < s) : ∀ (k : Nat) (o l : List Int), o.length = l.length -> (∀ x ∈ l, 0 <= x /\ x < s) -> s * (k : Int) <= l.sum ->
 (gy 0 k o l).sum = o.sum + k /\ (∀ i, i < l.length -> (gy 0 k o l).getD i 0 = o.getD i 0 \/ ((gy 0 k o l).getD i 0 = o.getD i 0 + 1 /\ 0 < l.getD i 0)) /\
 ∀ i j, i < j -> j < l.length -> l.getD j 0 <= l.getD i 0 -> (gy 0 k o l).getD j 0 - o.getD j 0 <= (gy 0 k o l).getD i 0 - o.getD i 0
 | 0, o, l, hl, hb, hk => by simp [gy]
 | k + 1, o, l, hl, hb, hk => by
  have e1 : s * ((k + 1 : Nat) : Int) = s * k + s := by rw [zay, zb4]; simp
  rw [e1] at hk; have hk0 : 0 <= s * (k : Int) := za0 (by omega) (by omega); have hne : l ≠ [] := by rintro rfl; simp at hk; omega
  have hB := ku hne; obtain ⟨hm, hf⟩ := k8 hne; have hpos : 0 < l.getD (dz l) 0 := by
   rcases Int.lt_or_le 0 (l.getD (dz l) 0) with h | h
   . exact h
   . have := lP l (fun x hx => by
      obtain ⟨j, hj, rfl⟩ := oe hx; have := hm j hj; omega)
     omega
  have hmem := hb _ (jm hB); simp only [gy]; generalize hbb : dz l = b at *
  have hs' := so l b 0 hB; have ho' := so o b (o.getD b 0 + 1) (by omega); obtain ⟨g1, g2, g3⟩ := wS hs k (o.set b (o.getD b 0 + 1)) (l.set b 0) (by simp [hl]) (fun x hx => by
   rcases zbJ hx with h | h
   . exact hb x h
   . omega) (by omega)
  generalize gy 0 k (o.set b (o.getD b 0 + 1)) (l.set b 0) = y at *
  simp only [zbe] at g2 g3; refine ⟨by rw [g1, ho']; simp only [zay]; omega, fun i hi => ?_, fun i j hij hj hle => ?_⟩
  . have := g2 i hi; rw [hG _ _ _ _ (by omega), hG _ _ _ _ hB] at this
    by_cases e : i = b
    . subst e; simp only [↓reduceIte] at this; right; omega
    . simpa [e] using this
  . have a1 := g2 i (by omega); have a2 := g2 j hj; have a3 := g3 i j hij hj; rw [hG _ _ _ _ (by omega), hG _ _ _ _ hB] at a1 a2; rw [hG _ _ _ _ hB, hG _ _ _ _ hB, hG _ _ _ _ (by omega), hG _ _ _ _ (by omega)] at a3
    by_cases ei : i = b
    . subst ei; have ne : ¬ j = i := by omega
      simp only [↓reduceIte, ne] at a1 a2 a3; omega
    . by_cases ej : j = b
      . subst ej; have := hf i hij; omega
      . simp only [ei, ej, zbg] at a1 a2 a3; exact a3 hle
theorem ue (a s : Int) : ∀ l : List Int, s * (bE a s l).sum + (iD a s l).sum = a * l.sum
 | [] => by simp [bE, iD]
 | x :: l => by
  have := ue a s l; have e := zbc (a * x) s; show s * (a * x / s + (bE a s l).sum) + (a * x % s + (iD a s l).sum) = a * (x + l.sum)
  rw [zb4, zb4]; omega
theorem wA (f : Int -> Int) {l : List Int} {b : Nat} (h : b < l.length) : (l.map f).getD b 0 = f (l.getD b 0) := by
 simp [zah, zae h]
theorem Ed {a : Int} {l : List Int} (ha : 0 <= a) (hok : jV l = true) (hlt : a < l.sum) : (cu a l).sum = a /\
 (∀ i, i < l.length -> (cu a l).getD i 0 = a * l.getD i 0 / l.sum \/ ((cu a l).getD i 0 = a * l.getD i 0 / l.sum + 1 /\ 0 < a * l.getD i 0 % l.sum)) /\
 ∀ i j, i < j -> j < l.length -> a * l.getD j 0 % l.sum <= a * l.getD i 0 % l.sum -> (cu a l).getD j 0 - a * l.getD j 0 / l.sum <= (cu a l).getD i 0 - a * l.getD i 0 / l.sum := by
 obtain ⟨hb, hs, hs2⟩ := kb hok; have hr : ∀ x ∈ iD a l.sum l, 0 <= x /\ x < l.sum := by
  intro y hy; obtain ⟨x, hx, rfl⟩ := zbr.1 hy; exact ⟨zbp _ (by omega), zbd _ (by omega)⟩
 have hsum := ue a l.sum l; have hr0 := dS _ (fun x hx => (hr x hx).1); have hk : 0 <= a - (bE a l.sum l).sum := by
  have : l.sum * (bE a l.sum l).sum <= l.sum * a := by rw [za7 l.sum a]; omega
  have := Int.le_of_mul_le_mul_left this (by omega); omega
 have he : cu a l = gy 0 (a - (bE a l.sum l).sum).toNat (bE a l.sum l) (iD a l.sum l) := by
  unfold cu; rw [hok, hs, show max a 0 = a by omega, show decide (a >= l.sum) = false from zaQ (by omega)]; rfl
 have hl1 : (bE a l.sum l).length = l.length := by simp [bE]
 have hl2 : (iD a l.sum l).length = l.length := by simp [iD]
 have d := wS (s := l.sum) (by omega) (a - (bE a l.sum l).sum).toNat (bE a l.sum l) (iD a l.sum l) (by omega) hr (by
  rw [Int.toNat_of_nonneg hk, Int.mul_sub, za7 l.sum a]; omega)
 rw [<- he, hl2] at d; obtain ⟨d1, d2, d3⟩ := d; have ef : ∀ i, i < l.length -> (bE a l.sum l).getD i 0 = a * l.getD i 0 / l.sum := fun i hi => wA _ hi
 have er : ∀ i, i < l.length -> (iD a l.sum l).getD i 0 = a * l.getD i 0 % l.sum := fun i hi => wA _ hi
 refine ⟨by rw [d1, Int.toNat_of_nonneg hk]; omega, fun i hi => ?_, fun i j hij hj hle => ?_⟩
 . have := d2 i hi
   rwa [ef i hi, er i hi] at this
 . have := d3 i j hij hj (by rw [er i (by omega), er j hj]; exact hle)
   rwa [ef i (by omega), ef j hj] at this
theorem EX {a : Int} {l : List Int} (hok : jV l = true) (hge : l.sum <= max a 0) : cu a l = l := by
 obtain ⟨hb, hs, hs2⟩ := kb hok; unfold cu; rw [hok, hs, show decide (max a 0 >= l.sum) = true from zai hge]; rfl
theorem Ko {a x s : Int} (ha : 0 <= a) (hlt : a < s) (hx : 0 <= x) : 0 <= a * x / s /\ a * x / s <= x /\ (0 < a * x % s -> a * x / s + 1 <= x) := by
 have e := zbc (a * x) s; have hm : a * x <= (s - 1) * x := za6 (by omega) hx; have hsx : (s - 1) * x = s * x - x := by rw [Int.sub_mul, Int.one_mul]
 refine ⟨zbu (za0 ha hx) (by omega), Int.ediv_le_of_le_mul (by omega) (by rw [za7 x s]; omega), fun h => ?_⟩; have : s * (a * x / s) < s * x := by omega
 have := Int.lt_of_mul_lt_mul_left this (by omega); omega
theorem z7 {a : Int} {l : List Int} (ha : 0 <= a) (hok : jV l = true) : (cu a l).sum = min a l.sum /\ ∀ i, i < l.length -> 0 <= (cu a l).getD i 0 /\ (cu a l).getD i 0 <= l.getD i 0 := by
 obtain ⟨hb, hs, hs2⟩ := kb hok
 by_cases h : l.sum <= a
 . rw [EX hok (by omega)]; exact ⟨by omega, fun i hi => ⟨(hb _ (jm hi)).1, zcb _⟩⟩
 . obtain ⟨h1, h2, _⟩ := Ed ha hok (by omega); refine ⟨by omega, fun i hi => ?_⟩; have hx := hb _ (jm hi); have := Ko (a := a) (s := l.sum) ha (by omega) hx.1; rcases h2 i hi with h | ⟨h, h'⟩ <;> omega
def bD : List Bool -> List Int -> List Int
 | [], _ => []
 | false :: ms, l => 0 :: bD ms l
 | true :: ms, l => l.headD 0 :: bD ms l.tail
def iO : List Bool -> Nat -> Nat
 | [], _ => 0
 | false :: ms, i => iO ms i + 1
 | true :: _, 0 => 0
 | true :: ms, i + 1 => iO ms i + 1
def bC : List Bool -> Nat
 | [] => 0
 | false :: ms => bC ms
 | true :: ms => bC ms + 1
theorem jR : ∀ (ms : List Bool) (l : List Int), (bD ms l).length = ms.length
 | [], _ => rfl
 | false :: ms, l => by simp [bD, jR ms l]
 | true :: ms, l => by simp [bD, jR ms l.tail]
theorem rP : ∀ (ms : List Bool) (i : Nat), i < bC ms -> iO ms i < ms.length
 | [], i, h => by simp [bC] at h
 | false :: ms, i, h => by have := rP ms i h; simp [iO]; omega
 | true :: ms, 0, _ => by simp [iO]
 | true :: ms, i + 1, h => by have := rP ms i (by simpa [bC] using h); simp [iO]; omega
theorem qc : ∀ (ms : List Bool) (i j : Nat), i < j -> j < bC ms -> iO ms i < iO ms j
 | [], i, j, _, h => by simp [bC] at h
 | false :: ms, i, j, h, h2 => by have := qc ms i j h h2; simp [iO]; omega
 | true :: ms, 0, j + 1, _, _ => by simp [iO]
 | true :: ms, i + 1, j + 1, h, h2 => by have := qc ms i j (by omega) (by simpa [bC] using h2); simp [iO]; omega
theorem gH : ∀ (ms : List Bool) (l : List Int) (i : Nat), l.length = bC ms -> i < bC ms -> (bD ms l).getD (iO ms i) 0 = l.getD i 0
 | [], l, i, _, h => by simp [bC] at h
 | false :: ms, l, i, h, h2 => by simp only [bD, iO, zat]; exact gH ms l i h h2
 | true :: ms, [], i, h, _ => by simp [bC] at h
 | true :: ms, x :: l, 0, h, _ => by simp [bD, iO]
 | true :: ms, x :: l, i + 1, h, h2 => by
  simp only [bD, iO, zat, List.tail_cons]; exact gH ms l i (by simpa [bC] using h) (by simpa [bC] using h2)
theorem ow : ∀ (ms : List Bool) (l : List Int) (i : Nat) (v : Int), l.length = bC ms -> i < bC ms -> (bD ms l).set (iO ms i) v = bD ms (l.set i v)
 | [], l, i, v, _, h => by simp [bC] at h
 | false :: ms, l, i, v, h, h2 => by simp only [bD, iO, zbQ]; rw [ow ms l i v h h2]
 | true :: ms, [], i, v, h, _ => by simp [bC] at h
 | true :: ms, x :: l, 0, v, h, _ => by simp [bD, iO]
 | true :: ms, x :: l, i + 1, v, h, h2 => by
  simp only [bD, iO, zbQ, List.tail_cons, List.headD_cons]; rw [ow ms l i v (by simpa [bC] using h) (by simpa [bC] using h2)]
theorem rz : ∀ (ms : List Bool) (p : Nat), p < ms.length -> (∃ i, i < bC ms /\ p = iO ms i) \/ ∀ l, (bD ms l).getD p 0 = 0
 | [], p, h => by simp at h
 | false :: ms, 0, _ => .inr fun l => by simp [bD]
 | true :: ms, 0, _ => .inl ⟨0, by simp [bC], by simp [iO]⟩
 | false :: ms, p + 1, h => by
  rcases rz ms p (by simpa using h) with ⟨i, h1, h2⟩ | h2
  . exact .inl ⟨i, h1, by simp [iO, h2]⟩
  . exact .inr fun l => by simp only [bD, zat]; exact h2 l
 | true :: ms, p + 1, h => by
  rcases rz ms p (by simpa using h) with ⟨i, h1, h2⟩ | h2
  . exact .inl ⟨i + 1, by simp [bC, h1], by simp [iO, h2]⟩
  . exact .inr fun l => by simp only [bD, zat]; exact h2 _
theorem An {l : List Int} {b : Nat} (hb : b < l.length) (h1 : ∀ j, j < l.length -> l.getD j 0 <= l.getD b 0) (h2 : ∀ j, j < b -> l.getD j 0 < l.getD b 0) : dz l = b := by
 have hne : l ≠ [] := by rintro rfl; simp at hb
 obtain ⟨m1, m2⟩ := k8 hne; have hB := ku hne; rcases Nat.lt_trichotomy (dz l) b with h | h | h
 . have := h2 _ h; have := m1 b hb; omega
 . exact h
 . have := m2 _ h; have := h1 _ hB; omega
theorem zh (ms : List Bool) (l : List Int) (hl : l.length = bC ms) (hp : 0 < l.getD (dz l) 0) : dz (bD ms l) = iO ms (dz l) := by
 have hne : l ≠ [] := by rintro rfl; simp at hp
 obtain ⟨m1, m2⟩ := k8 hne; have hB := ku hne; rw [hl] at hB; refine An (by rw [jR]; exact rP ms _ hB) (fun j hj => ?_) (fun j hj => ?_)
 . rw [gH ms l _ hl hB]; rw [jR] at hj; rcases rz ms j hj with ⟨i, h1, rfl⟩ | h2
   . rw [gH ms l i hl h1]; exact m1 i (by omega)
   . rw [h2]; omega
 . rw [gH ms l _ hl hB]; have hj2 : j < ms.length := Nat.lt_trans hj (rP ms _ hB); rcases rz ms j hj2 with ⟨i, h1, rfl⟩ | h2
   . rw [gH ms l i hl h1]; refine m2 i ?_
     rcases Nat.lt_trichotomy i (dz l) with h | h | h
     . exact h
     . subst h; omega
     . have := qc ms _ _ h h1; omega
   . rw [h2]; exact hp
theorem w9 {s : Int} (hs : 0 < s) (ms : List Bool) : ∀ (k : Nat) (o l : List Int), o.length = bC ms -> l.length = bC ms -> (∀ x ∈ l, 0 <= x /\ x < s) -> s * (k : Int) <= l.sum ->
 gy 0 k (bD ms o) (bD ms l) = bD ms (gy 0 k o l)
 | 0, o, l, _, _, _, _ => rfl
 | k + 1, o, l, ho, hl, hb, hk => by
  have e1 : s * ((k + 1 : Nat) : Int) = s * k + s := by rw [zay, zb4]; simp
  rw [e1] at hk; have hk0 : 0 <= s * (k : Int) := za0 (by omega) (by omega); have hne : l ≠ [] := by rintro rfl; simp at hk; omega
  have hB := ku hne; obtain ⟨hm, hf⟩ := k8 hne; have hpos : 0 < l.getD (dz l) 0 := by
   rcases Int.lt_or_le 0 (l.getD (dz l) 0) with h | h
   . exact h
   . have := lP l (fun x hx => by
      obtain ⟨j, hj, rfl⟩ := oe hx; have := hm j hj; omega)
     omega
  have hmem := hb _ (jm hB); have hs' := so l (dz l) 0 hB; simp only [gy]; rw [zh ms l hl hpos, gH ms o _ ho (by omega), ow ms o _ _ ho (by omega), ow ms l _ _ hl (by omega)]; refine w9 hs ms k _ _ (by simpa using ho) (by simpa using hl) (fun x hx => ?_) (by omega); rcases zbJ hx with h | h
  . exact hb x h
  . omega
theorem oQ (f : Int -> Int) (h0 : f 0 = 0) : ∀ (ms : List Bool) (l : List Int), (bD ms l).map f = bD ms (l.map f)
 | [], _ => rfl
 | false :: ms, l => by simp [bD, h0, oQ f h0 ms l]
 | true :: ms, l => by
  simp only [bD, zaT, oQ f h0 ms l.tail]; cases l with
  | nil => simp [h0]
  | cons x l => simp
theorem lI : ∀ (ms : List Bool) (l : List Int), l.length = bC ms -> (bD ms l).sum = l.sum
 | [], l, h => by rw [zaB h]; rfl
 | false :: ms, l, h => by simp [bD, lI ms l h]
 | true :: ms, [], h => by simp [bC] at h
 | true :: ms, x :: l, h => by simp [bD, lI ms l (by simpa [bC] using h)]
theorem uL : ∀ (ms : List Bool) (l : List Int) (y : Int), y ∈ bD ms l -> y = 0 \/ y ∈ l
 | [], _, y, h => by simp [bD] at h
 | false :: ms, l, y, h => by
  simp only [bD, za3] at h; rcases h with h | h
  . exact .inl h
  . exact uL ms l y h
 | true :: ms, l, y, h => by
  simp only [bD, za3] at h; rcases h with h | h
  . cases l with
    | nil => exact .inl (by simpa using h)
    | cons x l => exact .inr (by simp at h; simp [h])
  . rcases uL ms l.tail y h with h | h
    . exact .inl h
    . exact .inr (List.mem_of_mem_tail h)
theorem D7 (ms : List Bool) (n : Int) (l : List Int) (hl : l.length = bC ms) (b : Int) (hb0 : 0 <= b) (hb : ∀ x ∈ l, 0 <= x /\ x <= b) (h4 : ms.length * b <= 1152921504606846976) :
 cu n (bD ms l) = bD ms (cu n l) := by
 have hlm : bC ms <= ms.length := by
  clear hl h4
  induction ms with
  | nil => simp [bC]
  | cons c ms ih => cases c <;> simp [bC] <;> omega
 have hlb : (l.length : Int) * b <= ms.length * b := za6 (by omega) hb0; obtain ⟨s1, o1⟩ := rY hb0 hb (by omega); have hb2 : ∀ x ∈ bD ms l, 0 <= x /\ x <= b := fun x hx => by
  rcases uL ms l x hx with h | h
  . omega
  . exact hb x h
 obtain ⟨s2, o2⟩ := rY hb0 hb2 (by rw [jR]; exact h4); rw [lI ms l hl] at s2; obtain ⟨hB, _, hs2⟩ := kb o1; have h0 := dS l (fun x hx => (hb x hx).1); unfold cu; rw [o1, o2, s1, s2]; simp only [zbC, zao]
 by_cases h : max n 0 >= l.sum
 . rw [zai h, zaE, zaE]
 . rw [zaQ h, zao, zao]; have ef : bE (max n 0) l.sum (bD ms l) = bD ms (bE (max n 0) l.sum l) := oQ (fun c => max n 0 * c / l.sum) (by simp) ms l; have er : iD (max n 0) l.sum (bD ms l) = bD ms (iD (max n 0) l.sum l) := oQ (fun c => max n 0 * c % l.sum) (by simp) ms l; have lf : (bE (max n 0) l.sum l).length = bC ms := by simpa [bE] using hl
   have lr : (iD (max n 0) l.sum l).length = bC ms := by simpa [iD] using hl
   rw [ef, er, lI ms _ lf]; have hr : ∀ x ∈ iD (max n 0) l.sum l, 0 <= x /\ x < l.sum := by
    intro y hy; obtain ⟨x, hx, rfl⟩ := zbr.1 hy; exact ⟨zbp _ (by omega), zbd _ (by omega)⟩
   have hsum := ue (max n 0) l.sum l; have hr0 := dS _ (fun x hx => (hr x hx).1); have hk : 0 <= max n 0 - (bE (max n 0) l.sum l).sum := by
    have : l.sum * (bE (max n 0) l.sum l).sum <= l.sum * max n 0 := by rw [za7 l.sum (max n 0)]; omega
    have := Int.le_of_mul_le_mul_left this (by omega); omega
   exact w9 (s := l.sum) (by omega) ms _ _ _ lf lr hr (by rw [Int.toNat_of_nonneg hk, Int.mul_sub, za7 l.sum (max n 0)]; omega)
theorem Mn {n c p : Int} (h1 : 0 <= n) (h2 : n < p) (h3 : p <= 1152921504606846976) (h4 : 0 <= c) (h5 : c <= 1152921504606846976) : mdV n c p 0 = n * c / p /\ nQ n c p 0 = true /\ 0 <= n * c / p /\ n * c / p <= c := by
 have h : n * c / p <= c := by
  have : n * c <= p * c := za6 (by omega) h4; exact Int.ediv_le_of_le_mul (by omega) (by rw [za7 c p]; exact this)
 have ok : nQ n c p 0 = true := by rw [CM h1 (by omega) h4 h5 (by omega) h3 (by omega) (by omega), Nv]; simp; omega
 exact ⟨by unfold mdV; rw [ok, Nv]; rfl, ok, zbu (za0 h1 h4) (by omega), h⟩
theorem Lb {n c s q : Int} (hq : q = n * c / s) (h1 : 0 <= n) (h2 : 0 < s) (h3 : s <= 1152921504606846976) (h4 : 0 <= c) :
 oy (oy (oy n * oy c) - oy (oy q * oy s)) = n * c % s := by
 show IntKind.u64.wrap (IntKind.u64.wrap (IntKind.u64.wrap n * IntKind.u64.wrap c) - IntKind.u64.wrap (IntKind.u64.wrap q * IntKind.u64.wrap s)) = n * c % s; simp only [lU]; rw [<- Int.mul_emod, <- Int.mul_emod, <- Int.sub_emod]; have e := zbc (n * c) s; have a := zbp (n * c) (show s ≠ 0 by omega); have b := zbd (n * c) h2; rw [<- hq] at e; rw [show n * c - q * s = n * c % s by rw [za7 q s]; omega]; exact Int.emod_eq_of_lt a (by omega)
theorem zi {α : Type} (pre done : List α) (x y : α) (rest : List α) (h : done.length = pre.length) : List.set (done ++ x :: rest) pre.length y = done ++ y :: rest := by rw [<- h]; simp
def Mq : aD := ⟨T65.tab, 100, ⟨[.ints .i64], [], 0⟩, ⟨[.int .i64, .bool], [], 0⟩, []⟩
abbrev yK : Type := Int × List Int × Int × Int
def rX (m : Nat) (k : yK -> Option (List Un)) : yK -> Option (List Un) := fun (a0, a1, a2, a3) =>
 bif decide (a3 < a2) then
 chk (inb a3 a1.length) <|
 chk (decide (a3.toNat < a1.length)) <|
 bif (decide ((a1.getD a3.toNat 0) < 0)) then
 some ([.i 0, .b false])
 else
 bif (decide ((a1.getD a3.toNat 0) > (w64 (1152921504606846976 - a0)))) then
 some ([.i 0, .b false])
 else
 k ((w64 (a0 + (a1.getD a3.toNat 0))), a1, a2, (w64 (a3 + 1)))
 else
 some ([.i a0, .b true])
def pD (m : Nat) : Nat -> yK -> Option (List Un) := br (rX m)
theorem qK (m : Nat) (n : Nat) : pD m (n + 1) = rX m (pD m n) := rfl
def Ba (F : yK -> Option (List Un)) : ba := ⟨[.lp [0, 1, 0, 1, 1], .blk 0, .code [1, 1, 1]], ⟨frm 26 [(4, .int .i64), (7, .ints .i64), (8, .int .i64), (9, .int .i64)], [], 0⟩, onU F⟩
theorem Mc (m : Nat) : ∀ n, HO Mq (Ba (pD m n)) := au ah T65.right (fun k => [Ba k]) (fun k h => (aL h aA)) fun k a => by kernel_rfl
def t100 (m : Nat) : List Int -> Option (List Un) := fun a0 =>
 pD m m (0, a0, (a0.length : Int), 0)
theorem Lf (m : Nat) : ∀ (rest pre : List Int) (s : Int) (n : Nat), rest.length < n -> 0 <= s -> s <= 1152921504606846976 -> (pre ++ rest).length < 1099511627776 ->
 pD m n (s, pre ++ rest, ((pre ++ rest).length : Int), (pre.length : Int)) = some [.i (oD rest s).1, .b (oD rest s).2] := by
 intro rest
 induction rest with
 | nil =>
  intro pre s n hn h1 h2 h3; obtain ⟨n, rfl⟩ := al n (by simp at hn; omega); rw [qK]; unfold rX; dsimp only; simp [aE, oD]
 | cons x rest ih =>
  intro pre s n hn h1 h2 h3; obtain ⟨n, rfl⟩ := al n (by simp at hn; omega); simp only [zad, zac] at h3 hn; rw [qK]; unfold rX; dsimp only; simp only [oD]
  by_cases c1 : x < 0
  . rw [zai c1, Bool.true_or, zaE]; simp (disch := omega) only [TRa, TRi, aa, LNl, LNi, zaa, bB]
  . by_cases c2 : x > 1152921504606846976 - s
    . rw [zai c2, Bool.or_true, zaE]; simp (disch := omega) only [TRa, TRi, aa, LNl, LNi, zaa, bB]
    . rw [zaQ c1, zaQ c2, zcc, zao]; have := ih (pre ++ [x]) (s + x) n (by omega) (by omega) (by omega) (by simp; omega); simp (disch := omega) only [TRa, TRi, aa, LNl, LNi, zaa, bB]; simp only [LNl, LNi, zaa] at this ⊢; exact this
def f100 : List Int -> Bool × List Un := fun a0 => (decide (a0.length < 1099511627776), [.i (gJ a0), .b (jV a0)])
theorem Jb (a0 : List Int) (hc : (decide (a0.length < 1099511627776)) = true) : ∃ m, t100 m a0 = some ([.i (gJ a0), .b (jV a0)]) := by
 exact ⟨a0.length + 1, Lf _ a0 [] 0 _ (by omega) (by omega) (by omega) (by simpa using zak hc)⟩
theorem E6 : ER 100 (mkE Mq.en Mq.ex f100) := an ah T65.right (fun m => [Ba (pD m m)]) (t := t100) (by kernel_rfl) (fun m => (aL (Mc m m) aA)) (fun m a => by kernel_rfl) fun a0 hc => Jb a0 hc
def Ir : Tb Tryz.prog LQ TE XX := T65.add 100 _ E6
def Ms : aD := ⟨Ir.tab, 140, ⟨[.int .i64, .int .i64, .ints .i64], [], 0⟩, ⟨[.buf 0 1, .buf 1 1], [.ints .i64, .ints .u64], 0⟩, []⟩
abbrev xl : Type := Int × Int × List Int × Int × Int × List Int × List Int
def rJ (m : Nat) (k : xl -> Option (List Un)) : xl -> Option (List Un) := fun (a0, a1, a2, a3, a4, a5, a6) =>
 bif decide (a4 < a3) then
 chk (inb a4 a2.length) <|
 chk (decide (a4.toNat < a2.length)) <|
 chk (inb a4 a5.length) <|
 chk (decide (a4.toNat < a5.length)) <|
 lt ((List.set a5 a4.toNat (mdV a0 (a2.getD a4.toNat 0) a1 0)) : List Int) fun l5 =>
 chk (inb a4 l5.length) <|
 chk (decide (a4.toNat < l5.length)) <|
 chk (inb a4 a6.length) <|
 chk (decide (a4.toNat < a6.length)) <|
 k (a0, a1, a2, a3, (w64 (a4 + 1)), l5, (List.set a6 a4.toNat (oy ((oy ((oy a0) * (oy (a2.getD a4.toNat 0)))) - (oy ((oy (l5.getD a4.toNat 0)) * (oy a1)))))))
 else
 some ([.l a5, .l a6])
def pq (m : Nat) : Nat -> xl -> Option (List Un) := br (rJ m)
theorem qP (m : Nat) (n : Nat) : pq m (n + 1) = rJ m (pq m n) := rfl
def AT (F : xl -> Option (List Un)) : ba := ⟨[.lp [0, 1, 0, 1, 1], .blk 0, .code [1, 1, 1]], ⟨frm 55 [(0, .int .i64), (1, .int .i64), (8, .buf 0 1), (9, .buf 1 1), (18, .ints .i64), (19, .int .i64), (20, .int .i64)], [.ints .i64, .ints .u64], 0⟩, onU F⟩
theorem MB (m : Nat) : ∀ n, HO Ms (AT (pq m n)) := au ah Ir.right (fun k => [AT k]) (fun k h => (aL h aA)) fun k a => by kernel_rfl
def t140 (m : Nat) : Int × Int × List Int -> Option (List Un) := fun (a0, a1, a2) =>
 chk (jC (a2.length : Int) 8) <|
 chk (jC (a2.length : Int) 8) <|
 pq m m (a0, a1, a2, (a2.length : Int), 0, (List.replicate a2.length 0), (List.replicate a2.length 0))
theorem Nc (m : Nat) (a s : Int) (h1 : 0 <= a) (h2 : a < s) (h3 : s <= 1152921504606846976) : ∀ (rest pre d1 d2 : List Int) (n : Nat), rest.length < n -> d1.length = pre.length -> d2.length = pre.length -> (∀ x ∈ rest, 0 <= x /\ x <= 1152921504606846976) -> (pre ++ rest).length < 1099511627776 ->
 pq m n (a, s, pre ++ rest, ((pre ++ rest).length : Int), (pre.length : Int), d1 ++ List.replicate rest.length 0, d2 ++ List.replicate rest.length 0) = some [.l (d1 ++ bE a s rest), .l (d2 ++ iD a s rest)] := by
 intro rest
 induction rest with
 | nil =>
  intro pre d1 d2 n hn p1 p2 hb h4; obtain ⟨n, rfl⟩ := al n (by simp at hn; omega); rw [qP]; unfold rJ; dsimp only; simp [aE, bE, iD]
 | cons x rest ih =>
  intro pre d1 d2 n hn p1 p2 hb h4; obtain ⟨n, rfl⟩ := al n (by simp at hn; omega); simp only [zad, zac] at h4 hn; rw [qP]; unfold rJ; dsimp only; simp only [zac, zbt]; have hx := hb x (by simp); obtain ⟨e1, _, _, _⟩ := Mn h1 h2 h3 hx.1 hx.2; have := ih (pre ++ [x]) (d1 ++ [a * x / s]) (d2 ++ [a * x % s]) n (by omega) (by simp; omega) (by simp; omega) (fun y hy => hb y (by simp [hy])) (by simp; omega); have le := Lb (n := a) (c := x) (s := s) rfl h1 (by omega) h3 hx.1; simp (disch := omega) only [TRa, TRi, aa, LNl, LNi, zaa, bB, e1, zi _ _ _ _ _ p1, EJ _ _ _ _ _ p1, zi _ _ _ _ _ p2]; rw [le]; simp only [LNl, LNi, zaa] at this ⊢; refine this.trans ?_
  simp [bE, iD]
def f140 : Int × Int × List Int -> Bool × List Un := fun (a0, a1, a2) => (decide (0 <= a0 /\ a0 < a1 /\ a1 <= 1152921504606846976 /\ a2.length < 1099511627776) && qe a2, [.l (bE a0 a1 a2), .l (iD a0 a1 a2)])
theorem Ks (a0 : Int) (a1 : Int) (a2 : List Int) (hc : (decide (0 <= a0 /\ a0 < a1 /\ a1 <= 1152921504606846976 /\ a2.length < 1099511627776) && qe a2) = true) : ∃ m, t140 m (a0, a1, a2) = some ([.l (bE a0 a1 a2), .l (iD a0 a1 a2)]) := by
 simp only [zab, zag, uR] at hc; obtain ⟨⟨h1, h2, h3, h4⟩, hb⟩ := hc; refine ⟨a2.length + 1, ?_⟩; unfold t140; simp (disch := omega) only [TRa, TRi, aa]; exact Nc (a2.length + 1) a0 a1 h1 h2 h3 a2 [] [] [] (a2.length + 1) (by omega) rfl rfl hb (by simpa using h4)
theorem FJ : ER 140 (mkE Ms.en Ms.ex f140) := an ah Ir.right (fun m => [AT (pq m m)]) (t := t140) (by kernel_rfl) (fun m => (aL (MB m m) aA)) (fun m a => by kernel_rfl) fun (a0, a1, a2) hc => Ks a0 a1 a2 hc
def Ei : Tb Tryz.prog LQ TE XX := Ir.add 140 _ FJ
def Ey : aD := ⟨Ei.tab, 134, ⟨[.int .i64, .ints .i64], [], 0⟩, ⟨[.buf 0 1], [.ints .i64], 0⟩, []⟩
abbrev y5 : Type := Int × Int × Int × Int × List Int × List Int
abbrev ky : Type := Int × List Int × List Int
abbrev yg : Type := Int × Int × Int × List Int × List Int
def sn (m : Nat) (k1 : ky -> Option (List Un)) (k : y5 -> Option (List Un)) : y5 -> Option (List Un) := fun (a0, a1, a2, a3, a4, a5) =>
 bif decide (a3 < a2) then
 chk (inb a3 a5.length) <|
 chk (decide (a3.toNat < a5.length)) <|
 chk (inb a1 a5.length) <|
 chk (decide (a1.toNat < a5.length)) <|
 bif (decide ((a5.getD a3.toNat 0) > (a5.getD a1.toNat 0))) then
 k (a0, a3, a2, (w64 (a3 + 1)), a4, a5)
 else
 k (a0, a1, a2, (w64 (a3 + 1)), a4, a5)
 else
 chk (inb a1 a4.length) <|
 chk (decide (a1.toNat < a4.length)) <|
 chk (inb a1 a4.length) <|
 chk (decide (a1.toNat < a4.length)) <|
 chk (inb a1 a5.length) <|
 chk (decide (a1.toNat < a5.length)) <|
 k1 ((w64 (a0 - 1)), (List.set a4 a1.toNat (w64 ((a4.getD a1.toNat 0) + 1))), (List.set a5 a1.toNat 0))
def pf (m : Nat) (k1 : ky -> Option (List Un)) : Nat -> y5 -> Option (List Un) := br (sn m k1)
theorem qE (m : Nat) (k1 : ky -> Option (List Un)) (n : Nat) : pf m k1 (n + 1) = sn m k1 (pf m k1 n) := rfl
def B9 (F : y5 -> Option (List Un)) : ba := ⟨[.lp [0, 1, 0, 1, 0, 0, 1, 0, 0, 0, 1, 1, 1, 1, 1, 1, 1, 1], .blk 4, .code [1, 1, 0, 0, 1, 0, 0, 0, 1, 1, 1, 1, 1, 1, 1, 1], .blk 3, .code [1, 1, 0, 0, 0, 1, 1, 1, 1, 1, 1, 1, 1], .lp [0, 0, 1, 1, 1, 1, 1, 1, 1, 1], .blk 2, .code [1, 1, 1, 1, 1, 1, 1, 1, 1]], ⟨frm 80 [(7, .buf 0 1), (8, .buf 1 1), (9, .int .i64), (12, .int .i64), (55, .int .i64), (56, .int .i64)], [.ints .i64, .ints .u64], 0⟩, onU F⟩
def sj (m : Nat) (k : ky -> Option (List Un)) : ky -> Option (List Un) := fun (a0, a1, a2) =>
 bif decide (a0 > 0) then
 pf m k m (a0, 0, (a2.length : Int), 0, a1, a2)
 else
 some ([.l a1])
def lD (m : Nat) : Nat -> ky -> Option (List Un) := br (sj m)
theorem qw (m : Nat) (n : Nat) : lD m (n + 1) = sj m (lD m n) := rfl
def xN (F : ky -> Option (List Un)) : ba := ⟨[.lp [0, 0, 1, 1, 1, 1, 1, 1, 1, 1], .blk 2, .code [1, 1, 1, 1, 1, 1, 1, 1, 1]], ⟨frm 80 [(7, .buf 0 1), (8, .buf 1 1), (9, .int .i64)], [.ints .i64, .ints .u64], 0⟩, onU F⟩
def rA (m : Nat) (k : yg -> Option (List Un)) : yg -> Option (List Un) := fun (a0, a1, a2, a3, a4) =>
 bif decide (a2 < a1) then
 chk (inb a2 a3.length) <|
 chk (decide (a2.toNat < a3.length)) <|
 k ((w64 (a0 - (a3.getD a2.toNat 0))), a1, (w64 (a2 + 1)), a3, a4)
 else
 lD m m (a0, a3, a4)
def pL (m : Nat) : Nat -> yg -> Option (List Un) := br (rA m)
theorem rf (m : Nat) (n : Nat) : pL m (n + 1) = rA m (pL m n) := rfl
def BZ (F : yg -> Option (List Un)) : ba := ⟨[.lp [0, 1, 0, 1, 1, 1, 1, 1, 1, 1], .blk 0, .code [1, 1, 1, 1, 1, 1, 1, 1]], ⟨frm 80 [(7, .buf 0 1), (8, .buf 1 1), (9, .int .i64), (40, .buf 0 1), (41, .int .i64), (42, .int .i64)], [.ints .i64, .ints .u64], 0⟩, onU F⟩
theorem M7 (m : Nat) (k1 : ky -> Option (List Un)) (h1 : HO Ey (xN k1)) : ∀ n, HO Ey (B9 (pf m k1 n)) := au ah Ei.right (fun k => [xN k1, B9 k]) (fun k h => (aL h1 (aL h aA))) fun k a => by kernel_rfl
theorem Mf (m : Nat) : ∀ n, HO Ey (xN (lD m n)) := au ah Ei.right (fun k => [B9 (pf m (k) m)]) (fun k h => (aL (M7 m _ h m) aA)) fun k a => by kernel_rfl
theorem M4 (m : Nat) : ∀ n, HO Ey (BZ (pL m n)) := au ah Ei.right (fun k => [BZ k, xN (lD m m)]) (fun k h => (aL h (aL (Mf m m) aA))) fun k a => by kernel_rfl
def t134 (m : Nat) : Int × List Int -> Option (List Un) := fun (a0, a1) =>
 chk (decide (a1.length < 1099511627776)) <|
 bif !(jV a1) then
 chk (jC (a1.length : Int) 8) <|
 some ([.l (List.replicate a1.length 0)])
 else
 lt ((if a0 < 0 then 0 else a0) : Int) fun x2 =>
 bif decide (x2 >= (gJ a1)) then
 chk (fits (0 + a1.length) 8) <|
 some ([.l a1])
 else
 chk (decide (0 <= x2 /\ x2 < (gJ a1) /\ (gJ a1) <= 1152921504606846976 /\ a1.length < 1099511627776) && qe a1) <|
 lt ((bE x2 (gJ a1) a1) : List Int) fun l3 =>
 pL m m (x2, (l3.length : Int), 0, l3, (iD x2 (gJ a1) a1))
theorem G4 (m : Nat) (k1 : ky -> Option (List Un)) (left : Int) (out lost : List Int) (h1 : 0 < left) (h2 : left < 4611686018427387904) (hl : out.length = lost.length) (hs : lost.length < 1099511627776)
 (hb : ∀ x ∈ out, 0 <= x /\ x < 4611686018427387904) : ∀ (rest pre : List Int) (b n : Nat), rest.length < n -> lost = pre ++ rest -> b < lost.length ->
 pf m k1 n (left, (b : Int), (lost.length : Int), (pre.length : Int), out, lost) =
  k1 (left - 1, out.set (jy lost rest pre.length b) (out.getD (jy lost rest pre.length b) 0 + 1), lost.set (jy lost rest pre.length b) 0) := by
 intro rest
 induction rest with
 | nil =>
  intro pre b n hn he hlt; obtain ⟨n, rfl⟩ := al n (by simp at hn; omega); have hp : pre.length = lost.length := by rw [he]; simp
  have hm := hb _ (jm (l := out) (i := b) (by omega)); rw [qE]; unfold sn; dsimp only; simp only [jy, zaC]; simp (disch := omega) only [TRa, TRi, aa]
 | cons x rest ih =>
  intro pre b n hn he hlt; obtain ⟨n, rfl⟩ := al n (by simp at hn; omega); have hp : lost.length = pre.length + (rest.length + 1) := by rw [he]; simp
  have hg : lost.getD pre.length 0 = x := by rw [he]; simp
  rw [qE]; unfold sn; dsimp only; simp only [jy, zaC, hg]; have i1 := ih (pre ++ [x]) pre.length n (by simp at hn; omega) (by rw [he]; simp) (by omega); have i2 := ih (pre ++ [x]) b n (by simp at hn; omega) (by rw [he]; simp) hlt; simp only [zad, zac, zax, zay, zaD, zaa] at i1 i2
  by_cases c : x > lost.getD b 0
  . simp (disch := omega) only [TRa, TRi, aa]; exact i1
  . simp (disch := omega) only [TRa, TRi, aa]; exact i2
theorem Gq (m : Nat) : ∀ (k : Nat) (left : Int) (out lost : List Int) (n : Nat), left.toNat = k -> k < n -> left < 4611686018427387904 -> out.length = lost.length -> lost.length < 1099511627776 -> lost.length < m -> lost ≠ [] -> (∀ x ∈ out, 0 <= x /\ x + left < 4611686018427387904) ->
 lD m n (left, out, lost) = some [.l (gy 0 k out lost)] := by
 intro k
 induction k with
 | zero =>
  intro left out lost n hk hn h2 hl hs hm hne hb; obtain ⟨n, rfl⟩ := al n (by omega); rw [qw]; unfold sj; dsimp only; simp only [gy]; rw [aE (by omega)]
 | succ k ih =>
  intro left out lost n hk hn h2 hl hs hm hne hb; obtain ⟨n, rfl⟩ := al n (by omega); rw [qw]; unfold sj; dsimp only; have hB := ku hne; rw [bF (by omega)]; have := G4 m (lD m n) left out lost (by omega) h2 hl hs (fun x hx => by have := hb x hx; omega) lost [] 0 m hm rfl (List.length_pos_iff.2 hne); simp only [zax, Int.natCast_zero] at this; refine this.trans ?_
  have hq := hb _ (jm (l := out) (i := dz lost) (by omega)); rw [show jy lost lost 0 0 = dz lost from rfl]; refine ih _ _ _ _ (by omega) (by omega) (by omega) (by simp [hl]) (by simpa using hs) (by simpa using hm) (by intro h; simp at h; exact hne h) (fun x hx => ?_); rcases zbJ hx with h | h
  . have := hb x h; omega
  . omega
theorem PY (m : Nat) (lost : List Int) : ∀ (rest pre : List Int) (left : Int) (n : Nat), rest.length < n -> (∀ x ∈ rest, 0 <= x /\ x <= 1152921504606846976) -> -1152921504606846976 <= left - rest.sum -> left <= 1152921504606846976 -> (pre ++ rest).length < 1099511627776 ->
 pL m n (left, ((pre ++ rest).length : Int), (pre.length : Int), pre ++ rest, lost) = lD m m (left - rest.sum, pre ++ rest, lost) := by
 intro rest
 induction rest with
 | nil =>
  intro pre left n hn hb h1 h2 h3; obtain ⟨n, rfl⟩ := al n (by simp at hn; omega); rw [rf]; unfold rA; dsimp only; simp [aE]
 | cons x rest ih =>
  intro pre left n hn hb h1 h2 h3; obtain ⟨n, rfl⟩ := al n (by simp at hn; omega); simp only [zad, zac] at h3 hn; have hx := hb x (by simp); have hs := dS rest (fun y hy => (hb y (by simp [hy])).1); rw [zbn] at h1 ⊢; rw [rf]; unfold rA; dsimp only; have := ih (pre ++ [x]) (left - x) n (by omega) (fun y hy => hb y (by simp [hy])) (by omega) (by omega) (by simp; omega); rw [show left - (x + rest.sum) = left - x - rest.sum by omega]; simp (disch := omega) only [TRa, TRi, aa, LNl, LNi, zaa, bB]; simp only [LNl, LNi, zaa] at this ⊢; exact this
def f134 : Int × List Int -> Bool × List Un := fun (a0, a1) => (decide (a0 <= 9223372036854775807 /\ a1.length < 1099511627776), [.l (cu a0 a1)])
theorem Jl (a0 : Int) (a1 : List Int) (hc : (decide (a0 <= 9223372036854775807 /\ a1.length < 1099511627776)) = true) : ∃ m, t134 m (a0, a1) = some ([.l (cu a0 a1)]) := by
 obtain ⟨h1, h2⟩ := zak hc; clear hc; refine ⟨1152921504606846976 + a1.length + 2, ?_⟩; unfold t134 cu; dsimp only; rw [aP h2]; cases hok : jV a1 with
 | false =>
  simp only [Bool.not_false, zaE]; simp (disch := omega) only [TRa, TRi, aa]
 | true =>
  simp only [zbC, zao]; obtain ⟨hb, hs, hs2⟩ := kb hok; simp only [lt_eq]; rw [kV a0 0]; generalize hn : max a0 0 = a; have ha : 0 <= a := by omega
  have hr : qe a1 = true := uR.2 hb
  by_cases hge : a >= gJ a1
  . simp only [show decide (a >= gJ a1) = true by simpa using hge, zaE]; simp (disch := omega) only [TRa, TRi, aa, zaD]
  . simp only [show decide (a >= gJ a1) = false by simpa using hge, zao]; obtain ⟨f1, f2, f3⟩ := xP (l := a1) ha (show a < gJ a1 by omega) hb; have hlf : (bE a (gJ a1) a1).length = a1.length := by simp [bE]
    have hlr : (iD a (gJ a1) a1).length = a1.length := by simp [iD]
    have hne : a1 ≠ [] := by rintro rfl; simp at hs; omega
    have e1 := PY (1152921504606846976 + a1.length + 2) (iD a (gJ a1) a1) (bE a (gJ a1) a1) [] a (1152921504606846976 + a1.length + 2) (by omega) f1 (by omega) (by omega) (by simp; omega); have e2 := Gq (1152921504606846976 + a1.length + 2) _ (a - (bE a (gJ a1) a1).sum) (bE a (gJ a1) a1) (iD a (gJ a1) a1) (1152921504606846976 + a1.length + 2) rfl (by omega) (by omega) (by omega) (by omega) (by omega)
     (by intro h; have := congrArg List.length h; rw [hlr] at this; exact hne (zaB this)) (fun x hx => by have := f1 x hx; omega)
    rw [hr, zbb]; simp (disch := omega) only [aP]; exact e1.trans e2
theorem FQ : ER 134 (mkE Ey.en Ey.ex f134) := an ah Ei.right (fun m => [BZ (pL m m)]) (t := t134) (by kernel_rfl) (fun m => (aL (M4 m m) aA)) (fun m a => by kernel_rfl) fun (a0, a1) hc => Jl a0 a1 hc
def Hv : Tb Tryz.prog LQ TE XX := Ei.add 134 _ FQ
@[ext] structure bc where
 ar : Int
 fee : Int
 bJ : Int
 aj : Int
 room : Int
instance : Uns bc := Uns.via (B := Int × Int × Int × Int × Int) (fun x => (x.ar, x.fee, x.bJ, x.aj, x.room)) (fun x => match x with | (ar, fee, bJ, aj, room) => ⟨ar, fee, bJ, aj, room⟩) (fun _ => rfl)
def isN : Dat -> Bool
 | .n _ => true
 | .r _ => false
def lu (k : Nat) : Dat -> Bool
 | .r l => l.length == k && l.all isN
 | .n _ => false
theorem B6 : ∀ {d : Dat}, isN d = true -> d = .n d.int
 | .n _, _ => rfl
 | .r _, h => by cases h
theorem Cm {d : Dat} (h : lu 3 d = true) : d = .r [.n (d.i 0), .n (d.i 1), .n (d.i 2)] := by
 match d, h with
 | .r [a, b, c], h =>
  simp [lu] at h; obtain ⟨h1, h2, h3⟩ := h; show Dat.r [a, b, c] = .r [.n a.int, .n b.int, .n c.int]; rw [<- B6 h1, <- B6 h2, <- B6 h3]
 | .r [], h => simp [lu] at h
 | .r [a], h => simp [lu] at h
 | .r [a, b], h => simp [lu] at h
 | .r (a :: b :: c :: d :: l), h => simp [lu] at h
def jI (d : Dat) : Bool := lu 3 d && decide (0 <= d.i 1 /\ d.i 1 <= 1125899906842624 /\ 0 <= d.i 2 /\ d.i 2 <= 1125899906842624)
theorem cm {d : Dat} (h : jI d = true) : lu 3 d = true /\ 0 <= d.i 1 /\ d.i 1 <= 1125899906842624 /\ 0 <= d.i 2 /\ d.i 2 <= 1125899906842624 := by
 simp only [jI, zab, zag] at h; exact h
def aQ (c : List Dat) : Bool := decide (c.length <= 1000) && c.all jI
theorem bL {c : List Dat} (h : aQ c = true) : c.length <= 1000 /\ ∀ d ∈ c, jI d = true := by
 simp only [aQ, zab, zag, zan] at h; exact h
theorem tv {c : List Dat} (h1 : c.length <= 1000) (h2 : ∀ d ∈ c, jI d = true) : aQ c = true := by
 simp only [aQ, zab, zag, zan]; exact ⟨h1, h2⟩
def b8 (j : Nat) (x : Int) (d : Dat) : Dat := if j = 1 then .r [.n (d.i 0), .n (d.i 1 - x), .n (d.i 2)] else .r [.n (d.i 0), .n (d.i 1), .n (d.i 2 - x)]
def bR (j : Nat) : List Int -> List Dat -> List Dat
 | x :: xs, d :: c => b8 j x d :: bR j xs c
 | _, _ => []
def bH (at_ kind : Int) : Int -> List Int -> List Dat
 | _, [] => []
 | i, x :: xs => (if 0 < x then [.r [.n at_, .n kind, .n i, .n x]] else []) ++ bH at_ kind (i + 1) xs
def jG (at_ kind n : Int) : List Dat := if 0 < n then [.r [.n at_, .n kind, .n (-1), .n n]] else []
def aq (sel : Dat -> Bool) (j : Nat) (n : Int) (c : List Dat) : List Int := cu n (c.map fun d => bif sel d then d.i j else 0)
def aH (r : Int) (d : Dat) : Bool := d.i 0 == r
def bt (at_ kind : Int) : Nat -> Int -> Int -> List Dat -> List Dat × List Dat × Int
 | 0, _, _, c => (c, [], 0)
 | k + 1, r, n, c =>
  ((bt at_ kind k (r + 1) (n - (aq (aH r) 1 n c).sum) (bR 1 (aq (aH r) 1 n c) c)).1,
   bH at_ kind 0 (aq (aH r) 1 n c) ++ (bt at_ kind k (r + 1) (n - (aq (aH r) 1 n c).sum) (bR 1 (aq (aH r) 1 n c) c)).2.1,
   (aq (aH r) 1 n c).sum + (bt at_ kind k (r + 1) (n - (aq (aH r) 1 n c).sum) (bR 1 (aq (aH r) 1 n c) c)).2.2)
def dt (at_ kind rank : Int) (x : bc) (c : List Dat) : bc × List Dat × List Dat :=
 if kind = 1 then ({ x with ar := x.ar - min x.fee x.ar, fee := x.fee - min x.fee x.ar }, c, jG at_ kind (min x.fee x.ar))
 else if kind = 2 then ({ x with ar := x.ar - min x.bJ x.ar, bJ := x.bJ - min x.bJ x.ar }, c, jG at_ kind (min x.bJ x.ar))
 else if kind = 6 then ({ x with ar := x.ar - min x.room x.ar, room := x.room - min x.room x.ar }, c, jG at_ kind (min x.room x.ar))
 else if kind = 3 then ({ x with ar := x.ar - (aq (aH rank) 2 x.ar c).sum }, bR 2 (aq (aH rank) 2 x.ar c) c, bH at_ kind 0 (aq (aH rank) 2 x.ar c))
 else if kind = 4 then ({ x with ar := x.ar - (bt at_ kind 8 0 (min x.aj x.ar) c).2.2, aj := x.aj - (bt at_ kind 8 0 (min x.aj x.ar) c).2.2 }, (bt at_ kind 8 0 (min x.aj x.ar) c).1, (bt at_ kind 8 0 (min x.aj x.ar) c).2.1)
 else if kind = 5 then ({ x with ar := x.ar - (aq (fun _ => true) 1 (min x.aj x.ar) c).sum, aj := x.aj - (aq (fun _ => true) 1 (min x.aj x.ar) c).sum }, bR 1 (aq (fun _ => true) 1 (min x.aj x.ar) c) c, bH at_ kind 0 (aq (fun _ => true) 1 (min x.aj x.ar) c))
 else if kind = 7 then ({ x with ar := x.ar - (bt at_ kind 8 0 x.ar c).2.2 }, (bt at_ kind 8 0 x.ar c).1, (bt at_ kind 8 0 x.ar c).2.1)
 else (x, c, [])
def dB : Int -> List Dat -> bc -> List Dat -> bc × List Dat × List Dat
 | _, [], x, c => (x, c, [])
 | at_, s :: l, x, c => ((dB (at_ + 1) l (dt at_ (s.i 0) (s.i 1) x c).1 (dt at_ (s.i 0) (s.i 1) x c).2.1).1, (dB (at_ + 1) l (dt at_ (s.i 0) (s.i 1) x c).1 (dt at_ (s.i 0) (s.i 1) x c).2.1).2.1, (dt at_ (s.i 0) (s.i 1) x c).2.2 ++ (dB (at_ + 1) l (dt at_ (s.i 0) (s.i 1) x c).1 (dt at_ (s.i 0) (s.i 1) x c).2.1).2.2)
def m7 (x : bc) : Bool := decide ((0 <= x.ar /\ x.ar <= 1152921504606846976) /\ (0 <= x.fee /\ x.fee <= 1152921504606846976) /\ (0 <= x.bJ /\ x.bJ <= 1152921504606846976) /\ (0 <= x.aj /\ x.aj <= 1152921504606846976) /\ (0 <= x.room /\ x.room <= 1152921504606846976))
theorem rR {x : bc} (h : m7 x = true) : (0 <= x.ar /\ x.ar <= 1152921504606846976) /\ (0 <= x.fee /\ x.fee <= 1152921504606846976) /\ (0 <= x.bJ /\ x.bJ <= 1152921504606846976) /\ (0 <= x.aj /\ x.aj <= 1152921504606846976) /\ (0 <= x.room /\ x.room <= 1152921504606846976) := zak h
def CB (sel : Dat -> Bool) (j : Nat) (c : List Dat) : Int := (c.map fun d => bif sel d then d.i j else 0).sum
theorem mD {c : List Dat} (sel : Dat -> Bool) {j : Nat} (hj : j = 1 \/ j = 2) (h : aQ c = true) : (∀ x ∈ (c.map fun d => bif sel d then d.i j else 0), 0 <= x /\ x <= 1125899906842624) /\ jV (c.map fun d => bif sel d then d.i j else 0) = true /\ 0 <= CB sel j c /\ CB sel j c <= 1125899906842624 * c.length := by
 obtain ⟨h1, h2⟩ := bL h; have hb : ∀ x ∈ (c.map fun d => bif sel d then d.i j else 0), 0 <= x /\ x <= 1125899906842624 := by
  intro x hx; obtain ⟨d, hd, rfl⟩ := zbr.1 hx; have := cm (h2 d hd); cases sel d
  . simp only [zao]; omega
  . rcases hj with rfl | rfl <;> simp only [zaE] <;> omega
 have hl : (c.map fun d => bif sel d then d.i j else 0).length = c.length := by simp
 have hm : ((c.map fun d => bif sel d then d.i j else 0).length : Int) * 1125899906842624 <= 1152921504606846976 := by rw [hl]; omega
 have hs := pN _ 1125899906842624 (by decide) hb; rw [hl] at hs; exact ⟨hb, (rY (by decide) hb hm).2, hs.1, by unfold CB; omega⟩
theorem zT {n : Int} {l : List Int} (h : n <= 0) : cu n l = cu 0 l := by
 unfold cu; rw [show max n 0 = max 0 0 by omega]
theorem dM {c : List Dat} (sel : Dat -> Bool) {j : Nat} (hj : j = 1 \/ j = 2) (n : Int) (h : aQ c = true) : (aq sel j n c).length = c.length /\ (aq sel j n c).sum = min (max n 0) (CB sel j c) /\ ∀ i, i < c.length -> 0 <= (aq sel j n c).getD i 0 /\ (aq sel j n c).getD i 0 <= bif sel (ag c i) then (ag c i).i j else 0 := by
 obtain ⟨hb, ho, hw0, hw1⟩ := mD sel hj h; have e : aq sel j n c = cu (max n 0) (c.map fun d => bif sel d then d.i j else 0) := by
  by_cases hn : 0 <= n
  . rw [show max n 0 = n by omega]; rfl
  . rw [show max n 0 = 0 by omega]; exact zT (by omega)
 rw [e]; obtain ⟨h1, h2⟩ := z7 (a := max n 0) (by omega) ho; refine ⟨by rw [sZ]; simp, h1, fun i hi => ?_⟩; have := h2 i (by simpa using hi)
 rwa [show (c.map fun d => bif sel d then d.i j else 0).getD i 0 = bif sel (ag c i) then (ag c i).i j else 0 by simp [zah, hi, ag]] at this
theorem lE (j : Nat) : ∀ (xs : List Int) (c : List Dat), xs.length = c.length -> (bR j xs c).length = c.length
 | [], [], _ => rfl
 | x :: xs, d :: c, h => by simp [bR, lE j xs c (by simpa using h)]
 | [], _ :: _, h => by simp at h
 | _ :: _, [], h => by simp at h
theorem ml (j : Nat) : ∀ (xs : List Int) (c : List Dat) (i : Nat), xs.length = c.length -> i < c.length -> ag (bR j xs c) i = b8 j (xs.getD i 0) (ag c i)
 | [], [], i, _, h => by simp at h
 | x :: xs, d :: c, 0, _, _ => rfl
 | x :: xs, d :: c, i + 1, h, hi => ml j xs c i (by simpa using h) (by simpa using hi)
 | [], _ :: _, _, h, _ => by simp at h
 | _ :: _, [], _, h, _ => by simp at h
theorem o9 {l : List Dat} {d : Dat} (h : d ∈ l) : ∃ i, i < l.length /\ ag l i = d := by
 obtain ⟨i, hi, rfl⟩ := List.getElem_of_mem h; exact ⟨i, hi, mj hi⟩
theorem mN {l : List Dat} {i : Nat} (h : i < l.length) : ag l i ∈ l := by rw [mj h]; exact zbv h
theorem AD {d : Dat} {j : Nat} {x : Int} (hj : j = 1 \/ j = 2) (h : jI d = true) (h0 : 0 <= x) (h1 : x <= d.i j) : jI (b8 j x d) = true := by
 have := cm h; rcases hj with rfl | rfl
 . simp only [b8, za8, jI, zab, zag, et, iB]; exact ⟨rfl, by omega⟩
 . simp only [b8, show ¬ (2 : Nat) = 1 by decide, zbg, jI, zab, zag, et, iB]; exact ⟨rfl, by omega⟩
theorem o8 {c : List Dat} (sel : Dat -> Bool) {j : Nat} (hj : j = 1 \/ j = 2) (n : Int) (h : aQ c = true) : aQ (bR j (aq sel j n c) c) = true /\ (bR j (aq sel j n c) c).length = c.length := by
 obtain ⟨l1, l2, l3⟩ := dM sel hj n h; obtain ⟨h1, h2⟩ := bL h; have hl := lE j _ c l1; refine ⟨tv (by omega) fun d hd => ?_, hl⟩; obtain ⟨i, hi, rfl⟩ := o9 hd; rw [hl] at hi; rw [ml j _ c i l1 hi]; have := l3 i hi; have hg := h2 _ (mN hi); refine AD hj hg this.1 ?_
 have h4 := cm hg; cases hs : sel (ag c i) <;> rw [hs] at this
 . rcases hj with rfl | rfl <;> simp only [zao] at this <;> omega
 . exact this.2
theorem jh (a k : Int) : ∀ (xs : List Int) (i : Int), (bH a k i xs).length <= xs.length
 | [], i => by simp [bH]
 | x :: xs, i => by
  have := jh a k xs (i + 1); simp only [bH, zad, zac]
  split <;> simp <;> omega
theorem Cc (a k n : Int) : (jG a k n).length <= 1 := by unfold jG; split <;> simp
theorem uq (a kd : Int) : ∀ (k : Nat) (r n : Int) (c : List Dat), aQ c = true -> aQ (bt a kd k r n c).1 = true /\ (bt a kd k r n c).1.length = c.length /\ (bt a kd k r n c).2.1.length <= k * c.length /\ 0 <= (bt a kd k r n c).2.2 /\ (bt a kd k r n c).2.2 <= max n 0
 | 0, r, n, c, h => ⟨h, rfl, by simp [bt], by simp [bt], by simp only [bt]; omega⟩
 | k + 1, r, n, c, h => by
  obtain ⟨g1, g2⟩ := o8 (aH r) (j := 1) (.inl rfl) n h; obtain ⟨l1, l2, l3⟩ := dM (aH r) (j := 1) (.inl rfl) n h; obtain ⟨_, _, w0, w1⟩ := mD (aH r) (j := 1) (.inl rfl) h; obtain ⟨i1, i2, i3, i4, i5⟩ := uq a kd k (r + 1) (n - (aq (aH r) 1 n c).sum) _ g1; have hp := jh a kd (aq (aH r) 1 n c) 0; simp only [bt]; refine ⟨i1, by omega, ?_, by omega, by omega⟩; rw [zad, za5]; rw [g2] at i3; omega
theorem uc (a kd rk : Int) {x : bc} {c : List Dat} (hx : m7 x = true) (h : aQ c = true) : m7 (dt a kd rk x c).1 = true /\ aQ (dt a kd rk x c).2.1 = true /\ (dt a kd rk x c).2.1.length = c.length /\ (dt a kd rk x c).2.2.length <= 8000 := by
 have hx' := rR hx; have hc := (bL h).1; have p1 := Cc a kd; have s2 := fun sel j hj n => dM (c := c) sel (j := j) hj n h
 have w2 := fun sel j hj => (mD (c := c) sel (j := j) hj h).2.2
 have g2 := fun sel j hj n => o8 (c := c) sel (j := j) hj n h
 have r2 := fun n => uq a kd 8 0 n c h
 unfold dt
 by_cases k1 : kd = 1
 . rw [if_pos k1]; exact ⟨zai (by simp only; omega), h, rfl, by have := p1 (min x.fee x.ar); simp only; omega⟩
 rw [if_neg k1]
 by_cases k1 : kd = 2
 . rw [if_pos k1]; exact ⟨zai (by simp only; omega), h, rfl, by have := p1 (min x.bJ x.ar); simp only; omega⟩
 rw [if_neg k1]
 by_cases k1 : kd = 6
 . rw [if_pos k1]; exact ⟨zai (by simp only; omega), h, rfl, by have := p1 (min x.room x.ar); simp only; omega⟩
 rw [if_neg k1]
 by_cases k1 : kd = 3
 . rw [if_pos k1]; have q1 := s2 (aH rk) 2 (.inr rfl) x.ar; have q2 := w2 (aH rk) 2 (.inr rfl); have q3 := g2 (aH rk) 2 (.inr rfl) x.ar; have q4 := jh a kd (aq (aH rk) 2 x.ar c) 0; exact ⟨zai (by simp only; omega), q3.1, q3.2, by simp only; omega⟩
 rw [if_neg k1]
 by_cases k1 : kd = 4
 . rw [if_pos k1]; have q := r2 (min x.aj x.ar); generalize bt a kd 8 0 (min x.aj x.ar) c = y at *
   exact ⟨zai (by simp only; omega), q.1, q.2.1, by simp only; omega⟩
 rw [if_neg k1]
 by_cases k1 : kd = 5
 . rw [if_pos k1]; have q1 := s2 (fun _ => true) 1 (.inl rfl) (min x.aj x.ar); have q2 := w2 (fun _ => true) 1 (.inl rfl); have q3 := g2 (fun _ => true) 1 (.inl rfl) (min x.aj x.ar); have q4 := jh a kd (aq (fun _ => true) 1 (min x.aj x.ar) c) 0; exact ⟨zai (by simp only; omega), q3.1, q3.2, by simp only; omega⟩
 rw [if_neg k1]
 by_cases k1 : kd = 7
 . rw [if_pos k1]; have q := r2 x.ar; generalize bt a kd 8 0 x.ar c = y at *
   exact ⟨zai (by simp only; omega), q.1, q.2.1, by simp only; omega⟩
 rw [if_neg k1]; exact ⟨hx, h, rfl, by simp⟩
theorem CO : ∀ (l : List Dat) (a : Int) (x : bc) (c : List Dat), m7 x = true -> aQ c = true -> m7 (dB a l x c).1 = true /\ aQ (dB a l x c).2.1 = true /\ (dB a l x c).2.1.length = c.length /\ (dB a l x c).2.2.length <= 8000 * l.length
 | [], a, x, c, hx, h => ⟨hx, h, rfl, by simp [dB]⟩
 | s :: l, a, x, c, hx, h => by
  obtain ⟨h1, h2, h3, h4⟩ := uc a (s.i 0) (s.i 1) hx h; obtain ⟨i1, i2, i3, i4⟩ := CO l (a + 1) _ _ h1 h2; simp only [dB, zad, zac]; exact ⟨i1, i2, by omega, by omega⟩
def gm (sel : Dat -> Bool) : Int -> List Dat -> List Int
 | _, [] => []
 | i, d :: c => bif sel d then i :: gm sel (i + 1) c else gm sel (i + 1) c
def dk (sel : Dat -> Bool) (j : Nat) : List Dat -> List Int
 | [] => []
 | d :: c => bif sel d then d.i j :: dk sel j c else dk sel j c
def j9 (j : Nat) : List Int -> List Int -> List Dat -> List Dat
 | w :: ws, x :: xs, c => j9 j ws xs (c.set w.toNat (b8 j x (ag c w.toNat)))
 | _, _, c => c
def rl (at_ kind : Int) : List Int -> List Int -> List Dat
 | w :: ws, x :: xs => (if 0 < x then [.r [.n at_, .n kind, .n w, .n x]] else []) ++ rl at_ kind ws xs
 | _, _ => []
theorem EM {j : Nat} {d : Dat} (h : lu 3 d = true) : b8 j 0 d = d := by
 have e := Cm h; unfold b8; rw [zbm, zbm, <- e]
 split <;> rfl
theorem mZ (sel : Dat -> Bool) (j : Nat) : ∀ (rest pre : List Dat) (xs : List Int), xs.length = bC (rest.map sel) -> (∀ d ∈ rest, lu 3 d = true) ->
 j9 j (gm sel pre.length rest) xs (pre ++ rest) = pre ++ bR j (bD (rest.map sel) xs) rest
 | [], pre, xs, h, _ => by rw [zaB h]; simp [gm, j9, bR, bD]
 | d :: rest, pre, xs, h, hr => by
  have ih := fun xs h y => mZ sel j rest (pre ++ [y]) xs h (fun z hz => hr z (by simp [hz]))
  simp only [zad, zac, zax, zaI, zaY, zaV, zay, zaa, zaD] at ih; simp only [zaT] at h; cases hs : sel d
  . rw [hs] at h; simp only [gm, hs, zao, zaT, bD, bR]; rw [EM (hr d (by simp)), <- ih xs h d]
  . rw [hs] at h; cases xs with
    | nil => simp [bC] at h
    | cons x xs =>
     simp only [gm, hs, zaE, zaT, bD, bR, j9, zaC, C7, ax, List.headD_cons, List.tail_cons]; exact ih xs (by simpa [bC] using h) _
theorem nY (a k : Int) (sel : Dat -> Bool) : ∀ (rest : List Dat) (i : Int) (xs : List Int), xs.length = bC (rest.map sel) -> rl a k (gm sel i rest) xs = bH a k i (bD (rest.map sel) xs)
 | [], i, xs, h => by rw [zaB h]; rfl
 | d :: rest, i, xs, h => by
  have ih := fun xs h => nY a k sel rest (i + 1) xs h
  simp only [zaT] at h; cases hs : sel d
  . rw [hs] at h; simp only [gm, hs, zao, zaT, bD, bH]; rw [ih xs h]; rfl
  . rw [hs] at h; cases xs with
    | nil => simp [bC] at h
    | cons x xs =>
     simp only [gm, hs, zaE, zaT, bD, bH, rl, List.headD_cons, List.tail_cons]; rw [ih xs (by simpa [bC] using h)]
theorem wY (sel : Dat -> Bool) (j : Nat) : ∀ c : List Dat, (c.map fun d => bif sel d then d.i j else 0) = bD (c.map sel) (dk sel j c)
 | [] => rfl
 | d :: c => by
  have := wY sel j c; simp only [zaT, dk]; cases hs : sel d <;> simp [bD, this]
theorem tM (sel : Dat -> Bool) (j : Nat) : ∀ c : List Dat, (dk sel j c).length = bC (c.map sel)
 | [] => rfl
 | d :: c => by
  have := tM sel j c; cases hs : sel d <;> simp [dk, hs, bC, this]
theorem oj (sel : Dat -> Bool) : ∀ (c : List Dat) (i : Int), (gm sel i c).length = bC (c.map sel)
 | [], _ => rfl
 | d :: c, i => by
  have := oj sel c (i + 1); cases hs : sel d <;> simp [gm, hs, bC, this]
theorem kj : ∀ ms : List Bool, bC ms <= ms.length
 | [] => zam _
 | false :: ms => by have := kj ms; simp [bC]; omega
 | true :: ms => by have := kj ms; simp [bC]; omega
theorem oH (sel : Dat -> Bool) : ∀ (c : List Dat) (i : Int), ∀ w ∈ gm sel i c, i <= w /\ w < i + c.length
 | [], i, w, h => by simp [gm] at h
 | d :: c, i, w, h => by
  have ih := oH sel c (i + 1) w; simp only [zac, zay]; cases hs : sel d <;> simp only [gm, hs, zao, zaE, za3] at h
  . have := ih h; omega
  . rcases h with h | h
    . omega
    . have := ih h; omega
theorem nZ (sel : Dat -> Bool) (j : Nat) : ∀ c : List Dat, ∀ x ∈ dk sel j c, ∃ d ∈ c, x = d.i j
 | [], x, h => by simp [dk] at h
 | d :: c, x, h => by
  cases hs : sel d <;> simp only [dk, hs, zao, zaE, za3] at h
  . obtain ⟨e, h1, h2⟩ := nZ sel j c x h; exact ⟨e, by simp [h1], h2⟩
  . rcases h with h | h
    . exact ⟨d, by simp, h⟩
    . obtain ⟨e, h1, h2⟩ := nZ sel j c x h; exact ⟨e, by simp [h1], h2⟩
theorem ju (sel : Dat -> Bool) {j : Nat} (hj : j = 1 \/ j = 2) (n : Int) {c : List Dat} (h : aQ c = true) : aq sel j n c = bD (c.map sel) (cu n (dk sel j c)) := by
 obtain ⟨h1, h2⟩ := bL h; unfold aq; rw [wY]; refine D7 (c.map sel) n (dk sel j c) (tM sel j c) 1125899906842624 (by decide) (fun x hx => ?_) (by simp; omega); obtain ⟨d, hd, rfl⟩ := nZ sel j c x hx; have := cm (h2 d hd); rcases hj with rfl | rfl <;> omega
theorem u6 (sel : Dat -> Bool) {j : Nat} (hj : j = 1 \/ j = 2) (n : Int) {c : List Dat} (h : aQ c = true) : (cu n (dk sel j c)).length = bC (c.map sel) /\ (∀ x ∈ cu n (dk sel j c), 0 <= x /\ x <= 1125899906842624) /\ 0 <= (cu n (dk sel j c)).sum /\ (cu n (dk sel j c)).sum <= 1125899906842624000 /\ (cu n (dk sel j c)).sum = (aq sel j n c).sum := by
 obtain ⟨h1, h2⟩ := bL h; have hb : ∀ x ∈ dk sel j c, 0 <= x /\ x <= 1125899906842624 := fun x hx => by
  obtain ⟨d, hd, rfl⟩ := nZ sel j c x hx; have := cm (h2 d hd); rcases hj with rfl | rfl <;> omega
 have hl := tM sel j c; have ht := kj (c.map sel); rw [zba] at ht; have hok := (rY (l := dk sel j c) (b := 1125899906842624) (by decide) hb (by omega)).2; have e : cu n (dk sel j c) = cu (max n 0) (dk sel j c) := by
  by_cases hn : 0 <= n
  . rw [show max n 0 = n by omega]
  . rw [show max n 0 = 0 by omega]; exact zT (by omega)
 obtain ⟨p1, p2⟩ := z7 (a := max n 0) (by omega) hok; have hm : ∀ x ∈ cu n (dk sel j c), 0 <= x /\ x <= 1125899906842624 := by
  intro x hx; obtain ⟨i, hi, rfl⟩ := oe hx; rw [sZ] at hi; rw [e]; have := p2 i hi; have := hb _ (jm hi); omega
 have hlen : (cu n (dk sel j c)).length = bC (c.map sel) := by rw [sZ, hl]
 have hs := pN _ _ (by decide) hm; rw [hlen] at hs; refine ⟨hlen, hm, hs.1, by omega, ?_⟩; rw [ju sel hj n h, lI _ _ hlen]
def Jf : aD := ⟨Hv.tab, 108, ⟨[.ptr 0 0 0, .int .i64, .fn 135 [] [.ptr 3 0 0], .fn 110 [] []], [.cells [.int .i64, .int .i64, .int .i64, .int .i64, .int .i64, .buf 1 3, .int .i64, .int .i64, .buf 2 4], .ai (sI 3), .ai (sI 4), .cells [.int .i64]], 0⟩, ⟨[.int .i64], [.cells [.int .i64, .int .i64, .int .i64, .int .i64, .int .i64, .buf 1 3, .int .i64, .int .i64, .buf 4 4], .ai (sI 3), .gone, .gone, .ai (sI 4)], 0⟩, []⟩
abbrev yL : Type := Int × Int × Int × bc × Int × Int × List Dat × List Int × List Int × List Dat
abbrev xG : Type := Int × Int × Int × bc × Int × Int × List Dat × Int × List Int × List Int × List Dat
def sh (m : Nat) (k : yL -> Option (List Un)) : yL -> Option (List Un) := fun (a0, a1, a2, a3, a4, a5, a6, a7, a8, a9) =>
 bif decide (a2 < a1) then
 chk (inb a2 a8.length) <|
 chk (decide (a2.toNat < a8.length)) <|
 chk (inb a2 a7.length) <|
 chk (decide (a2.toNat < a7.length)) <|
 chk (inb (a7.getD a2.toNat 0) a6.length) <|
 chk (decide ((a7.getD a2.toNat 0).toNat < a6.length)) <|
 chk (decide ((a7.getD a2.toNat 0).toNat < a6.length)) <|
 lt (ag a6 ((a7.getD a2.toNat 0).toNat) : Dat) fun d4 =>
 lt ((List.set a6 ((a7.getD a2.toNat 0).toNat) (.r [.n (d4.i 0), .n (d4.i 1), .n (w64 (((ag a6 ((a7.getD a2.toNat 0).toNat)).i 2) - (a8.getD a2.toNat 0)))])) : List Dat) fun l5 =>
 lt ((w64 (a0 + (a8.getD a2.toNat 0))) : Int) fun x6 =>
 chk (inb a2 a7.length) <|
 chk (decide (a2.toNat < a7.length)) <|
 bif (decide ((a8.getD a2.toNat 0) > 0)) then
 chk (fits (a9.length + 1) 32) <|
 k (x6, a1, (w64 (a2 + 1)), a3, a4, a5, l5, a7, a8, (a9 ++ ([.r [.n a4, .n a5, .n (a7.getD a2.toNat 0), .n (a8.getD a2.toNat 0)]])))
 else
 k (x6, a1, (w64 (a2 + 1)), a3, a4, a5, l5, a7, a8, a9)
 else
 some ([.i a0] ++ Uns.enc (({ a3 with ar := (w64 (a3.ar - a0)) } : bc) : bc) ++ [.i a4, .i a5, .d a6, .d a9])
def nB (m : Nat) : Nat -> yL -> Option (List Un) := br (sh m)
theorem qY (m : Nat) (n : Nat) : nB m (n + 1) = sh m (nB m n) := rfl
def Cs (F : yL -> Option (List Un)) : ba := ⟨[.lp [0, 1, 0, 1, 1, 1, 1], .blk 2, .code [1, 1, 1, 1, 1]], ⟨frm 88 [(0, .ptr 0 0 0), (3, .fn 110 [] []), (9, .buf 4 1), (13, .int .i64), (44, .buf 5 1), (45, .int .i64), (46, .int .i64)], [.cells [.int .i64, .int .i64, .int .i64, .int .i64, .int .i64, .buf 1 3, .int .i64, .int .i64, .buf 6 4], .ai (sI 3), .gone, .gone, .ints .i64, .ints .i64, .ai (sI 4)], 0⟩, onU F⟩
def rS (m : Nat) (k : xG -> Option (List Un)) : xG -> Option (List Un) := fun (a0, a1, a2, a3, a4, a5, a6, a7, a8, a9, a10) =>
 bif decide (a2 < a1) then
 chk (inb a2 a6.length) <|
 chk (decide (a2.toNat < a6.length)) <|
 lt (ag a6 a2.toNat : Dat) fun d1 =>
 bif (d1.i 0) == a7 then
 chk (fits (a8.length + 1) 8) <|
 chk (fits (a9.length + 1) 8) <|
 k (a0, a1, (w64 (a2 + 1)), a3, a4, a5, a6, a7, (a8 ++ ([a2])), (a9 ++ ([(d1.i 2)])), a10)
 else
 k (a0, a1, (w64 (a2 + 1)), a3, a4, a5, a6, a7, a8, a9, a10)
 else
 chk (decide (a0 <= 9223372036854775807 /\ a9.length < 1099511627776)) <|
 nB m m (0, ((cu a0 a9).length : Int), 0, a3, a4, a5, a6, a8, (cu a0 a9), a10)
def pW (m : Nat) : Nat -> xG -> Option (List Un) := br (rS m)
theorem qF (m : Nat) (n : Nat) : pW m (n + 1) = rS m (pW m n) := rfl
def BT (F : xG -> Option (List Un)) : ba := ⟨[.lp [0, 1, 0, 1, 1], .blk 0, .code [1, 1, 1]], ⟨frm 88 [(0, .ptr 0 0 0), (1, .int .i64), (2, .fn 135 [] [.ptr 4 0 0]), (3, .fn 110 [] []), (9, .buf 5 1), (10, .buf 6 1), (20, .buf 1 3), (21, .int .i64), (22, .int .i64)], [.cells [.int .i64, .int .i64, .int .i64, .int .i64, .int .i64, .buf 1 3, .int .i64, .int .i64, .buf 7 4], .ai (sI 3), .gone, .gone, .cells [.int .i64], .ints .i64, .ints .i64, .ai (sI 4)], 0⟩, onU F⟩
theorem Mz (m : Nat) : ∀ n, HO Jf (Cs (nB m n)) := au ah Hv.right (fun k => [Cs k]) (fun k h => (aL h aA)) fun k a => by kernel_rfl
theorem Mo (m : Nat) : ∀ n, HO Jf (BT (pW m n)) := au ah Hv.right (fun k => [BT k, Cs (nB m m)]) (fun k h => (aL h (aL (Mz m m) aA))) fun k a => by kernel_rfl
def MH (m : Nat) : Int × bc × Int × Int × List Dat × List Dat × Int -> Option (List Un) := fun (a0, a1, a2, a3, a4, a5, a6) =>
 pW m m (a0, (a4.length : Int), 0, a1, a2, a3, a4, a6, [], [], a5)
theorem KY (m : Nat) (nn : Int) (hnn : nn <= 9223372036854775807) (y : bc) (q kd : Int) (rk : Int) (out : List Dat) : ∀ (rest pre : List Dat) (n : Nat) (who what : List Int), rest.length < n -> (pre ++ rest).length <= 1000 -> who.length <= pre.length -> what.length <= pre.length ->
 pW m n (nn, ((pre ++ rest).length : Int), (pre.length : Int), y, q, kd, pre ++ rest, rk, who, what, out) =
  nB m m (0, ((cu nn (what ++ dk (aH rk) 2 rest)).length : Int), 0, y, q, kd, pre ++ rest, who ++ gm (aH rk) pre.length rest, cu nn (what ++ dk (aH rk) 2 rest), out) := by
 intro rest
 induction rest with
 | nil =>
  intro pre n who what hn hl h1 h2; obtain ⟨n, rfl⟩ := al n (by simp at hn; omega); rw [qF]; unfold rS; dsimp only; simp only [zaW, gm, dk] at hl ⊢; rw [aE (by omega), aP ⟨hnn, by omega⟩]
 | cons x rest ih =>
  intro pre n who what hn hl h1 h2; obtain ⟨n, rfl⟩ := al n (by simp at hn; omega); simp only [zad, zac] at hl hn; rw [qF]; unfold rS; dsimp only; simp only [lt_eq]
  by_cases hs : x.i 0 = rk
  . have := ih (pre ++ [x]) n (who ++ [(pre.length : Int)]) (what ++ [x.i 2]) (by omega) (by simp; omega) (by simp; omega) (by simp; omega); simp only [gm, dk, aH, GZ hs, zaE] at this ⊢; simp (disch := omega) only [TRa, TRi, aa, LNl, LNi, zaa, ax, bB]; simp only [LNl, LNi, zaa] at this ⊢; exact this
  . have := ih (pre ++ [x]) n who what (by omega) (by simp; omega) (by simp; omega) (by simp; omega); simp only [gm, dk, aH, od hs, zao] at this ⊢; simp (disch := omega) only [TRa, TRi, aa, LNl, LNi, zaa, ax, bB]; simp only [LNl, LNi, zaa] at this ⊢; exact this
theorem Jw (m : Nat) (y : bc) (hy : 0 <= y.ar /\ y.ar <= 1152921504606846976) (q kd : Int) : ∀ (rest done ws wd : List Int) (c out : List Dat) (n : Nat) (paid : Int), rest.length < n -> ws.length = rest.length -> wd.length = done.length -> (done ++ rest).length <= 1000 -> (∀ w ∈ ws, 0 <= w /\ w < c.length) -> (∀ x ∈ rest, 0 <= x /\ x <= 1152921504606846976) -> 0 <= paid -> paid + rest.sum <= 1152921504606846976 -> (∀ i, i < c.length -> - paid <= (ag c i).i 2 /\ (ag c i).i 2 <= 1152921504606846976) -> c.length <= 1000 -> out.length + rest.length <= 137438953472 ->
 nB m n (paid, ((done ++ rest).length : Int), (done.length : Int), y, q, kd, c, wd ++ ws, done ++ rest, out) =
  some ([.i (paid + rest.sum)] ++ Uns.enc (({ y with ar := y.ar - (paid + rest.sum) } : bc) : bc) ++ [.i q, .i kd, .d (j9 2 ws rest c), .d (out ++ rl q kd ws rest)]) := by
 intro rest
 induction rest with
 | nil =>
  intro done ws wd c out n paid hn e1 e2 hl hw hx p0 p1 hc cl ol; obtain ⟨n, rfl⟩ := al n (by simp at hn; omega); obtain rfl := zaB e1; rw [qY]; unfold sh; dsimp only; simp only [zaW, j9, rl, List.sum_nil, zbT] at p1 ⊢; rw [aE (by omega), aa (by omega) (by omega)]
 | cons x rest ih =>
  intro done ws wd c out n paid hn e1 e2 hl hw hx p0 p1 hc cl ol; obtain ⟨n, rfl⟩ := al n (by simp at hn; omega); cases ws with
  | nil => simp at e1
  | cons w ws =>
  simp only [zad, zac, zbn] at hl hn e1 p1 ol; have hx0 := hx x (by simp); have hw0 := hw w (by simp); have hs0 := dS rest (fun z hz => (hx z (by simp [hz])).1); obtain ⟨v, rfl⟩ : ∃ v : Nat, w = (v : Int) := ⟨w.toNat, by omega⟩
  have hr := hc v (by omega); have gw : (wd ++ (v : Int) :: ws).getD done.length 0 = v := by rw [<- e2]; exact bB _ _ _ _
  have hset : ∀ i, i < (c.set v (b8 2 x (ag c v))).length -> - (paid + x) <= (ag (c.set v (b8 2 x (ag c v))) i).i 2 /\ (ag (c.set v (b8 2 x (ag c v))) i).i 2 <= 1152921504606846976 := by
   intro i hi; rw [zbe] at hi
   by_cases e : i = v
   . subst e; have e3 : ag (c.set i (b8 2 x (ag c i))) i = b8 2 x (ag c i) := by simp [ag, hi]
     rw [e3]; simp only [b8, show ¬ (2 : Nat) = 1 by decide, zbg, iB]; omega
   . have e3 : ag (c.set v (b8 2 x (ag c v))) i = ag c i := by simp [ag, zbf, zcd e]
     rw [e3]; have := hc i hi; omega
  have := ih (done ++ [x]) ws (wd ++ [(v : Int)]) (c.set v (b8 2 x (ag c v))) (out ++ if 0 < x then [.r [.n q, .n kd, .n v, .n x]] else []) n (paid + x) (by omega) (by omega) (by simp [e2]) (by simp; omega) (fun z hz => by have := hw z (by simp [hz]); simpa using this) (fun z hz => hx z (by simp [hz])) (by omega) (by omega) hset (by simpa using cl) (by split <;> simp <;> omega); simp only [j9, rl, zbn, zaC]; rw [show paid + (x + rest.sum) = paid + x + rest.sum by omega]; rw [<- zaI, <- this]; rw [qY]; unfold sh; dsimp only; have ec : done ++ [x] ++ rest = done ++ x :: rest := by simp
  have ew : wd ++ [(v : Int)] ++ ws = wd ++ (v : Int) :: ws := by simp
  rw [ec, ew]; have e5 : (b8 2 x (ag c v)) = Dat.r [.n ((ag c v).i 0), .n ((ag c v).i 1), .n ((ag c v).i 2 - x)] := by simp only [b8, show ¬ (2 : Nat) = 1 by decide, zbg]
  rw [e5]; simp only [lt_eq, zaC, gw, bB, zad, zac, zax, zaD, zay, zaa]
  by_cases h0 : 0 < x
  . rw [if_pos h0]; simp (disch := omega) only [TRa, TRi, aa, zay]
  . rw [if_neg h0]; simp (disch := omega) only [TRa, TRi, aa, zay, zaW]
def Qw : Int × bc × Int × Int × List Dat × List Dat × Int -> Bool × List Un := fun (a0, a1, a2, a3, a4, a5, a6) => (decide (a0 <= 9223372036854775807 /\ 0 <= a1.ar /\ a1.ar <= 1152921504606846976 /\ a5.length <= 68719476736) && aQ a4, [.i ((aq (aH a6) 2 a0 a4).sum)] ++ Uns.enc (({ a1 with ar := a1.ar - (aq (aH a6) 2 a0 a4).sum }) : bc) ++ [.i (a2), .i (a3), .d (bR 2 (aq (aH a6) 2 a0 a4) a4), .d (a5 ++ bH a2 a3 0 (aq (aH a6) 2 a0 a4))])
theorem Kw (a0 : Int) (a1 : bc) (a2 : Int) (a3 : Int) (a4 : List Dat) (a5 : List Dat) (a6 : Int) (hc : (decide (a0 <= 9223372036854775807 /\ 0 <= a1.ar /\ a1.ar <= 1152921504606846976 /\ a5.length <= 68719476736) && aQ a4) = true) : ∃ m, MH m (a0, a1, a2, a3, a4, a5, a6) = some ([.i ((aq (aH a6) 2 a0 a4).sum)] ++ Uns.enc (({ a1 with ar := a1.ar - (aq (aH a6) 2 a0 a4).sum }) : bc) ++ [.i (a2), .i (a3), .d (bR 2 (aq (aH a6) 2 a0 a4) a4), .d (a5 ++ bH a2 a3 0 (aq (aH a6) 2 a0 a4))]) := by
 simp only [zab, zag] at hc; obtain ⟨⟨h1, h2, h3, h4⟩, h5⟩ := hc; obtain ⟨c1, c2⟩ := bL h5; obtain ⟨p1, p2, p3, p4, p5⟩ := u6 (aH a6) (j := 2) (.inr rfl) a0 h5; refine ⟨2000, ?_⟩; unfold MH; refine (KY 2000 a0 h1 a1 a2 a3 a6 a5 a4 [] 2000 [] [] (by omega) (by simpa using c1) (by simp) (by simp)).trans ?_
 simp only [zaV, zax]; have ht := kj (a4.map (aH a6)); rw [zba] at ht; have e := Jw 2000 a1 ⟨h2, h3⟩ a2 a3 (cu a0 (dk (aH a6) 2 a4)) [] (gm (aH a6) 0 a4) [] a4 a5 2000 0 (by omega) (by rw [p1, oj]) rfl (by simp; omega) (fun w hw => by have := oH _ _ _ w hw; omega) (fun x hx => by have := p2 x hx; omega) (by omega) (by omega) (fun i hi => by have := cm (c2 _ (mN hi)); omega) c1 (by omega); refine e.trans ?_
 have g1 := mZ (aH a6) 2 a4 [] (cu a0 (dk (aH a6) 2 a4)) p1 (fun d hd => (cm (c2 d hd)).1); have g2 := nY a2 a3 (aH a6) a4 0 (cu a0 (dk (aH a6) 2 a4)) p1; simp only [zaV, zax, zaa] at g1 g2; rw [g1, g2, za2, p5, ju (aH a6) (j := 2) (.inr rfl) a0 h5]
theorem Hf : ER 108 (mkE Jf.en Jf.ex Qw) := an ah Hv.right (fun m => [BT (pW m m)]) (t := MH) (by kernel_rfl) (fun m => (aL (Mo m m) aA)) (fun m a => by kernel_rfl) fun (a0, a1, a2, a3, a4, a5, a6) hc => Kw a0 a1 a2 a3 a4 a5 a6 hc
def Hu : Tb Tryz.prog LQ TE XX := Hv.add 108 _ Hf
def La : aD := ⟨Hu.tab, 108, ⟨[.ptr 0 0 0, .int .i64, .fn 135 [] [.ptr 3 0 0], .fn 113 [] []], [.cells [.int .i64, .int .i64, .int .i64, .int .i64, .int .i64, .buf 1 3, .int .i64, .int .i64, .buf 2 4], .ai (sI 3), .ai (sI 4), .cells [.int .i64]], 0⟩, ⟨[.int .i64], [.cells [.int .i64, .int .i64, .int .i64, .int .i64, .int .i64, .buf 1 3, .int .i64, .int .i64, .buf 4 4], .ai (sI 3), .gone, .gone, .ai (sI 4)], 0⟩, []⟩
abbrev yI : Type := Int × Int × Int × bc × Int × Int × List Dat × List Int × List Int × List Dat
abbrev yy : Type := Int × Int × Int × bc × Int × Int × List Dat × Int × List Int × List Int × List Dat
def rZ (m : Nat) (k : yI -> Option (List Un)) : yI -> Option (List Un) := fun (a0, a1, a2, a3, a4, a5, a6, a7, a8, a9) =>
 bif decide (a2 < a1) then
 chk (inb a2 a8.length) <|
 chk (decide (a2.toNat < a8.length)) <|
 chk (inb a2 a7.length) <|
 chk (decide (a2.toNat < a7.length)) <|
 chk (inb (a7.getD a2.toNat 0) a6.length) <|
 chk (decide ((a7.getD a2.toNat 0).toNat < a6.length)) <|
 chk (decide ((a7.getD a2.toNat 0).toNat < a6.length)) <|
 lt (ag a6 ((a7.getD a2.toNat 0).toNat) : Dat) fun d4 =>
 lt ((List.set a6 ((a7.getD a2.toNat 0).toNat) (.r [.n (d4.i 0), .n (w64 (((ag a6 ((a7.getD a2.toNat 0).toNat)).i 1) - (a8.getD a2.toNat 0))), .n (d4.i 2)])) : List Dat) fun l5 =>
 lt ((w64 (a0 + (a8.getD a2.toNat 0))) : Int) fun x6 =>
 chk (inb a2 a7.length) <|
 chk (decide (a2.toNat < a7.length)) <|
 bif (decide ((a8.getD a2.toNat 0) > 0)) then
 chk (fits (a9.length + 1) 32) <|
 k (x6, a1, (w64 (a2 + 1)), a3, a4, a5, l5, a7, a8, (a9 ++ ([.r [.n a4, .n a5, .n (a7.getD a2.toNat 0), .n (a8.getD a2.toNat 0)]])))
 else
 k (x6, a1, (w64 (a2 + 1)), a3, a4, a5, l5, a7, a8, a9)
 else
 some ([.i a0] ++ Uns.enc (({ a3 with ar := (w64 (a3.ar - a0)) } : bc) : bc) ++ [.i a4, .i a5, .d a6, .d a9])
def nL (m : Nat) : Nat -> yI -> Option (List Un) := br (rZ m)
theorem qX (m : Nat) (n : Nat) : nL m (n + 1) = rZ m (nL m n) := rfl
def Bo (F : yI -> Option (List Un)) : ba := ⟨[.lp [0, 1, 0, 1, 1, 1, 1], .blk 2, .code [1, 1, 1, 1, 1]], ⟨frm 88 [(0, .ptr 0 0 0), (3, .fn 113 [] []), (9, .buf 4 1), (13, .int .i64), (44, .buf 5 1), (45, .int .i64), (46, .int .i64)], [.cells [.int .i64, .int .i64, .int .i64, .int .i64, .int .i64, .buf 1 3, .int .i64, .int .i64, .buf 6 4], .ai (sI 3), .gone, .gone, .ints .i64, .ints .i64, .ai (sI 4)], 0⟩, onU F⟩
def rI (m : Nat) (k : yy -> Option (List Un)) : yy -> Option (List Un) := fun (a0, a1, a2, a3, a4, a5, a6, a7, a8, a9, a10) =>
 bif decide (a2 < a1) then
 chk (inb a2 a6.length) <|
 chk (decide (a2.toNat < a6.length)) <|
 lt (ag a6 a2.toNat : Dat) fun d1 =>
 bif (d1.i 0) == a7 then
 chk (fits (a8.length + 1) 8) <|
 chk (fits (a9.length + 1) 8) <|
 k (a0, a1, (w64 (a2 + 1)), a3, a4, a5, a6, a7, (a8 ++ ([a2])), (a9 ++ ([(d1.i 1)])), a10)
 else
 k (a0, a1, (w64 (a2 + 1)), a3, a4, a5, a6, a7, a8, a9, a10)
 else
 chk (decide (a0 <= 9223372036854775807 /\ a9.length < 1099511627776)) <|
 nL m m (0, ((cu a0 a9).length : Int), 0, a3, a4, a5, a6, a8, (cu a0 a9), a10)
def qd (m : Nat) : Nat -> yy -> Option (List Un) := br (rI m)
theorem qg (m : Nat) (n : Nat) : qd m (n + 1) = rI m (qd m n) := rfl
def Bg (F : yy -> Option (List Un)) : ba := ⟨[.lp [0, 1, 0, 1, 1], .blk 0, .code [1, 1, 1]], ⟨frm 88 [(0, .ptr 0 0 0), (1, .int .i64), (2, .fn 135 [] [.ptr 4 0 0]), (3, .fn 113 [] []), (9, .buf 5 1), (10, .buf 6 1), (20, .buf 1 3), (21, .int .i64), (22, .int .i64)], [.cells [.int .i64, .int .i64, .int .i64, .int .i64, .int .i64, .buf 1 3, .int .i64, .int .i64, .buf 7 4], .ai (sI 3), .gone, .gone, .cells [.int .i64], .ints .i64, .ints .i64, .ai (sI 4)], 0⟩, onU F⟩
theorem MY (m : Nat) : ∀ n, HO La (Bo (nL m n)) := au ah Hu.right (fun k => [Bo k]) (fun k h => (aL h aA)) fun k a => by kernel_rfl
theorem Ml (m : Nat) : ∀ n, HO La (Bg (qd m n)) := au ah Hu.right (fun k => [Bg k, Bo (nL m m)]) (fun k h => (aL h (aL (MY m m) aA))) fun k a => by kernel_rfl
def NF (m : Nat) : Int × bc × Int × Int × List Dat × List Dat × Int -> Option (List Un) := fun (a0, a1, a2, a3, a4, a5, a6) =>
 qd m m (a0, (a4.length : Int), 0, a1, a2, a3, a4, a6, [], [], a5)
theorem KR (m : Nat) (nn : Int) (hnn : nn <= 9223372036854775807) (y : bc) (q kd : Int) (rk : Int) (out : List Dat) : ∀ (rest pre : List Dat) (n : Nat) (who what : List Int), rest.length < n -> (pre ++ rest).length <= 1000 -> who.length <= pre.length -> what.length <= pre.length ->
 qd m n (nn, ((pre ++ rest).length : Int), (pre.length : Int), y, q, kd, pre ++ rest, rk, who, what, out) =
  nL m m (0, ((cu nn (what ++ dk (aH rk) 1 rest)).length : Int), 0, y, q, kd, pre ++ rest, who ++ gm (aH rk) pre.length rest, cu nn (what ++ dk (aH rk) 1 rest), out) := by
 intro rest
 induction rest with
 | nil =>
  intro pre n who what hn hl h1 h2; obtain ⟨n, rfl⟩ := al n (by simp at hn; omega); rw [qg]; unfold rI; dsimp only; simp only [zaW, gm, dk] at hl ⊢; rw [aE (by omega), aP ⟨hnn, by omega⟩]
 | cons x rest ih =>
  intro pre n who what hn hl h1 h2; obtain ⟨n, rfl⟩ := al n (by simp at hn; omega); simp only [zad, zac] at hl hn; rw [qg]; unfold rI; dsimp only; simp only [lt_eq]
  by_cases hs : x.i 0 = rk
  . have := ih (pre ++ [x]) n (who ++ [(pre.length : Int)]) (what ++ [x.i 1]) (by omega) (by simp; omega) (by simp; omega) (by simp; omega); simp only [gm, dk, aH, GZ hs, zaE] at this ⊢; simp (disch := omega) only [TRa, TRi, aa, LNl, LNi, zaa, ax, bB]; simp only [LNl, LNi, zaa] at this ⊢; exact this
  . have := ih (pre ++ [x]) n who what (by omega) (by simp; omega) (by simp; omega) (by simp; omega); simp only [gm, dk, aH, od hs, zao] at this ⊢; simp (disch := omega) only [TRa, TRi, aa, LNl, LNi, zaa, ax, bB]; simp only [LNl, LNi, zaa] at this ⊢; exact this
theorem II (m : Nat) (y : bc) (hy : 0 <= y.ar /\ y.ar <= 1152921504606846976) (q kd : Int) : ∀ (rest done ws wd : List Int) (c out : List Dat) (n : Nat) (paid : Int), rest.length < n -> ws.length = rest.length -> wd.length = done.length -> (done ++ rest).length <= 1000 -> (∀ w ∈ ws, 0 <= w /\ w < c.length) -> (∀ x ∈ rest, 0 <= x /\ x <= 1152921504606846976) -> 0 <= paid -> paid + rest.sum <= 1152921504606846976 -> (∀ i, i < c.length -> - paid <= (ag c i).i 1 /\ (ag c i).i 1 <= 1152921504606846976) -> c.length <= 1000 -> out.length + rest.length <= 137438953472 ->
 nL m n (paid, ((done ++ rest).length : Int), (done.length : Int), y, q, kd, c, wd ++ ws, done ++ rest, out) =
  some ([.i (paid + rest.sum)] ++ Uns.enc (({ y with ar := y.ar - (paid + rest.sum) } : bc) : bc) ++ [.i q, .i kd, .d (j9 1 ws rest c), .d (out ++ rl q kd ws rest)]) := by
 intro rest
 induction rest with
 | nil =>
  intro done ws wd c out n paid hn e1 e2 hl hw hx p0 p1 hc cl ol; obtain ⟨n, rfl⟩ := al n (by simp at hn; omega); obtain rfl := zaB e1; rw [qX]; unfold rZ; dsimp only; simp only [zaW, j9, rl, List.sum_nil, zbT] at p1 ⊢; rw [aE (by omega), aa (by omega) (by omega)]
 | cons x rest ih =>
  intro done ws wd c out n paid hn e1 e2 hl hw hx p0 p1 hc cl ol; obtain ⟨n, rfl⟩ := al n (by simp at hn; omega); cases ws with
  | nil => simp at e1
  | cons w ws =>
  simp only [zad, zac, zbn] at hl hn e1 p1 ol; have hx0 := hx x (by simp); have hw0 := hw w (by simp); have hs0 := dS rest (fun z hz => (hx z (by simp [hz])).1); obtain ⟨v, rfl⟩ : ∃ v : Nat, w = (v : Int) := ⟨w.toNat, by omega⟩
  have hr := hc v (by omega); have gw : (wd ++ (v : Int) :: ws).getD done.length 0 = v := by rw [<- e2]; exact bB _ _ _ _
  have hset : ∀ i, i < (c.set v (b8 1 x (ag c v))).length -> - (paid + x) <= (ag (c.set v (b8 1 x (ag c v))) i).i 1 /\ (ag (c.set v (b8 1 x (ag c v))) i).i 1 <= 1152921504606846976 := by
   intro i hi; rw [zbe] at hi
   by_cases e : i = v
   . subst e; have e3 : ag (c.set i (b8 1 x (ag c i))) i = b8 1 x (ag c i) := by simp [ag, hi]
     rw [e3]; simp only [b8, za8, et]; omega
   . have e3 : ag (c.set v (b8 1 x (ag c v))) i = ag c i := by simp [ag, zbf, zcd e]
     rw [e3]; have := hc i hi; omega
  have := ih (done ++ [x]) ws (wd ++ [(v : Int)]) (c.set v (b8 1 x (ag c v))) (out ++ if 0 < x then [.r [.n q, .n kd, .n v, .n x]] else []) n (paid + x) (by omega) (by omega) (by simp [e2]) (by simp; omega) (fun z hz => by have := hw z (by simp [hz]); simpa using this) (fun z hz => hx z (by simp [hz])) (by omega) (by omega) hset (by simpa using cl) (by split <;> simp <;> omega); simp only [j9, rl, zbn, zaC]; rw [show paid + (x + rest.sum) = paid + x + rest.sum by omega]; rw [<- zaI, <- this]; rw [qX]; unfold rZ; dsimp only; have ec : done ++ [x] ++ rest = done ++ x :: rest := by simp
  have ew : wd ++ [(v : Int)] ++ ws = wd ++ (v : Int) :: ws := by simp
  rw [ec, ew]; have e5 : (b8 1 x (ag c v)) = Dat.r [.n ((ag c v).i 0), .n ((ag c v).i 1 - x), .n ((ag c v).i 2)] := by simp only [b8, za8]
  rw [e5]; simp only [lt_eq, zaC, gw, bB, zad, zac, zax, zaD, zay, zaa]
  by_cases h0 : 0 < x
  . rw [if_pos h0]; simp (disch := omega) only [TRa, TRi, aa, zay]
  . rw [if_neg h0]; simp (disch := omega) only [TRa, TRi, aa, zay, zaW]
def Qo : Int × bc × Int × Int × List Dat × List Dat × Int -> Bool × List Un := fun (a0, a1, a2, a3, a4, a5, a6) => (decide (a0 <= 9223372036854775807 /\ 0 <= a1.ar /\ a1.ar <= 1152921504606846976 /\ a5.length <= 68719476736) && aQ a4, [.i ((aq (aH a6) 1 a0 a4).sum)] ++ Uns.enc (({ a1 with ar := a1.ar - (aq (aH a6) 1 a0 a4).sum }) : bc) ++ [.i (a2), .i (a3), .d (bR 1 (aq (aH a6) 1 a0 a4) a4), .d (a5 ++ bH a2 a3 0 (aq (aH a6) 1 a0 a4))])
theorem I0 (a0 : Int) (a1 : bc) (a2 : Int) (a3 : Int) (a4 : List Dat) (a5 : List Dat) (a6 : Int) (hc : (decide (a0 <= 9223372036854775807 /\ 0 <= a1.ar /\ a1.ar <= 1152921504606846976 /\ a5.length <= 68719476736) && aQ a4) = true) : ∃ m, NF m (a0, a1, a2, a3, a4, a5, a6) = some ([.i ((aq (aH a6) 1 a0 a4).sum)] ++ Uns.enc (({ a1 with ar := a1.ar - (aq (aH a6) 1 a0 a4).sum }) : bc) ++ [.i (a2), .i (a3), .d (bR 1 (aq (aH a6) 1 a0 a4) a4), .d (a5 ++ bH a2 a3 0 (aq (aH a6) 1 a0 a4))]) := by
 simp only [zab, zag] at hc; obtain ⟨⟨h1, h2, h3, h4⟩, h5⟩ := hc; obtain ⟨c1, c2⟩ := bL h5; obtain ⟨p1, p2, p3, p4, p5⟩ := u6 (aH a6) (j := 1) (.inl rfl) a0 h5; refine ⟨2000, ?_⟩; unfold NF; refine (KR 2000 a0 h1 a1 a2 a3 a6 a5 a4 [] 2000 [] [] (by omega) (by simpa using c1) (by simp) (by simp)).trans ?_
 simp only [zaV, zax]; have ht := kj (a4.map (aH a6)); rw [zba] at ht; have e := II 2000 a1 ⟨h2, h3⟩ a2 a3 (cu a0 (dk (aH a6) 1 a4)) [] (gm (aH a6) 0 a4) [] a4 a5 2000 0 (by omega) (by rw [p1, oj]) rfl (by simp; omega) (fun w hw => by have := oH _ _ _ w hw; omega) (fun x hx => by have := p2 x hx; omega) (by omega) (by omega) (fun i hi => by have := cm (c2 _ (mN hi)); omega) c1 (by omega); refine e.trans ?_
 have g1 := mZ (aH a6) 1 a4 [] (cu a0 (dk (aH a6) 1 a4)) p1 (fun d hd => (cm (c2 d hd)).1); have g2 := nY a2 a3 (aH a6) a4 0 (cu a0 (dk (aH a6) 1 a4)) p1; simp only [zaV, zax, zaa] at g1 g2; rw [g1, g2, za2, p5, ju (aH a6) (j := 1) (.inl rfl) a0 h5]
theorem Hj : ER 108 (mkE La.en La.ex Qo) := an ah Hu.right (fun m => [Bg (qd m m)]) (t := NF) (by kernel_rfl) (fun m => (aL (Ml m m) aA)) (fun m a => by kernel_rfl) fun (a0, a1, a2, a3, a4, a5, a6) hc => I0 a0 a1 a2 a3 a4 a5 a6 hc
def GG : Tb Tryz.prog LQ TE XX := Hu.add 108 _ Hj
def Jq : aD := ⟨GG.tab, 108, ⟨[.ptr 0 0 0, .int .i64, .fn 112 [] [], .fn 113 [] []], [.cells [.int .i64, .int .i64, .int .i64, .int .i64, .int .i64, .buf 1 3, .int .i64, .int .i64, .buf 2 4], .ai (sI 3), .ai (sI 4)], 0⟩, ⟨[.int .i64], [.cells [.int .i64, .int .i64, .int .i64, .int .i64, .int .i64, .buf 1 3, .int .i64, .int .i64, .buf 3 4], .ai (sI 3), .gone, .ai (sI 4)], 0⟩, []⟩
abbrev yq : Type := Int × Int × Int × bc × Int × Int × List Dat × List Int × List Int × List Dat
abbrev xx : Type := Int × Int × Int × bc × Int × Int × List Dat × List Int × List Int × List Dat
def rG (m : Nat) (k : yq -> Option (List Un)) : yq -> Option (List Un) := fun (a0, a1, a2, a3, a4, a5, a6, a7, a8, a9) =>
 bif decide (a2 < a1) then
 chk (inb a2 a8.length) <|
 chk (decide (a2.toNat < a8.length)) <|
 chk (inb a2 a7.length) <|
 chk (decide (a2.toNat < a7.length)) <|
 chk (inb (a7.getD a2.toNat 0) a6.length) <|
 chk (decide ((a7.getD a2.toNat 0).toNat < a6.length)) <|
 chk (decide ((a7.getD a2.toNat 0).toNat < a6.length)) <|
 lt (ag a6 ((a7.getD a2.toNat 0).toNat) : Dat) fun d4 =>
 lt ((List.set a6 ((a7.getD a2.toNat 0).toNat) (.r [.n (d4.i 0), .n (w64 (((ag a6 ((a7.getD a2.toNat 0).toNat)).i 1) - (a8.getD a2.toNat 0))), .n (d4.i 2)])) : List Dat) fun l5 =>
 lt ((w64 (a0 + (a8.getD a2.toNat 0))) : Int) fun x6 =>
 chk (inb a2 a7.length) <|
 chk (decide (a2.toNat < a7.length)) <|
 bif (decide ((a8.getD a2.toNat 0) > 0)) then
 chk (fits (a9.length + 1) 32) <|
 k (x6, a1, (w64 (a2 + 1)), a3, a4, a5, l5, a7, a8, (a9 ++ ([.r [.n a4, .n a5, .n (a7.getD a2.toNat 0), .n (a8.getD a2.toNat 0)]])))
 else
 k (x6, a1, (w64 (a2 + 1)), a3, a4, a5, l5, a7, a8, a9)
 else
 some ([.i a0] ++ Uns.enc (({ a3 with ar := (w64 (a3.ar - a0)) } : bc) : bc) ++ [.i a4, .i a5, .d a6, .d a9])
def ny (m : Nat) : Nat -> yq -> Option (List Un) := br (rG m)
theorem qO (m : Nat) (n : Nat) : ny m (n + 1) = rG m (ny m n) := rfl
def BR (F : yq -> Option (List Un)) : ba := ⟨[.lp [0, 1, 0, 1, 1, 1, 1], .blk 2, .code [1, 1, 1, 1, 1]], ⟨frm 88 [(0, .ptr 0 0 0), (3, .fn 113 [] []), (9, .buf 3 1), (13, .int .i64), (44, .buf 4 1), (45, .int .i64), (46, .int .i64)], [.cells [.int .i64, .int .i64, .int .i64, .int .i64, .int .i64, .buf 1 3, .int .i64, .int .i64, .buf 5 4], .ai (sI 3), .gone, .ints .i64, .ints .i64, .ai (sI 4)], 0⟩, onU F⟩
def rO (m : Nat) (k : xx -> Option (List Un)) : xx -> Option (List Un) := fun (a0, a1, a2, a3, a4, a5, a6, a7, a8, a9) =>
 bif decide (a2 < a1) then
 chk (inb a2 a6.length) <|
 chk (decide (a2.toNat < a6.length)) <|
 chk (fits (a7.length + 1) 8) <|
 chk (fits (a8.length + 1) 8) <|
 k (a0, a1, (w64 (a2 + 1)), a3, a4, a5, a6, (a7 ++ ([a2])), (a8 ++ ([((ag a6 a2.toNat).i 1)])), a9)
 else
 chk (decide (a0 <= 9223372036854775807 /\ a8.length < 1099511627776)) <|
 ny m m (0, ((cu a0 a8).length : Int), 0, a3, a4, a5, a6, a7, (cu a0 a8), a9)
def pc (m : Nat) : Nat -> xx -> Option (List Un) := br (rO m)
theorem qf (m : Nat) (n : Nat) : pc m (n + 1) = rO m (pc m n) := rfl
def BL (F : xx -> Option (List Un)) : ba := ⟨[.lp [0, 1, 0, 1, 1], .blk 0, .code [1, 1, 1]], ⟨frm 88 [(0, .ptr 0 0 0), (1, .int .i64), (2, .fn 112 [] []), (3, .fn 113 [] []), (9, .buf 3 1), (10, .buf 4 1), (20, .buf 1 3), (21, .int .i64), (22, .int .i64)], [.cells [.int .i64, .int .i64, .int .i64, .int .i64, .int .i64, .buf 1 3, .int .i64, .int .i64, .buf 5 4], .ai (sI 3), .gone, .ints .i64, .ints .i64, .ai (sI 4)], 0⟩, onU F⟩
theorem N8 (m : Nat) : ∀ n, HO Jq (BR (ny m n)) := au ah GG.right (fun k => [BR k]) (fun k h => (aL h aA)) fun k a => by kernel_rfl
theorem Nr (m : Nat) : ∀ n, HO Jq (BL (pc m n)) := au ah GG.right (fun k => [BL k, BR (ny m m)]) (fun k h => (aL h (aL (N8 m m) aA))) fun k a => by kernel_rfl
def LZ (m : Nat) : Int × bc × Int × Int × List Dat × List Dat -> Option (List Un) := fun (a0, a1, a2, a3, a4, a5) =>
 pc m m (a0, (a4.length : Int), 0, a1, a2, a3, a4, [], [], a5)
theorem KI (m : Nat) (nn : Int) (hnn : nn <= 9223372036854775807) (y : bc) (q kd : Int) (out : List Dat) : ∀ (rest pre : List Dat) (n : Nat) (who what : List Int), rest.length < n -> (pre ++ rest).length <= 1000 -> who.length <= pre.length -> what.length <= pre.length ->
 pc m n (nn, ((pre ++ rest).length : Int), (pre.length : Int), y, q, kd, pre ++ rest, who, what, out) =
  ny m m (0, ((cu nn (what ++ dk (fun _ => true) 1 rest)).length : Int), 0, y, q, kd, pre ++ rest, who ++ gm (fun _ => true) pre.length rest, cu nn (what ++ dk (fun _ => true) 1 rest), out) := by
 intro rest
 induction rest with
 | nil =>
  intro pre n who what hn hl h1 h2; obtain ⟨n, rfl⟩ := al n (by simp at hn; omega); rw [qf]; unfold rO; dsimp only; simp only [zaW, gm, dk] at hl ⊢; rw [aE (by omega), aP ⟨hnn, by omega⟩]
 | cons x rest ih =>
  intro pre n who what hn hl h1 h2; obtain ⟨n, rfl⟩ := al n (by simp at hn; omega); simp only [zad, zac] at hl hn; rw [qf]; unfold rO; dsimp only; have := ih (pre ++ [x]) n (who ++ [(pre.length : Int)]) (what ++ [x.i 1]) (by omega) (by simp; omega) (by simp; omega) (by simp; omega); simp only [gm, dk, zaE] at this ⊢; simp (disch := omega) only [TRa, TRi, aa, LNl, LNi, zaa, ax, bB]; simp only [LNl, LNi, zaa] at this ⊢; exact this
theorem IM (m : Nat) (y : bc) (hy : 0 <= y.ar /\ y.ar <= 1152921504606846976) (q kd : Int) : ∀ (rest done ws wd : List Int) (c out : List Dat) (n : Nat) (paid : Int), rest.length < n -> ws.length = rest.length -> wd.length = done.length -> (done ++ rest).length <= 1000 -> (∀ w ∈ ws, 0 <= w /\ w < c.length) -> (∀ x ∈ rest, 0 <= x /\ x <= 1152921504606846976) -> 0 <= paid -> paid + rest.sum <= 1152921504606846976 -> (∀ i, i < c.length -> - paid <= (ag c i).i 1 /\ (ag c i).i 1 <= 1152921504606846976) -> c.length <= 1000 -> out.length + rest.length <= 137438953472 ->
 ny m n (paid, ((done ++ rest).length : Int), (done.length : Int), y, q, kd, c, wd ++ ws, done ++ rest, out) =
  some ([.i (paid + rest.sum)] ++ Uns.enc (({ y with ar := y.ar - (paid + rest.sum) } : bc) : bc) ++ [.i q, .i kd, .d (j9 1 ws rest c), .d (out ++ rl q kd ws rest)]) := by
 intro rest
 induction rest with
 | nil =>
  intro done ws wd c out n paid hn e1 e2 hl hw hx p0 p1 hc cl ol; obtain ⟨n, rfl⟩ := al n (by simp at hn; omega); obtain rfl := zaB e1; rw [qO]; unfold rG; dsimp only; simp only [zaW, j9, rl, List.sum_nil, zbT] at p1 ⊢; rw [aE (by omega), aa (by omega) (by omega)]
 | cons x rest ih =>
  intro done ws wd c out n paid hn e1 e2 hl hw hx p0 p1 hc cl ol; obtain ⟨n, rfl⟩ := al n (by simp at hn; omega); cases ws with
  | nil => simp at e1
  | cons w ws =>
  simp only [zad, zac, zbn] at hl hn e1 p1 ol; have hx0 := hx x (by simp); have hw0 := hw w (by simp); have hs0 := dS rest (fun z hz => (hx z (by simp [hz])).1); obtain ⟨v, rfl⟩ : ∃ v : Nat, w = (v : Int) := ⟨w.toNat, by omega⟩
  have hr := hc v (by omega); have gw : (wd ++ (v : Int) :: ws).getD done.length 0 = v := by rw [<- e2]; exact bB _ _ _ _
  have hset : ∀ i, i < (c.set v (b8 1 x (ag c v))).length -> - (paid + x) <= (ag (c.set v (b8 1 x (ag c v))) i).i 1 /\ (ag (c.set v (b8 1 x (ag c v))) i).i 1 <= 1152921504606846976 := by
   intro i hi; rw [zbe] at hi
   by_cases e : i = v
   . subst e; have e3 : ag (c.set i (b8 1 x (ag c i))) i = b8 1 x (ag c i) := by simp [ag, hi]
     rw [e3]; simp only [b8, za8, et]; omega
   . have e3 : ag (c.set v (b8 1 x (ag c v))) i = ag c i := by simp [ag, zbf, zcd e]
     rw [e3]; have := hc i hi; omega
  have := ih (done ++ [x]) ws (wd ++ [(v : Int)]) (c.set v (b8 1 x (ag c v))) (out ++ if 0 < x then [.r [.n q, .n kd, .n v, .n x]] else []) n (paid + x) (by omega) (by omega) (by simp [e2]) (by simp; omega) (fun z hz => by have := hw z (by simp [hz]); simpa using this) (fun z hz => hx z (by simp [hz])) (by omega) (by omega) hset (by simpa using cl) (by split <;> simp <;> omega); simp only [j9, rl, zbn, zaC]; rw [show paid + (x + rest.sum) = paid + x + rest.sum by omega]; rw [<- zaI, <- this]; rw [qO]; unfold rG; dsimp only; have ec : done ++ [x] ++ rest = done ++ x :: rest := by simp
  have ew : wd ++ [(v : Int)] ++ ws = wd ++ (v : Int) :: ws := by simp
  rw [ec, ew]; have e5 : (b8 1 x (ag c v)) = Dat.r [.n ((ag c v).i 0), .n ((ag c v).i 1 - x), .n ((ag c v).i 2)] := by simp only [b8, za8]
  rw [e5]; simp only [lt_eq, zaC, gw, bB, zad, zac, zax, zaD, zay, zaa]
  by_cases h0 : 0 < x
  . rw [if_pos h0]; simp (disch := omega) only [TRa, TRi, aa, zay]
  . rw [if_neg h0]; simp (disch := omega) only [TRa, TRi, aa, zay, zaW]
def Qz : Int × bc × Int × Int × List Dat × List Dat -> Bool × List Un := fun (a0, a1, a2, a3, a4, a5) => (decide (a0 <= 9223372036854775807 /\ 0 <= a1.ar /\ a1.ar <= 1152921504606846976 /\ a5.length <= 68719476736) && aQ a4, [.i ((aq (fun _ => true) 1 a0 a4).sum)] ++ Uns.enc (({ a1 with ar := a1.ar - (aq (fun _ => true) 1 a0 a4).sum }) : bc) ++ [.i (a2), .i (a3), .d (bR 1 (aq (fun _ => true) 1 a0 a4) a4), .d (a5 ++ bH a2 a3 0 (aq (fun _ => true) 1 a0 a4))])
theorem Ku (a0 : Int) (a1 : bc) (a2 : Int) (a3 : Int) (a4 : List Dat) (a5 : List Dat) (hc : (decide (a0 <= 9223372036854775807 /\ 0 <= a1.ar /\ a1.ar <= 1152921504606846976 /\ a5.length <= 68719476736) && aQ a4) = true) : ∃ m, LZ m (a0, a1, a2, a3, a4, a5) = some ([.i ((aq (fun _ => true) 1 a0 a4).sum)] ++ Uns.enc (({ a1 with ar := a1.ar - (aq (fun _ => true) 1 a0 a4).sum }) : bc) ++ [.i (a2), .i (a3), .d (bR 1 (aq (fun _ => true) 1 a0 a4) a4), .d (a5 ++ bH a2 a3 0 (aq (fun _ => true) 1 a0 a4))]) := by
 simp only [zab, zag] at hc; obtain ⟨⟨h1, h2, h3, h4⟩, h5⟩ := hc; obtain ⟨c1, c2⟩ := bL h5; obtain ⟨p1, p2, p3, p4, p5⟩ := u6 (fun _ => true) (j := 1) (.inl rfl) a0 h5; refine ⟨2000, ?_⟩; unfold LZ; refine (KI 2000 a0 h1 a1 a2 a3 a5 a4 [] 2000 [] [] (by omega) (by simpa using c1) (by simp) (by simp)).trans ?_
 simp only [zaV, zax]; have ht := kj (a4.map (fun _ => true)); rw [zba] at ht; have e := IM 2000 a1 ⟨h2, h3⟩ a2 a3 (cu a0 (dk (fun _ => true) 1 a4)) [] (gm (fun _ => true) 0 a4) [] a4 a5 2000 0 (by omega) (by rw [p1, oj]) rfl (by simp; omega) (fun w hw => by have := oH _ _ _ w hw; omega) (fun x hx => by have := p2 x hx; omega) (by omega) (by omega) (fun i hi => by have := cm (c2 _ (mN hi)); omega) c1 (by omega); refine e.trans ?_
 have g1 := mZ (fun _ => true) 1 a4 [] (cu a0 (dk (fun _ => true) 1 a4)) p1 (fun d hd => (cm (c2 d hd)).1); have g2 := nY a2 a3 (fun _ => true) a4 0 (cu a0 (dk (fun _ => true) 1 a4)) p1; simp only [zaV, zax, zaa] at g1 g2; rw [g1, g2, za2, p5, ju (fun _ => true) (j := 1) (.inl rfl) a0 h5]
theorem Gf : ER 108 (mkE Jq.en Jq.ex Qz) := an ah GG.right (fun m => [BL (pc m m)]) (t := LZ) (by kernel_rfl) (fun m => (aL (Nr m m) aA)) (fun m a => by kernel_rfl) fun (a0, a1, a2, a3, a4, a5) hc => Ku a0 a1 a2 a3 a4 a5 hc
def IS : Tb Tryz.prog LQ TE XX := GG.add 108 _ Gf
def Mp : aD := ⟨IS.tab, 111, ⟨[.ptr 0 0 0, .int .i64], [.cells [.int .i64, .int .i64, .int .i64, .int .i64, .int .i64, .buf 1 3, .int .i64, .int .i64, .buf 2 4], .ai (sI 3), .ai (sI 4)], 0⟩, ⟨[.int .i64], [.cells [.int .i64, .int .i64, .int .i64, .int .i64, .int .i64, .buf 1 3, .int .i64, .int .i64, .buf 3 4], .ai (sI 3), .gone, .ai (sI 4)], 0⟩, []⟩
abbrev xD : Type := Int × Int × Int × bc × Int × Int × List Dat × List Dat
def rD (m : Nat) (k : xD -> Option (List Un)) : xD -> Option (List Un) := fun (a0, a1, a2, a3, a4, a5, a6, a7) =>
 bif decide (a2 < 8) then
 chk (decide ((w64 (a0 - a1)) <= 9223372036854775807 /\ 0 <= a3.ar /\ a3.ar <= 1152921504606846976 /\ a7.length <= 68719476736) && aQ a6) <|
 k (a0, (w64 (a1 + ((aq (aH a2) 1 (w64 (a0 - a1)) a6).sum))), (w64 (a2 + 1)), ({ a3 with ar := a3.ar - (aq (aH a2) 1 (w64 (a0 - a1)) a6).sum }), a4, a5, (bR 1 (aq (aH a2) 1 (w64 (a0 - a1)) a6) a6), (a7 ++ bH a4 a5 0 (aq (aH a2) 1 (w64 (a0 - a1)) a6)))
 else
 some ([.i a1] ++ Uns.enc (a3 : bc) ++ [.i a4, .i a5, .d a6, .d a7])
def pC (m : Nat) : Nat -> xD -> Option (List Un) := br (rD m)
theorem qR (m : Nat) (n : Nat) : pC m (n + 1) = rD m (pC m n) := rfl
def BB (F : xD -> Option (List Un)) : ba := ⟨[.lp [0, 1, 0, 1, 1], .blk 0, .code [1, 1, 1]], ⟨frm 21 [(0, .ptr 0 0 0), (1, .int .i64), (5, .int .i64), (7, .int .i64)], [.cells [.int .i64, .int .i64, .int .i64, .int .i64, .int .i64, .buf 1 3, .int .i64, .int .i64, .buf 3 4], .ai (sI 3), .gone, .ai (sI 4)], 0⟩, onU F⟩
theorem Lw (m : Nat) : ∀ n, HO Mp (BB (pC m n)) := au ah IS.right (fun k => [BB k]) (fun k h => (aL h aA)) fun k a => by kernel_rfl
def t111 (m : Nat) : Int × bc × Int × Int × List Dat × List Dat -> Option (List Un) := fun (a0, a1, a2, a3, a4, a5) =>
 pC m m (a0, 0, 0, a1, a2, a3, a4, a5)
theorem OG (m : Nat) (nn q kd : Int) : ∀ (k n : Nat) (r paid : Int) (y : bc) (c out : List Dat), k < n -> r + k = 8 -> 0 <= r -> aQ c = true -> 0 <= paid -> paid <= nn -> nn - paid <= y.ar -> y.ar <= 1152921504606846976 -> nn <= 1152921504606846976 -> out.length + 1000 * k <= 68719476736 ->
 pC m n (nn, paid, r, y, q, kd, c, out) = some ([.i (paid + (bt q kd k r (nn - paid) c).2.2)] ++ Uns.enc (({ y with ar := y.ar - (bt q kd k r (nn - paid) c).2.2 } : bc) : bc) ++ [.i q, .i kd, .d (bt q kd k r (nn - paid) c).1, .d (out ++ (bt q kd k r (nn - paid) c).2.1)]) := by
 intro k
 induction k with
 | zero =>
  intro n r paid y c out hn hr h0 hc p0 p1 p2 p3 p4 ho; obtain ⟨n, rfl⟩ := al n (by omega); rw [qR]; unfold rD; dsimp only; simp only [bt, zbT, zbm, zaW]; rw [aE (by omega)]
 | succ k ih =>
  intro n r paid y c out hn hr h0 hc p0 p1 p2 p3 p4 ho; obtain ⟨n, rfl⟩ := al n (by omega); rw [qR]; unfold rD; dsimp only; obtain ⟨l1, l2, l3⟩ := dM (aH r) (j := 1) (.inl rfl) (nn - paid) hc; obtain ⟨_, _, w0, w1⟩ := mD (aH r) (j := 1) (.inl rfl) hc; obtain ⟨g1, g2⟩ := o8 (aH r) (j := 1) (.inl rfl) (nn - paid) hc; have hpl := jh q kd (aq (aH r) 1 (nn - paid) c) 0; have hcl := (bL hc).1; rw [bF (by omega), aa (n := nn - paid) (by omega) (by omega), hc, zbb, aP ⟨by omega, by omega, by omega, by omega⟩]; have := ih n (r + 1) (paid + (aq (aH r) 1 (nn - paid) c).sum) { y with ar := y.ar - (aq (aH r) 1 (nn - paid) c).sum } (bR 1 (aq (aH r) 1 (nn - paid) c) c) (out ++ bH q kd 0 (aq (aH r) 1 (nn - paid) c)) (by omega) (by omega) (by omega) g1 (by omega) (by omega) (by simp only; omega) (by simp only; omega) p4 (by rw [zad]; omega); rw [aa (n := r + 1) (by omega) (by omega), aa (n := paid + (aq (aH r) 1 (nn - paid) c).sum) (by omega) (by omega), this]; simp only [bt]; rw [show nn - (paid + (aq (aH r) 1 (nn - paid) c).sum) = nn - paid - (aq (aH r) 1 (nn - paid) c).sum by omega]; simp only [Int.add_assoc, zaI, Int.sub_sub]
def f111 : Int × bc × Int × Int × List Dat × List Dat -> Bool × List Un := fun (a0, a1, a2, a3, a4, a5) => (decide (0 <= a0 /\ a0 <= a1.ar /\ a1.ar <= 1152921504606846976 /\ a5.length <= 34359738368) && aQ a4, [.i ((bt a2 a3 8 0 a0 a4).2.2)] ++ Uns.enc (({ a1 with ar := a1.ar - (bt a2 a3 8 0 a0 a4).2.2 }) : bc) ++ [.i (a2), .i (a3), .d ((bt a2 a3 8 0 a0 a4).1), .d (a5 ++ (bt a2 a3 8 0 a0 a4).2.1)])
theorem K5 (a0 : Int) (a1 : bc) (a2 : Int) (a3 : Int) (a4 : List Dat) (a5 : List Dat) (hc : (decide (0 <= a0 /\ a0 <= a1.ar /\ a1.ar <= 1152921504606846976 /\ a5.length <= 34359738368) && aQ a4) = true) : ∃ m, t111 m (a0, a1, a2, a3, a4, a5) = some ([.i ((bt a2 a3 8 0 a0 a4).2.2)] ++ Uns.enc (({ a1 with ar := a1.ar - (bt a2 a3 8 0 a0 a4).2.2 }) : bc) ++ [.i (a2), .i (a3), .d ((bt a2 a3 8 0 a0 a4).1), .d (a5 ++ (bt a2 a3 8 0 a0 a4).2.1)]) := by
 simp only [zab, zag] at hc; obtain ⟨⟨h1, h2, h3, h4⟩, h5⟩ := hc; refine ⟨20, ?_⟩; have := OG 20 a0 a2 a3 8 20 0 0 a1 a4 a5 (by omega) (by omega) (by omega) h5 (by omega) (by omega) (by omega) h3 (by omega) (by omega); simp only [zbm, za2] at this; exact this
theorem Hx : ER 111 (mkE Mp.en Mp.ex f111) := an ah IS.right (fun m => [BB (pC m m)]) (t := t111) (by kernel_rfl) (fun m => (aL (Lw m m) aA)) (fun m a => by kernel_rfl) fun (a0, a1, a2, a3, a4, a5) hc => K5 a0 a1 a2 a3 a4 a5 hc
def Ni : Tb Tryz.prog LQ TE XX := IS.add 111 _ Hx
def N80 : aD := ⟨Ni.tab, 80, ⟨[.ptr 0 0 0, .agg [.int .i64, .int .i64]], [.cells [.int .i64, .int .i64, .int .i64, .int .i64, .int .i64, .buf 1 3, .int .i64, .int .i64, .buf 2 4], .ai (sI 3), .ai (sI 4)], 0⟩, ⟨[], [.cells [.int .i64, .int .i64, .int .i64, .int .i64, .int .i64, .buf 1 3, .int .i64, .int .i64, .buf 3 4], .ai (sI 3), .gone, .ai (sI 4)], 0⟩, []⟩
def t80 (m : Nat) : Int × Int × bc × Int × Int × List Dat × List Dat -> Option (List Un) := fun (a0, a1, a2, a3, a4, a5, a6) =>
 bif a0 == 1 then
 lt ((if a2.ar < a2.fee then a2.ar else a2.fee) : Int) fun x1 =>
 lt ((if x1 < 0 then 0 else x1) : Int) fun x2 =>
 bif decide (x2 > 0) then
 chk (fits (a6.length + 1) 32) <|
 some (Uns.enc (({ a2 with ar := (w64 (a2.ar - x2)), fee := (w64 (a2.fee - x2)) } : bc) : bc) ++ [.i a3, .i a4, .d a5, .d (a6 ++ ([.r [.n a3, .n a4, .n (-1), .n x2]]))])
 else
 some (Uns.enc (({ a2 with ar := (w64 (a2.ar - x2)), fee := (w64 (a2.fee - x2)) } : bc) : bc) ++ [.i a3, .i a4, .d a5, .d a6])
 else
 bif a0 == 2 then
 lt ((if a2.ar < a2.bJ then a2.ar else a2.bJ) : Int) fun x4 =>
 lt ((if x4 < 0 then 0 else x4) : Int) fun x5 =>
 bif decide (x5 > 0) then
 chk (fits (a6.length + 1) 32) <|
 some (Uns.enc (({ a2 with ar := (w64 (a2.ar - x5)), bJ := (w64 (a2.bJ - x5)) } : bc) : bc) ++ [.i a3, .i a4, .d a5, .d (a6 ++ ([.r [.n a3, .n a4, .n (-1), .n x5]]))])
 else
 some (Uns.enc (({ a2 with ar := (w64 (a2.ar - x5)), bJ := (w64 (a2.bJ - x5)) } : bc) : bc) ++ [.i a3, .i a4, .d a5, .d a6])
 else
 bif a0 == 6 then
 lt ((if a2.ar < a2.room then a2.ar else a2.room) : Int) fun x7 =>
 lt ((if x7 < 0 then 0 else x7) : Int) fun x8 =>
 bif decide (x8 > 0) then
 chk (fits (a6.length + 1) 32) <|
 some (Uns.enc (({ a2 with ar := (w64 (a2.ar - x8)), room := (w64 (a2.room - x8)) } : bc) : bc) ++ [.i a3, .i a4, .d a5, .d (a6 ++ ([.r [.n a3, .n a4, .n (-1), .n x8]]))])
 else
 some (Uns.enc (({ a2 with ar := (w64 (a2.ar - x8)), room := (w64 (a2.room - x8)) } : bc) : bc) ++ [.i a3, .i a4, .d a5, .d a6])
 else
 bif a0 == 3 then
 chk (decide (a2.ar <= 9223372036854775807 /\ 0 <= a2.ar /\ a2.ar <= 1152921504606846976 /\ a6.length <= 68719476736) && aQ a5) <|
 some (Uns.enc (({ a2 with ar := a2.ar - (aq (aH a1) 2 a2.ar a5).sum }) : bc) ++ [.i a3, .i a4, .d (bR 2 (aq (aH a1) 2 a2.ar a5) a5), .d (a6 ++ bH a3 a4 0 (aq (aH a1) 2 a2.ar a5))])
 else
 bif a0 == 4 then
 lt ((if a2.ar < a2.aj then a2.ar else a2.aj) : Int) fun x12 =>
 chk (decide (0 <= x12 /\ x12 <= a2.ar /\ a2.ar <= 1152921504606846976 /\ a6.length <= 34359738368) && aQ a5) <|
 lt (({ a2 with ar := a2.ar - (bt a3 a4 8 0 x12 a5).2.2 }) : bc) fun g13 =>
 chk (decide (a2.aj = g13.aj)) <|
 some (Uns.enc (({ g13 with aj := (w64 (a2.aj - ((bt a3 a4 8 0 x12 a5).2.2))) } : bc) : bc) ++ [.i a3, .i a4, .d ((bt a3 a4 8 0 x12 a5).1), .d (a6 ++ (bt a3 a4 8 0 x12 a5).2.1)])
 else
 bif a0 == 5 then
 lt ((if a2.ar < a2.aj then a2.ar else a2.aj) : Int) fun x16 =>
 chk (decide (x16 <= 9223372036854775807 /\ 0 <= a2.ar /\ a2.ar <= 1152921504606846976 /\ a6.length <= 68719476736) && aQ a5) <|
 lt (({ a2 with ar := a2.ar - (aq (fun _ => true) 1 x16 a5).sum }) : bc) fun g18 =>
 chk (decide (a2.aj = g18.aj)) <|
 some (Uns.enc (({ g18 with aj := (w64 (a2.aj - ((aq (fun _ => true) 1 x16 a5).sum))) } : bc) : bc) ++ [.i a3, .i a4, .d (bR 1 (aq (fun _ => true) 1 x16 a5) a5), .d (a6 ++ bH a3 a4 0 (aq (fun _ => true) 1 x16 a5))])
 else
 bif a0 == 7 then
 chk (decide (0 <= a2.ar /\ a2.ar <= a2.ar /\ a2.ar <= 1152921504606846976 /\ a6.length <= 34359738368) && aQ a5) <|
 some (Uns.enc (({ a2 with ar := a2.ar - (bt a3 a4 8 0 a2.ar a5).2.2 }) : bc) ++ [.i a3, .i a4, .d ((bt a3 a4 8 0 a2.ar a5).1), .d (a6 ++ (bt a3 a4 8 0 a2.ar a5).2.1)])
 else
 some (Uns.enc (a2 : bc) ++ [.i a3, .i a4, .d a5, .d a6])
def f80 : Int × Int × bc × Int × Int × List Dat × List Dat -> Bool × List Un := fun (a0, a1, a2, a3, a4, a5, a6) => (decide (a4 = a0 /\ a6.length <= 17179869184) && (m7 a2 && aQ a5), Uns.enc (((dt a3 a0 a1 a2 a5).1) : bc) ++ [.i (a3), .i (a4), .d ((dt a3 a0 a1 a2 a5).2.1), .d (a6 ++ (dt a3 a0 a1 a2 a5).2.2)])
set_option maxHeartbeats 2000000 in
theorem MM (a0 : Int) (a1 : Int) (a2 : bc) (a3 : Int) (a4 : Int) (a5 : List Dat) (a6 : List Dat) (hc : (decide (a4 = a0 /\ a6.length <= 17179869184) && (m7 a2 && aQ a5)) = true) : ∃ m, t80 m (a0, a1, a2, a3, a4, a5, a6) = some (Uns.enc (((dt a3 a0 a1 a2 a5).1) : bc) ++ [.i (a3), .i (a4), .d ((dt a3 a0 a1 a2 a5).2.1), .d (a6 ++ (dt a3 a0 a1 a2 a5).2.2)]) := by
 simp only [zab, zag] at hc; obtain ⟨⟨rfl, ho⟩, hx, hc⟩ := hc; have hx' := rR hx; have hcl := (bL hc).1; have w2 := fun sel j hj => (mD (c := a5) sel (j := j) hj hc).2.2
 have s2 := fun sel j hj n => (dM (c := a5) sel (j := j) hj n hc).2.1
 have mm : ∀ a b : Int, (if b < a then b else a) = min a b := fun a b => by omega
 have mx : ∀ a : Int, (if a < 0 then 0 else a) = max a 0 := fun a => by omega
 refine ⟨0, ?_⟩; unfold t80 dt; dsimp only; simp only [lt_eq, mm, mx]; have one : ∀ (z : Int) (u : bc) (o2 : List Dat), 0 <= z -> ∀ v : bc, u = v -> (bif decide (z > 0) then chk (fits (a6.length + 1) 32) (some (Uns.enc (u : bc) ++ [.i a3, .i a4, .d a5, .d (a6 ++ ([.r [.n a3, .n a4, .n (-1), .n z]]))])) else some (Uns.enc (u : bc) ++ [.i a3, .i a4, .d a5, .d a6])) = some (Uns.enc (v : bc) ++ [.i a3, .i a4, .d a5, .d (a6 ++ jG a3 a4 z)]) := by
  intro z u o2 hz v huv; subst huv; unfold jG
  by_cases h : z > 0
  . rw [bF h, jd (by omega) (by omega), if_pos (by omega)]
  . rw [aE h, if_neg (by omega), zaW]
 by_cases k1 : a4 = 1
 . rw [gT k1, if_pos k1]; rw [show max (min a2.fee a2.ar) 0 = min a2.fee a2.ar by omega]; exact one _ _ [] (by omega) _ (by rw [aa (by omega) (by omega), aa (by omega) (by omega)])
 rw [fX k1, if_neg k1]
 by_cases k2 : a4 = 2
 . rw [gT k2, if_pos k2]; rw [show max (min a2.bJ a2.ar) 0 = min a2.bJ a2.ar by omega]; exact one _ _ [] (by omega) _ (by rw [aa (by omega) (by omega), aa (by omega) (by omega)])
 rw [fX k2, if_neg k2]
 by_cases k6 : a4 = 6
 . rw [gT k6, if_pos k6]; rw [show max (min a2.room a2.ar) 0 = min a2.room a2.ar by omega]; exact one _ _ [] (by omega) _ (by rw [aa (by omega) (by omega), aa (by omega) (by omega)])
 rw [fX k6, if_neg k6]
 by_cases k3 : a4 = 3
 . rw [gT k3, if_pos k3, hc, zbb, aP (by omega)]
 rw [fX k3, if_neg k3]
 by_cases k4 : a4 = 4
 . rw [gT k4, if_pos k4, hc, zbb, aP (by omega), aP trivial]; have q := uq a3 a4 8 0 (min a2.aj a2.ar) a5 hc; generalize bt a3 a4 8 0 (min a2.aj a2.ar) a5 = y at *
   rw [aa (by omega) (by omega)]
 rw [fX k4, if_neg k4]
 by_cases k5 : a4 = 5
 . rw [gT k5, if_pos k5, hc, zbb, aP (by omega), aP trivial]; have q1 := s2 (fun _ => true) 1 (.inl rfl) (min a2.aj a2.ar); have q2 := w2 (fun _ => true) 1 (.inl rfl); rw [aa (n := a2.aj - _) (by omega) (by omega)]
 rw [fX k5, if_neg k5]
 by_cases k7 : a4 = 7
 . rw [gT k7, if_pos k7, hc, zbb, aP (by omega)]
 rw [fX k7, if_neg k7, zaW]
theorem Kh : ER 80 (mkE N80.en N80.ex f80) := an ah Ni.right (fun m => []) (t := t80) (by kernel_rfl) (fun m => aA) (fun m a => by kernel_rfl) fun (a0, a1, a2, a3, a4, a5, a6) hc => MM a0 a1 a2 a3 a4 a5 a6 hc
def T80 : Tb Tryz.prog LQ TE XX := Ni.add 80 _ Kh
def N38 : aD := ⟨T80.tab, 38, ⟨[.int .i64, .agg [.int .i64, .int .i64, .int .i64, .int .i64, .ai (sI 3)], .ai (sI 2)], [], 0⟩, ⟨[.buf 0 4, .int .i64, .agg [.int .i64, .int .i64, .int .i64, .int .i64, .buf 1 3]], [.ai (sI 4), .ai (sI 3)], 0⟩, []⟩
abbrev DR : Type := List Dat × Int × Int × Int × Int × Int × Int × bc × Int × Int × List Dat × List Dat × List Dat
def xS (m : Nat) (k : DR -> Option (List Un)) : DR -> Option (List Un) := fun (a0, a1, a2, a3, a4, a5, a6, a7, a8, a9, a10, a11, a12) =>
 bif decide (a2 < a1) then
 chk (inb a2 a0.length) <|
 chk (decide (a2.toNat < a0.length)) <|
 lt (ag a0 a2.toNat : Dat) fun d1 =>
 chk (decide ((d1.i 0) = (d1.i 0) /\ a12.length <= 17179869184) && (m7 a7 && aQ a11)) <|
 k (a0, a1, (w64 (a2 + 1)), a3, a4, a5, a6, ((dt a2 (d1.i 0) (d1.i 1) a7 a11).1), a2, (d1.i 0), a10, ((dt a2 (d1.i 0) (d1.i 1) a7 a11).2.1), (a12 ++ (dt a2 (d1.i 0) (d1.i 1) a7 a11).2.2))
 else
 some ([.i a7.ar, .i a7.fee, .i a7.bJ, .i a7.aj, .i a7.room, .d a12, .d a11])
def v5 (m : Nat) : Nat -> DR -> Option (List Un) := br (xS m)
theorem tS (m : Nat) (n : Nat) : v5 m (n + 1) = xS m (v5 m n) := rfl
def Fj (F : DR -> Option (List Un)) : ba := ⟨[.lp [0, 1, 0, 1, 1, 1], .blk 0, .code [1, 1, 1, 1]], ⟨frm 52 [(8, .ptr 0 0 0), (9, .ptr 1 0 0), (20, .ai (sI 2)), (21, .int .i64), (22, .int .i64)], [.cells [.int .i64, .int .i64, .int .i64, .int .i64, .buf 2 3], .cells [.int .i64, .int .i64, .int .i64, .int .i64, .int .i64, .buf 3 3, .int .i64, .int .i64, .buf 4 4], .ai (sI 3), .ai (sI 3), .ai (sI 4)], 0⟩, onU F⟩
theorem PR (m : Nat) : ∀ n, HO N38 (Fj (v5 m n)) := au ah T80.right (fun k => [Fj k]) (fun k h => (aL h aA)) fun k a => by kernel_rfl
def t38 (m : Nat) : Int × Int × Int × Int × Int × List Dat × List Dat -> Option (List Un) := fun (a0, a1, a2, a3, a4, a5, a6) =>
 chk (decide (a5.length < 1000000)) <|
 v5 m m (a6, (a6.length : Int), 0, 0, 0, 0, 0, (⟨a0, a1, a2, a3, a4⟩ : bc), 0, 0, [], a5, [])
theorem Oo (m : Nat) (z1 z2 z3 z4 : Int) (zl : List Dat) : ∀ (rest pre : List Dat) (n : Nat) (y : bc) (q kd : Int) (c out : List Dat), rest.length < n -> (pre ++ rest).length <= 1000000 -> m7 y = true -> aQ c = true -> out.length <= 8000 * pre.length ->
 v5 m n (pre ++ rest, ((pre ++ rest).length : Int), (pre.length : Int), z1, z2, z3, z4, y, q, kd, zl, c, out) = some [.i (dB pre.length rest y c).1.ar, .i (dB pre.length rest y c).1.fee, .i (dB pre.length rest y c).1.bJ, .i (dB pre.length rest y c).1.aj, .i (dB pre.length rest y c).1.room, .d (out ++ (dB pre.length rest y c).2.2), .d (dB pre.length rest y c).2.1] := by
 intro rest
 induction rest with
 | nil =>
  intro pre n y q kd c out hn hl hy hc ho; obtain ⟨n, rfl⟩ := al n (by simp at hn; omega); rw [tS]; unfold xS; dsimp only; simp [aE, dB]
 | cons x rest ih =>
  intro pre n y q kd c out hn hl hy hc ho; obtain ⟨n, rfl⟩ := al n (by simp at hn; omega); simp only [zac, zad] at hn hl; obtain ⟨s1, s2, s3, s4⟩ := uc pre.length (x.i 0) (x.i 1) hy hc; have := ih (pre ++ [x]) n _ (pre.length : Int) (x.i 0) _ (out ++ (dt pre.length (x.i 0) (x.i 1) y c).2.2) (by omega) (by simp; omega) s1 s2 (by simp; omega); simp only [dB]; rw [tS]; unfold xS; dsimp only; simp only [hy, hc, Bool.and_self, zbb]; simp only [zaC, ax, lt_eq]; generalize dt pre.length (x.i 0) (x.i 1) y c = u at *
  simp only [hy, hc, Bool.and_self, zbb, zaU, true_and]; simp (disch := omega) only [TRa, TRi, aa, LNl, LNi, zaa, ax]; simp only [LNl, LNi, zaa] at this ⊢; exact this
def f38 : Int × Int × Int × Int × Int × List Dat × List Dat -> Bool × List Un := fun (a0, a1, a2, a3, a4, a5, a6) => (decide (a6.length <= 1000000) && (m7 ⟨a0, a1, a2, a3, a4⟩ && aQ a5), [.i ((dB 0 a6 ⟨a0, a1, a2, a3, a4⟩ a5).1.ar), .i ((dB 0 a6 ⟨a0, a1, a2, a3, a4⟩ a5).1.fee), .i ((dB 0 a6 ⟨a0, a1, a2, a3, a4⟩ a5).1.bJ), .i ((dB 0 a6 ⟨a0, a1, a2, a3, a4⟩ a5).1.aj), .i ((dB 0 a6 ⟨a0, a1, a2, a3, a4⟩ a5).1.room), .d ((dB 0 a6 ⟨a0, a1, a2, a3, a4⟩ a5).2.2), .d ((dB 0 a6 ⟨a0, a1, a2, a3, a4⟩ a5).2.1)])
theorem M0 (a0 : Int) (a1 : Int) (a2 : Int) (a3 : Int) (a4 : Int) (a5 : List Dat) (a6 : List Dat) (hc : (decide (a6.length <= 1000000) && (m7 ⟨a0, a1, a2, a3, a4⟩ && aQ a5)) = true) : ∃ m, t38 m (a0, a1, a2, a3, a4, a5, a6) = some ([.i ((dB 0 a6 ⟨a0, a1, a2, a3, a4⟩ a5).1.ar), .i ((dB 0 a6 ⟨a0, a1, a2, a3, a4⟩ a5).1.fee), .i ((dB 0 a6 ⟨a0, a1, a2, a3, a4⟩ a5).1.bJ), .i ((dB 0 a6 ⟨a0, a1, a2, a3, a4⟩ a5).1.aj), .i ((dB 0 a6 ⟨a0, a1, a2, a3, a4⟩ a5).1.room), .d ((dB 0 a6 ⟨a0, a1, a2, a3, a4⟩ a5).2.2), .d ((dB 0 a6 ⟨a0, a1, a2, a3, a4⟩ a5).2.1)]) := by
 simp only [zab, zag] at hc; obtain ⟨h1, h2, h3⟩ := hc; have hl := (bL h3).1; refine ⟨a6.length + 1, ?_⟩; unfold t38; dsimp only; rw [aP (by omega)]; exact Oo _ 0 0 0 0 [] a6 [] (a6.length + 1) _ 0 0 a5 [] (by omega) (by simpa using h1) h2 h3 (by simp)
theorem JK : ER 38 (mkE N38.en N38.ex f38) := an ah T80.right (fun m => [Fj (v5 m m)]) (t := t38) (by kernel_rfl) (fun m => (aL (PR m m) aA)) (fun m a => by kernel_rfl) fun (a0, a1, a2, a3, a4, a5, a6) hc => M0 a0 a1 a2 a3 a4 a5 a6 hc
def T38 : Tb Tryz.prog LQ TE XX := T80.add 38 _ JK
theorem fw (j : Nat) : ∀ l : List Dat, (∀ d ∈ l, 0 <= d.i j) -> 0 <= ao j l
 | [], _ => by simp [ao]
 | d :: l, h => by
  have := h d (by simp); have := fw j l fun x hx => h x (by simp [hx])
  simp only [ao]; omega
theorem uU (j : Nat) : ∀ a b : List Dat, ao j (a ++ b) = ao j a + ao j b
 | [], b => by simp [ao]
 | d :: a, b => by simp only [zaY, ao, uU j a b]; omega
theorem uY (a k : Int) : ∀ (xs : List Int) (i : Int), (∀ x ∈ xs, 0 <= x) -> ao 3 (bH a k i xs) = xs.sum
 | [], i, _ => rfl
 | x :: xs, i, h => by
  have := uY a k xs (i + 1) fun y hy => h y (by simp [hy])
  have h0 := h x (by simp); simp only [bH, uU, zbn, this]
  by_cases hx : 0 < x
  . rw [if_pos hx]; simp [ao, eT]
  . rw [if_neg hx]; simp only [ao]; omega
theorem Bh {c : List Dat} (sel : Dat -> Bool) {j : Nat} (hj : j = 1 \/ j = 2) (n : Int) (h : aQ c = true) : ∀ x ∈ aq sel j n c, 0 <= x := fun x hx => by
 obtain ⟨l1, l2, l3⟩ := dM sel hj n h; obtain ⟨i, hi, rfl⟩ := oe hx; rw [l1] at hi; exact (l3 i hi).1
def bn (f : Dat -> Bool) : List Dat -> Int
 | [] => 0
 | d :: l => (bif f d then d.i 3 else 0) + bn f l
theorem hP (f : Dat -> Bool) : ∀ a b : List Dat, bn f (a ++ b) = bn f a + bn f b
 | [], b => by simp [bn]
 | d :: a, b => by simp only [zaY, bn, hP f a b]; omega
theorem fx (f : Dat -> Bool) : ∀ l : List Dat, (∀ d ∈ l, f d = false) -> bn f l = 0
 | [], _ => rfl
 | d :: l, h => by simp only [bn, h d (by simp), fx f l (fun x hx => h x (by simp [hx])), zao]; rfl
theorem zf (f : Dat -> Bool) : ∀ l : List Dat, (∀ d ∈ l, f d = true) -> bn f l = ao 3 l
 | [], _ => rfl
 | d :: l, h => by simp only [bn, ao, h d (by simp), zf f l (fun x hx => h x (by simp [hx])), zaE]
theorem pw {f g : Dat -> Bool} : ∀ l : List Dat, (∀ d ∈ l, f d = g d) -> bn f l = bn g l
 | [], _ => rfl
 | d :: l, h => by simp only [bn, h d (by simp), pw l (fun x hx => h x (by simp [hx]))]
def kF (d : Dat) : Bool := d.i 1 == 1
def kR (d : Dat) : Bool := d.i 1 == 2
def kT (d : Dat) : Bool := d.i 1 == 6
def kI (d : Dat) : Bool := d.i 1 == 3
def kB (d : Dat) : Bool := !kF d && !kR d && !kT d && !kI d
def kP (d : Dat) : Bool := kB d && d.i 1 != 7
def toI (i : Nat) (d : Dat) : Bool := kI d && d.i 2 == (i : Int)
def toB (i : Nat) (d : Dat) : Bool := kB d && d.i 2 == (i : Int)
theorem kA (a k : Int) : ∀ (xs : List Int) (i : Int), ∀ d ∈ bH a k i xs, d.i 0 = a /\ d.i 1 = k /\ (i <= d.i 2 /\ d.i 2 < i + xs.length) /\ 1 <= d.i 3 /\ d.i 3 = xs.getD (d.i 2 - i).toNat 0
 | [], i, d, h => by simp [bH] at h
 | x :: xs, i, d, h => by
  simp only [bH, zbM] at h; rcases h with h | h
  . by_cases hx : 0 < x
    . rw [if_pos hx] at h; rw [List.mem_singleton.1 h]; refine ⟨rfl, rfl, ?_, ?_, ?_⟩
      . simp only [iB, zac, zay]; omega
      . simp only [eT]; omega
      . simp only [iB, eT, Int.sub_self, Int.toNat_zero, zaH]
    . rw [if_neg hx] at h; cases h
  . obtain ⟨h1, h2, h3, h4, h5⟩ := kA a k xs (i + 1) d h; simp only [zac, zay]; refine ⟨h1, h2, by omega, h4, ?_⟩; rw [show (d.i 2 - i).toNat = (d.i 2 - (i + 1)).toNat + 1 by omega, zat]; exact h5
theorem v9 (a k : Int) : ∀ (xs : List Int) (i : Int) (j : Nat), (∀ x ∈ xs, 0 <= x) -> bn (fun d => d.i 2 == i + j) (bH a k i xs) = xs.getD j 0
 | [], i, j, _ => by simp [bH, bn]
 | x :: xs, i, j, h => by
  have h0 := h x (by simp); simp only [bH, hP]; cases j with
  | zero =>
   have e : bn (fun d => d.i 2 == i + ((0 : Nat) : Int)) (bH a k (i + 1) xs) = 0 := fx _ _ fun d hd => by
    have := kA a k xs (i + 1) d hd; simp only [zb3]; omega
   rw [e, zaH]
   by_cases hx : 0 < x
   . rw [if_pos hx]; simp [bn, iB, eT]
   . rw [if_neg hx]; simp only [bn]; omega
  | succ j =>
   have := v9 a k xs (i + 1) j fun y hy => h y (by simp [hy])
   rw [show i + 1 + (j : Int) = i + ((j + 1 : Nat) : Int) by omega] at this; rw [this, zat]
   by_cases hx : 0 < x
   . rw [if_pos hx]; simp only [bn, iB]; rw [show (i == i + ((j + 1 : Nat) : Int)) = false by simp only [zb3]; omega]; simp
   . rw [if_neg hx]; simp [bn]
structure Kept (x : bc) (c ps : List Dat) (x' : bc) (c' : List Dat) : Prop where
 ar : x'.ar = x.ar - ao 3 ps
 fee : x'.fee = x.fee - bn kF ps
 bJ : x'.bJ = x.bJ - bn kR ps
 room : x'.room = x.room - bn kT ps
 pri : x'.aj = x.aj - bn kP ps
 len : c'.length = c.length
 row : ∀ i, i < c.length -> ag c' i = .r [.n ((ag c i).i 0), .n ((ag c i).i 1 - bn (toB i) ps), .n ((ag c i).i 2 - bn (toI i) ps)]
theorem Kept.refl {x : bc} {c : List Dat} (h : ∀ d ∈ c, lu 3 d = true) : Kept x c [] x c := by
 refine ⟨by simp [ao], by simp [bn], by simp [bn], by simp [bn], by simp [bn], rfl, fun i hi => ?_⟩; simp only [bn, zbm]; exact Cm (h _ (mN hi))
theorem Kept.trans {x x' x'' : bc} {c c' c'' ps qs : List Dat} (a : Kept x c ps x' c') (b : Kept x' c' qs x'' c'') : Kept x c (ps ++ qs) x'' c'' := by
 refine ⟨?_, ?_, ?_, ?_, ?_, b.len.trans a.len, fun i hi => ?_⟩
 . rw [b.ar, a.ar, uU]; omega
 . rw [b.fee, a.fee, hP]; omega
 . rw [b.bJ, a.bJ, hP]; omega
 . rw [b.room, a.room, hP]; omega
 . rw [b.pri, a.pri, hP]; omega
 . rw [b.row i (by rw [a.len]; exact hi), a.row i hi, hP, hP]; simp only [Mg, et, iB]; rw [show (ag c i).i 1 - bn (toB i) ps - bn (toB i) qs = (ag c i).i 1 - (bn (toB i) ps + bn (toB i) qs) by omega, show (ag c i).i 2 - bn (toI i) ps - bn (toI i) qs = (ag c i).i 2 - (bn (toI i) ps + bn (toI i) qs) by omega]
theorem Kept.shares {c : List Dat} (sel : Dat -> Bool) (n : Int) (h : aQ c = true) (x : bc) (a : Int) {j : Nat} {kd : Int} (hk : (j = 2 /\ kd = 3) \/ (j = 1 /\ (kd = 4 \/ kd = 5 \/ kd = 7))) :
 Kept x c (bH a kd 0 (aq sel j n c)) { x with ar := x.ar - (aq sel j n c).sum, aj := if kd = 4 \/ kd = 5 then x.aj - (aq sel j n c).sum else x.aj } (bR j (aq sel j n c) c) := by
 have hj : j = 1 \/ j = 2 := by omega
 obtain ⟨l1, l2, l3⟩ := dM sel hj n h; obtain ⟨h1, h2⟩ := bL h; have hm := Bh sel hj n h; have hp := kA a kd (aq sel j n c) 0; have hs := uY a kd (aq sel j n c) 0 hm; have hat := fun i => v9 a kd (aq sel j n c) 0 i hm
 have kk : ∀ d ∈ bH a kd 0 (aq sel j n c), kF d = false /\ kR d = false /\ kT d = false /\ kI d = (kd == 3) /\ kB d = !(kd == 3) := fun d hd => by
  have := (hp d hd).2.1; simp only [kB, kF, kR, kT, kI, this]; rcases hk with ⟨_, rfl⟩ | ⟨_, rfl | rfl | rfl⟩ <;> decide
 refine ⟨by rw [hs], ?_, ?_, ?_, ?_, lE j _ c l1, fun i hi => ?_⟩
 . rw [fx kF _ fun d hd => (kk d hd).1]; simp
 . rw [fx kR _ fun d hd => (kk d hd).2.1]; simp
 . rw [fx kT _ fun d hd => (kk d hd).2.2.1]; simp
 . by_cases h45 : kd = 4 \/ kd = 5
   . simp only [if_pos h45]; rw [zf kP _ fun d hd => by
      have := (kk d hd).2.2.2.2; have h6 := (hp d hd).2.1; simp only [kP, this, h6]; rcases h45 with rfl | rfl <;> rfl, hs]
   . simp only [if_neg h45]; rw [fx kP _ fun d hd => by
      have := (kk d hd).2.2.2.2; have h6 := (hp d hd).2.1; simp only [kP, this, h6]; rcases hk with ⟨_, rfl⟩ | ⟨_, rfl | rfl | rfl⟩
      . rfl
      . exact absurd (.inl rfl) h45
      . exact absurd (.inr rfl) h45
      . rfl]
     simp
 . rw [ml j _ c i l1 hi]; have e2 := hat i; simp only [za2] at e2; rcases hk with ⟨rfl, rfl⟩ | ⟨rfl, hk⟩
   . have a1 : bn (toB i) (bH a 3 0 (aq sel 2 n c)) = 0 := fx _ _ fun d hd => by simp only [toB, (kk d hd).2.2.2.2]; rfl
     have a2 : bn (toI i) (bH a 3 0 (aq sel 2 n c)) = (aq sel 2 n c).getD i 0 := by
      rw [<- e2]; exact pw _ fun d hd => by simp only [toI, (kk d hd).2.2.2.1]; rfl
     rw [a1, a2]; simp only [b8, show ¬ (2 : Nat) = 1 by decide, zbg, zbm]
   . have k3 : (kd == 3) = false := by rcases hk with rfl | rfl | rfl <;> rfl
     have a1 : bn (toI i) (bH a kd 0 (aq sel 1 n c)) = 0 := fx _ _ fun d hd => by simp only [toI, (kk d hd).2.2.2.1, k3]; rfl
     have a2 : bn (toB i) (bH a kd 0 (aq sel 1 n c)) = (aq sel 1 n c).getD i 0 := by
      rw [<- e2]; exact pw _ fun d hd => by simp only [toB, (kk d hd).2.2.2.2, k3]; rfl
     rw [a1, a2]; simp only [b8, za8, zbm]
theorem Kept.uh {a kd : Int} (hk : kd = 4 \/ kd = 7) : ∀ (k : Nat) (r n : Int) (x : bc) (c : List Dat), aQ c = true ->
 Kept x c (bt a kd k r n c).2.1 { x with ar := x.ar - (bt a kd k r n c).2.2, aj := if kd = 4 then x.aj - (bt a kd k r n c).2.2 else x.aj } (bt a kd k r n c).1
 | 0, r, n, x, c, h => by
  have := Kept.refl (x := x) fun d hd => (cm ((bL h).2 d hd)).1
  simp only [bt, zbm, ite_self]; exact this
 | k + 1, r, n, x, c, h => by
  obtain ⟨g1, g2⟩ := o8 (aH r) (j := 1) (.inl rfl) n h; have a1 := Kept.shares (aH r) n h x a (j := 1) (kd := kd) (.inr ⟨rfl, by omega⟩); have a2 := Kept.uh (a := a) hk k (r + 1) (n - (aq (aH r) 1 n c).sum) { x with ar := x.ar - (aq (aH r) 1 n c).sum, aj := if kd = 4 \/ kd = 5 then x.aj - (aq (aH r) 1 n c).sum else x.aj } _ g1; have := a1.trans a2; simp only [bt]; have e : (if kd = 4 \/ kd = 5 then x.aj - (aq (aH r) 1 n c).sum else x.aj) = if kd = 4 then x.aj - (aq (aH r) 1 n c).sum else x.aj := by
   rcases hk with rfl | rfl <;> simp
  simp only [e] at this; generalize (bt a kd k (r + 1) (n - (aq (aH r) 1 n c).sum) (bR 1 (aq (aH r) 1 n c) c)).2.2 = y at *
  by_cases h4 : kd = 4
  . simp only [if_pos h4, Int.sub_sub] at this ⊢; exact this
  . simp only [if_neg h4, Int.sub_sub] at this ⊢; exact this
def Ay (n : Nat) (a kd : Int) (d : Dat) : Prop := d.i 0 = a /\ d.i 1 = kd /\ 1 <= d.i 3 /\ (-1 <= d.i 2 /\ d.i 2 < n) /\ (d.i 2 < 0 ↔ (kd = 1 \/ kd = 2 \/ kd = 6))
theorem qa {a kd : Int} {xs : List Int} {n : Nat} (hl : xs.length = n) (hk : ¬ (kd = 1 \/ kd = 2 \/ kd = 6)) : ∀ d ∈ bH a kd 0 xs, Ay n a kd d := fun d hd => by
 obtain ⟨h1, h2, h3, h4, h5⟩ := kA a kd xs 0 d hd; exact ⟨h1, h2, h4, by omega, by omega⟩
theorem nW {a kd : Int} (hk : ¬ (kd = 1 \/ kd = 2 \/ kd = 6)) : ∀ (k : Nat) (r n : Int) (c : List Dat), aQ c = true -> ∀ d ∈ (bt a kd k r n c).2.1, Ay c.length a kd d
 | 0, r, n, c, h, d, hd => by simp [bt] at hd
 | k + 1, r, n, c, h, d, hd => by
  obtain ⟨g1, g2⟩ := o8 (aH r) (j := 1) (.inl rfl) n h; obtain ⟨l1, l2, l3⟩ := dM (aH r) (j := 1) (.inl rfl) n h; simp only [bt] at hd; rcases zbM.1 hd with hd | hd
  . exact qa l1 hk d hd
  . have := nW hk k (r + 1) _ _ g1 d hd
    rwa [g2] at this
theorem mF {x : bc} {c : List Dat} (h : aQ c = true) (a kd n : Int) (h0 : 0 <= n) (hk : kd = 1 \/ kd = 2 \/ kd = 6) :
 Kept x c (jG a kd n) { x with ar := x.ar - n, fee := if kd = 1 then x.fee - n else x.fee, bJ := if kd = 2 then x.bJ - n else x.bJ, room := if kd = 6 then x.room - n else x.room } c /\ ∀ d ∈ jG a kd n, Ay c.length a kd d := by
 have hr : ∀ d ∈ c, lu 3 d = true := fun d hd => (cm ((bL h).2 d hd)).1
 unfold jG
 by_cases hn : 0 < n
 . rw [if_pos hn]; refine ⟨⟨by simp [ao, eT], ?_, ?_, ?_, ?_, rfl, fun i hi => ?_⟩, fun d hd => ?_⟩
   . simp only [bn, kF, et, eT]; rcases hk with rfl | rfl | rfl <;> simp
   . simp only [bn, kR, et, eT]; rcases hk with rfl | rfl | rfl <;> simp
   . simp only [bn, kT, et, eT]; rcases hk with rfl | rfl | rfl <;> simp
   . simp only [bn, kP, kB, kF, kR, kT, kI, et, eT]; rcases hk with rfl | rfl | rfl <;> simp
   . have a1 : bn (toB i) [Dat.r [.n a, .n kd, .n (-1), .n n]] = 0 := by simp only [bn, toB, kB, kF, kR, kT, kI, et, iB]; rcases hk with rfl | rfl | rfl <;> simp
     have a2 : bn (toI i) [Dat.r [.n a, .n kd, .n (-1), .n n]] = 0 := by simp only [bn, toI, kI, et, iB]; rcases hk with rfl | rfl | rfl <;> simp
     rw [a1, a2, zbm, zbm]; exact Cm (hr _ (mN hi))
   . rw [List.mem_singleton.1 hd]; refine ⟨rfl, rfl, ?_, ?_, ?_⟩
     . show (1 : Int) <= n; exact hn
     . exact ⟨zcb (-1), by show (-1 : Int) < (c.length : Int); omega⟩
     . show (-1 : Int) < 0 ↔ _; exact ⟨fun _ => hk, fun _ => by decide⟩
 . rw [if_neg hn]; obtain rfl : n = 0 := by omega
   simp only [zbm, ite_self]; exact ⟨Kept.refl hr, fun d hd => by cases hd⟩
theorem BQ (a kd rk : Int) {x : bc} {c : List Dat} (hx : m7 x = true) (h : aQ c = true) : Kept x c (dt a kd rk x c).2.2 (dt a kd rk x c).1 (dt a kd rk x c).2.1 /\ ∀ d ∈ (dt a kd rk x c).2.2, Ay c.length a kd d := by
 have hx' := rR hx; have s1 := fun sel j hj n => (dM (c := c) sel (j := j) hj n h).1
 unfold dt
 by_cases k1 : kd = 1
 . rw [if_pos k1]; have := mF (x := x) h a kd (min x.fee x.ar) (by omega) (.inl k1); subst k1; exact this
 rw [if_neg k1]
 by_cases k2 : kd = 2
 . rw [if_pos k2]; have := mF (x := x) h a kd (min x.bJ x.ar) (by omega) (.inr (.inl k2)); subst k2; exact this
 rw [if_neg k2]
 by_cases k6 : kd = 6
 . rw [if_pos k6]; have := mF (x := x) h a kd (min x.room x.ar) (by omega) (.inr (.inr k6)); subst k6; exact this
 rw [if_neg k6]; have hk : ¬ (kd = 1 \/ kd = 2 \/ kd = 6) := by omega
 by_cases k3 : kd = 3
 . rw [if_pos k3]; have := Kept.shares (aH rk) x.ar h x a (j := 2) (kd := kd) (.inl ⟨rfl, k3⟩); rw [if_neg (by omega)] at this; exact ⟨this, qa (s1 (aH rk) 2 (.inr rfl) x.ar) hk⟩
 rw [if_neg k3]
 by_cases k4 : kd = 4
 . rw [if_pos k4]; have := Kept.uh (a := a) (kd := kd) (.inl k4) 8 0 (min x.aj x.ar) x c h; simp only [if_pos k4] at this; have hp := nW (a := a) hk 8 0 (min x.aj x.ar) c h; generalize bt a kd 8 0 (min x.aj x.ar) c = y at *
   exact ⟨this, hp⟩
 rw [if_neg k4]
 by_cases k5 : kd = 5
 . rw [if_pos k5]; have := Kept.shares (fun _ => true) (min x.aj x.ar) h x a (j := 1) (kd := kd) (.inr ⟨rfl, by omega⟩); rw [if_pos (by omega)] at this; exact ⟨this, qa (s1 (fun _ => true) 1 (.inl rfl) _) hk⟩
 rw [if_neg k5]
 by_cases k7 : kd = 7
 . rw [if_pos k7]; have := Kept.uh (a := a) (kd := kd) (.inr k7) 8 0 x.ar x c h; simp only [if_neg k4] at this; have hp := nW (a := a) hk 8 0 x.ar c h; generalize bt a kd 8 0 x.ar c = y at *
   exact ⟨this, hp⟩
 rw [if_neg k7]; exact ⟨Kept.refl fun d hd => (cm ((bL h).2 d hd)).1, fun d hd => by cases hd⟩
def GL (n : Nat) (a : Int) (l : List Dat) (d : Dat) : Prop := (a <= d.i 0 /\ d.i 0 < a + l.length) /\ Ay n (d.i 0) (ag l (d.i 0 - a).toNat |>.i 0) d
theorem wa : ∀ (l : List Dat) (a : Int) (x : bc) (c : List Dat), m7 x = true -> aQ c = true -> Kept x c (dB a l x c).2.2 (dB a l x c).1 (dB a l x c).2.1 /\ (∀ d ∈ (dB a l x c).2.2, GL c.length a l d) /\ (dB a l x c).2.2.Pairwise fun d e => d.i 0 <= e.i 0
 | [], a, x, c, hx, h => ⟨Kept.refl fun d hd => (cm ((bL h).2 d hd)).1, fun d hd => by simp [dB] at hd, List.Pairwise.nil⟩
 | s :: l, a, x, c, hx, h => by
  obtain ⟨h1, h2, h3, h4⟩ := uc a (s.i 0) (s.i 1) hx h; obtain ⟨k1, k2⟩ := BQ a (s.i 0) (s.i 1) hx h; obtain ⟨i1, i2, i3⟩ := wa l (a + 1) _ _ h1 h2; simp only [dB]; refine ⟨k1.trans i1, fun d hd => ?_, ?_⟩
  . rcases zbM.1 hd with hd | hd
    . obtain ⟨g0, g1, g2, g3, g4⟩ := k2 d hd; refine ⟨by rw [g0, zac]; omega, ?_⟩; rw [g0, Int.sub_self]; exact ⟨g0, g1, g2, g3, g4⟩
    . obtain ⟨g0, g1⟩ := i2 d hd; rw [h3] at g1; refine ⟨by rw [zac]; omega, ?_⟩; rw [show (d.i 0 - a).toNat = (d.i 0 - (a + 1)).toNat + 1 by omega]; exact g1
  . rw [List.pairwise_append]; refine ⟨?_, i3, fun d hd e he => ?_⟩
    . refine List.Pairwise.imp_of_mem (R := fun _ _ => True) (fun {d e} hd he _ => ?_) (List.pairwise_of_forall fun _ _ => trivial); rw [(k2 d hd).1, (k2 e he).1]; exact zcb _
    . have := (k2 d hd).1; have := (i2 e he).1; omega
def cH (u p l r : Int) : Int := min (min (max (u - p) 0) (max (l - r) 0)) (max u 0)
def N85 : aD := ⟨T38.tab, 85, ⟨[.int .i64, .int .i64, .int .i64, .int .i64], [], 0⟩, ⟨[.int .i64], [], 0⟩, []⟩
def t85 (m : Nat) : Int × Int × Int × Int -> Option (List Un) := fun (a0, a1, a2, a3) =>
 lt ((if (w64 (a0 - a1)) < 0 then 0 else (w64 (a0 - a1))) : Int) fun x1 =>
 lt ((if (w64 (a2 - a3)) < 0 then 0 else (w64 (a2 - a3))) : Int) fun x2 =>
 lt ((if a0 < 0 then 0 else a0) : Int) fun x3 =>
 some ([.i (if x3 < (if x2 < x1 then x2 else x1) then x3 else (if x2 < x1 then x2 else x1))])
def f85 : Int × Int × Int × Int -> Bool × List Un := fun (a0, a1, a2, a3) => (decide ((-1152921504606846976 <= a0 /\ a0 <= 1152921504606846976) /\ (-1152921504606846976 <= a1 /\ a1 <= 1152921504606846976) /\ (-1152921504606846976 <= a2 /\ a2 <= 1152921504606846976) /\ (-1152921504606846976 <= a3 /\ a3 <= 1152921504606846976)), [.i (cH a0 a1 a2 a3)])
theorem MD (a0 : Int) (a1 : Int) (a2 : Int) (a3 : Int) (hc : (decide ((-1152921504606846976 <= a0 /\ a0 <= 1152921504606846976) /\ (-1152921504606846976 <= a1 /\ a1 <= 1152921504606846976) /\ (-1152921504606846976 <= a2 /\ a2 <= 1152921504606846976) /\ (-1152921504606846976 <= a3 /\ a3 <= 1152921504606846976))) = true) : ∃ m, t85 m (a0, a1, a2, a3) = some ([.i (cH a0 a1 a2 a3)]) := by
 have h := zak hc; refine ⟨0, ?_⟩; unfold t85 cH; simp only [lt_eq]; rw [aa (n := a0 - a1) (by omega) (by omega), aa (n := a2 - a3) (by omega) (by omega)]
 congr 3
 omega
theorem H9 : ER 85 (mkE N85.en N85.ex f85) := an ah T38.right (fun m => []) (t := t85) (by kernel_rfl) (fun m => aA) (fun m a => by kernel_rfl) fun (a0, a1, a2, a3) hc => MD a0 a1 a2 a3 hc
def T85 : Tb Tryz.prog LQ TE XX := T38.add 85 _ H9
def b9 (n : Int) : Nat -> List Int
 | 0 => []
 | k + 1 => n :: b9 (n + 1) k
theorem fF : ∀ (k : Nat) (n : Int), (b9 n k).length = k
 | 0, _ => rfl
 | k + 1, n => by simp [b9, fF k]
theorem vQ : ∀ (k j : Nat) (n : Int), j < k -> (b9 n k).getD j 0 = n + j
 | 0, j, n, h => by omega
 | k + 1, 0, n, h => by simp [b9]
 | k + 1, j + 1, n, h => by
  simp only [b9, zat, vQ k j (n + 1) (by omega)]; omega
theorem xr {c : List Dat} {i : Nat} (h : i < c.length) : (b9 0 c.length).getD i 0 = (i : Int) := by rw [vQ _ _ _ h]; omega
theorem cn {c : List Dat} {i : Nat} (h : i < c.length) (hg : ∀ d ∈ c, aI d = true) : aI (ag c i) = true := hg _ (vi h)
theorem Jz {d : Dat} (h : aI d = true) : w64 (w64 (d.i 1 - w64 (d.i 3 - d.i 4)) - d.i 6) = bj d := by
 have := cj h; rw [aa (n := d.i 3 - d.i 4) (by omega) (by omega), aa (n := d.i 1 - _) (by omega) (by omega), aa (by omega) (by omega)]; rfl
theorem vL (j : Nat) : ∀ (c : List Dat) (i : Nat), i < c.length -> ao j (c.drop i) = (ag c i).i j + ao j (c.drop (i + 1))
 | [], i, h => by simp at h
 | d :: c, 0, _ => by simp [ao, ag]
 | d :: c, i + 1, h => by
  have := vL j c i (by simpa using h); simpa [ag] using this
def M8 : aD := ⟨T85.tab, 116, ⟨[.buf 0 1], [.dy 1 7 0, .ai (sI 7)], 2⟩, ⟨[.int .i64], [.dy 1 7 0, .ai (sI 7)], 2⟩, []⟩
abbrev y6 : Type := Int × Int × Int × List Int × List Dat
def rQ (m : Nat) (k : y6 -> Option (List Un)) : y6 -> Option (List Un) := fun (a0, a1, a2, a3, a4) =>
 bif decide (a2 < a1) then
 chk (inb a2 a3.length) <|
 chk (decide (a2.toNat < a3.length)) <|
 bif (!((decide ((a3.getD a2.toNat 0) < 0)) && true)) then
 chk (decide (0 <= (a3.getD a2.toNat 0))) <|
 chk (decide ((a3.getD a2.toNat 0).toNat < a4.length)) <|
 k ((w64 (a0 + ((ag a4 ((a3.getD a2.toNat 0).toNat)).i 6))), a1, (w64 (a2 + 1)), a3, a4)
 else
 k (a0, a1, (w64 (a2 + 1)), a3, a4)
 else
 some ([.i a0, .l a3, .d a4])
def pn (m : Nat) : Nat -> y6 -> Option (List Un) := br (rQ m)
theorem qn (m : Nat) (n : Nat) : pn m (n + 1) = rQ m (pn m n) := rfl
def Bx (F : y6 -> Option (List Un)) : ba := ⟨[.lp [0, 1, 0, 1, 1], .blk 0, .code [1, 1, 1]], ⟨frm 22 [(3, .int .i64), (6, .buf 0 1), (7, .int .i64), (8, .int .i64)], [.dy 1 7 0, .ai (sI 7)], 2⟩, onU F⟩
theorem ND (m : Nat) : ∀ n, HO M8 (Bx (pn m n)) := au ah T85.right (fun k => [Bx k]) (fun k h => (aL h aA)) fun k a => by kernel_rfl
def t116 (m : Nat) : List Int × List Dat -> Option (List Un) := fun (a0, a1) =>
 pn m m (0, (a0.length : Int), 0, a0, a1)
theorem NP (m : Nat) (c : List Dat) (hl : c.length <= 1000) (hg : ∀ d ∈ c, aI d = true) : ∀ (k i n : Nat) (s : Int), i + k = c.length -> k < n -> 0 <= s -> s <= 1099511627776 * i ->
 pn m n (s, (c.length : Int), (i : Int), b9 0 c.length, c) = some [.i (s + ao 6 (c.drop i)), .l (b9 0 c.length), .d c] := by
 intro k
 induction k with
 | zero =>
  intro i n s hi hn s0 s1; obtain ⟨n, rfl⟩ := al n (by omega); rw [qn]; unfold rQ; dsimp only; rw [aE (by omega), List.drop_eq_nil_of_le (by omega)]; simp [ao]
 | succ k ih =>
  intro i n s hi hn s0 s1; obtain ⟨n, rfl⟩ := al n (by omega); have hk := xr (c := c) (i := i) (by omega); have hL := fF c.length 0; have hx := cj (cn (i := i) (by omega) hg); have := ih (i + 1) n (s + (ag c i).i 6) (by omega) (by omega) (by omega) (by omega); rw [vL 6 c i (by omega), <- Int.add_assoc]; rw [qn]; unfold rQ; dsimp only; simp only [zaC, hk, hL, zbb, zaU]; simp (disch := omega) only [TRa, TRi, aa, LNl, LNi, zaa]; simp only [LNl, LNi, zaa] at this ⊢; exact this
def f116 : List Int × List Dat -> Bool × List Un := fun (a0, a1) => ((decide (a0 = b9 0 a1.length)) && (decide (a1.length <= 1000) && a1.all aI), [.i (ao 6 a1), .l (a0), .d (a1)])
theorem Ib (a0 : List Int) (a1 : List Dat) (hc : ((decide (a0 = b9 0 a1.length)) && (decide (a1.length <= 1000) && a1.all aI)) = true) : ∃ m, t116 m (a0, a1) = some ([.i (ao 6 a1), .l (a0), .d (a1)]) := by
 simp only [zab, zag, zan] at hc; obtain ⟨rfl, h1, h2⟩ := hc; refine ⟨a1.length + 1, ?_⟩; unfold t116; dsimp only; rw [fF]; exact (NP _ a1 h1 h2 a1.length 0 _ 0 (by omega) (by omega) (by omega) (by simp)).trans (by simp only [za2, zbS])
theorem FP : ER 116 (mkE M8.en M8.ex f116) := an ah T85.right (fun m => [Bx (pn m m)]) (t := t116) (by kernel_rfl) (fun m => (aL (ND m m) aA)) (fun m a => by kernel_rfl) fun (a0, a1) hc => Ib a0 a1 hc
def JM : Tb Tryz.prog LQ TE XX := T85.add 116 _ FP
def fk (c : List Dat) : Nat -> Nat -> Int -> Int
 | 0, _, o => o
 | k + 1, i, o => fk c k (i + 1) (if 0 < bj (ag c i) /\ (o < 0 \/ (ag c o.toNat).i 0 <= (ag c i).i 0) then (i : Int) else o)
theorem xv (c : List Dat) : ∀ (k i : Nat) (o : Int), i + k = c.length -> -1 <= o -> o < c.length -> -1 <= fk c k i o /\ fk c k i o < c.length
 | 0, _, o, _, h1, h2 => ⟨h1, h2⟩
 | k + 1, i, o, h, h1, h2 => by
  unfold fk
  split
  . exact xv c k (i + 1) _ (by omega) (by omega) (by omega)
  . exact xv c k (i + 1) _ (by omega) (by omega) (by omega)
def L8 : aD := ⟨JM.tab, 117, ⟨[.buf 0 1], [.dy 1 7 0, .ai (sI 7)], 2⟩, ⟨[.np 1 7 0], [.dy 1 7 0, .ai (sI 7)], 2⟩, []⟩
abbrev yD : Type := Int × Int × Int × List Int × List Dat
def rH (m : Nat) (k : yD -> Option (List Un)) : yD -> Option (List Un) := fun (a0, a1, a2, a3, a4) =>
 bif decide (a2 < a1) then
 chk (inb a2 a3.length) <|
 chk (decide (a2.toNat < a3.length)) <|
 bif (!((decide ((a3.getD a2.toNat 0) < 0)) && true)) then
 chk (decide (0 <= (a3.getD a2.toNat 0))) <|
 chk (decide ((a3.getD a2.toNat 0).toNat < a4.length)) <|
 lt (ag a4 ((a3.getD a2.toNat 0).toNat) : Dat) fun d2 =>
 bif decide ((w64 (w64 ((d2.i 1) - w64 ((d2.i 3) - (d2.i 4))) - (d2.i 6))) > 0) then
 bif ((decide (a0 < 0)) && true) then
 k ((a3.getD a2.toNat 0), a1, (w64 (a2 + 1)), a3, a4)
 else
 chk (decide (0 <= (a3.getD a2.toNat 0))) <|
 chk (decide ((a3.getD a2.toNat 0).toNat < a4.length)) <|
 chk (decide (0 <= a0)) <|
 chk (decide (a0.toNat < a4.length)) <|
 bif (decide (((ag a4 ((a3.getD a2.toNat 0).toNat)).i 0) >= ((ag a4 a0.toNat).i 0))) then
 k ((a3.getD a2.toNat 0), a1, (w64 (a2 + 1)), a3, a4)
 else
 k (a0, a1, (w64 (a2 + 1)), a3, a4)
 else
 k (a0, a1, (w64 (a2 + 1)), a3, a4)
 else
 k (a0, a1, (w64 (a2 + 1)), a3, a4)
 else
 some ([.i a0, .l a3, .d a4])
def pE (m : Nat) : Nat -> yD -> Option (List Un) := br (rH m)
theorem qT (m : Nat) (n : Nat) : pE m (n + 1) = rH m (pE m n) := rfl
def Ci (F : yD -> Option (List Un)) : ba := ⟨[.lp [0, 1, 0, 1, 1], .blk 0, .code [1, 1, 1]], ⟨frm 41 [(3, .np 1 7 0), (6, .buf 0 1), (7, .int .i64), (8, .int .i64)], [.dy 1 7 0, .ai (sI 7)], 2⟩, onU F⟩
theorem Mi (m : Nat) : ∀ n, HO L8 (Ci (pE m n)) := au ah JM.right (fun k => [Ci k]) (fun k h => (aL h aA)) fun k a => by kernel_rfl
def t117 (m : Nat) : List Int × List Dat -> Option (List Un) := fun (a0, a1) =>
 pE m m ((-1), (a0.length : Int), 0, a0, a1)
theorem OX (m : Nat) (c : List Dat) (hl : c.length <= 1000) (hg : ∀ d ∈ c, aI d = true) : ∀ (k i n : Nat) (o : Int), i + k = c.length -> k < n -> -1 <= o -> o < c.length ->
 pE m n (o, (c.length : Int), (i : Int), b9 0 c.length, c) = some [.i (fk c k i o), .l (b9 0 c.length), .d c] := by
 intro k
 induction k with
 | zero =>
  intro i n o hi hn o0 o1; obtain ⟨n, rfl⟩ := al n (by omega); rw [qT]; unfold rH; dsimp only; rw [aE (by omega)]; rfl
 | succ k ih =>
  intro i n o hi hn o0 o1; obtain ⟨n, rfl⟩ := al n (by omega); have hk := xr (c := c) (i := i) (by omega); have hL := fF c.length 0; have hx := cj (cn (i := i) (by omega) hg); have ia := ih (i + 1) n (i : Int) (by omega) (by omega) (by omega) (by omega); have ib := ih (i + 1) n o (by omega) (by omega) (by omega) (by omega); rw [qT]; unfold rH; dsimp only; unfold fk; have e := Jz (cn (c := c) (i := i) (by omega) hg); simp only [lt_eq, zaC, hk, hL, zbb, zaU, e, ge_iff_le, gt_iff_lt]
  by_cases h1 : 0 < bj (ag c i)
  . by_cases h2 : o < 0
    . have hc : 0 < bj (ag c i) /\ (o < 0 \/ (ag c o.toNat).i 0 <= (ag c i).i 0) := ⟨h1, .inl h2⟩
      rw [if_pos hc]; simp (disch := omega) only [TRa, TRi, aa, LNl, LNi, zaa]; simp only [zay, zaa] at ia ib ⊢; exact ia
    . by_cases h3 : (ag c o.toNat).i 0 <= (ag c i).i 0
      . have hc : 0 < bj (ag c i) /\ (o < 0 \/ (ag c o.toNat).i 0 <= (ag c i).i 0) := ⟨h1, .inr h3⟩
        rw [if_pos hc]; simp (disch := omega) only [TRa, TRi, aa, LNl, LNi, zaa]; simp only [zay, zaa] at ia ib ⊢; exact ia
      . have hc : ¬ (0 < bj (ag c i) /\ (o < 0 \/ (ag c o.toNat).i 0 <= (ag c i).i 0)) := fun h => h.2.elim h2 h3
        rw [if_neg hc]; simp (disch := omega) only [TRa, TRi, aa, LNl, LNi, zaa]; simp only [zay, zaa] at ia ib ⊢; exact ib
  . have hc : ¬ (0 < bj (ag c i) /\ (o < 0 \/ (ag c o.toNat).i 0 <= (ag c i).i 0)) := fun h => h1 h.1
    rw [if_neg hc]; simp (disch := omega) only [TRa, TRi, aa, LNl, LNi, zaa]; simp only [zay, zaa] at ia ib ⊢; exact ib
def f117 : List Int × List Dat -> Bool × List Un := fun (a0, a1) => ((decide (a0 = b9 0 a1.length)) && (decide (a1.length <= 1000) && a1.all aI), [.i (fk a1 a1.length 0 (-1)), .l (a0), .d (a1)])
theorem JI (a0 : List Int) (a1 : List Dat) (hc : ((decide (a0 = b9 0 a1.length)) && (decide (a1.length <= 1000) && a1.all aI)) = true) : ∃ m, t117 m (a0, a1) = some ([.i (fk a1 a1.length 0 (-1)), .l (a0), .d (a1)]) := by
 simp only [zab, zag, zan] at hc; obtain ⟨rfl, h1, h2⟩ := hc; refine ⟨a1.length + 1, ?_⟩; unfold t117; dsimp only; rw [fF]; exact OX _ a1 h1 h2 a1.length 0 _ (-1) (by omega) (by omega) (by omega) (by omega)
theorem F9 : ER 117 (mkE L8.en L8.ex f117) := an ah JM.right (fun m => [Ci (pE m m)]) (t := t117) (by kernel_rfl) (fun m => (aL (Mi m m) aA)) (fun m a => by kernel_rfl) fun (a0, a1) hc => JI a0 a1 hc
def H6 : Tb Tryz.prog LQ TE XX := JM.add 117 _ F9
def fo (c : List Dat) : Nat -> Nat -> Int -> Int
 | 0, _, o => o
 | k + 1, i, o => fo c k (i + 1) (if 0 < (ag c i).i 6 /\ (o < 0 \/ (ag c i).i 0 < (ag c o.toNat).i 0) then (i : Int) else o)
theorem xy (c : List Dat) : ∀ (k i : Nat) (o : Int), i + k = c.length -> -1 <= o -> o < c.length -> -1 <= fo c k i o /\ fo c k i o < c.length
 | 0, _, o, _, h1, h2 => ⟨h1, h2⟩
 | k + 1, i, o, h, h1, h2 => by
  unfold fo
  split
  . exact xy c k (i + 1) _ (by omega) (by omega) (by omega)
  . exact xy c k (i + 1) _ (by omega) (by omega) (by omega)
def L9 : aD := ⟨H6.tab, 119, ⟨[.buf 0 1], [.dy 1 7 0, .ai (sI 7)], 2⟩, ⟨[.np 1 7 0], [.dy 1 7 0, .ai (sI 7)], 2⟩, []⟩
abbrev xE : Type := Int × Int × Int × List Int × List Dat
def rF (m : Nat) (k : xE -> Option (List Un)) : xE -> Option (List Un) := fun (a0, a1, a2, a3, a4) =>
 bif decide (a2 < a1) then
 chk (inb a2 a3.length) <|
 chk (decide (a2.toNat < a3.length)) <|
 bif (!((decide ((a3.getD a2.toNat 0) < 0)) && true)) then
 chk (decide (0 <= (a3.getD a2.toNat 0))) <|
 chk (decide ((a3.getD a2.toNat 0).toNat < a4.length)) <|
 bif decide (((ag a4 ((a3.getD a2.toNat 0).toNat)).i 6) > 0) then
 bif ((decide (a0 < 0)) && true) then
 k ((a3.getD a2.toNat 0), a1, (w64 (a2 + 1)), a3, a4)
 else
 chk (decide (0 <= (a3.getD a2.toNat 0))) <|
 chk (decide ((a3.getD a2.toNat 0).toNat < a4.length)) <|
 chk (decide (0 <= a0)) <|
 chk (decide (a0.toNat < a4.length)) <|
 bif (decide (((ag a4 ((a3.getD a2.toNat 0).toNat)).i 0) < ((ag a4 a0.toNat).i 0))) then
 k ((a3.getD a2.toNat 0), a1, (w64 (a2 + 1)), a3, a4)
 else
 k (a0, a1, (w64 (a2 + 1)), a3, a4)
 else
 k (a0, a1, (w64 (a2 + 1)), a3, a4)
 else
 k (a0, a1, (w64 (a2 + 1)), a3, a4)
 else
 some ([.i a0, .l a3, .d a4])
def pZ (m : Nat) : Nat -> xE -> Option (List Un) := br (rF m)
theorem qH (m : Nat) (n : Nat) : pZ m (n + 1) = rF m (pZ m n) := rfl
def B1 (F : xE -> Option (List Un)) : ba := ⟨[.lp [0, 1, 0, 1, 1], .blk 0, .code [1, 1, 1]], ⟨frm 41 [(3, .np 1 7 0), (6, .buf 0 1), (7, .int .i64), (8, .int .i64)], [.dy 1 7 0, .ai (sI 7)], 2⟩, onU F⟩
theorem Lz (m : Nat) : ∀ n, HO L9 (B1 (pZ m n)) := au ah H6.right (fun k => [B1 k]) (fun k h => (aL h aA)) fun k a => by kernel_rfl
def t119 (m : Nat) : List Int × List Dat -> Option (List Un) := fun (a0, a1) =>
 pZ m m ((-1), (a0.length : Int), 0, a0, a1)
theorem PU (m : Nat) (c : List Dat) (hl : c.length <= 1000) (hg : ∀ d ∈ c, aI d = true) : ∀ (k i n : Nat) (o : Int), i + k = c.length -> k < n -> -1 <= o -> o < c.length ->
 pZ m n (o, (c.length : Int), (i : Int), b9 0 c.length, c) = some [.i (fo c k i o), .l (b9 0 c.length), .d c] := by
 intro k
 induction k with
 | zero =>
  intro i n o hi hn o0 o1; obtain ⟨n, rfl⟩ := al n (by omega); rw [qH]; unfold rF; dsimp only; rw [aE (by omega)]; rfl
 | succ k ih =>
  intro i n o hi hn o0 o1; obtain ⟨n, rfl⟩ := al n (by omega); have hk := xr (c := c) (i := i) (by omega); have hL := fF c.length 0; have hx := cj (cn (i := i) (by omega) hg); have ia := ih (i + 1) n (i : Int) (by omega) (by omega) (by omega) (by omega); have ib := ih (i + 1) n o (by omega) (by omega) (by omega) (by omega); rw [qH]; unfold rF; dsimp only; unfold fo; have e := Jz (cn (c := c) (i := i) (by omega) hg); simp only [lt_eq, zaC, hk, hL, zbb, zaU, e, ge_iff_le, gt_iff_lt]
  by_cases h1 : 0 < (ag c i).i 6
  . by_cases h2 : o < 0
    . have hc : 0 < (ag c i).i 6 /\ (o < 0 \/ (ag c i).i 0 < (ag c o.toNat).i 0) := ⟨h1, .inl h2⟩
      rw [if_pos hc]; simp (disch := omega) only [TRa, TRi, aa, LNl, LNi, zaa]; simp only [zay, zaa] at ia ib ⊢; exact ia
    . by_cases h3 : (ag c i).i 0 < (ag c o.toNat).i 0
      . have hc : 0 < (ag c i).i 6 /\ (o < 0 \/ (ag c i).i 0 < (ag c o.toNat).i 0) := ⟨h1, .inr h3⟩
        rw [if_pos hc]; simp (disch := omega) only [TRa, TRi, aa, LNl, LNi, zaa]; simp only [zay, zaa] at ia ib ⊢; exact ia
      . have hc : ¬ (0 < (ag c i).i 6 /\ (o < 0 \/ (ag c i).i 0 < (ag c o.toNat).i 0)) := fun h => h.2.elim h2 h3
        rw [if_neg hc]; simp (disch := omega) only [TRa, TRi, aa, LNl, LNi, zaa]; simp only [zay, zaa] at ia ib ⊢; exact ib
  . have hc : ¬ (0 < (ag c i).i 6 /\ (o < 0 \/ (ag c i).i 0 < (ag c o.toNat).i 0)) := fun h => h1 h.1
    rw [if_neg hc]; simp (disch := omega) only [TRa, TRi, aa, LNl, LNi, zaa]; simp only [zay, zaa] at ia ib ⊢; exact ib
def f119 : List Int × List Dat -> Bool × List Un := fun (a0, a1) => ((decide (a0 = b9 0 a1.length)) && (decide (a1.length <= 1000) && a1.all aI), [.i (fo a1 a1.length 0 (-1)), .l (a0), .d (a1)])
theorem KB (a0 : List Int) (a1 : List Dat) (hc : ((decide (a0 = b9 0 a1.length)) && (decide (a1.length <= 1000) && a1.all aI)) = true) : ∃ m, t119 m (a0, a1) = some ([.i (fo a1 a1.length 0 (-1)), .l (a0), .d (a1)]) := by
 simp only [zab, zag, zan] at hc; obtain ⟨rfl, h1, h2⟩ := hc; refine ⟨a1.length + 1, ?_⟩; unfold t119; dsimp only; rw [fF]; exact PU _ a1 h1 h2 a1.length 0 _ (-1) (by omega) (by omega) (by omega) (by omega)
theorem Hi : ER 119 (mkE L9.en L9.ex f119) := an ah H6.right (fun m => [B1 (pZ m m)]) (t := t119) (by kernel_rfl) (fun m => (aL (Lz m m) aA)) (fun m a => by kernel_rfl) fun (a0, a1) hc => KB a0 a1 hc
def Gs : Tb Tryz.prog LQ TE XX := H6.add 119 _ Hi
theorem mu (i : Nat) (y : Dat) : ∀ (l : List Dat) (j : Nat), j < l.length -> ao i (l.set j y) = ao i l - (ag l j).i i + y.i i
 | [], j, h => by simp at h
 | d :: l, 0, h => by simp only [List.set_cons_zero, ao, ag, zaH]; omega
 | d :: l, j + 1, h => by
  have := mu i y l j (by simpa using h); simp only [ag] at this; simp only [zbQ, ao, ag, zat, this]; omega
theorem vb {l : List Dat} {j : Nat} {y : Dat} (h : j < l.length) : ag (l.set j y) j = y := by
 unfold ag; rw [zah, List.getElem?_set_self h]; rfl
theorem mv {l : List Dat} {j i : Nat} {y : Dat} (h : i ≠ j) : ag (l.set j y) i = ag l i := by
 unfold ag; rw [zah, zah, List.getElem?_set_ne (by omega)]
def xo (p : Dat -> Prop) [DecidablePred p] : List Dat -> Nat
 | [] => 0
 | d :: l => (if p d then 1 else 0) + xo p l
theorem zd (p : Dat -> Prop) [DecidablePred p] : ∀ l : List Dat, xo p l <= l.length
 | [] => zam _
 | d :: l => by have := zd p l; simp only [xo, zac]; split <;> omega
theorem sN (p : Dat -> Prop) [DecidablePred p] (y : Dat) (hy : ¬ p y) : ∀ (l : List Dat) (j : Nat), j < l.length -> p (ag l j) -> xo p (l.set j y) + 1 = xo p l
 | [], j, h, _ => by simp at h
 | d :: l, 0, h, hp => by
  have hp : p d := hp; simp only [List.set_cons_zero, xo, if_neg hy, if_pos hp]; omega
 | d :: l, j + 1, h, hp => by
  have := sN p y hy l j (by simpa using h) hp; simp only [zbQ, xo]; omega
def dA (c : List Dat) : Prop := c.length <= 1000 /\ ∀ d ∈ c, aI d = true
theorem eE {c : List Dat} (h : dA c) : (decide (c.length <= 1000) && c.all aI) = true := by
 rw [zab, zan]; exact ⟨zai h.1, h.2⟩
theorem mY {c : List Dat} {j : Nat} {y : Dat} (h : dA c) (hy : aI y = true) : dA (c.set j y) := ⟨by rw [zbe]; exact h.1, DE h.2 hy⟩
theorem sg (c : List Dat) : ∀ (k i : Nat) (o : Int), i + k = c.length -> (o < 0 \/ 0 < bj (ag c o.toNat)) -> (fk c k i o < 0 -> o < 0 /\ ∀ j, i <= j -> j < c.length -> bj (ag c j) <= 0) /\ (0 <= fk c k i o -> 0 < bj (ag c (fk c k i o).toNat))
 | 0, i, o, h, ho => ⟨fun h1 => ⟨h1, fun j h2 h3 => by omega⟩, fun h1 => by simp only [fk] at h1 ⊢; omega⟩
 | k + 1, i, o, h, ho => by
  unfold fk
  split
  . rename_i hc; obtain ⟨a, b⟩ := sg c k (i + 1) (i : Int) (by omega) (.inr (by rw [zaC]; exact hc.1)); exact ⟨fun h1 => by have := (a h1).1; omega, b⟩
  . rename_i hc; obtain ⟨a, b⟩ := sg c k (i + 1) o (by omega) ho; refine ⟨fun h1 => ⟨(a h1).1, fun j h2 h3 => ?_⟩, b⟩
    by_cases hj : j = i
    . subst hj; have := (a h1).1; omega
    . exact (a h1).2 j (by omega) h3
theorem rL (c : List Dat) : ∀ (k i : Nat) (o : Int), i + k = c.length -> (o < 0 \/ 0 < (ag c o.toNat).i 6) -> (fo c k i o < 0 -> o < 0 /\ ∀ j, i <= j -> j < c.length -> (ag c j).i 6 <= 0) /\ (0 <= fo c k i o -> 0 < (ag c (fo c k i o).toNat).i 6)
 | 0, i, o, h, ho => ⟨fun h1 => ⟨h1, fun j h2 h3 => by omega⟩, fun h1 => by simp only [fo] at h1 ⊢; omega⟩
 | k + 1, i, o, h, ho => by
  unfold fo
  split
  . rename_i hc; obtain ⟨a, b⟩ := rL c k (i + 1) (i : Int) (by omega) (.inr (by rw [zaC]; exact hc.1)); exact ⟨fun h1 => by have := (a h1).1; omega, b⟩
  . rename_i hc; obtain ⟨a, b⟩ := rL c k (i + 1) o (by omega) ho; refine ⟨fun h1 => ⟨(a h1).1, fun j h2 h3 => ?_⟩, b⟩
    by_cases hj : j = i
    . subst hj; have := (a h1).1; omega
    . exact (a h1).2 j (by omega) h3
def rm : Nat -> Int -> List Dat -> List Dat
 | 0, _, c => c
 | k + 1, t, c => if ao 6 c < t then (if fk c c.length 0 (-1) < 0 then c else rm k t (c.set (fk c c.length 0 (-1)).toNat (dH (t - ao 6 c) (ag c (fk c c.length 0 (-1)).toNat)))) else c
def pt : Nat -> Int -> List Dat -> List Dat
 | 0, _, c => c
 | k + 1, t, c => if t < ao 6 c then (if fo c c.length 0 (-1) < 0 then c else pt k t (c.set (fo c c.length 0 (-1)).toNat (fu (ao 6 c - t) (ag c (fo c c.length 0 (-1)).toNat)))) else c
def fp (t : Int) (c : List Dat) : List Dat := pt (c.length + 2) (max t 0) (rm (c.length + 2) (max t 0) c)
theorem F1 (w : Int) (d : Dat) : (dH w d).i 6 = d.i 6 + lN w d /\ bj (dH w d) = bj d - lN w d := by
 simp only [dH, bj, et, eT, uk, nT]; exact ⟨trivial, by omega⟩
theorem JU (w : Int) (d : Dat) : (fu w d).i 6 = d.i 6 - lF w d := by
 simp only [fu, nT]
def uf (t : Int) (c : List Dat) : Nat := if ao 6 c < t then xo (fun d => 0 < bj d) c + 1 else 0
def tj (t : Int) (c : List Dat) : Nat := if t < ao 6 c then xo (fun d => 0 < d.i 6) c + 1 else 0
theorem Li {t : Int} {c : List Dat} (hg : dA c) (hs : ao 6 c < t) (hj : 0 <= fk c c.length 0 (-1)) :
 (fk c c.length 0 (-1)).toNat < c.length /\ dA (c.set (fk c c.length 0 (-1)).toNat (dH (t - ao 6 c) (ag c (fk c c.length 0 (-1)).toNat))) /\ uf t (c.set (fk c c.length 0 (-1)).toNat (dH (t - ao 6 c) (ag c (fk c c.length 0 (-1)).toNat))) < uf t c /\
 ao 6 (c.set (fk c c.length 0 (-1)).toNat (dH (t - ao 6 c) (ag c (fk c c.length 0 (-1)).toNat))) <= t := by
 have h1 := xv c c.length 0 (-1) (by omega) (by omega) (by omega); have h2 := (sg c c.length 0 (-1) (by omega) (.inl (by omega))).2 hj; generalize fk c c.length 0 (-1) = o at *
 have h3 : o.toNat < c.length := by omega
 have hn := cn h3 hg.2; have e6 := F1 (t - ao 6 c) (ag c o.toNat); have es := mu 6 (dH (t - ao 6 c) (ag c o.toNat)) c o.toNat h3; have hp : lN (t - ao 6 c) (ag c o.toNat) = min (t - ao 6 c) (bj (ag c o.toNat)) := by unfold lN; omega
 refine ⟨h3, mY hg (Ab _ hn), ?_, by omega⟩; unfold uf; rw [if_pos hs]
 split
 . rename_i hlt; have := sN (fun d => 0 < bj d) (dH (t - ao 6 c) (ag c o.toNat)) (by show ¬ 0 < bj _; omega) c o.toNat h3 h2; omega
 . omega
theorem Lr {t : Int} {c : List Dat} (hg : dA c) (hs : t < ao 6 c) (hj : 0 <= fo c c.length 0 (-1)) :
 (fo c c.length 0 (-1)).toNat < c.length /\ dA (c.set (fo c c.length 0 (-1)).toNat (fu (ao 6 c - t) (ag c (fo c c.length 0 (-1)).toNat))) /\ tj t (c.set (fo c c.length 0 (-1)).toNat (fu (ao 6 c - t) (ag c (fo c c.length 0 (-1)).toNat))) < tj t c /\
 t <= ao 6 (c.set (fo c c.length 0 (-1)).toNat (fu (ao 6 c - t) (ag c (fo c c.length 0 (-1)).toNat))) := by
 have h1 := xy c c.length 0 (-1) (by omega) (by omega) (by omega); have h2 := (rL c c.length 0 (-1) (by omega) (.inl (by omega))).2 hj; generalize fo c c.length 0 (-1) = o at *
 have h3 : o.toNat < c.length := by omega
 have hn := cn h3 hg.2; have e6 := JU (ao 6 c - t) (ag c o.toNat); have es := mu 6 (fu (ao 6 c - t) (ag c o.toNat)) c o.toNat h3; have hp : lF (ao 6 c - t) (ag c o.toNat) = min (ao 6 c - t) ((ag c o.toNat).i 6) := by unfold lF; omega
 refine ⟨h3, mY hg (Bv _ hn), ?_, by omega⟩; unfold tj; rw [if_pos hs]
 split
 . rename_i hlt; have := sN (fun d => 0 < d.i 6) (fu (ao 6 c - t) (ag c o.toNat)) (by show ¬ 0 < (fu _ _).i 6; omega) c o.toNat h3 h2; omega
 . omega
theorem Aj (t : Int) (c : List Dat) : uf t c < c.length + 2 := by
 have := zd (fun d => 0 < bj d) c; unfold uf; split <;> omega
theorem Ar (t : Int) (c : List Dat) : tj t c < c.length + 2 := by
 have := zd (fun d => 0 < d.i 6) c; unfold tj; split <;> omega
theorem z5 {c : List Dat} (hg : dA c) : 0 <= ao 6 c /\ ao 6 c <= 1125899906842624000 := by
 have := (gQ c hg.2).2.2.1; have := hg.1; omega
def N84 : aD := ⟨Gs.tab, 84, ⟨[.int .i64, .buf 0 1], [.dy 1 7 0, .ai (sI 7)], 0⟩, ⟨[.int .i64], [.dy 1 7 0, .ai (sI 7)], 0⟩, []⟩
abbrev Dr : Type := Int × Int × List Int × List Dat
abbrev Dn : Type := Int × Int × List Int × List Dat
def A3 (m : Nat) (k : Dr -> Option (List Un)) : Dr -> Option (List Un) := fun (a0, a1, a2, a3) =>
 bif decide (a1 > a0) then
 chk ((decide (a2 = b9 0 a3.length)) && (decide (a3.length <= 1000) && a3.all aI)) <|
 lt ((fo a3 a3.length 0 (-1)) : Int) fun x6 =>
 bif ((decide (x6 < 0)) && true) then
 some ([.i a1, .l a2, .d a3])
 else
 chk (decide (0 <= x6 /\ x6.toNat < a3.length) && aI (ag a3 x6.toNat)) <|
 lt ((a3.set x6.toNat (fu (w64 (a1 - a0)) (ag a3 x6.toNat))) : List Dat) fun l9 =>
 chk ((decide (a2 = b9 0 l9.length)) && (decide (l9.length <= 1000) && l9.all aI)) <|
 k (a0, (ao 6 l9), a2, l9)
 else
 chk ((decide (a2 = b9 0 a3.length)) && (decide (a3.length <= 1000) && a3.all aI)) <|
 some ([.i (ao 6 a3), .l a2, .d a3])
def wO (m : Nat) : Nat -> Dr -> Option (List Un) := br (A3 m)
theorem Bd (m : Nat) (n : Nat) : wO m (n + 1) = A3 m (wO m n) := rfl
def Fh (F : Dr -> Option (List Un)) : ba := ⟨[.lp [0, 1, 0, 1, 1, 1], .blk 2, .code [1, 1, 1, 1]], ⟨frm 47 [(0, .int .i64), (1, .buf 0 1), (7, .int .i64)], [.dy 1 7 0, .ai (sI 7)], 0⟩, onU F⟩
def Cn (m : Nat) (k : Dn -> Option (List Un)) : Dn -> Option (List Un) := fun (a0, a1, a2, a3) =>
 bif decide (a1 < a0) then
 chk ((decide (a2 = b9 0 a3.length)) && (decide (a3.length <= 1000) && a3.all aI)) <|
 lt ((fk a3 a3.length 0 (-1)) : Int) fun x2 =>
 bif ((decide (x2 < 0)) && true) then
 some ([.i a1, .l a2, .d a3])
 else
 chk (decide (0 <= x2 /\ x2.toNat < a3.length) && aI (ag a3 x2.toNat)) <|
 lt ((a3.set x2.toNat (dH (w64 (a0 - a1)) (ag a3 x2.toNat))) : List Dat) fun l5 =>
 chk ((decide (a2 = b9 0 l5.length)) && (decide (l5.length <= 1000) && l5.all aI)) <|
 k (a0, (ao 6 l5), a2, l5)
 else
 chk ((decide (a2 = b9 0 a3.length)) && (decide (a3.length <= 1000) && a3.all aI)) <|
 wO m m (a0, (ao 6 a3), a2, a3)
def wT (m : Nat) : Nat -> Dn -> Option (List Un) := br (Cn m)
theorem AV (m : Nat) (n : Nat) : wT m (n + 1) = Cn m (wT m n) := rfl
def GR (F : Dn -> Option (List Un)) : ba := ⟨[.lp [0, 1, 0, 1, 1], .blk 0, .code [1, 1, 1]], ⟨frm 47 [(0, .int .i64), (1, .buf 0 1), (5, .int .i64)], [.dy 1 7 0, .ai (sI 7)], 0⟩, onU F⟩
theorem Pc (m : Nat) : ∀ n, HO N84 (Fh (wO m n)) := au ah Gs.right (fun k => [Fh k]) (fun k h => (aL h aA)) fun k a => by kernel_rfl
theorem Pj (m : Nat) : ∀ n, HO N84 (GR (wT m n)) := au ah Gs.right (fun k => [GR k, Fh (wO m m)]) (fun k h => (aL h (aL (Pc m m) aA))) fun k a => by kernel_rfl
def t84 (m : Nat) : Int × List Int × List Dat -> Option (List Un) := fun (a0, a1, a2) =>
 chk ((decide (a1 = b9 0 a2.length)) && (decide (a2.length <= 1000) && a2.all aI)) <|
 wT m m ((if a0 < 0 then 0 else a0), (ao 6 a2), a1, a2)
theorem PM (m : Nat) (t : Int) (h0 : 0 <= t) (h1 : t <= 1152921504606846976) : ∀ (k n : Nat) (c : List Dat), tj t c < k -> k <= n -> dA c ->
 wO m n (t, ao 6 c, b9 0 c.length, c) = some [.i (ao 6 (pt k t c)), .l (b9 0 c.length), .d (pt k t c)] := by
 intro k
 induction k with
 | zero => intro n c h; omega
 | succ k ih =>
  intro n c hm hn hg; obtain ⟨n, rfl⟩ := al n (by omega); have hgb := eE hg; have hb := z5 hg; unfold pt; rw [Bd]; unfold A3; dsimp only; simp only [hgb, zbb, zaU, gt_iff_lt]
  by_cases hs : t < ao 6 c
  . rw [if_pos hs, bF hs, iw]
    by_cases hj : fo c c.length 0 (-1) < 0
    . rw [if_pos hj]; simp only [lt_eq]; rw [bF hj]
    . rw [if_neg hj]; obtain ⟨a1, a2, a3, a4⟩ := Lr hg hs (by omega); have a5 := eE a2; have := ih n _ (by omega) (by omega) a2; rw [zbe] at this; simp only [lt_eq]; have hnr := cn a1 hg.2; rw [aE hj, aa (n := ao 6 c - t) (by omega) (by omega), hnr, zbb, aP ⟨by omega, a1⟩, a5, zbe, zai rfl, zbi, iw]; exact this
  . rw [if_neg hs, aE hs, iw]
theorem PA (m : Nat) (t : Int) (h0 : 0 <= t) (h1 : t <= 1152921504606846976) : ∀ (k n : Nat) (c : List Dat), uf t c < k -> k <= n -> c.length + 2 <= m -> dA c ->
 wT m n (t, ao 6 c, b9 0 c.length, c) = some [.i (ao 6 (pt (c.length + 2) t (rm k t c))), .l (b9 0 c.length), .d (pt (c.length + 2) t (rm k t c))] := by
 intro k
 induction k with
 | zero => intro n c h; omega
 | succ k ih =>
  intro n c hm hn hml hg; obtain ⟨n, rfl⟩ := al n (by omega); have hgb := eE hg; have hb := z5 hg; unfold rm; rw [AV]; unfold Cn; dsimp only; simp only [hgb, zbb, zaU]
  by_cases hs : ao 6 c < t
  . rw [if_pos hs, bF hs, iw]
    by_cases hj : fk c c.length 0 (-1) < 0
    . rw [if_pos hj]; simp only [lt_eq]; rw [bF hj, pt, if_neg (by omega)]
    . rw [if_neg hj]; obtain ⟨a1, a2, a3, a4⟩ := Li hg hs (by omega); have a5 := eE a2; have := ih n _ (by omega) (by omega) (by rw [zbe]; exact hml) a2; rw [zbe] at this; simp only [lt_eq]; have hnr := cn a1 hg.2; rw [aE hj, aa (n := t - ao 6 c) (by omega) (by omega), hnr, zbb, aP ⟨by omega, a1⟩, a5, zbe, zai rfl, zbi, iw]; exact this
  . rw [if_neg hs, aE hs, iw]; exact PM m t h0 h1 (c.length + 2) m c (Ar t c) hml hg
def f84 : Int × List Int × List Dat -> Bool × List Un := fun (a0, a1, a2) => (decide (a0 <= 1152921504606846976) && ((decide (a1 = b9 0 a2.length)) && (decide (a2.length <= 1000) && a2.all aI)), [.i (ao 6 (fp a0 a2)), .l (a1), .d (fp a0 a2)])
theorem L5 (a0 : Int) (a1 : List Int) (a2 : List Dat) (hc : (decide (a0 <= 1152921504606846976) && ((decide (a1 = b9 0 a2.length)) && (decide (a2.length <= 1000) && a2.all aI))) = true) : ∃ m, t84 m (a0, a1, a2) = some ([.i (ao 6 (fp a0 a2)), .l (a1), .d (fp a0 a2)]) := by
 simp only [zab, zag, zan] at hc; obtain ⟨h0, rfl, h1, h2⟩ := hc; have hg : dA a2 := ⟨h1, h2⟩
 refine ⟨a2.length + 2, ?_⟩; unfold t84 fp; dsimp only; rw [eE hg, zai rfl, kV, zbi, iw]; exact PA _ (max a0 0) (by omega) (by omega) (a2.length + 2) _ a2 (Aj _ _) (by omega) (by omega) hg
theorem Ky : ER 84 (mkE N84.en N84.ex f84) := an ah Gs.right (fun m => [GR (wT m m)]) (t := t84) (by kernel_rfl) (fun m => (aL (Pj m m) aA)) (fun m a => by kernel_rfl) fun (a0, a1, a2) hc => L5 a0 a1 a2 hc
def T84 : Tb Tryz.prog LQ TE XX := Gs.add 84 _ Ky
end
end Go.Proofs.YtcbnpnaagbhknaaGreat
