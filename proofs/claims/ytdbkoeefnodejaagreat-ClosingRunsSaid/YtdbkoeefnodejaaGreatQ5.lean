/- Part of a proof: Deal, Right, Trust, Notes, View, Same, Begins, Pool, Pro, Flow, FlowAid. Conditions: none. -/
import Derived.Test.YtdbkoeefnodejaaGreatQ4
set_option linter.unusedVariables false
set_option linter.unusedSimpArgs false
set_option linter.unnecessarySimpa false
set_option linter.unusedSectionVars false
namespace Go.Proofs.YtdbkoeefnodejaaGreat
noncomputable section
open Go Go.Proofs.YtdbkoeefnodejaaGreat.Ev
set_option maxRecDepth 20000
def OH : aA := ⟨T18.tab, 151, ⟨[.int .i64, .int .i64, .int .i64], [], 0⟩, ⟨[.bool], [], 0⟩, []⟩
def t151 (m : Nat) : Int × Int × Int -> Option (List Un) := fun (a0, a1, a2) =>
 bif decide (a0 >= a1) then
 some ([.b (decide (a0 <= a2))])
 else
 some ([.b false])
def f151 : Int × Int × Int -> Bool × List Un := fun (a0, a1, a2) => (true, [.b (decide (a1 <= a0 /\ a0 <= a2))])
theorem J6 (a0 : Int) (a1 : Int) (a2 : Int) : ∃ m, t151 m (a0, a1, a2) = some ([.b (decide (a1 <= a0 /\ a0 <= a2))]) := by
 refine ⟨0, ?_⟩; unfold t151
 by_cases h : a1 <= a0 <;> by_cases h2 : a0 <= a2 <;> simp [h, h2]
theorem GI : ER 151 (mkE OH.en OH.ex f151) := an ai T18.right (fun m => []) (t := t151) (by kernel_rfl) (fun m => az) (fun m a => by kernel_rfl) fun (a0, a1, a2) hc => J6 a0 a1 a2
def IZ : Tb Tryz.prog LQ TE := T18.add 151 _ GI
def uP (a b : Int) : List Dat -> Int -> Int
 | [], _ => -1
 | d :: l, i => if a = d.i 0 /\ b = d.i 1 then i else uP a b l (i + 1)
theorem yR (a b : Int) : ∀ (l : List Dat) (i : Int), 0 <= i -> (0 <= uP a b l i ↔ cm l a b = true)
 | [], i, h => by simp [uP, cm]
 | d :: l, i, h => by
  have := yR a b l (i + 1) (by omega); simp only [cm, List.any_cons, Bool.or_eq_true, Bool.and_eq_true, beq_iff_eq] at this ⊢; unfold uP
  by_cases hc : a = d.i 0 /\ b = d.i 1
  · rw [if_pos hc]; exact ⟨fun _ => .inl ⟨hc.1.symm, hc.2.symm⟩, fun _ => h⟩
  · rw [if_neg hc, this]; exact ⟨.inr, fun h => h.resolve_left fun e => hc ⟨e.1.symm, e.2.symm⟩⟩
def LW : aA := ⟨IZ.tab, 168, ⟨[.af (sI 2), .agg [.int .i64, .int .i64]], [], 0⟩, ⟨[.int .i64], [], 0⟩, []⟩
abbrev wI : Type := List Dat × Int × Int × Int × Int
def rl (m : Nat) (k : wI -> Option (List Un)) : wI -> Option (List Un) := fun (a0, a1, a2, a3, a4) =>
 bif decide (a2 < a1) then
 chk (inb a2 a0.length) <|
 chk (decide (a2.toNat < a0.length)) <|
 lt (ah a0 a2.toNat : Dat) fun d1 =>
 bif ((a3 == (d1.i 0)) && ((a4 == (d1.i 1)) && true)) then
 some ([.i a2])
 else
 k (a0, a1, (w64 (a2 + 1)), a3, a4)
 else
 some ([.i (-1)])
def oA (m : Nat) : Nat -> wI -> Option (List Un) := bc (rl m)
theorem pz (m : Nat) (n : Nat) : oA m (n + 1) = rl m (oA m n) := rfl
def Bx (F : wI -> Option (List Un)) : aP := ⟨[.lp [0, 1, 0, 1], .blk 0, .code [1, 1]], ⟨frm 19 [(0, .af (sI 2)), (3, .ptr 0 0 0), (7, .int .i64), (8, .int .i64)], [.cells [.int .i64, .int .i64]], 0⟩, onU F⟩
theorem K5 (m : Nat) : ∀ n, HO LW (Bx (oA m n)) := aw ai IZ.right (fun k => [Bx k]) (fun k h => (aE h az)) fun k a => by kernel_rfl
def t168 (m : Nat) : List Dat × Int × Int -> Option (List Un) := fun (a0, a1, a2) =>
 oA m m (a0, (a0.length : Int), 0, a1, a2)
theorem PQ (m : Nat) (a b : Int) : ∀ (rest pre : List Dat) (n : Nat), rest.length < n -> (pre ++ rest).length < 1099511627776 ->
 oA m n (pre ++ rest, ((pre ++ rest).length : Int), (pre.length : Int), a, b) = some [.i (uP a b rest pre.length)] := by
 intro rest
 induction rest with
 | nil =>
  intro pre n hn hl; obtain ⟨n, rfl⟩ := ak n (by simp at hn; omega); rw [pz]; unfold rl; dsimp only; simp [aB, uP]
 | cons x rest ih =>
  intro pre n hn hl; obtain ⟨n, rfl⟩ := ak n (by simp at hn; omega); simp only [List.length_cons, List.length_append] at hn hl; have := ih (pre ++ [x]) n (by omega) (by simp; omega); rw [pz]; unfold rl; dsimp only; simp only [uP]
  by_cases h1 : a = x.i 0
  · by_cases h2 : b = x.i 1
    · rw [if_pos ⟨h1, h2⟩]; simp (disch := omega) only [TRa, TRi, aa, LNl, LNi, Int.cast_ofNat_Int, ao]
    · rw [if_neg (fun h => h2 h.2)]; simp (disch := omega) only [TRa, TRi, aa, LNl, LNi, Int.cast_ofNat_Int, ao]; simp only [LNl, LNi, Int.cast_ofNat_Int] at this ⊢; exact this
  · rw [if_neg (fun h => h1 h.1)]; simp (disch := omega) only [TRa, TRi, aa, LNl, LNi, Int.cast_ofNat_Int, ao]; simp only [LNl, LNi, Int.cast_ofNat_Int] at this ⊢; exact this
def f168 : List Dat × Int × Int -> Bool × List Un := fun (a0, a1, a2) => (decide (a0.length < 1099511627776), [.i (uP a1 a2 a0 0)])
theorem J4 (a0 : List Dat) (a1 : Int) (a2 : Int) (hc : (decide (a0.length < 1099511627776)) = true) : ∃ m, t168 m (a0, a1, a2) = some ([.i (uP a1 a2 a0 0)]) := by
 refine ⟨a0.length + 1, ?_⟩; exact PQ _ a1 a2 a0 [] _ (by omega) (of_decide_eq_true hc)
theorem FT : ER 168 (mkE LW.en LW.ex f168) := an ai IZ.right (fun m => [Bx (oA m m)]) (t := t168) (by kernel_rfl) (fun m => (aE (K5 m m) az)) (fun m a => by kernel_rfl) fun (a0, a1, a2) hc => J4 a0 a1 a2 hc
def LZ : Tb Tryz.prog LQ TE := IZ.add 168 _ FT
def Ph : aA := ⟨LZ.tab, 152, ⟨[.af (sI 2), .agg [.int .i64, .int .i64]], [], 0⟩, ⟨[.bool], [], 0⟩, []⟩
def t152 (m : Nat) : List Dat × Int × Int -> Option (List Un) := fun (a0, a1, a2) =>
 chk (decide (a0.length < 1099511627776)) <|
 some ([.b (decide ((uP a1 a2 a0 0) >= 0))])
def f152 : List Dat × Int × Int -> Bool × List Un := fun (a0, a1, a2) => (decide (a0.length < 1099511627776), [.b (cm a0 a1 a2)])
theorem Io (a0 : List Dat) (a1 : Int) (a2 : Int) (hc : (decide (a0.length < 1099511627776)) = true) : ∃ m, t152 m (a0, a1, a2) = some ([.b (cm a0 a1 a2)]) := by
 refine ⟨0, ?_⟩; have e := yR a1 a2 a0 0 (Int.le_refl 0); have h := of_decide_eq_true hc; unfold t152; simp (disch := omega) only [TRa, TRi, aa]; cases h : cm a0 a1 a2 <;> simp [h] at e ⊢ <;> omega
theorem GJ : ER 152 (mkE Ph.en Ph.ex f152) := an ai LZ.right (fun m => []) (t := t152) (by kernel_rfl) (fun m => az) (fun m a => by kernel_rfl) fun (a0, a1, a2) hc => Io a0 a1 a2 hc
def JR : Tb Tryz.prog LQ TE := LZ.add 152 _ GJ
theorem Iz {c y : Bool} : (bif c then some [Un.b y] else some [.b false]) = some [.b (c && y)] := by cases c <;> rfl
def nd (d : bg) : Bool :=
 decide (0 <= d.b.oc /\ d.b.oc <= 100000) && (decide (0 <= d.b.ic /\ d.b.ic <= 100000) && (decide (0 <= d.b.late /\ d.b.late <= 100000) && (decide (0 <= d.b.lS /\ d.b.lS <= 100000) && (decide (0 <= d.b.clean /\ d.b.clean <= 100000) &&
 (decide (1 <= d.a.year /\ d.a.year <= 9000) && (decide (1 <= d.a.month /\ d.a.month <= 12) && (decide (0 <= d.a.basis /\ d.a.basis <= 2) && (decide (0 <= d.b.fee /\ d.b.fee <= 5000) && (decide (0 <= d.b.bH /\ d.b.bH <= 1099511627776) &&
 (decide (0 <= d.b.target /\ d.b.target <= 10000) && (decide (0 <= d.b.advance /\ d.b.advance <= 1099511627776) && decide (0 <= d.b.dN /\ d.b.dN <= 600))))))))))))
def Lm : aA := ⟨JR.tab, 117, ⟨[.agg [.int .i64, .int .i64, .int .i64, .af (sI 2), .af (sI 3), .int .i64, .int .i64, .int .i64, .int .i64, .int .i64, .int .i64, .int .i64, .int .i64, .int .i64, .int .i64, .af (sI 2), .af (sI 2), .af (sI 2)]], [], 0⟩, ⟨[.bool], [], 0⟩, []⟩
abbrev yn : Type := Int × Int × bg × List Int
def xi (m : Nat) (k : yn -> Option (List Un)) : yn -> Option (List Un) := fun (a0, a1, a2, a3) =>
 bif decide (a1 < a0) then
 chk (inb a1 a3.length) <|
 chk (decide (a1.toNat < a3.length)) <|
 bif !(decide (0 <= (a3.getD a1.toNat 0) /\ (a3.getD a1.toNat 0) <= 100000)) then
 some ([.b false])
 else
 k (a0, (w64 (a1 + 1)), a2, a3)
 else
 bif (decide (1 <= a2.a.year /\ a2.a.year <= 9000)) then
 bif (decide (1 <= a2.a.month /\ a2.a.month <= 12)) then
 bif (decide (0 <= a2.a.basis /\ a2.a.basis <= 2)) then
 bif (decide (0 <= a2.b.fee /\ a2.b.fee <= 5000)) then
 bif (decide (0 <= a2.b.bH /\ a2.b.bH <= 1099511627776)) then
 bif (decide (0 <= a2.b.target /\ a2.b.target <= 10000)) then
 bif (decide (0 <= a2.b.advance /\ a2.b.advance <= 1099511627776)) then
 some ([.b (decide (0 <= a2.b.dN /\ a2.b.dN <= 600))])
 else
 some ([.b false])
 else
 some ([.b false])
 else
 some ([.b false])
 else
 some ([.b false])
 else
 some ([.b false])
 else
 some ([.b false])
 else
 some ([.b false])
def na (m : Nat) : Nat -> yn -> Option (List Un) := bc (xi m)
theorem zA (m : Nat) (n : Nat) : na m (n + 1) = xi m (na m n) := rfl
def AN (F : yn -> Option (List Un)) : aP := ⟨[.lp [0, 1, 0, 1], .blk 0, .code [1, 1]], ⟨frm 68 [(1, .ptr 0 0 0), (20, .buf 1 1), (21, .int .i64), (22, .int .i64)], [.cells [.int .i64, .int .i64, .int .i64, .af (sI 2), .af (sI 3), .int .i64, .int .i64, .int .i64, .int .i64, .int .i64, .int .i64, .int .i64, .int .i64, .int .i64, .int .i64, .af (sI 2), .af (sI 2), .af (sI 2)], .ints .i64], 0⟩, onU F⟩
theorem MS (m : Nat) : ∀ n, HO Lm (AN (na m n)) := aw ai JR.right (fun k => [AN k]) (fun k h => (aE h az)) fun k a => by kernel_rfl
def t117 (m : Nat) : bg -> Option (List Un) := fun a0 =>
 na m m (5, 0, a0, ([a0.b.oc, a0.b.ic, a0.b.late, a0.b.lS, a0.b.clean] : List Int))
def f117 : bg -> Bool × List Un := fun a0 => (true, [.b (nd a0)])
set_option maxHeartbeats 2000000 in
theorem IP (a0 : bg) : ∃ m, t117 m a0 = some ([.b (nd a0)]) := by
 refine ⟨6, ?_⟩; unfold t117; rw [show na 6 6 = na 6 (0 + 1 + 1 + 1 + 1 + 1 + 1) from rfl]; simp only [zA]; unfold xi; dsimp only; simp (disch := omega) only [TRa, TRi, aa, List.length_cons, List.length_nil, List.getD_cons_zero, List.getD_cons_succ, Int.reduceToNat, Nat.reduceAdd, Int.zero_add, Int.reduceAdd, decide_true, decide_false, Int.reduceLT]; simp only [Iz]; rfl
theorem GF : ER 117 (mkE Lm.en Lm.ex f117) := an ai JR.right (fun m => [AN (na m m)]) (t := t117) (by kernel_rfl) (fun m => (aE (MS m m) az)) (fun m a => by kernel_rfl) fun a0 hc => IP a0
def Hq : Tb Tryz.prog LQ TE := JR.add 117 _ GF
def iq : Int -> Int -> List Dat -> Option Int
 | _, all, [] => some all
 | last, all, d :: l => if d.i 0 <= last then none else if 0 <= d.i 1 /\ d.i 1 <= 1099511627776 - all then iq (d.i 0) (all + d.i 1) l else none
def eB (l : List Dat) : Option Int := if 1 <= l.length /\ l.length <= 64 then iq 0 0 l else none
def Ip (o : Option Int) : Option (List Un) := some [.i (o.getD 0), .b o.isSome]
def Nf : aA := ⟨Hq.tab, 115, ⟨[.af (sI 2)], [], 0⟩, ⟨[.int .i64, .bool], [], 0⟩, []⟩
abbrev w8 : Type := Int × Int × List Dat × Int × Int
def qH (m : Nat) (k : w8 -> Option (List Un)) : w8 -> Option (List Un) := fun (a0, a1, a2, a3, a4) =>
 bif decide (a4 < a3) then
 chk (inb a4 a2.length) <|
 chk (decide (a4.toNat < a2.length)) <|
 lt (ah a2 a4.toNat : Dat) fun d2 =>
 bif decide ((d2.i 0) <= a0) then
 some ([.i 0, .b false])
 else
 bif !(decide (0 <= (d2.i 1) /\ (d2.i 1) <= (w64 (1099511627776 - a1)))) then
 some ([.i 0, .b false])
 else
 k ((d2.i 0), (w64 (a1 + (d2.i 1))), a2, a3, (w64 (a4 + 1)))
 else
 some ([.i a1, .b true])
def oV (m : Nat) : Nat -> w8 -> Option (List Un) := bc (qH m)
theorem pG (m : Nat) (n : Nat) : oV m (n + 1) = qH m (oV m n) := rfl
def Bb (F : w8 -> Option (List Un)) : aP := ⟨[.lp [0, 1, 0, 1, 1, 1], .blk 0, .code [1, 1, 1, 1]], ⟨frm 38 [(4, .int .i64), (5, .int .i64), (12, .af (sI 2)), (13, .int .i64), (14, .int .i64)], [], 0⟩, onU F⟩
theorem L4 (m : Nat) : ∀ n, HO Nf (Bb (oV m n)) := aw ai Hq.right (fun k => [Bb k]) (fun k h => (aE h az)) fun k a => by kernel_rfl
def t115 (m : Nat) : List Dat -> Option (List Un) := fun a0 =>
 bif !(decide (1 <= (a0.length : Int) /\ (a0.length : Int) <= 64)) then
 some ([.i 0, .b false])
 else
 oV m m (0, 0, a0, (a0.length : Int), 0)
theorem Iv (m : Nat) : ∀ (rest pre : List Dat) (n : Nat) (last all : Int), rest.length < n -> (pre ++ rest).length <= 64 -> 0 <= all -> all <= 1099511627776 ->
 oV m n (last, all, pre ++ rest, ((pre ++ rest).length : Int), (pre.length : Int)) = Ip (iq last all rest) := by
 intro rest
 induction rest with
 | nil =>
  intro pre n last all hn hl h0 h1; obtain ⟨n, rfl⟩ := ak n (by simp at hn; omega); rw [pG]; unfold qH; dsimp only; simp [aB, iq, Ip]
 | cons x rest ih =>
  intro pre n last all hn hl h0 h1; obtain ⟨n, rfl⟩ := ak n (by simp at hn; omega); simp only [List.length_cons, List.length_append] at hn hl; rw [pG]; unfold qH; dsimp only; simp only [iq]
  by_cases c1 : x.i 0 <= last
  · rw [if_pos c1]; simp (disch := omega) only [TRa, TRi, aa, LNl, LNi, Int.cast_ofNat_Int, ao]; rfl
  · rw [if_neg c1]
    by_cases c2 : 0 <= x.i 1 /\ x.i 1 <= 1099511627776 - all
    · rw [if_pos c2]; have := ih (pre ++ [x]) n (x.i 0) (all + x.i 1) (by omega) (by simp; omega) (by omega) (by omega); simp (disch := omega) only [TRa, TRi, aa, LNl, LNi, Int.cast_ofNat_Int, ao]; simp only [LNl, LNi, Int.cast_ofNat_Int] at this ⊢; exact this
    · rw [if_neg c2]; simp (disch := omega) only [TRa, TRi, aa, LNl, LNi, Int.cast_ofNat_Int, ao]; rfl
def f115 : List Dat -> Bool × List Un := fun a0 => (true, [.i ((eB a0).getD 0), .b ((eB a0).isSome)])
theorem HY (a0 : List Dat) : ∃ m, t115 m a0 = some ([.i ((eB a0).getD 0), .b ((eB a0).isSome)]) := by
 refine ⟨65, ?_⟩; unfold t115 eB
 by_cases h : 1 <= a0.length /\ a0.length <= 64
 · rw [if_pos h]; simp (disch := omega) only [TRa, TRi, aa]; exact Iv 65 a0 [] 65 0 0 (by omega) h.2 (by omega) (by omega)
 · rw [if_neg h]; simp (disch := omega) only [TRa, TRi, aa]; rfl
theorem EF : ER 115 (mkE Nf.en Nf.ex f115) := an ai Hq.right (fun m => [Bb (oV m m)]) (t := t115) (by kernel_rfl) (fun m => (aE (L4 m m) az)) (fun m a => by kernel_rfl) fun a0 hc => HY a0
def IE : Tb Tryz.prog LQ TE := Hq.add 115 _ EF
def lH (most : Int) : Int -> List Dat -> Option Int
 | all, [] => some all
 | all, d :: l => if (0 <= d.i 0 /\ d.i 0 <= 7) /\ (1 <= d.i 1 /\ d.i 1 <= most - all) /\ (0 <= d.i 2 /\ d.i 2 <= 5000) then lH most (all + d.i 1) l else none
def ja (most : Int) (l : List Dat) : Option Int := if 1 <= l.length /\ l.length <= 8 then lH most 0 l else none
def MF : aA := ⟨IE.tab, 116, ⟨[.af (sI 3), .int .i64], [], 0⟩, ⟨[.int .i64, .bool], [], 0⟩, []⟩
abbrev xd : Type := Int × Int × List Dat × Int × Int
def qR (m : Nat) (k : xd -> Option (List Un)) : xd -> Option (List Un) := fun (a0, a1, a2, a3, a4) =>
 bif decide (a4 < a3) then
 chk (inb a4 a2.length) <|
 chk (decide (a4.toNat < a2.length)) <|
 lt (ah a2 a4.toNat : Dat) fun d2 =>
 bif !(decide (0 <= (d2.i 0) /\ (d2.i 0) <= 7)) then
 some ([.i 0, .b false])
 else
 bif !(decide (1 <= (d2.i 1) /\ (d2.i 1) <= (w64 (a0 - a1)))) then
 some ([.i 0, .b false])
 else
 bif !(decide (0 <= (d2.i 2) /\ (d2.i 2) <= 5000)) then
 some ([.i 0, .b false])
 else
 k (a0, (w64 (a1 + (d2.i 1))), a2, a3, (w64 (a4 + 1)))
 else
 some ([.i a1, .b true])
def o6 (m : Nat) : Nat -> xd -> Option (List Un) := bc (qR m)
theorem pW (m : Nat) (n : Nat) : o6 m (n + 1) = qR m (o6 m n) := rfl
def AH (F : xd -> Option (List Un)) : aP := ⟨[.lp [0, 1, 0, 1, 1, 1], .blk 0, .code [1, 1, 1, 1]], ⟨frm 44 [(1, .int .i64), (6, .int .i64), (13, .af (sI 3)), (14, .int .i64), (15, .int .i64)], [], 0⟩, onU F⟩
theorem LO (m : Nat) : ∀ n, HO MF (AH (o6 m n)) := aw ai IE.right (fun k => [AH k]) (fun k h => (aE h az)) fun k a => by kernel_rfl
def t116 (m : Nat) : List Dat × Int -> Option (List Un) := fun (a0, a1) =>
 bif !(decide (1 <= (a0.length : Int) /\ (a0.length : Int) <= 8)) then
 some ([.i 0, .b false])
 else
 o6 m m (a1, 0, a0, (a0.length : Int), 0)
theorem Hz (m : Nat) (most : Int) (hm : 0 <= most /\ most <= 1099511627776) : ∀ (rest pre : List Dat) (n : Nat) (all : Int), rest.length < n -> (pre ++ rest).length <= 8 -> 0 <= all -> all <= most ->
 o6 m n (most, all, pre ++ rest, ((pre ++ rest).length : Int), (pre.length : Int)) = Ip (lH most all rest) := by
 intro rest
 induction rest with
 | nil =>
  intro pre n all hn hl h0 h1; obtain ⟨n, rfl⟩ := ak n (by simp at hn; omega); rw [pW]; unfold qR; dsimp only; simp [aB, lH, Ip]
 | cons x rest ih =>
  intro pre n all hn hl h0 h1; obtain ⟨n, rfl⟩ := ak n (by simp at hn; omega); simp only [List.length_cons, List.length_append] at hn hl; rw [pW]; unfold qR; dsimp only; simp only [lH]
  by_cases c1 : 0 <= x.i 0 /\ x.i 0 <= 7
  · by_cases c2 : 1 <= x.i 1 /\ x.i 1 <= most - all
    · by_cases c3 : 0 <= x.i 2 /\ x.i 2 <= 5000
      · rw [if_pos ⟨c1, c2, c3⟩]; have := ih (pre ++ [x]) n (all + x.i 1) (by omega) (by simp; omega) (by omega) (by omega); simp (disch := omega) only [TRa, TRi, aa, LNl, LNi, Int.cast_ofNat_Int, ao]; simp only [LNl, LNi, Int.cast_ofNat_Int] at this ⊢; exact this
      · rw [if_neg (fun h => c3 h.2.2)]; simp (disch := omega) only [TRa, TRi, aa, LNl, LNi, Int.cast_ofNat_Int, ao]; rfl
    · rw [if_neg (fun h => c2 h.2.1)]; simp (disch := omega) only [TRa, TRi, aa, LNl, LNi, Int.cast_ofNat_Int, ao]; rfl
  · rw [if_neg (fun h => c1 h.1)]; simp (disch := omega) only [TRa, TRi, aa, LNl, LNi, Int.cast_ofNat_Int, ao]; rfl
def f116 : List Dat × Int -> Bool × List Un := fun (a0, a1) => (decide (0 <= a1 /\ a1 <= 1099511627776), [.i ((ja a1 a0).getD 0), .b ((ja a1 a0).isSome)])
theorem HR (a0 : List Dat) (a1 : Int) (hc : (decide (0 <= a1 /\ a1 <= 1099511627776)) = true) : ∃ m, t116 m (a0, a1) = some ([.i ((ja a1 a0).getD 0), .b ((ja a1 a0).isSome)]) := by
 have hm := of_decide_eq_true hc; refine ⟨65, ?_⟩; unfold t116 ja
 by_cases h : 1 <= a0.length /\ a0.length <= 8
 · rw [if_pos h]; simp (disch := omega) only [TRa, TRi, aa]; exact Hz 65 a1 hm a0 [] 65 0 (by omega) h.2 (by omega) (by omega)
 · rw [if_neg h]; simp (disch := omega) only [TRa, TRi, aa]; rfl
theorem Eg : ER 116 (mkE MF.en MF.ex f116) := an ai IE.right (fun m => [AH (o6 m m)]) (t := t116) (by kernel_rfl) (fun m => (aE (LO m m) az)) (fun m a => by kernel_rfl) fun (a0, a1) hc => HR a0 a1 hc
def Hn : Tb Tryz.prog LQ TE := IE.add 116 _ Eg
def E7 (d : Dat) : Bool := decide (1 <= d.i 0 /\ d.i 0 <= 7) && decide (0 <= d.i 1 /\ d.i 1 <= (if d.i 0 = 3 then 7 else 0))
def sY : List Dat -> List Dat -> Bool
 | _, [] => true
 | pre, d :: l => E7 d && (!cm pre (d.i 0) (d.i 1) && sY (pre ++ [d]) l)
def dL (l : List Dat) : Bool := decide (1 <= (l.length : Int) /\ (l.length : Int) <= 16) && sY [] l
def Lx : aA := ⟨Hn.tab, 118, ⟨[.af (sI 2)], [], 0⟩, ⟨[.bool], [], 0⟩, []⟩
abbrev xf : Type := List Dat × List Dat × Int × Int
def qY (m : Nat) (k : xf -> Option (List Un)) : xf -> Option (List Un) := fun (a0, a1, a2, a3) =>
 bif decide (a3 < a2) then
 chk (inb a3 a1.length) <|
 chk (decide (a3.toNat < a1.length)) <|
 lt (ah a1 a3.toNat : Dat) fun d2 =>
 bif (d2.i 0) == 3 then
 bif !(decide (1 <= (d2.i 0) /\ (d2.i 0) <= 7)) then
 some ([.b false])
 else
 bif !(decide (0 <= (d2.i 1) /\ (d2.i 1) <= 7)) then
 some ([.b false])
 else
 chk (decide (0 <= a3) && (true && decide (0 <= a3.toNat /\ a3.toNat <= a0.length))) <|
 chk (decide ((List.take a3.toNat a0).length < 1099511627776)) <|
 bif (cm (List.take a3.toNat a0) (d2.i 0) (d2.i 1)) then
 some ([.b false])
 else
 k (a0, a1, a2, (w64 (a3 + 1)))
 else
 bif !(decide (1 <= (d2.i 0) /\ (d2.i 0) <= 7)) then
 some ([.b false])
 else
 bif !(decide (0 <= (d2.i 1) /\ (d2.i 1) <= 0)) then
 some ([.b false])
 else
 chk (decide (0 <= a3) && (true && decide (0 <= a3.toNat /\ a3.toNat <= a0.length))) <|
 chk (decide ((List.take a3.toNat a0).length < 1099511627776)) <|
 bif (cm (List.take a3.toNat a0) (d2.i 0) (d2.i 1)) then
 some ([.b false])
 else
 k (a0, a1, a2, (w64 (a3 + 1)))
 else
 some ([.b true])
def pw (m : Nat) : Nat -> xf -> Option (List Un) := bc (qY m)
theorem qt (m : Nat) (n : Nat) : pw m (n + 1) = qY m (pw m n) := rfl
def AA (F : xf -> Option (List Un)) : aP := ⟨[.lp [0, 1, 0, 1, 1], .blk 0, .code [1, 1, 1]], ⟨frm 39 [(0, .af (sI 2)), (10, .af (sI 2)), (11, .int .i64), (12, .int .i64)], [], 0⟩, onU F⟩
theorem Li (m : Nat) : ∀ n, HO Lx (AA (pw m n)) := aw ai Hn.right (fun k => [AA k]) (fun k h => (aE h az)) fun k a => by kernel_rfl
def t118 (m : Nat) : List Dat -> Option (List Un) := fun a0 =>
 bif !(decide (1 <= (a0.length : Int) /\ (a0.length : Int) <= 16)) then
 some ([.b false])
 else
 pw m m (a0, a0, (a0.length : Int), 0)
theorem J3 (m : Nat) : ∀ (rest pre : List Dat) (n : Nat), rest.length < n -> (pre ++ rest).length <= 16 ->
 pw m n (pre ++ rest, pre ++ rest, ((pre ++ rest).length : Int), (pre.length : Int)) = some [.b (sY pre rest)] := by
 intro rest
 induction rest with
 | nil =>
  intro pre n hn hl; obtain ⟨n, rfl⟩ := ak n (by simp at hn; omega); rw [qt]; unfold qY; dsimp only; simp [aB, sY]
 | cons x rest ih =>
  intro pre n hn hl; obtain ⟨n, rfl⟩ := ak n (by simp at hn; omega); simp only [List.length_cons, List.length_append] at hn hl; rw [qt]; unfold qY; dsimp only; have := ih (pre ++ [x]) n (by omega) (by simp; omega); simp only [sY, E7]
  by_cases c1 : 1 <= x.i 0 /\ x.i 0 <= 7
  · by_cases c3 : x.i 0 = 3
    · by_cases c2 : 0 <= x.i 1 /\ x.i 1 <= 7
      · cases h : cm pre (x.i 0) (x.i 1)
        · simp (disch := omega) only [TRa, TRi, aa, LNl, LNi, Int.cast_ofNat_Int, ao, List.length_take]; simp only [List.take_left, h, cond_false, if_pos c3, decide_eq_true c1, decide_eq_true c2, Bool.true_and, Bool.not_false]
          (try simp (disch := omega) only [TRa, TRi, aa, LNl, LNi, Int.cast_ofNat_Int, ao, List.length_take])
          simp only [LNl, LNi, Int.cast_ofNat_Int] at this ⊢; exact this
        · simp (disch := omega) only [TRa, TRi, aa, LNl, LNi, Int.cast_ofNat_Int, ao, List.length_take]; simp only [List.take_left, h, cond_true, if_pos c3, decide_eq_true c1, decide_eq_true c2, Bool.true_and, Bool.not_true, Bool.false_and]
      · simp (disch := omega) only [TRa, TRi, aa, LNl, LNi, Int.cast_ofNat_Int, ao, List.length_take]; simp only [if_pos c3, decide_eq_false c2, Bool.and_false, Bool.false_and]
    · by_cases c2 : 0 <= x.i 1 /\ x.i 1 <= 0
      · cases h : cm pre (x.i 0) (x.i 1)
        · simp (disch := omega) only [TRa, TRi, aa, LNl, LNi, Int.cast_ofNat_Int, ao, List.length_take]; simp only [List.take_left, h, cond_false, if_neg c3, decide_eq_true c1, decide_eq_true c2, Bool.true_and, Bool.not_false]
          (try simp (disch := omega) only [TRa, TRi, aa, LNl, LNi, Int.cast_ofNat_Int, ao, List.length_take])
          simp only [LNl, LNi, Int.cast_ofNat_Int] at this ⊢; exact this
        · simp (disch := omega) only [TRa, TRi, aa, LNl, LNi, Int.cast_ofNat_Int, ao, List.length_take]; simp only [List.take_left, h, cond_true, if_neg c3, decide_eq_true c1, decide_eq_true c2, Bool.true_and, Bool.not_true, Bool.false_and]
      · simp (disch := omega) only [TRa, TRi, aa, LNl, LNi, Int.cast_ofNat_Int, ao, List.length_take]; simp only [if_neg c3, decide_eq_false c2, Bool.and_false, Bool.false_and]
  · by_cases c3 : x.i 0 = 3
    · omega
    · simp (disch := omega) only [TRa, TRi, aa, LNl, LNi, Int.cast_ofNat_Int, ao, List.length_take]; simp only [decide_eq_false c1, Bool.false_and]
def f118 : List Dat -> Bool × List Un := fun a0 => (true, [.b (dL a0)])
theorem Jd (a0 : List Dat) : ∃ m, t118 m a0 = some ([.b (dL a0)]) := by
 refine ⟨17, ?_⟩; unfold t118 dL
 by_cases h : 1 <= (a0.length : Int) /\ (a0.length : Int) <= 16
 · rw [decide_eq_true h, Bool.true_and]; simp (disch := omega) only [TRa, TRi, aa]; exact J3 17 a0 [] 17 (by omega) (by simp; omega)
 · rw [decide_eq_false h, Bool.false_and]; simp (disch := omega) only [TRa, TRi, aa]
theorem EG : ER 118 (mkE Lx.en Lx.ex f118) := an ai Hn.right (fun m => [AA (pw m m)]) (t := t118) (by kernel_rfl) (fun m => (aE (Li m m) az)) (fun m a => by kernel_rfl) fun a0 hc => Jd a0
def MP : Tb Tryz.prog LQ TE := Hn.add 118 _ EG
def bO (d : bg) : Option (Int × Int) :=
 match eB d.aR with
 | none => none
 | some p => match ja p d.notes with
  | none => none
  | some n => if nd d && (dL d.s0 && (dL d.s1 && dL d.s2)) then some (p, n) else none
theorem u9 : ∀ (l : List Dat) (last all r : Int), 0 <= all -> all <= 1099511627776 -> iq last all l = some r -> all <= r /\ r <= 1099511627776
 | [], last, all, r, h0, h1, h => by simp [iq] at h; omega
 | d :: l, last, all, r, h0, h1, h => by
  unfold iq at h
  split at h
  · cases h
  · split at h
    · have := u9 l _ _ r (by omega) (by omega) h; omega
    · cases h
theorem DZ {l : List Dat} {r : Int} (h : eB l = some r) : 0 <= r /\ r <= 1099511627776 := by
 unfold eB at h
 split at h
 · exact u9 l 0 0 r (by omega) (by omega) h
 · cases h
def N59 : aA := ⟨MP.tab, 59, ⟨[.agg [.int .i64, .int .i64, .int .i64, .af (sI 2), .af (sI 3), .int .i64, .int .i64, .int .i64, .int .i64, .int .i64, .int .i64, .int .i64, .int .i64, .int .i64, .int .i64, .af (sI 2), .af (sI 2), .af (sI 2)]], [], 0⟩, ⟨[.int .i64, .int .i64, .bool], [], 0⟩, [[0, 1, 0, 1, 1, 1, 1]]⟩
def t59 (m : Nat) : bg -> Option (List Un) := fun a0 =>
 chk (decide (0 <= ((eB a0.aR).getD 0) /\ ((eB a0.aR).getD 0) <= 1099511627776)) <|
 bif !((eB a0.aR).isSome) then
 some ([.i 0, .i 0, .b false])
 else
 bif !((ja ((eB a0.aR).getD 0) a0.notes).isSome) then
 some ([.i 0, .i 0, .b false])
 else
 bif !(nd a0) then
 some ([.i 0, .i 0, .b false])
 else
 bif !(dL a0.s0) then
 some ([.i 0, .i 0, .b false])
 else
 bif !(dL a0.s1) then
 some ([.i 0, .i 0, .b false])
 else
 bif !(dL a0.s2) then
 some ([.i 0, .i 0, .b false])
 else
 some ([.i ((eB a0.aR).getD 0), .i ((ja ((eB a0.aR).getD 0) a0.notes).getD 0), .b true])
def f59 : bg -> Bool × List Un := fun a0 => (true, [.i (((bO a0).getD (0, 0)).1), .i (((bO a0).getD (0, 0)).2), .b ((bO a0).isSome)])
theorem Nj (a0 : bg) : ∃ m, t59 m a0 = some ([.i (((bO a0).getD (0, 0)).1), .i (((bO a0).getD (0, 0)).2), .b ((bO a0).isSome)]) := by
 refine ⟨0, ?_⟩; unfold t59 bO; cases hl : eB a0.aR with
 | none => simp [lt, chk]
 | some p =>
  have hb := DZ hl; simp only [lt_eq, Option.getD_some, Option.isSome_some, Bool.not_true, cond_false]; rw [aQ hb]; cases hn : ja p a0.notes with
  | none => simp
  | some n =>
   simp only [Option.isSome_some, Bool.not_true, cond_false, Option.getD_some]; cases nd a0 <;> cases dL a0.s0 <;> cases dL a0.s1 <;> cases dL a0.s2 <;> rfl
theorem Kp : ER 59 (mkE N59.en N59.ex f59) := an ai MP.right (fun m => []) (t := t59) (by kernel_rfl) (fun m => az) (fun m a => by kernel_rfl) fun a0 hc => Nj a0
def T59 : Tb Tryz.prog LQ TE := MP.add 59 _ Kp
def N37 : aA := ⟨T59.tab, 37, ⟨[.agg [.int .i64, .int .i64, .int .i64, .af (sI 2), .af (sI 3), .int .i64, .int .i64, .int .i64, .int .i64, .int .i64, .int .i64, .int .i64, .int .i64, .int .i64, .int .i64, .af (sI 2), .af (sI 2), .af (sI 2)]], [], 0⟩, ⟨[.bool], [], 0⟩, []⟩
def t37 (m : Nat) : bg -> Option (List Un) := fun a0 =>
 some ([.b ((bO a0).isSome)])
def f37 : bg -> Bool × List Un := fun a0 => (true, [.b ((bO a0).isSome)])
theorem LL (a0 : bg) : ∃ m, t37 m a0 = some ([.b ((bO a0).isSome)]) := by
 exact ⟨0, rfl⟩
theorem Hh : ER 37 (mkE N37.en N37.ex f37) := an ai T59.right (fun m => []) (t := t37) (by kernel_rfl) (fun m => az) (fun m a => by kernel_rfl) fun a0 hc => LL a0
def T37 : Tb Tryz.prog LQ TE := T59.add 37 _ Hh
def N21 : aA := ⟨T37.tab, 21, ⟨[.agg [.int .i64, .int .i64, .int .i64, .af (sI 2), .af (sI 3), .int .i64, .int .i64, .int .i64, .int .i64, .int .i64, .int .i64, .int .i64, .int .i64, .int .i64, .int .i64, .af (sI 2), .af (sI 2), .af (sI 2)]], [], 0⟩, ⟨[.int .i64], [], 0⟩, []⟩
def t21 (m : Nat) : bg -> Option (List Un) := fun a0 =>
 some ([.i (((bO a0).getD (0, 0)).1)])
def f21 : bg -> Bool × List Un := fun a0 => (true, [.i (((bO a0).getD (0, 0)).1)])
theorem MX (a0 : bg) : ∃ m, t21 m a0 = some ([.i (((bO a0).getD (0, 0)).1)]) := by
 exact ⟨0, rfl⟩
theorem JO : ER 21 (mkE N21.en N21.ex f21) := an ai T37.right (fun m => []) (t := t21) (by kernel_rfl) (fun m => az) (fun m a => by kernel_rfl) fun a0 hc => MX a0
def T21 : Tb Tryz.prog LQ TE := T37.add 21 _ JO
def N62 : aA := ⟨T21.tab, 62, ⟨[.af (sI 7)], [], 0⟩, ⟨[.buf 0 7], [.af (sI 7)], 0⟩, []⟩
def t62 (m : Nat) : List Dat -> Option (List Un) := fun a0 =>
 bif decide (a0.length = 0) then
 both (
 some ([.d ([])])) (
 chk (fits (0 + a0.length) 56) <|
 some ([.d a0]))
 else
 chk (fits (0 + a0.length) 56) <|
 some ([.d a0])
def f62 : List Dat -> Bool × List Un := fun a0 => (decide (a0.length < 1000000), [.d (a0)])
theorem Lt (a0 : List Dat) (hc : (decide (a0.length < 1000000)) = true) : ∃ m, t62 m a0 = some ([.d (a0)]) := by
 have h := of_decide_eq_true hc; refine ⟨0, ?_⟩; unfold t62; cases a0 with
 | nil => simp (disch := omega) only [TRa, TRi, aa, List.length_nil, ij, Nat.add_zero, gk]
 | cons x l =>
  simp only [List.length_cons] at h ⊢; simp (disch := omega) only [TRa, TRi, aa]
theorem JL : ER 62 (mkE N62.en N62.ex f62) := an ai T21.right (fun m => []) (t := t62) (by kernel_rfl) (fun m => az) (fun m a => by kernel_rfl) fun a0 hc => Lt a0 hc
def T62 : Tb Tryz.prog LQ TE := T21.add 62 _ JL
def N89 : aA := ⟨T62.tab, 89, ⟨[.af (sI 2)], [], 0⟩, ⟨[.buf 0 2], [.af (sI 2)], 0⟩, []⟩
def t89 (m : Nat) : List Dat -> Option (List Un) := fun a0 =>
 bif decide (a0.length = 0) then
 both (
 some ([.d ([])])) (
 chk (fits (0 + a0.length) 16) <|
 some ([.d a0]))
 else
 chk (fits (0 + a0.length) 16) <|
 some ([.d a0])
def f89 : List Dat -> Bool × List Un := fun a0 => (decide (a0.length < 1000000), [.d (a0)])
theorem MI (a0 : List Dat) (hc : (decide (a0.length < 1000000)) = true) : ∃ m, t89 m a0 = some ([.d (a0)]) := by
 have h := of_decide_eq_true hc; refine ⟨0, ?_⟩; unfold t89; cases a0 with
 | nil => simp (disch := omega) only [TRa, TRi, aa, List.length_nil, ij, Nat.add_zero, gk]
 | cons x l =>
  simp only [List.length_cons] at h ⊢; simp (disch := omega) only [TRa, TRi, aa]
theorem I6 : ER 89 (mkE N89.en N89.ex f89) := an ai T62.right (fun m => []) (t := t89) (by kernel_rfl) (fun m => az) (fun m a => by kernel_rfl) fun a0 hc => MI a0 hc
def T89 : Tb Tryz.prog LQ TE := T62.add 89 _ I6
def N90 : aA := ⟨T89.tab, 90, ⟨[.af (sI 3)], [], 0⟩, ⟨[.buf 0 3], [.af (sI 3)], 0⟩, []⟩
def t90 (m : Nat) : List Dat -> Option (List Un) := fun a0 =>
 bif decide (a0.length = 0) then
 both (
 some ([.d ([])])) (
 chk (fits (0 + a0.length) 24) <|
 some ([.d a0]))
 else
 chk (fits (0 + a0.length) 24) <|
 some ([.d a0])
def f90 : List Dat -> Bool × List Un := fun a0 => (decide (a0.length < 1000000), [.d (a0)])
theorem Lf (a0 : List Dat) (hc : (decide (a0.length < 1000000)) = true) : ∃ m, t90 m a0 = some ([.d (a0)]) := by
 have h := of_decide_eq_true hc; refine ⟨0, ?_⟩; unfold t90; cases a0 with
 | nil => simp (disch := omega) only [TRa, TRi, aa, List.length_nil, ij, Nat.add_zero, gk]
 | cons x l =>
  simp only [List.length_cons] at h ⊢; simp (disch := omega) only [TRa, TRi, aa]
theorem JT : ER 90 (mkE N90.en N90.ex f90) := an ai T89.right (fun m => []) (t := t90) (by kernel_rfl) (fun m => az) (fun m a => by kernel_rfl) fun a0 hc => Lf a0 hc
def T90 : Tb Tryz.prog LQ TE := T89.add 90 _ JT
def N91 : aA := ⟨T90.tab, 91, ⟨[.af (sI 2)], [], 0⟩, ⟨[.buf 0 2], [.af (sI 2)], 0⟩, []⟩
def t91 (m : Nat) : List Dat -> Option (List Un) := fun a0 =>
 bif decide (a0.length = 0) then
 both (
 some ([.d ([])])) (
 chk (fits (0 + a0.length) 16) <|
 some ([.d a0]))
 else
 chk (fits (0 + a0.length) 16) <|
 some ([.d a0])
def f91 : List Dat -> Bool × List Un := fun a0 => (decide (a0.length < 1000000), [.d (a0)])
theorem Nu (a0 : List Dat) (hc : (decide (a0.length < 1000000)) = true) : ∃ m, t91 m a0 = some ([.d (a0)]) := by
 have h := of_decide_eq_true hc; refine ⟨0, ?_⟩; unfold t91; cases a0 with
 | nil => simp (disch := omega) only [TRa, TRi, aa, List.length_nil, ij, Nat.add_zero, gk]
 | cons x l =>
  simp only [List.length_cons] at h ⊢; simp (disch := omega) only [TRa, TRi, aa]
theorem Hx : ER 91 (mkE N91.en N91.ex f91) := an ai T90.right (fun m => []) (t := t91) (by kernel_rfl) (fun m => az) (fun m a => by kernel_rfl) fun a0 hc => Nu a0 hc
def T91 : Tb Tryz.prog LQ TE := T90.add 91 _ Hx
def O1 : aA := ⟨T91.tab, 102, ⟨[.af (sI 3)], [], 0⟩, ⟨[.buf 0 3], [.af (sI 3)], 0⟩, []⟩
def t102 (m : Nat) : List Dat -> Option (List Un) := fun a0 =>
 bif decide (a0.length = 0) then
 both (
 some ([.d ([])])) (
 chk (fits (0 + a0.length) 24) <|
 some ([.d a0]))
 else
 chk (fits (0 + a0.length) 24) <|
 some ([.d a0])
def f102 : List Dat -> Bool × List Un := fun a0 => (decide (a0.length < 1000000), [.d (a0)])
theorem JC (a0 : List Dat) (hc : (decide (a0.length < 1000000)) = true) : ∃ m, t102 m a0 = some ([.d (a0)]) := by
 have h := of_decide_eq_true hc; refine ⟨0, ?_⟩; unfold t102; cases a0 with
 | nil => simp (disch := omega) only [TRa, TRi, aa, List.length_nil, ij, Nat.add_zero, gk]
 | cons x l =>
  simp only [List.length_cons] at h ⊢; simp (disch := omega) only [TRa, TRi, aa]
theorem EP : ER 102 (mkE O1.en O1.ex f102) := an ai T91.right (fun m => []) (t := t102) (by kernel_rfl) (fun m => az) (fun m a => by kernel_rfl) fun a0 hc => JC a0 hc
def M7 : Tb Tryz.prog LQ TE := T91.add 102 _ EP
def Ou : aA := ⟨M7.tab, 114, ⟨[.af (sB 4)], [], 0⟩, ⟨[.buf 0 5], [.af (sB 4)], 0⟩, []⟩
def t114 (m : Nat) : List Dat -> Option (List Un) := fun a0 =>
 bif decide (a0.length = 0) then
 both (
 some ([.d ([])])) (
 chk (fits (0 + a0.length) 40) <|
 some ([.d a0]))
 else
 chk (fits (0 + a0.length) 40) <|
 some ([.d a0])
def f114 : List Dat -> Bool × List Un := fun a0 => (decide (a0.length < 1000000), [.d (a0)])
theorem Ki (a0 : List Dat) (hc : (decide (a0.length < 1000000)) = true) : ∃ m, t114 m a0 = some ([.d (a0)]) := by
 have h := of_decide_eq_true hc; refine ⟨0, ?_⟩; unfold t114; cases a0 with
 | nil => simp (disch := omega) only [TRa, TRi, aa, List.length_nil, ij, Nat.add_zero, gk]
 | cons x l =>
  simp only [List.length_cons] at h ⊢; simp (disch := omega) only [TRa, TRi, aa]
theorem Gj : ER 114 (mkE Ou.en Ou.ex f114) := an ai M7.right (fun m => []) (t := t114) (by kernel_rfl) (fun m => az) (fun m a => by kernel_rfl) fun a0 hc => Ki a0 hc
def M6 : Tb Tryz.prog LQ TE := M7.add 114 _ Gj
def N38 : aA := ⟨M6.tab, 38, ⟨[.agg [.int .i64, .int .i64, .int .i64, .af (sI 2), .af (sI 3), .int .i64, .int .i64, .int .i64, .int .i64, .int .i64, .int .i64, .int .i64, .int .i64, .int .i64, .int .i64, .af (sI 2), .af (sI 2), .af (sI 2)]], [], 0⟩, ⟨[.agg [.int .i64, .int .i64, .int .i64, .buf 0 2, .buf 1 3, .int .i64, .int .i64, .int .i64, .int .i64, .int .i64, .int .i64, .int .i64, .int .i64, .int .i64, .int .i64, .buf 2 2, .buf 3 2, .buf 4 2]], [.af (sI 2), .af (sI 3), .af (sI 2), .af (sI 2), .af (sI 2)], 0⟩, [[0, 1, 0, 1, 1, 1]]⟩
def t38 (m : Nat) : bg -> Option (List Un) := fun a0 =>
 chk (decide (a0.aR.length < 1000000)) <|
 chk (decide (a0.notes.length < 1000000)) <|
 chk (decide (a0.s0.length < 1000000)) <|
 chk (decide (a0.s1.length < 1000000)) <|
 chk (decide (a0.s2.length < 1000000)) <|
 some (Uns.enc (a0.a : au) ++ Uns.enc (a0.b : av) ++ [.d a0.aR, .d a0.notes, .d a0.s0, .d a0.s1, .d a0.s2])
def f38 : bg -> Bool × List Un := fun a0 => (decide (a0.aR.length < 1000000 /\ a0.notes.length < 1000000 /\ a0.s0.length < 1000000 /\ a0.s1.length < 1000000 /\ a0.s2.length < 1000000), Uns.enc ((a0.a) : au) ++ Uns.enc ((a0.b) : av) ++ [.d (a0.aR), .d (a0.notes), .d (a0.s0), .d (a0.s1), .d (a0.s2)])
theorem M5 (a0 : bg) (hc : (decide (a0.aR.length < 1000000 /\ a0.notes.length < 1000000 /\ a0.s0.length < 1000000 /\ a0.s1.length < 1000000 /\ a0.s2.length < 1000000)) = true) : ∃ m, t38 m a0 = some (Uns.enc ((a0.a) : au) ++ Uns.enc ((a0.b) : av) ++ [.d (a0.aR), .d (a0.notes), .d (a0.s0), .d (a0.s1), .d (a0.s2)]) := by
 obtain ⟨h1, h2, h3, h4, h5⟩ := of_decide_eq_true hc; refine ⟨0, ?_⟩; unfold t38; simp (disch := omega) only [TRa, TRi, aa]
theorem Ia : ER 38 (mkE N38.en N38.ex f38) := an ai M6.right (fun m => []) (t := t38) (by kernel_rfl) (fun m => az) (fun m a => by kernel_rfl) fun a0 hc => M5 a0 hc
def T38 : Tb Tryz.prog LQ TE := M6.add 38 _ Ia
end
end Go.Proofs.YtdbkoeefnodejaaGreat
namespace Go.Proofs.YtdbkoeefnodejaaGreat
noncomputable section
open Go Go.Proofs.YtdbkoeefnodejaaGreat.Ev
set_option maxRecDepth 20000
end
end Go.Proofs.YtdbkoeefnodejaaGreat
namespace Go.Proofs.YtdbkoeefnodejaaGreat
noncomputable section
open Go Go.Proofs.YtdbkoeefnodejaaGreat.Ev
set_option maxRecDepth 20000
def N40 : aA := ⟨T38.tab, 40, ⟨[.int .i64], [], 0⟩, ⟨[.agg [.int .i64, .int .i64]], [], 0⟩, []⟩
def t40 (m : Nat) : Int -> Option (List Un) := fun a0 =>
 bif (decide ((([0, a0]).getD 0 0) < 0)) then
 some ([.i 0, .i 0])
 else
 bif (decide ((([0, a0]).getD 0 0) > 1152921504606846976)) then
 some ([.i 0, .i 0])
 else
 lt ((w64 (0 + (([0, a0]).getD 0 0))) : Int) fun x3 =>
 bif (decide ((([0, a0]).getD 1 0) < 0)) then
 some ([.i 0, .i 0])
 else
 bif (decide ((([0, a0]).getD 1 0) > (w64 (1152921504606846976 - x3)))) then
 some ([.i 0, .i 0])
 else
 some ([.i (w64 (x3 + (([0, a0]).getD 1 0))), .i 0])
def f40 : Int -> Bool × List Un := fun a0 => (decide (0 <= a0 /\ a0 <= 1152921504606846976), [.i (a0), .i (0)])
theorem MM (a0 : Int) (hc : (decide (0 <= a0 /\ a0 <= 1152921504606846976)) = true) : ∃ m, t40 m a0 = some ([.i (a0), .i (0)]) := by
 have h := of_decide_eq_true hc; refine ⟨0, ?_⟩; unfold t40; simp only [List.getD_cons_zero, List.getD_cons_succ]; simp (disch := omega) only [TRa, TRi, aa, Int.zero_add, Int.sub_zero]
theorem IV : ER 40 (mkE N40.en N40.ex f40) := an ai T38.right (fun m => []) (t := t40) (by kernel_rfl) (fun m => az) (fun m a => by kernel_rfl) fun a0 hc => MM a0 hc
def T40 : Tb Tryz.prog LQ TE := T38.add 40 _ IV
def N41 : aA := ⟨T40.tab, 41, ⟨[.agg [.int .i64, .int .i64, .int .i64]], [], 0⟩, ⟨[.agg [.int .i64, .int .i64, .int .i64, .int .i64, .int .i64, .int .i64, .int .i64]], [], 0⟩, []⟩
def t41 (m : Nat) : Int × Int × Int -> Option (List Un) := fun (a0, a1, a2) =>
 some ([.i a0, .i a1, .i a2, .i 0, .i 0, .i 0, .i 0])
def f41 : Int × Int × Int -> Bool × List Un := fun (a0, a1, a2) => (true, [.i (a0), .i (a1), .i (a2), .i (0), .i (0), .i (0), .i (0)])
theorem LH (a0 : Int) (a1 : Int) (a2 : Int) : ∃ m, t41 m (a0, a1, a2) = some ([.i (a0), .i (a1), .i (a2), .i (0), .i (0), .i (0), .i (0)]) := by
 exact ⟨0, rfl⟩
theorem Jo : ER 41 (mkE N41.en N41.ex f41) := an ai T40.right (fun m => []) (t := t41) (by kernel_rfl) (fun m => az) (fun m a => by kernel_rfl) fun (a0, a1, a2) hc => LH a0 a1 a2
def T41 : Tb Tryz.prog LQ TE := T40.add 41 _ Jo
def fN (d : Dat) : Dat := .r [.n (d.i 0), .n (d.i 1), .n 0, .n 0, .n (bI false)]
def N39 : aA := ⟨T41.tab, 39, ⟨[.af (sI 2)], [], 0⟩, ⟨[.ptr 0 0 0], [.cells [.buf 1 5], .af (sB 4)], 0⟩, []⟩
abbrev Ct : Type := List Dat × Int × Int × List Dat
def xp (m : Nat) (k : Ct -> Option (List Un)) : Ct -> Option (List Un) := fun (a0, a1, a2, a3) =>
 bif decide (a2 < a1) then
 chk (inb a2 a0.length) <|
 chk (decide (a2.toNat < a0.length)) <|
 lt (ah a0 a2.toNat : Dat) fun d1 =>
 chk (fits (a3.length + 1) 40) <|
 k (a0, a1, (w64 (a2 + 1)), (a3 ++ ([.r [.n (d1.i 0), .n (d1.i 1), .n 0, .n 0, .n (bI false)]])))
 else
 some ([.d a3])
def v3 (m : Nat) : Nat -> Ct -> Option (List Un) := bc (xp m)
theorem tu (m : Nat) (n : Nat) : v3 m (n + 1) = xp m (v3 m n) := rfl
def Eo (F : Ct -> Option (List Un)) : aP := ⟨[.lp [0, 1, 0, 1, 1], .blk 0, .code [1, 1, 1]], ⟨frm 27 [(3, .ptr 0 0 0), (8, .af (sI 2)), (9, .int .i64), (10, .int .i64)], [.cells [.buf 1 5], .af (sB 4)], 0⟩, onU F⟩
theorem Og (m : Nat) : ∀ n, HO N39 (Eo (v3 m n)) := aw ai T41.right (fun k => [Eo k]) (fun k h => (aE h az)) fun k a => by kernel_rfl
def t39 (m : Nat) : List Dat -> Option (List Un) := fun a0 =>
 v3 m m (a0, (a0.length : Int), 0, [])
theorem FE (m : Nat) : ∀ (rest pre : List Dat) (n : Nat), rest.length < n -> (pre ++ rest).length < 1000000 ->
 v3 m n (pre ++ rest, ((pre ++ rest).length : Int), (pre.length : Int), pre.map fN) = some [.d ((pre ++ rest).map fN)] := by
 intro rest
 induction rest with
 | nil =>
  intro pre n hn hl; obtain ⟨n, rfl⟩ := ak n (by simp at hn; omega); rw [tu]; unfold xp; dsimp only; simp [aB]
 | cons x rest ih =>
  intro pre n hn hl; obtain ⟨n, rfl⟩ := ak n (by simp at hn; omega); simp only [List.length_cons, List.length_append] at hn hl; rw [tu]; unfold xp; dsimp only; have := ih (pre ++ [x]) n (by omega) (by simp; omega); rw [List.map_append] at this; simp (disch := omega) only [TRa, TRi, aa, LNl, LNi, Int.cast_ofNat_Int, ao]; simp only [LNl, LNi, Int.cast_ofNat_Int] at this ⊢; exact this
def f39 : List Dat -> Bool × List Un := fun a0 => (decide (a0.length < 1000000), [.d (a0.map fN)])
theorem L1 (a0 : List Dat) (hc : (decide (a0.length < 1000000)) = true) : ∃ m, t39 m a0 = some ([.d (a0.map fN)]) := by
 exact ⟨a0.length + 1, FE _ a0 [] _ (by omega) (of_decide_eq_true hc)⟩
theorem Jb : ER 39 (mkE N39.en N39.ex f39) := an ai T41.right (fun m => [Eo (v3 m m)]) (t := t39) (by kernel_rfl) (fun m => (aE (Og m m) az)) (fun m a => by kernel_rfl) fun a0 hc => L1 a0 hc
def T39 : Tb Tryz.prog LQ TE := T41.add 39 _ Jb
@[ext] structure aj where
 rin : Int
 ba : Int
 out : Int
 fee : Int
 mode : Int
 aV : Int
 period : Int
 aK : Int
 aU : Int
 ml : Bool
instance : Uns aj := Uns.via (B := Int × Int × Int × Int × Int × Int × Int × Int × Int × Bool) (fun x => (x.rin, x.ba, x.out, x.fee, x.mode, x.aV, x.period, x.aK, x.aU, x.ml)) (fun x => match x with | (rin, ba, out, fee, mode, aV, period, aK, aU, ml) => ⟨rin, ba, out, fee, mode, aV, period, aK, aU, ml⟩) (fun _ => rfl)
def bo (p : Nat) : List BP := [.cells [.int .i64, .int .i64, .int .i64, .buf (p + 1) 2, .buf (p + 2) 3, .int .i64, .int .i64, .int .i64, .int .i64, .int .i64, .int .i64, .int .i64, .int .i64, .int .i64, .int .i64, .buf (p + 3) 2, .buf (p + 4) 2, .buf (p + 5) 2, .ptr (p + 6) 0 0, .buf (p + 8) 7, .int .i64, .int .i64, .int .i64, .int .i64, .int .i64, .int .i64, .int .i64, .int .i64, .int .i64, .bool], .af (sI 2), .af (sI 3), .af (sI 2), .af (sI 2), .af (sI 2), .cells [.buf (p + 7) 5], .af (sB 4), .af (sI 7)]
structure ab where
 a : au
 b : av
 n : aj
 aR : List Dat
 notes : List Dat
 s0 : List Dat
 s1 : List Dat
 s2 : List Dat
 bd : List Dat
 tr : List Dat
def pB (d : Dat) : Dat := .r [.n (d.i 0), .n (d.i 1), .n (d.i 2), .n 0, .n 0, .n 0, .n 0]
def mW (d : bg) : ab := ⟨d.a, d.b, ⟨d.b.bH, 0, 0, 0, 0, 0, 0, 0, 0, false⟩, d.aR, d.notes, d.s0, d.s1, d.s2, d.aR.map fN, d.notes.map pB⟩
def dV (d : bg) : ab := if (bO d).isSome then mW d else ⟨⟨0, 0, 0⟩, ⟨0, 0, 0, 0, 0, 0, 0, 0, 0, 0⟩, ⟨0, 0, 0, 0, 0, 0, 0, 0, 0, false⟩, [], [], [], [], [], [], []⟩
theorem uL {d : bg} (h : (bO d).isSome = true) : 0 <= d.b.bH /\ d.b.bH <= 1099511627776 := by
 unfold bO at h
 split at h
 · cases h
 · split at h
   · cases h
   · split at h
     · rename_i hc; simp only [Bool.and_eq_true, nd, decide_eq_true_eq] at hc; omega
     · cases h
def N11 : aA := ⟨T39.tab, 11, ⟨[.agg [.int .i64, .int .i64, .int .i64, .af (sI 2), .af (sI 3), .int .i64, .int .i64, .int .i64, .int .i64, .int .i64, .int .i64, .int .i64, .int .i64, .int .i64, .int .i64, .af (sI 2), .af (sI 2), .af (sI 2)]], [], 0⟩, ⟨[.np 0 0 0, .int .i64], bo 0, 0⟩, []⟩
abbrev Cz : Type := List Dat × Int × Int × au × av × aj × List Dat × List Dat × List Dat × List Dat × List Dat × List Dat × List Dat
def wM (m : Nat) (k : Cz -> Option (List Un)) : Cz -> Option (List Un) := fun (a0, a1, a2, a3, a4, a5, a6, a7, a8, a9, a10, a11, a12) =>
 bif decide (a2 < a1) then
 chk (inb a2 a0.length) <|
 chk (decide (a2.toNat < a0.length)) <|
 lt (ah a0 a2.toNat : Dat) fun d1 =>
 chk (fits (a11.length + 1) 56) <|
 k (a0, a1, (w64 (a2 + 1)), a3, a4, a5, a6, a7, a8, a9, a10, (a11 ++ ([.r [.n (d1.i 0), .n (d1.i 1), .n (d1.i 2), .n 0, .n 0, .n 0, .n 0]])), a12)
 else
 some ([.i 0, .i 0] ++ Uns.enc (a3 : au) ++ Uns.enc (a4 : av) ++ Uns.enc (a5 : aj) ++ [.d a6, .d a7, .d a8, .d a9, .d a10, .d a12, .d a11])
def v8 (m : Nat) : Nat -> Cz -> Option (List Un) := bc (wM m)
theorem rM (m : Nat) (n : Nat) : v8 m (n + 1) = wM m (v8 m n) := rfl
def Gq (F : Cz -> Option (List Un)) : aP := ⟨[.lp [0, 1, 0, 1, 1, 1], .blk 0, .code [1, 1, 1, 1]], ⟨frm 40 [(4, .ptr 0 0 0), (21, .af (sI 3)), (22, .int .i64), (23, .int .i64)], [.cells [.int .i64, .int .i64, .int .i64, .buf 1 2, .buf 2 3, .int .i64, .int .i64, .int .i64, .int .i64, .int .i64, .int .i64, .int .i64, .int .i64, .int .i64, .int .i64, .buf 3 2, .buf 4 2, .buf 5 2, .ptr 6 0 0, .buf 7 7, .int .i64, .int .i64, .int .i64, .int .i64, .int .i64, .int .i64, .int .i64, .int .i64, .int .i64, .bool], .af (sI 2), .af (sI 3), .af (sI 2), .af (sI 2), .af (sI 2), .cells [.buf 8 5], .af (sI 7), .af (sB 4)], 0⟩, onU F⟩
theorem Oi (m : Nat) : ∀ n, HO N11 (Gq (v8 m n)) := aw ai T39.right (fun k => [Gq k]) (fun k h => (aE h az)) fun k a => by kernel_rfl
def t11 (m : Nat) : bg -> Option (List Un) := fun a0 =>
 bif !((bO a0).isSome) then
 some ([.i (-1), .i 2] ++ Uns.enc ((⟨0, 0, 0⟩ : au) : au) ++ Uns.enc ((⟨0, 0, 0, 0, 0, 0, 0, 0, 0, 0⟩ : av) : av) ++ Uns.enc ((⟨0, 0, 0, 0, 0, 0, 0, 0, 0, false⟩ : aj) : aj) ++ [.d ([]), .d ([]), .d ([]), .d ([]), .d ([]), .d ([]), .d ([])])
 else
 chk (decide (a0.aR.length < 1000000 /\ a0.notes.length < 1000000 /\ a0.s0.length < 1000000 /\ a0.s1.length < 1000000 /\ a0.s2.length < 1000000)) <|
 chk (decide (a0.aR.length < 1000000)) <|
 chk (decide (0 <= a0.b.bH /\ a0.b.bH <= 1152921504606846976)) <|
 v8 m m (a0.notes, (a0.notes.length : Int), 0, a0.a, a0.b, (⟨a0.b.bH, 0, 0, 0, 0, 0, 0, 0, 0, false⟩ : aj), a0.aR, a0.notes, a0.s0, a0.s1, a0.s2, [], (a0.aR.map fN))
theorem D3 (m : Nat) (a : au) (b : av) (n0 : aj) (x1 x2 x3 x4 x5 x6 : List Dat) : ∀ (rest pre : List Dat) (n : Nat), rest.length < n -> (pre ++ rest).length < 1000000 ->
 v8 m n (pre ++ rest, ((pre ++ rest).length : Int), (pre.length : Int), a, b, n0, x1, x2, x3, x4, x5, pre.map pB, x6) = some ([.i 0, .i 0] ++ Uns.enc (a : au) ++ Uns.enc (b : av) ++ Uns.enc (n0 : aj) ++ [.d x1, .d x2, .d x3, .d x4, .d x5, .d x6, .d ((pre ++ rest).map pB)]) := by
 intro rest
 induction rest with
 | nil =>
  intro pre n hn hl; obtain ⟨n, rfl⟩ := ak n (by simp at hn; omega); rw [rM]; unfold wM; dsimp only; simp [aB]
 | cons x rest ih =>
  intro pre n hn hl; obtain ⟨n, rfl⟩ := ak n (by simp at hn; omega); simp only [List.length_cons, List.length_append] at hn hl; rw [rM]; unfold wM; dsimp only; have := ih (pre ++ [x]) n (by omega) (by simp; omega); rw [List.map_append] at this; simp (disch := omega) only [TRa, TRi, aa, LNl, LNi, Int.cast_ofNat_Int, ao]; simp only [LNl, LNi, Int.cast_ofNat_Int] at this ⊢; exact this
def f11 : bg -> Bool × List Un := fun a0 => (decide (a0.aR.length < 1000000 /\ a0.notes.length < 1000000 /\ a0.s0.length < 1000000 /\ a0.s1.length < 1000000 /\ a0.s2.length < 1000000), [.i (((if (bO a0).isSome then 0 else -1) : Int)), .i (((if (bO a0).isSome then 0 else 2) : Int))] ++ Uns.enc (((dV a0).a) : au) ++ Uns.enc (((dV a0).b) : av) ++ Uns.enc (((dV a0).n) : aj) ++ [.d ((dV a0).aR), .d ((dV a0).notes), .d ((dV a0).s0), .d ((dV a0).s1), .d ((dV a0).s2), .d ((dV a0).bd), .d ((dV a0).tr)])
theorem LY (a0 : bg) (hc : (decide (a0.aR.length < 1000000 /\ a0.notes.length < 1000000 /\ a0.s0.length < 1000000 /\ a0.s1.length < 1000000 /\ a0.s2.length < 1000000)) = true) : ∃ m, t11 m a0 = some ([.i (((if (bO a0).isSome then 0 else -1) : Int)), .i (((if (bO a0).isSome then 0 else 2) : Int))] ++ Uns.enc (((dV a0).a) : au) ++ Uns.enc (((dV a0).b) : av) ++ Uns.enc (((dV a0).n) : aj) ++ [.d ((dV a0).aR), .d ((dV a0).notes), .d ((dV a0).s0), .d ((dV a0).s1), .d ((dV a0).s2), .d ((dV a0).bd), .d ((dV a0).tr)]) := by
 have h := of_decide_eq_true hc; refine ⟨a0.notes.length + 1, ?_⟩; unfold t11 dV; cases hs : (bO a0).isSome
 · rfl
 · have hr := uL hs; simp only [Bool.not_true, cond_false, if_true]; rw [aQ h, aQ (by omega), aQ (by omega)]; exact D3 _ _ _ _ _ _ _ _ _ _ a0.notes [] _ (by omega) (by simp; omega)
theorem Kr : ER 11 (mkE N11.en N11.ex f11) := an ai T39.right (fun m => [Gq (v8 m m)]) (t := t11) (by kernel_rfl) (fun m => (aE (Oi m m) az)) (fun m a => by kernel_rfl) fun a0 hc => LY a0 hc
def T11 : Tb Tryz.prog LQ TE := T39.add 11 _ Kr
def N36 : aA := ⟨T11.tab, 36, ⟨[.agg [.int .i64, .int .i64]], [], 0⟩, ⟨[.int .i64], [], 0⟩, []⟩
def t36 (m : Nat) : Int × Int -> Option (List Un) := fun (a0, a1) =>
 some ([.i (w64 (a0 - a1))])
def f36 : Int × Int -> Bool × List Un := fun (a0, a1) => (true, [.i (w64 (a0 - a1))])
theorem Lk (a0 : Int) (a1 : Int) : ∃ m, t36 m (a0, a1) = some ([.i (w64 (a0 - a1))]) := by
 exact ⟨0, rfl⟩
theorem JW : ER 36 (mkE N36.en N36.ex f36) := an ai T11.right (fun m => []) (t := t36) (by kernel_rfl) (fun m => az) (fun m a => by kernel_rfl) fun (a0, a1) hc => Lk a0 a1
def T36 : Tb Tryz.prog LQ TE := T11.add 36 _ JW
def N99 : aA := ⟨T36.tab, 99, ⟨[.agg [.int .i64, .int .i64, .int .i64, .int .i64, .int .i64, .int .i64, .int .i64]], [], 0⟩, ⟨[.int .i64], [], 0⟩, []⟩
def t99 (m : Nat) : Int × Int × Int × Int × Int × Int × Int -> Option (List Un) := fun (a0, a1, a2, a3, a4, a5, a6) =>
 some ([.i (w64 ((w64 (a1 - (w64 (a3 - a4)))) - a6))])
def f99 : Int × Int × Int × Int × Int × Int × Int -> Bool × List Un := fun (a0, a1, a2, a3, a4, a5, a6) => (true, [.i (w64 (w64 (a1 - w64 (a3 - a4)) - a6))])
theorem KQ (a0 : Int) (a1 : Int) (a2 : Int) (a3 : Int) (a4 : Int) (a5 : Int) (a6 : Int) : ∃ m, t99 m (a0, a1, a2, a3, a4, a5, a6) = some ([.i (w64 (w64 (a1 - w64 (a3 - a4)) - a6))]) := by
 exact ⟨0, rfl⟩
theorem Jh : ER 99 (mkE N99.en N99.ex f99) := an ai T36.right (fun m => []) (t := t99) (by kernel_rfl) (fun m => az) (fun m a => by kernel_rfl) fun (a0, a1, a2, a3, a4, a5, a6) hc => KQ a0 a1 a2 a3 a4 a5 a6
def T99 : Tb Tryz.prog LQ TE := T36.add 99 _ Jh
def aZ (d : Dat) : Int := d.i 1 - (d.i 3 - d.i 4) - d.i 6
def aH (d : Dat) : Bool := decide (0 <= d.i 1 /\ d.i 1 <= 1099511627776 /\ 0 <= d.i 3 /\ d.i 4 = 0 /\ 0 <= d.i 6 /\ d.i 3 + d.i 6 <= d.i 1 /\ 0 <= d.i 5 /\ d.i 5 <= 1125899906842624)
def lQ (c : Int) (d : Dat) : Int := max (min c (aZ d)) 0
def qE (c : Int) (d : Dat) : Dat := .r [.n (d.i 0), .n (d.i 1), .n (d.i 2), .n (d.i 3 + lQ c d), .n (d.i 4), .n (d.i 5), .n (d.i 6)]
def dm (c : Int) (d : Dat) : Dat := .r [.n (d.i 0), .n (d.i 1), .n (d.i 2), .n (d.i 3), .n (d.i 4), .n (d.i 5), .n (d.i 6 + lQ c d)]
def kQ (c : Int) (d : Dat) : Int := max (min c (d.i 6)) 0
def eX (c : Int) (d : Dat) : Dat := .r [.n (d.i 0), .n (d.i 1), .n (d.i 2), .n (d.i 3), .n (d.i 4), .n (d.i 5), .n (d.i 6 - kQ c d)]
def yz (c : Int) (d : Dat) : Dat := .r [.n (d.i 0), .n (d.i 1), .n (d.i 2), .n (d.i 3), .n (d.i 4), .n (d.i 5 + c), .n (d.i 6)]
def Oj : aA := ⟨T99.tab, 106, ⟨[.np 0 7 0, .int .i64], [.af (sI 7)], 0⟩, ⟨[.int .i64], [.af (sI 7)], 0⟩, []⟩
def t106 (m : Nat) : Int × Int × List Dat -> Option (List Un) := fun (a0, a1, a2) =>
 chk (decide (0 <= a0)) <|
 chk (decide (a0.toNat < a2.length)) <|
 lt (ah a2 a0.toNat : Dat) fun d1 =>
 lt ((w64 (w64 ((d1.i 1) - w64 ((d1.i 3) - (d1.i 4))) - (d1.i 6))) : Int) fun x2 =>
 lt ((if x2 < a1 then x2 else a1) : Int) fun x3 =>
 lt ((if x3 < 0 then 0 else x3) : Int) fun x4 =>
 chk (decide (0 <= a0)) <|
 chk (decide (a0.toNat < a2.length)) <|
 lt (ah a2 a0.toNat : Dat) fun d5 =>
 lt ((([(d5.i 3), x4]).getD 0 0) : Int) fun x6 =>
 bif decide (x6 < 0) then
 some ([.i 0, .d a2])
 else
 bif (decide (x6 > 1152921504606846976)) then
 some ([.i 0, .d a2])
 else
 lt ((([(d5.i 3), x4]).getD 1 0) : Int) fun x8 =>
 bif decide (x8 < 0) then
 some ([.i 0, .d a2])
 else
 bif decide (x8 > (w64 (1152921504606846976 - (w64 (0 + x6))))) then
 some ([.i 0, .d a2])
 else
 chk (decide (a0.toNat < a2.length)) <|
 lt (ah a2 a0.toNat : Dat) fun d11 =>
 some ([.i x4, .d (List.set a2 a0.toNat (.r [.n (d11.i 0), .n (d11.i 1), .n (d11.i 2), .n (w64 ((w64 (0 + x6)) + x8)), .n (d11.i 4), .n (d11.i 5), .n (d11.i 6)]))])
def f106 : Int × Int × List Dat -> Bool × List Un := fun (a0, a1, a2) => (decide (0 <= a0 /\ a0.toNat < a2.length) && aH (ah a2 a0.toNat), [.i (lQ a1 (ah a2 a0.toNat)), .d (a2.set a0.toNat (qE a1 (ah a2 a0.toNat)))])
theorem IK (a0 : Int) (a1 : Int) (a2 : List Dat) (hc : (decide (0 <= a0 /\ a0.toNat < a2.length) && aH (ah a2 a0.toNat)) = true) : ∃ m, t106 m (a0, a1, a2) = some ([.i (lQ a1 (ah a2 a0.toNat)), .d (a2.set a0.toNat (qE a1 (ah a2 a0.toNat)))]) := by
 simp only [Bool.and_eq_true, decide_eq_true_eq, aH] at hc; obtain ⟨⟨h1, h2⟩, h⟩ := hc; refine ⟨0, ?_⟩; unfold t106; dsimp only; simp only [lt_eq]; generalize ah a2 a0.toNat = d at *
 have hv : ∀ c, lQ c d = max (min c (aZ d)) 0 := fun _ => rfl
 simp only [qE, dm, eX, yz, kQ, hv, aZ]; simp only [List.getD_cons_zero, List.getD_cons_succ, lt_eq, iL, jV]; simp (disch := omega) only [TRa, TRi, aa, Int.zero_add]
theorem E0 : ER 106 (mkE Oj.en Oj.ex f106) := an ai T99.right (fun m => []) (t := t106) (by kernel_rfl) (fun m => az) (fun m a => by kernel_rfl) fun (a0, a1, a2) hc => IK a0 a1 a2 hc
def KY : Tb Tryz.prog LQ TE := T99.add 106 _ E0
def OZ : aA := ⟨KY.tab, 146, ⟨[.np 0 7 0, .int .i64], [.af (sI 7)], 0⟩, ⟨[.int .i64], [.af (sI 7)], 0⟩, []⟩
def t146 (m : Nat) : Int × Int × List Dat -> Option (List Un) := fun (a0, a1, a2) =>
 chk (decide (0 <= a0)) <|
 chk (decide (a0.toNat < a2.length)) <|
 lt (ah a2 a0.toNat : Dat) fun d1 =>
 lt ((w64 (w64 ((d1.i 1) - w64 ((d1.i 3) - (d1.i 4))) - (d1.i 6))) : Int) fun x2 =>
 lt ((if x2 < a1 then x2 else a1) : Int) fun x3 =>
 lt ((if x3 < 0 then 0 else x3) : Int) fun x4 =>
 chk (decide (0 <= a0)) <|
 chk (decide (a0.toNat < a2.length)) <|
 chk (decide (0 <= a0)) <|
 chk (decide (a0.toNat < a2.length)) <|
 lt (ah a2 a0.toNat : Dat) fun d6 =>
 some ([.i x4, .d (List.set a2 a0.toNat (.r [.n (d6.i 0), .n (d6.i 1), .n (d6.i 2), .n (d6.i 3), .n (d6.i 4), .n (d6.i 5), .n (w64 (((ah a2 a0.toNat).i 6) + x4))]))])
def f146 : Int × Int × List Dat -> Bool × List Un := fun (a0, a1, a2) => (decide (0 <= a0 /\ a0.toNat < a2.length) && aH (ah a2 a0.toNat), [.i (lQ a1 (ah a2 a0.toNat)), .d (a2.set a0.toNat (dm a1 (ah a2 a0.toNat)))])
theorem I2 (a0 : Int) (a1 : Int) (a2 : List Dat) (hc : (decide (0 <= a0 /\ a0.toNat < a2.length) && aH (ah a2 a0.toNat)) = true) : ∃ m, t146 m (a0, a1, a2) = some ([.i (lQ a1 (ah a2 a0.toNat)), .d (a2.set a0.toNat (dm a1 (ah a2 a0.toNat)))]) := by
 simp only [Bool.and_eq_true, decide_eq_true_eq, aH] at hc; obtain ⟨⟨h1, h2⟩, h⟩ := hc; refine ⟨0, ?_⟩; unfold t146; dsimp only; simp only [lt_eq]; generalize ah a2 a0.toNat = d at *
 have hv : ∀ c, lQ c d = max (min c (aZ d)) 0 := fun _ => rfl
 simp only [qE, dm, eX, yz, kQ, hv, aZ]; simp only [List.getD_cons_zero, List.getD_cons_succ, lt_eq, iL, jV]; simp (disch := omega) only [TRa, TRi, aa, Int.zero_add]
theorem Gs : ER 146 (mkE OZ.en OZ.ex f146) := an ai KY.right (fun m => []) (t := t146) (by kernel_rfl) (fun m => az) (fun m a => by kernel_rfl) fun (a0, a1, a2) hc => I2 a0 a1 a2 hc
def Ng : Tb Tryz.prog LQ TE := KY.add 146 _ Gs
def Py : aA := ⟨Ng.tab, 148, ⟨[.np 0 7 0, .int .i64], [.af (sI 7)], 0⟩, ⟨[.int .i64], [.af (sI 7)], 0⟩, []⟩
def t148 (m : Nat) : Int × Int × List Dat -> Option (List Un) := fun (a0, a1, a2) =>
 chk (decide (0 <= a0)) <|
 chk (decide (a0.toNat < a2.length)) <|
 lt (ah a2 a0.toNat : Dat) fun d1 =>
 lt ((if (d1.i 6) < a1 then (d1.i 6) else a1) : Int) fun x2 =>
 lt ((if x2 < 0 then 0 else x2) : Int) fun x3 =>
 chk (decide (0 <= a0)) <|
 chk (decide (a0.toNat < a2.length)) <|
 chk (decide (0 <= a0)) <|
 chk (decide (a0.toNat < a2.length)) <|
 lt (ah a2 a0.toNat : Dat) fun d5 =>
 some ([.i x3, .d (List.set a2 a0.toNat (.r [.n (d5.i 0), .n (d5.i 1), .n (d5.i 2), .n (d5.i 3), .n (d5.i 4), .n (d5.i 5), .n (w64 (((ah a2 a0.toNat).i 6) - x3))]))])
def f148 : Int × Int × List Dat -> Bool × List Un := fun (a0, a1, a2) => (decide (0 <= a0 /\ a0.toNat < a2.length) && aH (ah a2 a0.toNat), [.i (kQ a1 (ah a2 a0.toNat)), .d (a2.set a0.toNat (eX a1 (ah a2 a0.toNat)))])
theorem HA (a0 : Int) (a1 : Int) (a2 : List Dat) (hc : (decide (0 <= a0 /\ a0.toNat < a2.length) && aH (ah a2 a0.toNat)) = true) : ∃ m, t148 m (a0, a1, a2) = some ([.i (kQ a1 (ah a2 a0.toNat)), .d (a2.set a0.toNat (eX a1 (ah a2 a0.toNat)))]) := by
 simp only [Bool.and_eq_true, decide_eq_true_eq, aH] at hc; obtain ⟨⟨h1, h2⟩, h⟩ := hc; refine ⟨0, ?_⟩; unfold t148; dsimp only; simp only [lt_eq]; generalize ah a2 a0.toNat = d at *
 have hv : ∀ c, lQ c d = max (min c (aZ d)) 0 := fun _ => rfl
 simp only [qE, dm, eX, yz, kQ, hv, aZ]; simp only [List.getD_cons_zero, List.getD_cons_succ, lt_eq, iL, jV]; simp (disch := omega) only [TRa, TRi, aa, Int.zero_add]
theorem EZ : ER 148 (mkE Py.en Py.ex f148) := an ai Ng.right (fun m => []) (t := t148) (by kernel_rfl) (fun m => az) (fun m a => by kernel_rfl) fun (a0, a1, a2) hc => HA a0 a1 a2 hc
def Mq : Tb Tryz.prog LQ TE := Ng.add 148 _ EZ
def Ov : aA := ⟨Mq.tab, 100, ⟨[.np 0 7 0, .int .i64], [.af (sI 7)], 0⟩, ⟨[.bool], [.af (sI 7)], 0⟩, []⟩
def t100 (m : Nat) : Int × Int × List Dat -> Option (List Un) := fun (a0, a1, a2) =>
 chk (decide (0 <= a0)) <|
 chk (decide (a0.toNat < a2.length)) <|
 lt (ah a2 a0.toNat : Dat) fun d1 =>
 lt ((([(d1.i 5), a1]).getD 0 0) : Int) fun x2 =>
 bif decide (x2 < 0) then
 some ([.b false, .d a2])
 else
 bif (decide (x2 > 1152921504606846976)) then
 some ([.b false, .d a2])
 else
 lt ((([(d1.i 5), a1]).getD 1 0) : Int) fun x4 =>
 bif decide (x4 < 0) then
 some ([.b false, .d a2])
 else
 bif decide (x4 > (w64 (1152921504606846976 - (w64 (0 + x2))))) then
 some ([.b false, .d a2])
 else
 chk (decide (0 <= a0)) <|
 chk (decide (a0.toNat < a2.length)) <|
 lt (ah a2 a0.toNat : Dat) fun d7 =>
 some ([.b true, .d (List.set a2 a0.toNat (.r [.n (d7.i 0), .n (d7.i 1), .n (d7.i 2), .n (d7.i 3), .n (d7.i 4), .n (w64 ((w64 (0 + x2)) + x4)), .n (d7.i 6)]))])
def f100 : Int × Int × List Dat -> Bool × List Un := fun (a0, a1, a2) => (decide (0 <= a1 /\ a1 <= 1125899906842624) && (decide (0 <= a0 /\ a0.toNat < a2.length) && aH (ah a2 a0.toNat)), [.b (true), .d (a2.set a0.toNat (yz a1 (ah a2 a0.toNat)))])
theorem Ho (a0 : Int) (a1 : Int) (a2 : List Dat) (hc : (decide (0 <= a1 /\ a1 <= 1125899906842624) && (decide (0 <= a0 /\ a0.toNat < a2.length) && aH (ah a2 a0.toNat))) = true) : ∃ m, t100 m (a0, a1, a2) = some ([.b (true), .d (a2.set a0.toNat (yz a1 (ah a2 a0.toNat)))]) := by
 simp only [Bool.and_eq_true, decide_eq_true_eq, aH] at hc; obtain ⟨h0, ⟨h1, h2⟩, h⟩ := hc; refine ⟨0, ?_⟩; unfold t100; dsimp only; simp only [lt_eq]; generalize ah a2 a0.toNat = d at *
 have hv : ∀ c, lQ c d = max (min c (aZ d)) 0 := fun _ => rfl
 simp only [qE, dm, eX, yz, kQ, hv, aZ]; simp only [List.getD_cons_zero, List.getD_cons_succ, lt_eq, iL, jV]; simp (disch := omega) only [TRa, TRi, aa, Int.zero_add]
theorem EI : ER 100 (mkE Ov.en Ov.ex f100) := an ai Mq.right (fun m => []) (t := t100) (by kernel_rfl) (fun m => az) (fun m a => by kernel_rfl) fun (a0, a1, a2) hc => Ho a0 a1 a2 hc
def Kj : Tb Tryz.prog LQ TE := Mq.add 100 _ EI
def bk (f : Dat -> Int) : List Dat -> Int
 | [] => 0
 | d :: l => f d + bk f l
theorem bW {d : Dat} (h : aH d = true) : 0 <= d.i 1 /\ d.i 1 <= 1099511627776 /\ 0 <= d.i 3 /\ d.i 4 = 0 /\ 0 <= d.i 6 /\ d.i 3 + d.i 6 <= d.i 1 /\ 0 <= d.i 5 /\ d.i 5 <= 1125899906842624 := of_decide_eq_true h
def N60 : aA := ⟨Kj.tab, 60, ⟨[.af (sI 7)], [], 0⟩, ⟨[.int .i64, .int .i64, .int .i64], [], 0⟩, []⟩
abbrev Cq : Type := Int × Int × Int × List Dat × Int × Int
def wK (m : Nat) (k : Cq -> Option (List Un)) : Cq -> Option (List Un) := fun (a0, a1, a2, a3, a4, a5) =>
 bif decide (a5 < a4) then
 chk (inb a5 a3.length) <|
 chk (decide (a5.toNat < a3.length)) <|
 lt (ah a3 a5.toNat : Dat) fun d1 =>
 k ((w64 (a0 + (w64 (w64 ((d1.i 1) - w64 ((d1.i 3) - (d1.i 4))) - (d1.i 6))))), (w64 (a1 + (d1.i 5))), (w64 (a2 + (d1.i 6))), a3, a4, (w64 (a5 + 1)))
 else
 some ([.i a0, .i a1, .i a2])
def vK (m : Nat) : Nat -> Cq -> Option (List Un) := bc (wK m)
theorem tN (m : Nat) (n : Nat) : vK m (n + 1) = wK m (vK m n) := rfl
def Fh (F : Cq -> Option (List Un)) : aP := ⟨[.lp [0, 1, 0, 1], .blk 0, .code [1, 1]], ⟨frm 29 [(2, .int .i64), (3, .int .i64), (4, .int .i64), (7, .af (sI 7)), (8, .int .i64), (9, .int .i64)], [], 0⟩, onU F⟩
theorem Ot (m : Nat) : ∀ n, HO N60 (Fh (vK m n)) := aw ai Kj.right (fun k => [Fh k]) (fun k h => (aE h az)) fun k a => by kernel_rfl
def t60 (m : Nat) : List Dat -> Option (List Un) := fun a0 =>
 vK m m (0, 0, 0, a0, (a0.length : Int), 0)
theorem FO (m : Nat) : ∀ (rest pre : List Dat) (n : Nat) (b s t : Int), rest.length < n -> (pre ++ rest).length <= 1000 -> (∀ d ∈ rest, aH d = true) -> 0 <= b -> b <= 1099511627776 * pre.length -> 0 <= s -> s <= 1125899906842624 * pre.length -> 0 <= t -> t <= 1099511627776 * pre.length ->
 vK m n (b, s, t, pre ++ rest, ((pre ++ rest).length : Int), (pre.length : Int)) = some [.i (b + bk aZ rest), .i (s + al 5 rest), .i (t + al 6 rest)] := by
 intro rest
 induction rest with
 | nil =>
  intro pre n b s t hn hl hg b0 b1 s0 s1 t0 t1; obtain ⟨n, rfl⟩ := ak n (by simp at hn; omega); rw [tN]; unfold wK; dsimp only; simp [aB, bk, al]
 | cons x rest ih =>
  intro pre n b s t hn hl hg b0 b1 s0 s1 t0 t1; obtain ⟨n, rfl⟩ := ak n (by simp at hn; omega); simp only [List.length_cons, List.length_append] at hn hl; have hx := bW (hg x (by simp)); rw [tN]; unfold wK; dsimp only; have := ih (pre ++ [x]) n (b + aZ x) (s + x.i 5) (t + x.i 6) (by omega) (by simp; omega) (fun d hd => hg d (by simp [hd])) (by unfold aZ; omega) (by simp [aZ]; omega) (by omega) (by simp; omega) (by omega) (by simp; omega); simp only [bk, al, aZ] at this ⊢; simp (disch := omega) only [TRa, TRi, aa, LNl, LNi, Int.cast_ofNat_Int, ao]; simp only [LNl, LNi, Int.cast_ofNat_Int] at this ⊢; exact this
def f60 : List Dat -> Bool × List Un := fun a0 => (decide (a0.length <= 1000) && a0.all aH, [.i (bk aZ a0), .i (al 5 a0), .i (al 6 a0)])
theorem Nt (a0 : List Dat) (hc : (decide (a0.length <= 1000) && a0.all aH) = true) : ∃ m, t60 m a0 = some ([.i (bk aZ a0), .i (al 5 a0), .i (al 6 a0)]) := by
 simp only [Bool.and_eq_true, decide_eq_true_eq, List.all_eq_true] at hc; refine ⟨a0.length + 1, ?_⟩; exact (FO (a0.length + 1) a0 [] (a0.length + 1) 0 0 0 (by omega) (by simpa using hc.1) hc.2 (by omega) (by simp) (by omega) (by simp) (by omega) (by simp)).trans (by simp only [Int.zero_add])
theorem Hg : ER 60 (mkE N60.en N60.ex f60) := an ai Kj.right (fun m => [Fh (vK m m)]) (t := t60) (by kernel_rfl) (fun m => (aE (Ot m m) az)) (fun m a => by kernel_rfl) fun a0 hc => Nt a0 hc
def T60 : Tb Tryz.prog LQ TE := Kj.add 60 _ Hg
def unD (d : Dat) : Int := d.i 1 - (d.i 3 - d.i 4)
def N23 : aA := ⟨T60.tab, 23, ⟨[.np 0 0 0], bo 0, 9⟩, ⟨[.int .i64, .int .i64, .int .i64, .int .i64], bo 0, 9⟩, []⟩
abbrev Cy : Type := Int × Int × Int × Int × Int × Int × au × av × aj × List Dat × List Dat × List Dat × List Dat × List Dat × List Dat × List Dat
def w9 (m : Nat) (k : Cy -> Option (List Un)) : Cy -> Option (List Un) := fun (a0, a1, a2, a3, a4, a5, a6, a7, a8, a9, a10, a11, a12, a13, a14, a15) =>
 bif decide (a5 < a4) then
 chk (inb a5 a15.length) <|
 chk (decide (a5.toNat < a15.length)) <|
 lt (ah a15 a5.toNat : Dat) fun d1 =>
 k (a0, a1, a2, (w64 (a3 + (w64 ((d1.i 1) - (w64 ((d1.i 3) - (d1.i 4))))))), a4, (w64 (a5 + 1)), a6, a7, a8, a9, a10, a11, a12, a13, a14, a15)
 else
 some ([.i a0, .i a1, .i a2, .i a3] ++ Uns.enc (a6 : au) ++ Uns.enc (a7 : av) ++ Uns.enc (a8 : aj) ++ [.d a9, .d a10, .d a11, .d a12, .d a13, .d a14, .d a15])
def u7 (m : Nat) : Nat -> Cy -> Option (List Un) := bc (w9 m)
theorem sH (m : Nat) (n : Nat) : u7 m (n + 1) = w9 m (u7 m n) := rfl
def EO (F : Cy -> Option (List Un)) : aP := ⟨[.lp [0, 1, 0, 1, 1], .blk 0, .code [1, 1, 1]], ⟨frm 40 [(2, .int .i64), (3, .int .i64), (4, .int .i64), (5, .int .i64), (20, .buf 8 7), (21, .int .i64), (22, .int .i64)], bo 0, 9⟩, onU F⟩
theorem Oo (m : Nat) : ∀ n, HO N23 (EO (u7 m n)) := aw ai T60.right (fun k => [EO k]) (fun k h => (aE h az)) fun k a => by kernel_rfl
def t23 (m : Nat) : Int × au × av × aj × List Dat × List Dat × List Dat × List Dat × List Dat × List Dat × List Dat -> Option (List Un) := fun (a0, a1, a2, a3, a4, a5, a6, a7, a8, a9, a10) =>
 chk (decide (0 <= a0)) <|
 chk (decide (a10.length <= 1000) && a10.all aH) <|
 chk (decide (0 <= a0)) <|
 u7 m m ((bk aZ a10), (al 5 a10), (al 6 a10), 0, (a10.length : Int), 0, a1, a2, a3, a4, a5, a6, a7, a8, a9, a10)
theorem Dv (m : Nat) (b s t : Int) (xa : au) (xb : av) (xn : aj) (x1 x2 x3 x4 x5 x6 : List Dat) : ∀ (rest pre : List Dat) (n : Nat) (u : Int), rest.length < n -> (pre ++ rest).length <= 1000 -> (∀ d ∈ rest, aH d = true) -> 0 <= u -> u <= 1099511627776 * pre.length ->
 u7 m n (b, s, t, u, ((pre ++ rest).length : Int), (pre.length : Int), xa, xb, xn, x1, x2, x3, x4, x5, x6, pre ++ rest) = some ([.i b, .i s, .i t, .i (u + bk unD rest)] ++ Uns.enc xa ++ Uns.enc xb ++ Uns.enc xn ++ [.d x1, .d x2, .d x3, .d x4, .d x5, .d x6, .d (pre ++ rest)]) := by
 intro rest
 induction rest with
 | nil =>
  intro pre n u hn hl hg u0 u1; obtain ⟨n, rfl⟩ := ak n (by simp at hn; omega); rw [sH]; unfold w9; dsimp only; simp [aB, bk]
 | cons x rest ih =>
  intro pre n u hn hl hg u0 u1; obtain ⟨n, rfl⟩ := ak n (by simp at hn; omega); simp only [List.length_cons, List.length_append] at hn hl; have hx := bW (hg x (by simp)); rw [sH]; unfold w9; dsimp only; have := ih (pre ++ [x]) n (u + unD x) (by omega) (by simp; omega) (fun d hd => hg d (by simp [hd])) (by unfold unD; omega) (by simp [unD]; omega); simp only [bk, unD] at this ⊢; simp (disch := omega) only [TRa, TRi, aa, LNl, LNi, Int.cast_ofNat_Int, ao]; simp only [LNl, LNi, Int.cast_ofNat_Int] at this ⊢; exact this
def f23 : Int × au × av × aj × List Dat × List Dat × List Dat × List Dat × List Dat × List Dat × List Dat -> Bool × List Un := fun (a0, a1, a2, a3, a4, a5, a6, a7, a8, a9, a10) => (decide (0 <= a0) && (decide (a10.length <= 1000) && a10.all aH), [.i (bk aZ a10), .i (al 5 a10), .i (al 6 a10), .i (bk unD a10)] ++ Uns.enc ((a1) : au) ++ Uns.enc ((a2) : av) ++ Uns.enc ((a3) : aj) ++ [.d (a4), .d (a5), .d (a6), .d (a7), .d (a8), .d (a9), .d (a10)])
theorem Nw (a0 : Int) (a1 : au) (a2 : av) (a3 : aj) (a4 : List Dat) (a5 : List Dat) (a6 : List Dat) (a7 : List Dat) (a8 : List Dat) (a9 : List Dat) (a10 : List Dat) (hc : (decide (0 <= a0) && (decide (a10.length <= 1000) && a10.all aH)) = true) : ∃ m, t23 m (a0, a1, a2, a3, a4, a5, a6, a7, a8, a9, a10) = some ([.i (bk aZ a10), .i (al 5 a10), .i (al 6 a10), .i (bk unD a10)] ++ Uns.enc ((a1) : au) ++ Uns.enc ((a2) : av) ++ Uns.enc ((a3) : aj) ++ [.d (a4), .d (a5), .d (a6), .d (a7), .d (a8), .d (a9), .d (a10)]) := by
 have hc' := hc; simp only [Bool.and_eq_true, decide_eq_true_eq, List.all_eq_true] at hc'; refine ⟨a10.length + 1, ?_⟩; unfold t23; dsimp only; rw [(Bool.and_eq_true_iff.1 hc).2, gS]; simp (disch := omega) only [aQ]; exact (Dv (a10.length + 1) _ _ _ _ _ _ _ _ _ _ _ _ a10 [] (a10.length + 1) 0 (by omega) (by simpa using hc'.2.1) hc'.2.2 (by omega) (by simp)).trans (by simp only [Int.zero_add, List.nil_append])
theorem JN : ER 23 (mkE N23.en N23.ex f23) := an ai T60.right (fun m => [EO (u7 m m)]) (t := t23) (by kernel_rfl) (fun m => (aE (Oo m m) az)) (fun m a => by kernel_rfl) fun (a0, a1, a2, a3, a4, a5, a6, a7, a8, a9, a10) hc => Nw a0 a1 a2 a3 a4 a5 a6 a7 a8 a9 a10 hc
def T23 : Tb Tryz.prog LQ TE := T60.add 23 _ JN
end
end Go.Proofs.YtdbkoeefnodejaaGreat
namespace Go.Proofs.YtdbkoeefnodejaaGreat
noncomputable section
open Go Go.Proofs.YtdbkoeefnodejaaGreat.Ev
set_option maxRecDepth 20000
theorem DJ {d : Dat} (c : Int) (h : aH d = true) : aH (qE c d) = true := by
 have := bW h; refine decide_eq_true ?_
 simp only [qE, lQ, aZ, dM, eF, rR, mH, mI]; omega
theorem zL {d : Dat} (c : Int) (h : aH d = true) : aH (dm c d) = true := by
 have := bW h; refine decide_eq_true ?_
 simp only [dm, lQ, aZ, dM, eF, rR, mH, mI]; omega
theorem BK {d : Dat} (c : Int) (h : aH d = true) : aH (eX c d) = true := by
 have := bW h; refine decide_eq_true ?_
 simp only [eX, kQ, dM, eF, rR, mH, mI]; omega
theorem gp : ∀ l : List Dat, (∀ d ∈ l, aH d = true) -> (0 <= bk aZ l /\ bk aZ l <= 1099511627776 * l.length) /\ (0 <= al 5 l /\ al 5 l <= 1125899906842624 * l.length) /\ (0 <= al 6 l /\ al 6 l <= 1099511627776 * l.length) /\ (0 <= bk unD l /\ bk unD l <= 1099511627776 * l.length) /\ bk unD l = bk aZ l + al 6 l
 | [], _ => by simp [bk, al]
 | d :: l, h => by
  have h1 := bW (h d (by simp)); have h2 := gp l fun x hx => h x (by simp [hx])
  simp only [bk, al, List.length_cons, Int.natCast_add, aZ, unD] at h2 ⊢; omega
theorem zE (f : Dat -> Int) (y : Dat) : ∀ (l : List Dat) (j : Nat), j < l.length -> bk f (l.set j y) = bk f l - f (ah l j) + f y
 | [], j, h => by simp at h
 | d :: l, 0, h => by simp only [List.set_cons_zero, bk, ah, List.getD_cons_zero]; omega
 | d :: l, j + 1, h => by
  have := zE f y l j (by simpa using h); simp only [ah] at this; simp only [List.set_cons_succ, bk, ah, List.getD_cons_succ, this]; omega
theorem CP {p : Dat -> Prop} {l : List Dat} {j : Nat} {y : Dat} (h : ∀ d ∈ l, p d) (hy : p y) : ∀ d ∈ l.set j y, p d := fun d hd => by
 rcases List.mem_or_eq_of_mem_set hd with h1 | rfl
 · exact h d h1
 · exact hy
theorem uc {l : List Dat} {j : Nat} (h : j < l.length) : ah l j ∈ l := by rw [lC h]; exact List.getElem_mem h
end
end Go.Proofs.YtdbkoeefnodejaaGreat
namespace Go.Proofs.YtdbkoeefnodejaaGreat
noncomputable section
open Go Go.Proofs.YtdbkoeefnodejaaGreat.Ev
set_option maxRecDepth 20000
def Oq : aA := ⟨T23.tab, 109, ⟨[.agg [.bool, .bool, .bool, .bool]], [], 0⟩, ⟨[.bool], [], 0⟩, []⟩
def t109 (m : Nat) : Bool × Bool × Bool × Bool -> Option (List Un) := fun (a0, a1, a2, a3) =>
 bif !a0 then
 some ([.b true])
 else
 bif !a2 then
 some ([.b true])
 else
 some ([.b !a3])
def f109 : Bool × Bool × Bool × Bool -> Bool × List Un := fun (a0, a1, a2, a3) => (true, [.b (!a0 || (!a2 || !a3))])
theorem Jp (a0 : Bool) (a1 : Bool) (a2 : Bool) (a3 : Bool) : ∃ m, t109 m (a0, a1, a2, a3) = some ([.b (!a0 || (!a2 || !a3))]) := by
 refine ⟨0, ?_⟩; unfold t109; cases a0 <;> cases a2 <;> cases a3 <;> rfl
theorem GH : ER 109 (mkE Oq.en Oq.ex f109) := an ai T23.right (fun m => []) (t := t109) (by kernel_rfl) (fun m => az) (fun m a => by kernel_rfl) fun (a0, a1, a2, a3) hc => Jp a0 a1 a2 a3
def Ln : Tb Tryz.prog LQ TE := T23.add 109 _ GH
def dh (mode aV dN : Int) (oc ic late lS : Bool) : Int × Int :=
 if mode = 2 \/ ic = false then (2, 0)
 else if oc = false \/ late = false \/ lS = false then (1, 0)
 else if mode ≠ 1 \/ dN <= aV \/ aV + 1 = dN then (0, 0)
 else (1, aV + 1)
def N50 : aA := ⟨Ln.tab, 50, ⟨[.agg [.int .i64, .int .i64], .int .i64, .agg [.bool, .bool, .bool, .bool]], [], 0⟩, ⟨[.agg [.int .i64, .int .i64]], [], 0⟩, []⟩
def t50 (m : Nat) : Int × Int × Int × Bool × Bool × Bool × Bool -> Option (List Un) := fun (a0, a1, a2, a3, a4, a5, a6) =>
 bif a0 == 2 then
 some ([.i 2, .i 0])
 else
 bif !a4 then
 some ([.i 2, .i 0])
 else
 bif (!a3 || (!a5 || !a6)) then
 some ([.i 1, .i 0])
 else
 bif a0 != 1 then
 some ([.i 0, .i 0])
 else
 bif decide (a1 >= a2) then
 some ([.i 0, .i 0])
 else
 bif (w64 (a1 + 1)) == a2 then
 some ([.i 0, .i 0])
 else
 some ([.i 1, .i (w64 (a1 + 1))])
def f50 : Int × Int × Int × Bool × Bool × Bool × Bool -> Bool × List Un := fun (a0, a1, a2, a3, a4, a5, a6) => (decide (0 <= a1 /\ a1 <= 1000000), [.i ((dh a0 a1 a2 a3 a4 a5 a6).1), .i ((dh a0 a1 a2 a3 a4 a5 a6).2)])
theorem LS (a0 : Int) (a1 : Int) (a2 : Int) (a3 : Bool) (a4 : Bool) (a5 : Bool) (a6 : Bool) (hc : (decide (0 <= a1 /\ a1 <= 1000000)) = true) : ∃ m, t50 m (a0, a1, a2, a3, a4, a5, a6) = some ([.i ((dh a0 a1 a2 a3 a4 a5 a6).1), .i ((dh a0 a1 a2 a3 a4 a5 a6).2)]) := by
 have h := of_decide_eq_true hc; refine ⟨0, ?_⟩; unfold t50 dh
 by_cases h1 : a0 = 2
 · simp (disch := omega) only [TRa, TRi, aa]; simp [h1]
 · cases a4
   · simp (disch := omega) only [TRa, TRi, aa]; simp
   · cases a3 <;> cases a5 <;> cases a6 <;> simp [h1, fw] <;> by_cases h2 : a0 = 1 <;> by_cases h3 : a2 <= a1 <;> by_cases h4 : a1 + 1 = a2 <;> simp (disch := omega) only [TRa, TRi, aa] <;> simp [h2, h3, h4]
theorem JX : ER 50 (mkE N50.en N50.ex f50) := an ai Ln.right (fun m => []) (t := t50) (by kernel_rfl) (fun m => az) (fun m a => by kernel_rfl) fun (a0, a1, a2, a3, a4, a5, a6) hc => LS a0 a1 a2 a3 a4 a5 a6 hc
def T50 : Tb Tryz.prog LQ TE := Ln.add 50 _ JX
def cH (n : Int) : Int := if n < 1 then 0 else if n < 3 then 1 else if n < 6 then 2 else 3
def OW : aA := ⟨T50.tab, 150, ⟨[.int .i64], [], 0⟩, ⟨[.int .i64], [], 0⟩, []⟩
def t150 (m : Nat) : Int -> Option (List Un) := fun a0 =>
 bif decide (a0 < 1) then
 some ([.i 0])
 else
 bif decide (a0 < 3) then
 some ([.i 1])
 else
 bif decide (a0 < 6) then
 some ([.i 2])
 else
 some ([.i 3])
def f150 : Int -> Bool × List Un := fun a0 => (true, [.i (cH a0)])
theorem Kb (a0 : Int) : ∃ m, t150 m a0 = some ([.i (cH a0)]) := by
 refine ⟨0, ?_⟩; unfold t150 cH
 by_cases h1 : a0 < 1 <;> by_cases h2 : a0 < 3 <;> by_cases h3 : a0 < 6 <;> simp [h1, h2, h3]
theorem Fz : ER 150 (mkE OW.en OW.ex f150) := an ai T50.right (fun m => []) (t := t150) (by kernel_rfl) (fun m => az) (fun m a => by kernel_rfl) fun a0 hc => Kb a0
def Hf : Tb Tryz.prog LQ TE := T50.add 150 _ Fz
def cD (d : Dat) : Bool := decide (0 <= d.i 1 /\ d.i 1 <= 1099511627776)
def b8 (j : Int) (l : List Dat) : Int := bk (fun d => if cH (d.i 3) = j then d.i 1 else 0) l
theorem Ds (n : Int) : cH n = 0 \/ cH n = 1 \/ cH n = 2 \/ cH n = 3 := by
 unfold cH
 split
 · exact .inl rfl
 · split
   · exact .inr (.inl rfl)
   · split
     · exact .inr (.inr (.inl rfl))
     · exact .inr (.inr (.inr rfl))
theorem ov {d : Dat} (h : cD d = true) : 0 <= d.i 1 /\ d.i 1 <= 1099511627776 := of_decide_eq_true h
def LN : aA := ⟨Hf.tab, 112, ⟨[.af (sB 4)], [], 0⟩, ⟨[.agg [.int .i64, .int .i64, .int .i64, .int .i64]], [], 0⟩, []⟩
abbrev yi : Type := List Dat × Int × Int × Int × Int × Int × Int × Int × Int × Int × Int
def qP (m : Nat) (k : yi -> Option (List Un)) : yi -> Option (List Un) := fun (a0, a1, a2, a3, a4, a5, a6, a7, a8, a9, a10) =>
 bif decide (a2 < a1) then
 chk (inb a2 a0.length) <|
 chk (decide (a2.toNat < a0.length)) <|
 lt (ah a0 a2.toNat : Dat) fun d1 =>
 chk (inb (cH (d1.i 3)) 4) <|
 chk (decide ((cH (d1.i 3)).toNat < 4)) <|
 lt ((List.getD [a7, a8, a9, a10] ((cH (d1.i 3)).toNat) 0) : Int) fun x2 =>
 chk (inb (cH (d1.i 3)) 4) <|
 chk (decide ((cH (d1.i 3)).toNat < 4)) <|
 k (a0, a1, (w64 (a2 + 1)), a3, a4, a5, a6, (bif decide ((cH (d1.i 3)).toNat = 0) then (w64 (x2 + (d1.i 1))) else a7), (bif decide ((cH (d1.i 3)).toNat = 1) then (w64 (x2 + (d1.i 1))) else a8), (bif decide ((cH (d1.i 3)).toNat = 2) then (w64 (x2 + (d1.i 1))) else a9), (bif decide ((cH (d1.i 3)).toNat = 3) then (w64 (x2 + (d1.i 1))) else a10))
 else
 some ([.i a7, .i a8, .i a9, .i a10])
def oQ (m : Nat) : Nat -> yi -> Option (List Un) := bc (qP m)
theorem qo (m : Nat) (n : Nat) : oQ m (n + 1) = qP m (oQ m n) := rfl
def Bw (F : yi -> Option (List Un)) : aP := ⟨[.lp [0, 1, 0, 1, 1], .blk 0, .code [1, 1, 1]], ⟨frm 24 [(2, .ptr 0 0 0), (3, .ptr 1 0 0), (6, .af (sB 4)), (7, .int .i64), (8, .int .i64)], [.cells [.int .i64, .int .i64, .int .i64, .int .i64], .cells [.int .i64, .int .i64, .int .i64, .int .i64]], 0⟩, onU F⟩
theorem L2 (m : Nat) : ∀ n, HO LN (Bw (oQ m n)) := aw ai Hf.right (fun k => [Bw k]) (fun k h => (aE h az)) fun k a => by kernel_rfl
def t112 (m : Nat) : List Dat -> Option (List Un) := fun a0 =>
 oQ m m (a0, (a0.length : Int), 0, 0, 0, 0, 0, 0, 0, 0, 0)
set_option maxHeartbeats 2000000 in
theorem Im (m : Nat) (z0 z1 z2 z3 : Int) : ∀ (rest pre : List Dat) (n : Nat) (b0 b1 b2 b3 : Int), rest.length < n -> (pre ++ rest).length <= 1000 -> (∀ d ∈ rest, cD d = true) -> (0 <= b0 /\ b0 <= 1099511627776 * pre.length) -> (0 <= b1 /\ b1 <= 1099511627776 * pre.length) -> (0 <= b2 /\ b2 <= 1099511627776 * pre.length) -> (0 <= b3 /\ b3 <= 1099511627776 * pre.length) ->
 oQ m n (pre ++ rest, ((pre ++ rest).length : Int), (pre.length : Int), z0, z1, z2, z3, b0, b1, b2, b3) = some [.i (b0 + b8 0 rest), .i (b1 + b8 1 rest), .i (b2 + b8 2 rest), .i (b3 + b8 3 rest)] := by
 intro rest
 induction rest with
 | nil =>
  intro pre n b0 b1 b2 b3 hn hl hg h0 h1 h2 h3; obtain ⟨n, rfl⟩ := ak n (by simp at hn; omega); rw [qo]; unfold qP; dsimp only; simp [aB, bk, b8]
 | cons x rest ih =>
  intro pre n b0 b1 b2 b3 hn hl hg h0 h1 h2 h3; obtain ⟨n, rfl⟩ := ak n (by simp at hn; omega); simp only [List.length_cons, List.length_append] at hn hl; have hx := ov (hg x (by simp)); have ih' := fun b0 b1 b2 b3 => ih (pre ++ [x]) n b0 b1 b2 b3 (by omega) (by simp; omega) (fun d hd => hg d (by simp [hd]))
  rw [qo]; unfold qP; dsimp only; simp only [b8, bk] at ih' ⊢; rcases Ds (x.i 3) with hb | hb | hb | hb
  · have := ih' (b0 + x.i 1) b1 b2 b3 (by simp; omega) (by simp; omega) (by simp; omega) (by simp; omega); simp (disch := omega) only [TRa, TRi, aa, LNl, LNi, Int.cast_ofNat_Int, ao, hb, Int.reduceToNat, List.getD_cons_zero, List.getD_cons_succ, if_true, Int.reduceEq, if_false]; simp only [Nat.reduceEqDiff, decide_true, decide_false, cond_true, cond_false, reduceCtorEq, Nat.zero_ne_one, Nat.one_ne_zero, if_true, if_false, Int.reduceEq, Int.zero_add]; simp only [LNl, LNi, Int.cast_ofNat_Int] at this ⊢; exact this
  · have := ih' b0 (b1 + x.i 1) b2 b3 (by simp; omega) (by simp; omega) (by simp; omega) (by simp; omega); simp (disch := omega) only [TRa, TRi, aa, LNl, LNi, Int.cast_ofNat_Int, ao, hb, Int.reduceToNat, List.getD_cons_zero, List.getD_cons_succ, if_true, Int.reduceEq, if_false]; simp only [Nat.reduceEqDiff, decide_true, decide_false, cond_true, cond_false, reduceCtorEq, Nat.zero_ne_one, Nat.one_ne_zero, if_true, if_false, Int.reduceEq, Int.zero_add]; simp only [LNl, LNi, Int.cast_ofNat_Int] at this ⊢; exact this
  · have := ih' b0 b1 (b2 + x.i 1) b3 (by simp; omega) (by simp; omega) (by simp; omega) (by simp; omega); simp (disch := omega) only [TRa, TRi, aa, LNl, LNi, Int.cast_ofNat_Int, ao, hb, Int.reduceToNat, List.getD_cons_zero, List.getD_cons_succ, if_true, Int.reduceEq, if_false]; simp only [Nat.reduceEqDiff, decide_true, decide_false, cond_true, cond_false, reduceCtorEq, Nat.zero_ne_one, Nat.one_ne_zero, if_true, if_false, Int.reduceEq, Int.zero_add]; simp only [LNl, LNi, Int.cast_ofNat_Int] at this ⊢; exact this
  · have := ih' b0 b1 b2 (b3 + x.i 1) (by simp; omega) (by simp; omega) (by simp; omega) (by simp; omega); simp (disch := omega) only [TRa, TRi, aa, LNl, LNi, Int.cast_ofNat_Int, ao, hb, Int.reduceToNat, List.getD_cons_zero, List.getD_cons_succ, if_true, Int.reduceEq, if_false]; simp only [Nat.reduceEqDiff, decide_true, decide_false, cond_true, cond_false, reduceCtorEq, Nat.zero_ne_one, Nat.one_ne_zero, if_true, if_false, Int.reduceEq, Int.zero_add]; simp only [LNl, LNi, Int.cast_ofNat_Int] at this ⊢; exact this
def f112 : List Dat -> Bool × List Un := fun a0 => (decide (a0.length <= 1000) && a0.all cD, [.i (b8 0 a0), .i (b8 1 a0), .i (b8 2 a0), .i (b8 3 a0)])
theorem I5 (a0 : List Dat) (hc : (decide (a0.length <= 1000) && a0.all cD) = true) : ∃ m, t112 m a0 = some ([.i (b8 0 a0), .i (b8 1 a0), .i (b8 2 a0), .i (b8 3 a0)]) := by
 simp only [Bool.and_eq_true, decide_eq_true_eq, List.all_eq_true] at hc; refine ⟨a0.length + 1, ?_⟩; exact (Im (a0.length + 1) _ _ _ _ a0 [] (a0.length + 1) 0 0 0 0 (by omega) (by simpa using hc.1) hc.2 (by simp) (by simp) (by simp) (by simp)).trans (by simp only [Int.zero_add])
theorem FF : ER 112 (mkE LN.en LN.ex f112) := an ai Hf.right (fun m => [Bw (oQ m m)]) (t := t112) (by kernel_rfl) (fun m => (aE (L2 m m) az)) (fun m a => by kernel_rfl) fun a0 hc => I5 a0 hc
def Ky : Tb Tryz.prog LQ TE := Hf.add 112 _ FF
def zP (a b c d k : Int) : Int := (if k <= 0 then a else 0) + (if k <= 1 then b else 0) + (if k <= 2 then c else 0) + (if k <= 3 then d else 0)
def LC : aA := ⟨Ky.tab, 113, ⟨[.agg [.int .i64, .int .i64, .int .i64, .int .i64], .int .i64], [], 0⟩, ⟨[.int .i64], [], 0⟩, []⟩
abbrev xu : Type := Int × Int × Int × Int × Int × Int
def kh (m : Nat) (k : xu -> Option (List Un)) : xu -> Option (List Un) := fun (a0, a1, a2, a3, a4, a5) =>
 bif decide (a1 < 4) then
 chk (inb a1 4) <|
 chk (decide (a1.toNat < 4)) <|
 k ((w64 (a0 + (List.getD [a2, a3, a4, a5] a1.toNat 0))), (w64 (a1 + 1)), a2, a3, a4, a5)
 else
 some ([.i a0])
def dv (m : Nat) : Nat -> xu -> Option (List Un) := bc (kh m)
theorem gx (m : Nat) (n : Nat) : dv m (n + 1) = kh m (dv m n) := rfl
def AB (F : xu -> Option (List Un)) : aP := ⟨[.lp [0, 1, 0, 1, 1], .blk 0, .code [1, 1, 1]], ⟨frm 19 [(2, .ptr 0 0 0), (5, .int .i64), (6, .int .i64)], [.cells [.int .i64, .int .i64, .int .i64, .int .i64]], 0⟩, onU F⟩
theorem MO (m : Nat) : ∀ n, HO LC (AB (dv m n)) := aw ai Ky.right (fun k => [AB k]) (fun k h => (aE h az)) fun k a => by kernel_rfl
def t113 (m : Nat) : Int × Int × Int × Int × Int -> Option (List Un) := fun (a0, a1, a2, a3, a4) =>
 dv m m (0, (if a4 < 0 then 0 else a4), a0, a1, a2, a3)
def f113 : Int × Int × Int × Int × Int -> Bool × List Un := fun (a0, a1, a2, a3, a4) => (decide (0 <= a0 /\ a0 <= 1152921504606846976 /\ 0 <= a1 /\ a1 <= 1152921504606846976 /\ 0 <= a2 /\ a2 <= 1152921504606846976 /\ 0 <= a3 /\ a3 <= 1152921504606846976), [.i (zP a0 a1 a2 a3 a4)])
theorem Je (a0 : Int) (a1 : Int) (a2 : Int) (a3 : Int) (a4 : Int) (hc : (decide (0 <= a0 /\ a0 <= 1152921504606846976 /\ 0 <= a1 /\ a1 <= 1152921504606846976 /\ 0 <= a2 /\ a2 <= 1152921504606846976 /\ 0 <= a3 /\ a3 <= 1152921504606846976)) = true) : ∃ m, t113 m (a0, a1, a2, a3, a4) = some ([.i (zP a0 a1 a2 a3 a4)]) := by
 have h := of_decide_eq_true hc; refine ⟨6, ?_⟩; unfold t113 zP; dsimp only; have f0 : ∀ (n : Nat) (i s : Int), 4 <= i -> dv 6 (n + 1) (s, i, a0, a1, a2, a3) = some [.i s] := by
  intro n i s hi; rw [gx]; unfold kh; dsimp only; rw [aB (by omega)]
 have f3 : ∀ (n : Nat) (s : Int), 0 <= s -> s <= 3458764513820540928 -> dv 6 (n + 2) (s, 3, a0, a1, a2, a3) = some [.i (s + a3)] := by
  intro n s h1 h2; rw [gx]; unfold kh; dsimp only; simp (disch := omega) only [bT, iO, aQ, Int.reduceToNat, List.getD_cons_zero, List.getD_cons_succ, aa, Int.reduceAdd, f0]
 have f2 : ∀ (n : Nat) (s : Int), 0 <= s -> s <= 2305843009213693952 -> dv 6 (n + 3) (s, 2, a0, a1, a2, a3) = some [.i (s + a2 + a3)] := by
  intro n s h1 h2; rw [gx]; unfold kh; dsimp only; simp (disch := omega) only [bT, iO, aQ, Int.reduceToNat, List.getD_cons_zero, List.getD_cons_succ, aa, Int.reduceAdd, f3]
 have f1 : ∀ (n : Nat) (s : Int), 0 <= s -> s <= 1152921504606846976 -> dv 6 (n + 4) (s, 1, a0, a1, a2, a3) = some [.i (s + a1 + a2 + a3)] := by
  intro n s h1 h2; rw [gx]; unfold kh; dsimp only; simp (disch := omega) only [bT, iO, aQ, Int.reduceToNat, List.getD_cons_zero, List.getD_cons_succ, aa, Int.reduceAdd, f2]
 by_cases k0 : a4 <= 0
 · rw [show (if a4 < 0 then 0 else a4) = (0 : Int) by split <;> omega, show dv 6 6 = dv 6 (5 + 1) from rfl, gx]; unfold kh; dsimp only; simp (disch := omega) only [bT, iO, aQ, Int.reduceToNat, List.getD_cons_zero, List.getD_cons_succ, aa, Int.reduceAdd, Int.zero_add]; rw [show dv 6 5 = dv 6 (1 + 4) from rfl, f1 _ _ (by omega) (by omega), if_pos k0, if_pos (by omega), if_pos (by omega), if_pos (by omega)]
 · rw [if_neg (show ¬ a4 < 0 by omega), if_neg k0]
   by_cases k1 : a4 = 1
   · subst k1; rw [show dv 6 6 = dv 6 (2 + 4) from rfl, f1 _ _ (by omega) (by omega)]; simp
   · by_cases k2 : a4 = 2
     · subst k2; rw [show dv 6 6 = dv 6 (3 + 3) from rfl, f2 _ _ (by omega) (by omega)]; simp
     · by_cases k3 : a4 = 3
       · subst k3; rw [show dv 6 6 = dv 6 (4 + 2) from rfl, f3 _ _ (by omega) (by omega)]; simp
       · rw [f0 _ _ _ (by omega), if_neg (by omega), if_neg (by omega), if_neg (by omega)]; simp
theorem Fk : ER 113 (mkE LC.en LC.ex f113) := an ai Ky.right (fun m => [AB (dv m m)]) (t := t113) (by kernel_rfl) (fun m => (aE (MO m m) az)) (fun m a => by kernel_rfl) fun (a0, a1, a2, a3, a4) hc => Je a0 a1 a2 a3 a4 hc
def IQ : Tb Tryz.prog LQ TE := Ky.add 113 _ Fk
theorem NT (a : List Dat) : (ah [.r [.r a]] 0).d 0 = a := rfl
def N19 : aA := ⟨IQ.tab, 19, ⟨[.dpt [.af (sB 4)]], [], 0⟩, ⟨[.int .i64], [], 0⟩, []⟩
abbrev CG : Type := Int × List Dat × Int × Int
def yB (m : Nat) (k : CG -> Option (List Un)) : CG -> Option (List Un) := fun (a0, a1, a2, a3) =>
 bif decide (a3 < a2) then
 chk (inb a3 a1.length) <|
 chk (decide (a3.toNat < a1.length)) <|
 k ((w64 (a0 + ((ah a1 a3.toNat).i 1))), a1, a2, (w64 (a3 + 1)))
 else
 some ([.i a0])
def vW (m : Nat) : Nat -> CG -> Option (List Un) := bc (yB m)
theorem tJ (m : Nat) (n : Nat) : vW m (n + 1) = yB m (vW m n) := rfl
def ES (F : CG -> Option (List Un)) : aP := ⟨[.lp [0, 1, 0, 1, 1], .blk 0, .code [1, 1, 1]], ⟨frm 22 [(3, .int .i64), (9, .af (sB 4)), (10, .int .i64), (11, .int .i64)], [], 0⟩, onU F⟩
theorem Od (m : Nat) : ∀ n, HO N19 (ES (vW m n)) := aw ai IQ.right (fun k => [ES k]) (fun k h => (aE h az)) fun k a => by kernel_rfl
def t19 (m : Nat) : List Dat -> Option (List Un) := fun a0 =>
 chk (decide (0 < a0.length)) <|
 vW m m (0, ((ah a0 0).d 0), (((ah a0 0).d 0).length : Int), 0)
theorem FZ (m : Nat) : ∀ (rest pre : List Dat) (n : Nat) (b : Int), rest.length < n -> (pre ++ rest).length <= 1000 -> (∀ d ∈ rest, cD d = true) -> 0 <= b -> b <= 1099511627776 * pre.length ->
 vW m n (b, pre ++ rest, ((pre ++ rest).length : Int), (pre.length : Int)) = some [.i (b + al 1 rest)] := by
 intro rest
 induction rest with
 | nil =>
  intro pre n b hn hl hg h0 h1; obtain ⟨n, rfl⟩ := ak n (by simp at hn; omega); rw [tJ]; unfold yB; dsimp only; simp [aB, al]
 | cons x rest ih =>
  intro pre n b hn hl hg h0 h1; obtain ⟨n, rfl⟩ := ak n (by simp at hn; omega); simp only [List.length_cons, List.length_append] at hn hl; have hx := ov (hg x (by simp)); rw [tJ]; unfold yB; dsimp only; have := ih (pre ++ [x]) n (b + x.i 1) (by omega) (by simp; omega) (fun d hd => hg d (by simp [hd])) (by omega) (by simp; omega); simp only [al] at this ⊢; simp (disch := omega) only [TRa, TRi, aa, LNl, LNi, Int.cast_ofNat_Int, ao]; simp only [LNl, LNi, Int.cast_ofNat_Int] at this ⊢; exact this
def f19 : List Dat -> Bool × List Un := fun a0 => (decide (0 < a0.length) && (decide (((ah a0 0).d 0).length <= 1000) && ((ah a0 0).d 0).all cD), [.i (al 1 ((ah a0 0).d 0))])
theorem LJ (a0 : List Dat) (hc : (decide (0 < a0.length) && (decide (((ah a0 0).d 0).length <= 1000) && ((ah a0 0).d 0).all cD)) = true) : ∃ m, t19 m a0 = some ([.i (al 1 ((ah a0 0).d 0))]) := by
 simp only [Bool.and_eq_true, decide_eq_true_eq, List.all_eq_true] at hc; refine ⟨((ah a0 0).d 0).length + 1, ?_⟩; unfold t19; rw [aQ hc.1]; exact (FZ _ ((ah a0 0).d 0) [] (((ah a0 0).d 0).length + 1) 0 (by omega) (by simpa using hc.2.1) hc.2.2 (by omega) (by simp)).trans (by simp only [Int.zero_add])
theorem Hd : ER 19 (mkE N19.en N19.ex f19) := an ai IQ.right (fun m => [ES (vW m m)]) (t := t19) (by kernel_rfl) (fun m => (aE (Od m m) az)) (fun m a => by kernel_rfl) fun a0 hc => LJ a0 hc
def T19 : Tb Tryz.prog LQ TE := IQ.add 19 _ Hd
def N57 : aA := ⟨T19.tab, 57, ⟨[.dpt [.af (sB 4)]], [], 0⟩, ⟨[.buf 0 5], [.af (sB 4)], 0⟩, []⟩
def t57 (m : Nat) : List Dat -> Option (List Un) := fun a0 =>
 chk (decide (0 < a0.length)) <|
 chk (decide (((ah a0 0).d 0).length < 1000000)) <|
 some ([.d ((ah a0 0).d 0)])
def f57 : List Dat -> Bool × List Un := fun a0 => (decide (0 < a0.length) && decide (((ah a0 0).d 0).length < 1000000), [.d ((ah a0 0).d 0)])
theorem Lo (a0 : List Dat) (hc : (decide (0 < a0.length) && decide (((ah a0 0).d 0).length < 1000000)) = true) : ∃ m, t57 m a0 = some ([.d ((ah a0 0).d 0)]) := by
 simp only [Bool.and_eq_true, decide_eq_true_eq] at hc; refine ⟨0, ?_⟩; unfold t57; rw [aQ hc.1, aQ hc.2]
theorem Ks : ER 57 (mkE N57.en N57.ex f57) := an ai T19.right (fun m => []) (t := t57) (by kernel_rfl) (fun m => az) (fun m a => by kernel_rfl) fun a0 hc => Lo a0 hc
def T57 : Tb Tryz.prog LQ TE := T19.add 57 _ Ks
theorem lI (j : Int) : ∀ (l : List Dat), (∀ d ∈ l, cD d = true) -> 0 <= b8 j l /\ b8 j l <= 1099511627776 * l.length
 | [], _ => by simp [b8, bk]
 | x :: l, h => by
  have h1 := ov (h x (by simp)); have h2 := lI j l fun d hd => h d (by simp [hd])
  simp only [b8, bk, List.length_cons, Int.natCast_add, Int.cast_ofNat_Int] at h2 ⊢
  split <;> omega
def N52 : aA := ⟨T57.tab, 52, ⟨[.np 0 0 0, .int .i64, .int .i64], bo 0, 9⟩, ⟨[.agg [.int .i64, .int .i64, .int .i64, .int .i64, .int .i64, .int .i64, .int .i64]], bo 0, 9⟩, []⟩
def t52 (m : Nat) : Int × Int × Int × au × av × aj × List Dat × List Dat × List Dat × List Dat × List Dat × List Dat × List Dat -> Option (List Un) := fun (a0, a1, a2, a3, a4, a5, a6, a7, a8, a9, a10, a11, a12) =>
 chk (decide (0 <= a0) && (decide (a12.length <= 1000) && a12.all aH)) <|
 chk (decide (0 <= a0)) <|
 chk (decide (0 < ([.r [.r a11]] : List Dat).length) && (decide (((ah ([.r [.r a11]] : List Dat) 0).d 0).length <= 1000) && ((ah ([.r [.r a11]] : List Dat) 0).d 0).all cD)) <|
 chk (decide (0 <= a0)) <|
 chk (decide (0 <= a0)) <|
 chk (decide (0 < ([.r [.r a11]] : List Dat).length) && decide (((ah ([.r [.r a11]] : List Dat) 0).d 0).length < 1000000)) <|
 lt (((ah ([.r [.r a11]] : List Dat) 0).d 0) : List Dat) fun l5 =>
 chk (decide (l5.length <= 1000) && l5.all cD) <|
 chk (decide (0 <= (b8 0 l5) /\ (b8 0 l5) <= 1152921504606846976 /\ 0 <= (b8 1 l5) /\ (b8 1 l5) <= 1152921504606846976 /\ 0 <= (b8 2 l5) /\ (b8 2 l5) <= 1152921504606846976 /\ 0 <= (b8 3 l5) /\ (b8 3 l5) <= 1152921504606846976)) <|
 chk (decide (0 <= a0)) <|
 chk (decide (0 <= a0)) <|
 some ([.i (al 1 ((ah ([.r [.r a11]] : List Dat) 0).d 0)), .i (((bO (⟨a3, a6, a7, a4, a8, a9, a10⟩ : bg)).getD (0, 0)).1), .i (bk aZ a12), .i (if 1099511627776 < a1 then 1099511627776 else a1), .i (if 1099511627776 < a2 then 1099511627776 else a2), .i (zP (b8 0 l5) (b8 1 l5) (b8 2 l5) (b8 3 l5) 2), .i (w64 (a5.aK - a5.aU))] ++ Uns.enc (a3 : au) ++ Uns.enc (a4 : av) ++ Uns.enc (a5 : aj) ++ [.d a6, .d a7, .d a8, .d a9, .d a10, .d a11, .d a12])
def f52 : Int × Int × Int × au × av × aj × List Dat × List Dat × List Dat × List Dat × List Dat × List Dat × List Dat -> Bool × List Un := fun (a0, a1, a2, a3, a4, a5, a6, a7, a8, a9, a10, a11, a12) => (decide (0 <= a0) && ((decide (a11.length <= 1000) && a11.all cD) && (decide (a12.length <= 1000) && a12.all aH)), [.i (al 1 a11), .i (((bO (⟨a3, a6, a7, a4, a8, a9, a10⟩ : bg)).getD (0, 0)).1), .i (bk aZ a12), .i (min a1 1099511627776), .i (min a2 1099511627776), .i (b8 2 a11 + b8 3 a11), .i (w64 (a5.aK - a5.aU))] ++ Uns.enc ((a3) : au) ++ Uns.enc ((a4) : av) ++ Uns.enc ((a5) : aj) ++ [.d (a6), .d (a7), .d (a8), .d (a9), .d (a10), .d (a11), .d (a12)])
theorem Nr (a0 : Int) (a1 : Int) (a2 : Int) (a3 : au) (a4 : av) (a5 : aj) (a6 : List Dat) (a7 : List Dat) (a8 : List Dat) (a9 : List Dat) (a10 : List Dat) (a11 : List Dat) (a12 : List Dat) (hc : (decide (0 <= a0) && ((decide (a11.length <= 1000) && a11.all cD) && (decide (a12.length <= 1000) && a12.all aH))) = true) : ∃ m, t52 m (a0, a1, a2, a3, a4, a5, a6, a7, a8, a9, a10, a11, a12) = some ([.i (al 1 a11), .i (((bO (⟨a3, a6, a7, a4, a8, a9, a10⟩ : bg)).getD (0, 0)).1), .i (bk aZ a12), .i (min a1 1099511627776), .i (min a2 1099511627776), .i (b8 2 a11 + b8 3 a11), .i (w64 (a5.aK - a5.aU))] ++ Uns.enc ((a3) : au) ++ Uns.enc ((a4) : av) ++ Uns.enc ((a5) : aj) ++ [.d (a6), .d (a7), .d (a8), .d (a9), .d (a10), .d (a11), .d (a12)]) := by
 have hc' := hc; simp only [Bool.and_eq_true, decide_eq_true_eq, List.all_eq_true] at hc'; obtain ⟨h0, ⟨h1, h2⟩, h3, h4⟩ := hc'; have q1 : (decide (a11.length <= 1000) && a11.all cD) = true := (Bool.and_eq_true_iff.1 (Bool.and_eq_true_iff.1 hc).2).1; have q2 : (decide (a12.length <= 1000) && a12.all aH) = true := (Bool.and_eq_true_iff.1 (Bool.and_eq_true_iff.1 hc).2).2; have l0 := lI 0 a11 h2; have l1 := lI 1 a11 h2; have l2 := lI 2 a11 h2; have l3 := lI 3 a11 h2; refine ⟨0, ?_⟩; unfold t52; dsimp only [lt, NT, List.length_cons, List.length_nil]; simp only [decide_eq_true h0, q1, q2, Bool.and_self, gS, show decide (0 < 0 + 1) = true from rfl, decide_eq_true (show a11.length < 1000000 by omega)]; rw [aQ (by omega)]; simp only [iL, zP, Int.reduceLE, if_true, if_false, Int.zero_add, Bool.true_and]; exact cz (by rw [Bool.and_eq_true]; exact ⟨@decide_eq_true _ _ h1, List.all_eq_true.2 h2⟩) (cz (@decide_eq_true _ _ (by omega)) rfl)
theorem HN : ER 52 (mkE N52.en N52.ex f52) := an ai T57.right (fun m => []) (t := t52) (by kernel_rfl) (fun m => az) (fun m a => by kernel_rfl) fun (a0, a1, a2, a3, a4, a5, a6, a7, a8, a9, a10, a11, a12) hc => Nr a0 a1 a2 a3 a4 a5 a6 a7 a8 a9 a10 a11 a12 hc
def T52 : Tb Tryz.prog LQ TE := T57.add 52 _ HN
end
end Go.Proofs.YtdbkoeefnodejaaGreat
namespace Go.Proofs.YtdbkoeefnodejaaGreat
noncomputable section
open Go Go.Proofs.YtdbkoeefnodejaaGreat.Ev
set_option maxRecDepth 20000
theorem oC (pre pre' : List Dat) (x : Dat) (rest : List Dat) (h : pre'.length = pre.length) : ah (pre' ++ x :: rest) pre.length = x := by rw [<- h]; exact ao pre' x rest
def wv : Nat -> Nat -> Dat -> Dat -> Bool
 | _, 0, _, _ => true
 | j, n + 1, x, y => x.i j == y.i j && wv (j + 1) n x y
def gu (n : Nat) : List Dat -> List Dat -> Bool
 | [], [] => true
 | x :: a, y :: b => wv 0 n x y && gu n a b
 | _, _ => false
def ox : Nat -> Nat -> Dat -> Dat -> Bool
 | j, 0, x, y => x.b j == y.b j
 | j, n + 1, x, y => x.i j == y.i j && ox (j + 1) n x y
def lO (n : Nat) : List Dat -> List Dat -> Bool
 | [], [] => true
 | x :: a, y :: b => ox 0 n x y && lO n a b
 | _, _ => false
def qd : List Int -> List Int -> Bool
 | [], [] => true
 | x :: a, y :: b => x == y && qd a b
 | _, _ => false
theorem pf (n : Nat) : ∀ (a b : List Dat), a.length ≠ b.length -> gu n a b = false
 | [], [], h => absurd rfl h
 | [], _ :: _, _ => rfl
 | _ :: _, [], _ => rfl
 | x :: a, y :: b, h => by simp [gu, pf n a b (by simpa using h)]
theorem s8 (n : Nat) : ∀ (a b : List Dat), a.length ≠ b.length -> lO n a b = false
 | [], [], h => absurd rfl h
 | [], _ :: _, _ => rfl
 | _ :: _, [], _ => rfl
 | x :: a, y :: b, h => by simp [lO, s8 n a b (by simpa using h)]
theorem vH : ∀ (a b : List Int), a.length ≠ b.length -> qd a b = false
 | [], [], h => absurd rfl h
 | [], _ :: _, _ => rfl
 | _ :: _, [], _ => rfl
 | x :: a, y :: b, h => by simp [qd, vH a b (by simpa using h)]
def N15 : aA := ⟨T52.tab, 15, ⟨[.af (sI 3), .af (sI 3)], [], 0⟩, ⟨[.bool], [], 0⟩, []⟩
abbrev CU : Type := List Dat × List Dat × Int
def wN (m : Nat) (k : CU -> Option (List Un)) : CU -> Option (List Un) := fun (a0, a1, a2) =>
 bif (decide (a2 < (a0.length : Int))) then
 chk (inb a2 a0.length) <|
 chk (decide (a2.toNat < a0.length)) <|
 lt (ah a0 a2.toNat : Dat) fun d3 =>
 chk (inb a2 a1.length) <|
 chk (decide (a2.toNat < a1.length)) <|
 lt (ah a1 a2.toNat : Dat) fun d4 =>
 bif (!(((d3.i 0) == (d4.i 0)) && (((d3.i 1) == (d4.i 1)) && (((d3.i 2) == (d4.i 2)) && true)))) then
 some ([.b false])
 else
 k (a0, a1, (w64 (a2 + 1)))
 else
 some ([.b true])
def vS (m : Nat) : Nat -> CU -> Option (List Un) := bc (wN m)
theorem r9 (m : Nat) (n : Nat) : vS m (n + 1) = wN m (vS m n) := rfl
def EC (F : CU -> Option (List Un)) : aP := ⟨[.lp [0, 1, 0, 1, 1], .blk 0, .code [1, 1, 1]], ⟨frm 26 [(0, .af (sI 3)), (1, .af (sI 3)), (5, .int .i64)], [], 0⟩, onU F⟩
theorem NP (m : Nat) : ∀ n, HO N15 (EC (vS m n)) := aw ai T52.right (fun k => [EC k]) (fun k h => (aE h az)) fun k a => by kernel_rfl
def t15 (m : Nat) : List Dat × List Dat -> Option (List Un) := fun (a0, a1) =>
 bif ((a0.length : Int) != (a1.length : Int)) then
 some ([.b false])
 else
 vS m m (a0, a1, 0)
theorem Kv (m : Nat) : ∀ (rest rest' pre pre' : List Dat) (n : Nat), rest.length < n -> pre'.length = pre.length -> rest'.length = rest.length -> (pre ++ rest).length < 1099511627776 ->
 vS m n (pre ++ rest, pre' ++ rest', (pre.length : Int)) = some [.b (gu 3 rest rest')] := by
 intro rest
 induction rest with
 | nil =>
  intro rest' pre pre' n hn hp hr hl; obtain ⟨n, rfl⟩ := ak n (by simp at hn; omega); obtain rfl : rest' = [] := List.eq_nil_of_length_eq_zero (by simpa using hr); rw [r9]; unfold wN; dsimp only; simp [aB, gu]
 | cons x rest ih =>
  intro rest' pre pre' n hn hp hr hl; obtain ⟨n, rfl⟩ := ak n (by simp at hn; omega); obtain ⟨y, rest', rfl⟩ : ∃ y l, rest' = y :: l := by cases rest' with | nil => simp at hr | cons y l => exact ⟨y, l, rfl⟩
  simp only [List.length_cons, List.length_append] at hn hl hr; have := ih rest' (pre ++ [x]) (pre' ++ [y]) n (by omega) (by simp [hp]) (by omega) (by simp; omega); rw [r9]; unfold wN; dsimp only; simp only [gu, wv, ox, Nat.reduceAdd]; simp (disch := omega) only [TRa, TRi, aa, LNl, LNi, Int.cast_ofNat_Int, ao, oC _ _ _ _ hp]; simp only [LNl, LNi, Int.cast_ofNat_Int] at this ⊢
  (try simp only [bne, cond_not])
  cases (x.i 0 == y.i 0) <;> cases (x.i 1 == y.i 1) <;> cases (x.i 2 == y.i 2)
  all_goals (first | exact this | rfl)
def f15 : List Dat × List Dat -> Bool × List Un := fun (a0, a1) => (decide (a0.length < 1099511627776), [.b (gu 3 a0 a1)])
theorem Md (a0 : List Dat) (a1 : List Dat) (hc : (decide (a0.length < 1099511627776)) = true) : ∃ m, t15 m (a0, a1) = some ([.b (gu 3 a0 a1)]) := by
 have hs := of_decide_eq_true hc; refine ⟨a0.length + 1, ?_⟩; unfold t15; dsimp only
 by_cases h : a0.length = a1.length
 · rw [jP (by omega)]; exact Kv _ a0 a1 [] [] _ (by omega) rfl h.symm (by simpa using hs)
 · rw [jQ (by omega), pf _ _ _ h]
theorem Ku : ER 15 (mkE N15.en N15.ex f15) := an ai T52.right (fun m => [EC (vS m m)]) (t := t15) (by kernel_rfl) (fun m => (aE (NP m m) az)) (fun m a => by kernel_rfl) fun (a0, a1) hc => Md a0 a1 hc
def T15 : Tb Tryz.prog LQ TE := T52.add 15 _ Ku
def N84 : aA := ⟨T15.tab, 84, ⟨[.af (sB 6), .af (sB 6)], [], 0⟩, ⟨[.bool], [], 0⟩, []⟩
abbrev C1 : Type := List Dat × List Dat × Int
def xR (m : Nat) (k : C1 -> Option (List Un)) : C1 -> Option (List Un) := fun (a0, a1, a2) =>
 bif (decide (a2 < (a0.length : Int))) then
 chk (inb a2 a0.length) <|
 chk (decide (a2.toNat < a0.length)) <|
 lt (ah a0 a2.toNat : Dat) fun d3 =>
 chk (inb a2 a1.length) <|
 chk (decide (a2.toNat < a1.length)) <|
 lt (ah a1 a2.toNat : Dat) fun d4 =>
 bif (!(((d3.i 0) == (d4.i 0)) && (((d3.i 1) == (d4.i 1)) && (((d3.i 2) == (d4.i 2)) && (((d3.i 3) == (d4.i 3)) && (((d3.i 4) == (d4.i 4)) && (((d3.i 5) == (d4.i 5)) && (((d3.b 6) == (d4.b 6)) && true)))))))) then
 some ([.b false])
 else
 k (a0, a1, (w64 (a2 + 1)))
 else
 some ([.b true])
def vm (m : Nat) : Nat -> C1 -> Option (List Un) := bc (xR m)
theorem tv (m : Nat) (n : Nat) : vm m (n + 1) = xR m (vm m n) := rfl
def Ep (F : C1 -> Option (List Un)) : aP := ⟨[.lp [0, 1, 0, 1, 1], .blk 0, .code [1, 1, 1]], ⟨frm 26 [(0, .af (sB 6)), (1, .af (sB 6)), (5, .int .i64)], [], 0⟩, onU F⟩
theorem OI (m : Nat) : ∀ n, HO N84 (Ep (vm m n)) := aw ai T15.right (fun k => [Ep k]) (fun k h => (aE h az)) fun k a => by kernel_rfl
def t84 (m : Nat) : List Dat × List Dat -> Option (List Un) := fun (a0, a1) =>
 bif ((a0.length : Int) != (a1.length : Int)) then
 some ([.b false])
 else
 vm m m (a0, a1, 0)
theorem H7 (m : Nat) : ∀ (rest rest' pre pre' : List Dat) (n : Nat), rest.length < n -> pre'.length = pre.length -> rest'.length = rest.length -> (pre ++ rest).length < 1099511627776 ->
 vm m n (pre ++ rest, pre' ++ rest', (pre.length : Int)) = some [.b (lO 6 rest rest')] := by
 intro rest
 induction rest with
 | nil =>
  intro rest' pre pre' n hn hp hr hl; obtain ⟨n, rfl⟩ := ak n (by simp at hn; omega); obtain rfl : rest' = [] := List.eq_nil_of_length_eq_zero (by simpa using hr); rw [tv]; unfold xR; dsimp only; simp [aB, lO]
 | cons x rest ih =>
  intro rest' pre pre' n hn hp hr hl; obtain ⟨n, rfl⟩ := ak n (by simp at hn; omega); obtain ⟨y, rest', rfl⟩ : ∃ y l, rest' = y :: l := by cases rest' with | nil => simp at hr | cons y l => exact ⟨y, l, rfl⟩
  simp only [List.length_cons, List.length_append] at hn hl hr; have := ih rest' (pre ++ [x]) (pre' ++ [y]) n (by omega) (by simp [hp]) (by omega) (by simp; omega); rw [tv]; unfold xR; dsimp only; simp only [lO, wv, ox, Nat.reduceAdd]; simp (disch := omega) only [TRa, TRi, aa, LNl, LNi, Int.cast_ofNat_Int, ao, oC _ _ _ _ hp]; simp only [LNl, LNi, Int.cast_ofNat_Int] at this ⊢
  (try simp only [bne, cond_not])
  cases (x.i 0 == y.i 0) <;> cases (x.i 1 == y.i 1) <;> cases (x.i 2 == y.i 2) <;> cases (x.i 3 == y.i 3) <;> cases (x.i 4 == y.i 4) <;> cases (x.i 5 == y.i 5) <;> cases (x.b 6 == y.b 6)
  all_goals (first | exact this | rfl)
def f84 : List Dat × List Dat -> Bool × List Un := fun (a0, a1) => (decide (a0.length < 1099511627776), [.b (lO 6 a0 a1)])
theorem K7 (a0 : List Dat) (a1 : List Dat) (hc : (decide (a0.length < 1099511627776)) = true) : ∃ m, t84 m (a0, a1) = some ([.b (lO 6 a0 a1)]) := by
 have hs := of_decide_eq_true hc; refine ⟨a0.length + 1, ?_⟩; unfold t84; dsimp only
 by_cases h : a0.length = a1.length
 · rw [jP (by omega)]; exact H7 _ a0 a1 [] [] _ (by omega) rfl h.symm (by simpa using hs)
 · rw [jQ (by omega), s8 _ _ _ h]
theorem J0 : ER 84 (mkE N84.en N84.ex f84) := an ai T15.right (fun m => [Ep (vm m m)]) (t := t84) (by kernel_rfl) (fun m => (aE (OI m m) az)) (fun m a => by kernel_rfl) fun (a0, a1) hc => K7 a0 a1 hc
def T84 : Tb Tryz.prog LQ TE := T15.add 84 _ J0
def N14 : aA := ⟨T84.tab, 14, ⟨[.af (sI 4), .af (sI 4)], [], 0⟩, ⟨[.bool], [], 0⟩, []⟩
abbrev Db : Type := List Dat × List Dat × Int
def xq (m : Nat) (k : Db -> Option (List Un)) : Db -> Option (List Un) := fun (a0, a1, a2) =>
 bif (decide (a2 < (a0.length : Int))) then
 chk (inb a2 a0.length) <|
 chk (decide (a2.toNat < a0.length)) <|
 lt (ah a0 a2.toNat : Dat) fun d3 =>
 chk (inb a2 a1.length) <|
 chk (decide (a2.toNat < a1.length)) <|
 lt (ah a1 a2.toNat : Dat) fun d4 =>
 bif (!(((d3.i 0) == (d4.i 0)) && (((d3.i 1) == (d4.i 1)) && (((d3.i 2) == (d4.i 2)) && (((d3.i 3) == (d4.i 3)) && true))))) then
 some ([.b false])
 else
 k (a0, a1, (w64 (a2 + 1)))
 else
 some ([.b true])
def ve (m : Nat) : Nat -> Db -> Option (List Un) := bc (xq m)
theorem ue (m : Nat) (n : Nat) : ve m (n + 1) = xq m (ve m n) := rfl
def Fx (F : Db -> Option (List Un)) : aP := ⟨[.lp [0, 1, 0, 1, 1], .blk 0, .code [1, 1, 1]], ⟨frm 26 [(0, .af (sI 4)), (1, .af (sI 4)), (5, .int .i64)], [], 0⟩, onU F⟩
theorem NY (m : Nat) : ∀ n, HO N14 (Fx (ve m n)) := aw ai T84.right (fun k => [Fx k]) (fun k h => (aE h az)) fun k a => by kernel_rfl
def t14 (m : Nat) : List Dat × List Dat -> Option (List Un) := fun (a0, a1) =>
 bif ((a0.length : Int) != (a1.length : Int)) then
 some ([.b false])
 else
 ve m m (a0, a1, 0)
theorem Jq (m : Nat) : ∀ (rest rest' pre pre' : List Dat) (n : Nat), rest.length < n -> pre'.length = pre.length -> rest'.length = rest.length -> (pre ++ rest).length < 1099511627776 ->
 ve m n (pre ++ rest, pre' ++ rest', (pre.length : Int)) = some [.b (gu 4 rest rest')] := by
 intro rest
 induction rest with
 | nil =>
  intro rest' pre pre' n hn hp hr hl; obtain ⟨n, rfl⟩ := ak n (by simp at hn; omega); obtain rfl : rest' = [] := List.eq_nil_of_length_eq_zero (by simpa using hr); rw [ue]; unfold xq; dsimp only; simp [aB, gu]
 | cons x rest ih =>
  intro rest' pre pre' n hn hp hr hl; obtain ⟨n, rfl⟩ := ak n (by simp at hn; omega); obtain ⟨y, rest', rfl⟩ : ∃ y l, rest' = y :: l := by cases rest' with | nil => simp at hr | cons y l => exact ⟨y, l, rfl⟩
  simp only [List.length_cons, List.length_append] at hn hl hr; have := ih rest' (pre ++ [x]) (pre' ++ [y]) n (by omega) (by simp [hp]) (by omega) (by simp; omega); rw [ue]; unfold xq; dsimp only; simp only [gu, wv, ox, Nat.reduceAdd]; simp (disch := omega) only [TRa, TRi, aa, LNl, LNi, Int.cast_ofNat_Int, ao, oC _ _ _ _ hp]; simp only [LNl, LNi, Int.cast_ofNat_Int] at this ⊢
  (try simp only [bne, cond_not])
  cases (x.i 0 == y.i 0) <;> cases (x.i 1 == y.i 1) <;> cases (x.i 2 == y.i 2) <;> cases (x.i 3 == y.i 3)
  all_goals (first | exact this | rfl)
def f14 : List Dat × List Dat -> Bool × List Un := fun (a0, a1) => (decide (a0.length < 1099511627776), [.b (gu 4 a0 a1)])
theorem K1 (a0 : List Dat) (a1 : List Dat) (hc : (decide (a0.length < 1099511627776)) = true) : ∃ m, t14 m (a0, a1) = some ([.b (gu 4 a0 a1)]) := by
 have hs := of_decide_eq_true hc; refine ⟨a0.length + 1, ?_⟩; unfold t14; dsimp only
 by_cases h : a0.length = a1.length
 · rw [jP (by omega)]; exact Jq _ a0 a1 [] [] _ (by omega) rfl h.symm (by simpa using hs)
 · rw [jQ (by omega), pf _ _ _ h]
theorem Iy : ER 14 (mkE N14.en N14.ex f14) := an ai T84.right (fun m => [Fx (ve m m)]) (t := t14) (by kernel_rfl) (fun m => (aE (NY m m) az)) (fun m a => by kernel_rfl) fun (a0, a1) hc => K1 a0 a1 hc
def T14 : Tb Tryz.prog LQ TE := T84.add 14 _ Iy
def N27 : aA := ⟨T14.tab, 27, ⟨[.ints .i64, .ints .i64], [], 0⟩, ⟨[.bool], [], 0⟩, []⟩
abbrev Cv : Type := List Int × List Int × Int
def xh (m : Nat) (k : Cv -> Option (List Un)) : Cv -> Option (List Un) := fun (a0, a1, a2) =>
 bif (decide (a2 < (a0.length : Int))) then
 chk (inb a2 a0.length) <|
 chk (decide (a2.toNat < a0.length)) <|
 chk (inb a2 a1.length) <|
 chk (decide (a2.toNat < a1.length)) <|
 bif ((a0.getD a2.toNat 0) != (a1.getD a2.toNat 0)) then
 some ([.b false])
 else
 k (a0, a1, (w64 (a2 + 1)))
 else
 some ([.b true])
def wa (m : Nat) : Nat -> Cv -> Option (List Un) := bc (xh m)
theorem s9 (m : Nat) (n : Nat) : wa m (n + 1) = xh m (wa m n) := rfl
def GL (F : Cv -> Option (List Un)) : aP := ⟨[.lp [0, 1, 0, 1, 1], .blk 0, .code [1, 1, 1]], ⟨frm 26 [(0, .ints .i64), (1, .ints .i64), (5, .int .i64)], [], 0⟩, onU F⟩
theorem Pj (m : Nat) : ∀ n, HO N27 (GL (wa m n)) := aw ai T14.right (fun k => [GL k]) (fun k h => (aE h az)) fun k a => by kernel_rfl
def t27 (m : Nat) : List Int × List Int -> Option (List Un) := fun (a0, a1) =>
 bif ((a0.length : Int) != (a1.length : Int)) then
 some ([.b false])
 else
 wa m m (a0, a1, 0)
theorem I8 (m : Nat) : ∀ (rest rest' pre pre' : List Int) (n : Nat), rest.length < n -> pre'.length = pre.length -> rest'.length = rest.length -> (pre ++ rest).length < 1099511627776 ->
 wa m n (pre ++ rest, pre' ++ rest', (pre.length : Int)) = some [.b (qd rest rest')] := by
 intro rest
 induction rest with
 | nil =>
  intro rest' pre pre' n hn hp hr hl; obtain ⟨n, rfl⟩ := ak n (by simp at hn; omega); obtain rfl : rest' = [] := List.eq_nil_of_length_eq_zero (by simpa using hr); rw [s9]; unfold xh; dsimp only; simp [aB, qd]
 | cons x rest ih =>
  intro rest' pre pre' n hn hp hr hl; obtain ⟨n, rfl⟩ := ak n (by simp at hn; omega); obtain ⟨y, rest', rfl⟩ : ∃ y l, rest' = y :: l := by cases rest' with | nil => simp at hr | cons y l => exact ⟨y, l, rfl⟩
  simp only [List.length_cons, List.length_append] at hn hl hr; have := ih rest' (pre ++ [x]) (pre' ++ [y]) n (by omega) (by simp [hp]) (by omega) (by simp; omega); rw [s9]; unfold xh; dsimp only; simp only [qd, wv, ox, Nat.reduceAdd]; simp (disch := omega) only [TRa, TRi, aa, LNl, LNi, Int.cast_ofNat_Int, bV, vl _ _ _ _ _ hp]; simp only [LNl, LNi, Int.cast_ofNat_Int] at this ⊢
  (try simp only [bne, cond_not])
  cases (x == y)
  all_goals (first | exact this | rfl)
def f27 : List Int × List Int -> Bool × List Un := fun (a0, a1) => (decide (a0.length < 1099511627776), [.b (qd a0 a1)])
theorem KV (a0 : List Int) (a1 : List Int) (hc : (decide (a0.length < 1099511627776)) = true) : ∃ m, t27 m (a0, a1) = some ([.b (qd a0 a1)]) := by
 have hs := of_decide_eq_true hc; refine ⟨a0.length + 1, ?_⟩; unfold t27; dsimp only
 by_cases h : a0.length = a1.length
 · rw [jP (by omega)]; exact I8 _ a0 a1 [] [] _ (by omega) rfl h.symm (by simpa using hs)
 · rw [jQ (by omega), vH _ _ h]
theorem JY : ER 27 (mkE N27.en N27.ex f27) := an ai T14.right (fun m => [GL (wa m m)]) (t := t27) (by kernel_rfl) (fun m => (aE (Pj m m) az)) (fun m a => by kernel_rfl) fun (a0, a1) hc => KV a0 a1 hc
def T27 : Tb Tryz.prog LQ TE := T14.add 27 _ JY
end
end Go.Proofs.YtdbkoeefnodejaaGreat
namespace Go.Proofs.YtdbkoeefnodejaaGreat
noncomputable section
open Go Go.Proofs.YtdbkoeefnodejaaGreat.Ev
set_option maxRecDepth 20000
def N63 : aA := ⟨T27.tab, 63, ⟨[.bool], [], 0⟩, ⟨[.int .i64], [], 0⟩, []⟩
def t63 (m : Nat) : Bool -> Option (List Un) := fun a0 =>
 bif a0 then
 some ([.i 1])
 else
 some ([.i 0])
def f63 : Bool -> Bool × List Un := fun a0 => (true, [.i (bI a0)])
theorem Lv (a0 : Bool) : ∃ m, t63 m a0 = some ([.i (bI a0)]) := by
 refine ⟨0, ?_⟩; unfold t63; cases a0 <;> rfl
theorem Ib : ER 63 (mkE N63.en N63.ex f63) := an ai T27.right (fun m => []) (t := t63) (by kernel_rfl) (fun m => az) (fun m a => by kernel_rfl) fun a0 hc => Lv a0
def T63 : Tb Tryz.prog LQ TE := T27.add 63 _ Ib
def N64 : aA := ⟨T63.tab, 64, ⟨[.agg [.int .i64, .int .i64]], [], 0⟩, ⟨[.int .i64], [], 0⟩, []⟩
def t64 (m : Nat) : Int × Int -> Option (List Un) := fun (a0, a1) =>
 some ([.i a0])
def f64 : Int × Int -> Bool × List Un := fun (a0, a1) => (true, [.i (a0)])
theorem Ms (a0 : Int) (a1 : Int) : ∃ m, t64 m (a0, a1) = some ([.i (a0)]) := by
 exact ⟨0, rfl⟩
theorem Ka : ER 64 (mkE N64.en N64.ex f64) := an ai T63.right (fun m => []) (t := t64) (by kernel_rfl) (fun m => az) (fun m a => by kernel_rfl) fun (a0, a1) hc => Ms a0 a1
def T64 : Tb Tryz.prog LQ TE := T63.add 64 _ Ka
def N65 : aA := ⟨T64.tab, 65, ⟨[.agg [.int .i64, .int .i64]], [], 0⟩, ⟨[.int .i64], [], 0⟩, []⟩
def t65 (m : Nat) : Int × Int -> Option (List Un) := fun (a0, a1) =>
 some ([.i a1])
def f65 : Int × Int -> Bool × List Un := fun (a0, a1) => (true, [.i (a1)])
theorem KM (a0 : Int) (a1 : Int) : ∃ m, t65 m (a0, a1) = some ([.i (a1)]) := by
 exact ⟨0, rfl⟩
theorem IA : ER 65 (mkE N65.en N65.ex f65) := an ai T64.right (fun m => []) (t := t65) (by kernel_rfl) (fun m => az) (fun m a => by kernel_rfl) fun (a0, a1) hc => KM a0 a1
def T65 : Tb Tryz.prog LQ TE := T64.add 65 _ IA
def yJ (d : Dat) : List Int := [d.i 0, d.i 1, d.i 2, d.i 3, bI (d.b 4)]
def vN (d : Dat) : List Int := [w64 (d.i 3 - d.i 4), d.i 5, d.i 6]
def zf (n : aj) (bd notes : List Dat) : List Int := [n.period, n.mode, n.aV, n.out, n.fee, n.aK, n.aU, bI n.ml, n.rin, n.ba] ++ bd.flatMap yJ ++ notes.flatMap vN
def N26 : aA := ⟨T65.tab, 26, ⟨[.np 0 0 0], bo 0, 9⟩, ⟨[.buf 9 1], bo 0 ++ [.ints .i64], 9⟩, []⟩
abbrev Cx : Type := Int × Int × au × av × aj × List Dat × List Dat × List Dat × List Dat × List Dat × List Dat × List Dat × List Int
abbrev CL : Type := Int × Int × Int × au × av × aj × List Dat × List Dat × List Dat × List Dat × List Dat × List Dat × List Dat × List Int × List Dat
def xt (m : Nat) (k : Cx -> Option (List Un)) : Cx -> Option (List Un) := fun (a0, a1, a2, a3, a4, a5, a6, a7, a8, a9, a10, a11, a12) =>
 bif decide (a1 < a0) then
 chk (inb a1 a11.length) <|
 chk (decide (a1.toNat < a11.length)) <|
 lt (ah a11 a1.toNat : Dat) fun d4 =>
 chk (fits (a12.length + 3) 8) <|
 k (a0, (w64 (a1 + 1)), a2, a3, a4, a5, a6, a7, a8, a9, a10, a11, (a12 ++ ([(w64 ((d4.i 3) - (d4.i 4))), (d4.i 5), (d4.i 6)])))
 else
 some (Uns.enc (a2 : au) ++ Uns.enc (a3 : av) ++ Uns.enc (a4 : aj) ++ [.d a5, .d a6, .d a7, .d a8, .d a9, .d a10, .d a11, .l a12])
def wk (m : Nat) : Nat -> Cx -> Option (List Un) := bc (xt m)
theorem tL (m : Nat) (n : Nat) : wk m (n + 1) = xt m (wk m n) := rfl
def Ff (F : Cx -> Option (List Un)) : aP := ⟨[.lp [0, 1, 0, 1, 1, 1], .blk 2, .code [1, 1, 1, 1]], ⟨frm 102 [(3, .buf 9 1), (84, .buf 8 7), (85, .int .i64), (86, .int .i64)], bo 0 ++ [.ints .i64], 9⟩, onU F⟩
def xV (m : Nat) (k : CL -> Option (List Un)) : CL -> Option (List Un) := fun (a0, a1, a2, a3, a4, a5, a6, a7, a8, a9, a10, a11, a12, a13, a14) =>
 bif decide (a2 < a1) then
 chk (inb a2 a14.length) <|
 chk (decide (a2.toNat < a14.length)) <|
 lt (ah a14 a2.toNat : Dat) fun d2 =>
 chk (fits (a13.length + 5) 8) <|
 k (a0, a1, (w64 (a2 + 1)), a3, a4, a5, a6, a7, a8, a9, a10, a11, a12, (a13 ++ ([(d2.i 0), (d2.i 1), (d2.i 2), (d2.i 3), (bI (d2.b 4))])), a14)
 else
 chk (decide (0 <= a0)) <|
 wk m m ((a12.length : Int), 0, a3, a4, a5, a6, a7, a8, a9, a10, a11, a12, a13)
def vF (m : Nat) : Nat -> CL -> Option (List Un) := bc (xV m)
theorem tH (m : Nat) (n : Nat) : vF m (n + 1) = xV m (vF m n) := rfl
def FM (F : CL -> Option (List Un)) : aP := ⟨[.lp [0, 1, 0, 1, 1], .blk 0, .code [1, 1, 1]], ⟨frm 102 [(0, .np 0 0 0), (3, .buf 9 1), (58, .buf 10 5), (59, .int .i64), (60, .int .i64)], bo 0 ++ [.ints .i64, .af (sB 4)], 9⟩, onU F⟩
theorem OX (m : Nat) : ∀ n, HO N26 (Ff (wk m n)) := aw ai T65.right (fun k => [Ff k]) (fun k h => (aE h az)) fun k a => by kernel_rfl
theorem N2 (m : Nat) : ∀ n, HO N26 (FM (vF m n)) := aw ai T65.right (fun k => [FM k, Ff (wk m m)]) (fun k h => (aE h (aE (OX m m) az))) fun k a => by kernel_rfl
def t26 (m : Nat) : Int × au × av × aj × List Dat × List Dat × List Dat × List Dat × List Dat × List Dat × List Dat -> Option (List Un) := fun (a0, a1, a2, a3, a4, a5, a6, a7, a8, a9, a10) =>
 chk (decide (0 <= a0)) <|
 chk (decide (0 <= a0)) <|
 chk (decide (0 <= a0)) <|
 chk (decide (0 <= a0)) <|
 chk (decide (0 <= a0)) <|
 chk (decide (0 <= a0)) <|
 chk (decide (0 <= a0)) <|
 chk (decide (0 <= a0)) <|
 chk (decide (0 <= a0)) <|
 chk (decide (0 <= a0)) <|
 chk (decide (0 <= a0)) <|
 chk (decide (0 < ([.r [.r a9]] : List Dat).length) && decide (((ah ([.r [.r a9]] : List Dat) 0).d 0).length < 1000000)) <|
 lt (((ah ([.r [.r a9]] : List Dat) 0).d 0) : List Dat) fun l1 =>
 vF m m (a0, (l1.length : Int), 0, a1, a2, a3, a4, a5, a6, a7, a8, a9, a10, ([a3.period, a3.mode, a3.aV, a3.out, a3.fee, a3.aK, a3.aU, (bI a3.ml), a3.rin, a3.ba] : List Int), l1)
section
variable (m : Nat) (xa : au) (xb : av) (xn : aj) (x1 x2 x3 x4 x5 x6 : List Dat)
theorem LF : ∀ (rest pre : List Dat) (n : Nat) (acc : List Int), rest.length < n -> (pre ++ rest).length < 1000000 -> acc.length <= 6000000 + 3 * pre.length ->
 wk m n (((pre ++ rest).length : Int), (pre.length : Int), xa, xb, xn, x1, x2, x3, x4, x5, x6, pre ++ rest, acc) = some (Uns.enc xa ++ Uns.enc xb ++ Uns.enc xn ++ [.d x1, .d x2, .d x3, .d x4, .d x5, .d x6, .d (pre ++ rest), .l (acc ++ rest.flatMap vN)]) := by
 intro rest
 induction rest with
 | nil =>
  intro pre n acc hn hl ha; obtain ⟨n, rfl⟩ := ak n (by simp at hn; omega); rw [tL]; unfold xt; dsimp only; simp [aB]
 | cons x rest ih =>
  intro pre n acc hn hl ha; obtain ⟨n, rfl⟩ := ak n (by simp at hn; omega); simp only [List.length_cons, List.length_append] at hn hl; rw [tL]; unfold xt; dsimp only; have := ih (pre ++ [x]) n (acc ++ vN x) (by omega) (by simp; omega) (by simp [vN]; omega); simp only [List.flatMap_cons, vN] at this ⊢; simp (disch := omega) only [TRa, TRi, aa, LNl, LNi, Int.cast_ofNat_Int, ao]; simp only [LNl, LNi, Int.cast_ofNat_Int] at this ⊢; exact this
theorem Ny (p0 : Int) (hp : 0 <= p0) (notes : List Dat) (hnl : notes.length < 1000000) (hm : notes.length < m) : ∀ (rest pre : List Dat) (n : Nat) (acc : List Int), rest.length < n -> (pre ++ rest).length < 1000000 -> acc.length <= 10 + 5 * pre.length ->
 vF m n (p0, ((pre ++ rest).length : Int), (pre.length : Int), xa, xb, xn, x1, x2, x3, x4, x5, x6, notes, acc, pre ++ rest) = some (Uns.enc xa ++ Uns.enc xb ++ Uns.enc xn ++ [.d x1, .d x2, .d x3, .d x4, .d x5, .d x6, .d notes, .l (acc ++ rest.flatMap yJ ++ notes.flatMap vN)]) := by
 intro rest
 induction rest with
 | nil =>
  intro pre n acc hn hl ha; obtain ⟨n, rfl⟩ := ak n (by simp at hn; omega); simp only [List.append_nil] at hl; rw [tH]; unfold xV; dsimp only; simp only [List.append_nil, List.flatMap_nil]; rw [aB (by omega), aQ hp]; exact LF m xa xb xn x1 x2 x3 x4 x5 x6 notes [] m acc hm (by simpa using hnl) (by simp; omega)
 | cons x rest ih =>
  intro pre n acc hn hl ha; obtain ⟨n, rfl⟩ := ak n (by simp at hn; omega); simp only [List.length_cons, List.length_append] at hn hl; rw [tH]; unfold xV; dsimp only; have := ih (pre ++ [x]) n (acc ++ yJ x) (by omega) (by simp; omega) (by simp [yJ]; omega); simp only [List.flatMap_cons, yJ] at this ⊢; simp (disch := omega) only [TRa, TRi, aa, LNl, LNi, Int.cast_ofNat_Int, ao]; simp only [LNl, LNi, Int.cast_ofNat_Int] at this ⊢; exact this
end
def f26 : Int × au × av × aj × List Dat × List Dat × List Dat × List Dat × List Dat × List Dat × List Dat -> Bool × List Un := fun (a0, a1, a2, a3, a4, a5, a6, a7, a8, a9, a10) => (decide (0 <= a0) && decide (a9.length < 1000000 /\ a10.length < 1000000), Uns.enc ((a1) : au) ++ Uns.enc ((a2) : av) ++ Uns.enc ((a3) : aj) ++ [.d (a4), .d (a5), .d (a6), .d (a7), .d (a8), .d (a9), .d (a10), .l (zf a3 a9 a10)])
theorem MY (a0 : Int) (a1 : au) (a2 : av) (a3 : aj) (a4 : List Dat) (a5 : List Dat) (a6 : List Dat) (a7 : List Dat) (a8 : List Dat) (a9 : List Dat) (a10 : List Dat) (hc : (decide (0 <= a0) && decide (a9.length < 1000000 /\ a10.length < 1000000)) = true) : ∃ m, t26 m (a0, a1, a2, a3, a4, a5, a6, a7, a8, a9, a10) = some (Uns.enc ((a1) : au) ++ Uns.enc ((a2) : av) ++ Uns.enc ((a3) : aj) ++ [.d (a4), .d (a5), .d (a6), .d (a7), .d (a8), .d (a9), .d (a10), .l (zf a3 a9 a10)]) := by
 simp only [Bool.and_eq_true, decide_eq_true_eq] at hc; obtain ⟨h0, h1, h2⟩ := hc; refine ⟨a9.length + a10.length + 1, ?_⟩; unfold t26; dsimp only [lt, NT, List.length_cons, List.length_nil]; simp only [aQ h0]; refine (cz ?_ (Ny _ a1 a2 a3 a4 a5 a6 a7 a8 a9 a0 h0 a10 h2 (by omega) a9 [] _ _ (by omega) (by simpa using h1) (by simp))).trans ?_
 · rw [Bool.and_eq_true]; exact ⟨@decide_eq_true _ _ (by omega), @decide_eq_true _ _ h1⟩
 · rfl
theorem IX : ER 26 (mkE N26.en N26.ex f26) := an ai T65.right (fun m => [FM (vF m m)]) (t := t26) (by kernel_rfl) (fun m => (aE (N2 m m) az)) (fun m a => by kernel_rfl) fun (a0, a1, a2, a3, a4, a5, a6, a7, a8, a9, a10) hc => MY a0 a1 a2 a3 a4 a5 a6 a7 a8 a9 a10 hc
def T26 : Tb Tryz.prog LQ TE := T65.add 26 _ IX
end
end Go.Proofs.YtdbkoeefnodejaaGreat
namespace Go.Proofs.YtdbkoeefnodejaaGreat
noncomputable section
open Go Go.Proofs.YtdbkoeefnodejaaGreat.Ev
set_option maxRecDepth 20000
def mr (p q r s l : Int) : Bool := decide (0 <= p) && (decide (p <= 1099511627776) && (decide (0 <= q) && (decide (q <= 1099511627776) && (decide (0 <= r) && (decide (r <= 1099511627776) && (decide (0 <= s) && (decide (s <= 1099511627776) && (decide (0 <= l) && decide (l <= 12)))))))))
theorem Gh {α : Type} {x : Int} {a b : α} : (bif decide (x < 0) then a else b) = bif decide (0 <= x) then b else a := by
 by_cases h : x < 0
 · rw [decide_eq_true h, decide_eq_false (show ¬ 0 <= x by omega)]; rfl
 · rw [decide_eq_false h, decide_eq_true (show 0 <= x by omega)]; rfl
theorem Hi {α : Type} {x y : Int} {a b : α} : (bif decide (x > y) then a else b) = bif decide (x <= y) then b else a := by
 by_cases h : x > y
 · rw [decide_eq_true h, decide_eq_false (show ¬ x <= y by omega)]; rfl
 · rw [decide_eq_false h, decide_eq_true (show x <= y by omega)]; rfl
theorem I9 {c y : Bool} : (bif c then some [Un.b y] else some [Un.b false]) = some [.b (c && y)] := by cases c <;> rfl
def OS : aA := ⟨T26.tab, 129, ⟨[.agg [.int .i64, .int .i64, .int .i64, .int .i64, .int .i64, .int .i64, .bool]], [], 0⟩, ⟨[.bool], [], 0⟩, [[0, 1, 0, 1]]⟩
def t129 (m : Nat) : Int × Int × Int × Int × Int × Int × Bool -> Option (List Un) := fun (a0, a1, a2, a3, a4, a5, a6) =>
 lt ((([a1, a2, a3, a4]).getD 0 0) : Int) fun x1 =>
 bif decide (x1 < 0) then
 some ([.b false])
 else
 bif (decide (x1 > 1099511627776)) then
 some ([.b false])
 else
 lt ((([a1, a2, a3, a4]).getD 1 0) : Int) fun x3 =>
 bif decide (x3 < 0) then
 some ([.b false])
 else
 bif (decide (x3 > 1099511627776)) then
 some ([.b false])
 else
 lt ((([a1, a2, a3, a4]).getD 2 0) : Int) fun x5 =>
 bif decide (x5 < 0) then
 some ([.b false])
 else
 bif (decide (x5 > 1099511627776)) then
 some ([.b false])
 else
 lt ((([a1, a2, a3, a4]).getD 3 0) : Int) fun x7 =>
 bif decide (x7 < 0) then
 some ([.b false])
 else
 bif (decide (x7 > 1099511627776)) then
 some ([.b false])
 else
 bif decide (a5 >= 0) then
 some ([.b (decide (a5 <= 12))])
 else
 some ([.b false])
def f129 : Int × Int × Int × Int × Int × Int × Bool -> Bool × List Un := fun (a0, a1, a2, a3, a4, a5, a6) => (true, [.b (mr a1 a2 a3 a4 a5)])
theorem JE (a0 : Int) (a1 : Int) (a2 : Int) (a3 : Int) (a4 : Int) (a5 : Int) (a6 : Bool) : ∃ m, t129 m (a0, a1, a2, a3, a4, a5, a6) = some ([.b (mr a1 a2 a3 a4 a5)]) := by
 refine ⟨0, ?_⟩; unfold t129 mr; simp only [lt_eq, List.getD_cons_zero, List.getD_cons_succ, Gh, Hi]; simp only [ge_iff_le, I9]
theorem Gd : ER 129 (mkE OS.en OS.ex f129) := an ai T26.right (fun m => []) (t := t129) (by kernel_rfl) (fun m => az) (fun m a => by kernel_rfl) fun (a0, a1, a2, a3, a4, a5, a6) hc => JE a0 a1 a2 a3 a4 a5 a6
def HW : Tb Tryz.prog LQ TE := T26.add 129 _ Gd
def um : Int -> List Dat -> Bool
 | _, [] => true
 | last, d :: l => if d.i 0 <= last then false else if mr (d.i 1) (d.i 2) (d.i 3) (d.i 4) (d.i 5) then um (d.i 0) l else false
def pQ (l : List Dat) : Bool := decide (l.length <= 64) && um 0 l
def N93 : aA := ⟨HW.tab, 93, ⟨[.af (sB 6)], [], 0⟩, ⟨[.bool], [], 0⟩, []⟩
abbrev Cb : Type := Int × List Dat × Int × Int
def yA (m : Nat) (k : Cb -> Option (List Un)) : Cb -> Option (List Un) := fun (a0, a1, a2, a3) =>
 bif decide (a3 < a2) then
 chk (inb a3 a1.length) <|
 chk (decide (a3.toNat < a1.length)) <|
 lt (ah a1 a3.toNat : Dat) fun d2 =>
 bif decide ((d2.i 0) <= a0) then
 some ([.b false])
 else
 bif !(mr (d2.i 1) (d2.i 2) (d2.i 3) (d2.i 4) (d2.i 5)) then
 some ([.b false])
 else
 k ((d2.i 0), a1, a2, (w64 (a3 + 1)))
 else
 some ([.b true])
def wx (m : Nat) : Nat -> Cb -> Option (List Un) := bc (yA m)
theorem sM (m : Nat) (n : Nat) : wx m (n + 1) = yA m (wx m n) := rfl
def GQ (F : Cb -> Option (List Un)) : aP := ⟨[.lp [0, 1, 0, 1, 1, 1], .blk 0, .code [1, 1, 1, 1]], ⟨frm 27 [(3, .int .i64), (9, .af (sB 6)), (10, .int .i64), (11, .int .i64)], [], 0⟩, onU F⟩
theorem N5 (m : Nat) : ∀ n, HO N93 (GQ (wx m n)) := aw ai HW.right (fun k => [GQ k]) (fun k h => (aE h az)) fun k a => by kernel_rfl
def t93 (m : Nat) : List Dat -> Option (List Un) := fun a0 =>
 bif (decide ((a0.length : Int) > 64)) then
 some ([.b false])
 else
 wx m m (0, a0, (a0.length : Int), 0)
theorem O3 (m : Nat) : ∀ (rest pre : List Dat) (n : Nat) (last : Int), rest.length < n -> (pre ++ rest).length <= 64 ->
 wx m n (last, pre ++ rest, ((pre ++ rest).length : Int), (pre.length : Int)) = some [.b (um last rest)] := by
 intro rest
 induction rest with
 | nil =>
  intro pre n last hn hl; obtain ⟨n, rfl⟩ := ak n (by simp at hn; omega); rw [sM]; unfold yA; dsimp only; simp [aB, um]
 | cons x rest ih =>
  intro pre n last hn hl; obtain ⟨n, rfl⟩ := ak n (by simp at hn; omega); simp only [List.length_cons, List.length_append] at hn hl; have := ih (pre ++ [x]) n (x.i 0) (by omega) (by simp; omega); rw [sM]; unfold yA; dsimp only; simp only [LNl, LNi, Int.cast_ofNat_Int] at this ⊢; unfold um
  by_cases h1 : x.i 0 <= last
  · simp (disch := omega) only [TRa, TRi, aa, LNl, LNi, Int.cast_ofNat_Int, ao]; rw [if_pos h1]
  · rw [if_neg h1]
    by_cases h2 : mr (x.i 1) (x.i 2) (x.i 3) (x.i 4) (x.i 5) = true
    · rw [if_pos h2]; simp (disch := omega) only [TRa, TRi, aa, LNl, LNi, Int.cast_ofNat_Int, ao, h2]; exact this
    · rw [if_neg h2]; have h2 : mr (x.i 1) (x.i 2) (x.i 3) (x.i 4) (x.i 5) = false := by simpa using h2
      simp (disch := omega) only [TRa, TRi, aa, LNl, LNi, Int.cast_ofNat_Int, ao, h2]
def f93 : List Dat -> Bool × List Un := fun a0 => (true, [.b (pQ a0)])
theorem MQ (a0 : List Dat) : ∃ m, t93 m a0 = some ([.b (pQ a0)]) := by
 unfold pQ
 by_cases h : a0.length <= 64
 · refine ⟨a0.length + 1, ?_⟩; have := O3 (a0.length + 1) a0 [] (a0.length + 1) 0 (by omega) (by simpa using h); unfold t93; rw [aB (by omega), decide_eq_true h, Bool.true_and]; exact this
 · refine ⟨0, ?_⟩; unfold t93; rw [bT (by omega), decide_eq_false h]; rfl
theorem JJ : ER 93 (mkE N93.en N93.ex f93) := an ai HW.right (fun m => [GQ (wx m m)]) (t := t93) (by kernel_rfl) (fun m => (aE (N5 m m) az)) (fun m a => by kernel_rfl) fun a0 hc => MQ a0
def T93 : Tb Tryz.prog LQ TE := HW.add 93 _ JJ
def Bn (bal lost : Int) (ml : Bool) (pr pp it rc lt : Int) (df : Bool) : Bool :=
 bif ml then (pr == 0) && ((pp == 0) && ((it == 0) && ((lt == 0) && (!df && decide (rc <= lost)))))
 else bif decide (w64 (w64 (bal - pr) - pp) < 0) then false
 else bif df then (bif decide (rc <= w64 (lost + w64 (w64 (bal - pr) - pp))) then true else rc == 0) else rc == 0
theorem Dn {c x y : Bool} : (bif c then some [Un.b x] else some [Un.b y]) = some [.b (bif c then x else y)] := by cases c <;> rfl
def N95 : aA := ⟨T93.tab, 95, ⟨[.agg [.int .i64, .int .i64, .int .i64, .int .i64, .bool], .agg [.int .i64, .int .i64, .int .i64, .int .i64, .int .i64, .int .i64, .bool]], [], 0⟩, ⟨[.bool], [], 0⟩, []⟩
def t95 (m : Nat) : Int × Int × Int × Int × Bool × Int × Int × Int × Int × Int × Int × Bool -> Option (List Un) := fun (a0, a1, a2, a3, a4, a5, a6, a7, a8, a9, a10, a11) =>
 bif a4 then
 bif a6 == 0 then
 bif a7 == 0 then
 bif a8 == 0 then
 bif a10 == 0 then
 bif !a11 then
 some ([.b (decide (a9 <= a2))])
 else
 some ([.b false])
 else
 some ([.b false])
 else
 some ([.b false])
 else
 some ([.b false])
 else
 some ([.b false])
 else
 lt ((w64 ((w64 (a1 - a6)) - a7)) : Int) fun x1 =>
 bif decide (x1 < 0) then
 some ([.b false])
 else
 bif a11 then
 bif (decide (a9 <= (w64 (a2 + x1)))) then
 some ([.b true])
 else
 some ([.b (a9 == 0)])
 else
 some ([.b (a9 == 0)])
def f95 : Int × Int × Int × Int × Bool × Int × Int × Int × Int × Int × Int × Bool -> Bool × List Un := fun (a0, a1, a2, a3, a4, a5, a6, a7, a8, a9, a10, a11) => (true, [.b (Bn a1 a2 a4 a6 a7 a8 a9 a10 a11)])
theorem MN (a0 : Int) (a1 : Int) (a2 : Int) (a3 : Int) (a4 : Bool) (a5 : Int) (a6 : Int) (a7 : Int) (a8 : Int) (a9 : Int) (a10 : Int) (a11 : Bool) : ∃ m, t95 m (a0, a1, a2, a3, a4, a5, a6, a7, a8, a9, a10, a11) = some ([.b (Bn a1 a2 a4 a6 a7 a8 a9 a10 a11)]) := by
 refine ⟨0, ?_⟩; unfold t95 Bn; simp only [lt_eq, Dn]; cases a4 <;> simp only [cond_true, cond_false]
 cases (a6 == 0) <;> cases (a7 == 0) <;> cases (a8 == 0) <;> cases (a10 == 0) <;> cases a11 <;> rfl
theorem Jz : ER 95 (mkE N95.en N95.ex f95) := an ai T93.right (fun m => []) (t := t95) (by kernel_rfl) (fun m => az) (fun m a => by kernel_rfl) fun (a0, a1, a2, a3, a4, a5, a6, a7, a8, a9, a10, a11) hc => MN a0 a1 a2 a3 a4 a5 a6 a7 a8 a9 a10 a11
def T95 : Tb Tryz.prog LQ TE := T93.add 95 _ Jz
def sf (bal pr pp : Int) (df : Bool) : Int := bif df then 0 else w64 (bal - w64 (pr + pp))
def ga (bal pr pp : Int) (df : Bool) : Int := bif df then w64 (bal - w64 (pr + pp)) else 0
def mQ (bal lost pr pp rc : Int) (df : Bool) : Int := bif df then w64 (w64 (lost + w64 (bal - w64 (pr + pp))) - rc) else w64 (lost - rc)
def mL (bal : Int) (ml : Bool) (pr pp lt : Int) (df : Bool) : Int := bif df then 0 else bif ml then 0 else bif w64 (bal - w64 (pr + pp)) == 0 then 0 else lt
def N96 : aA := ⟨T95.tab, 96, ⟨[.agg [.int .i64, .int .i64, .int .i64, .int .i64, .bool], .agg [.int .i64, .int .i64, .int .i64, .int .i64, .int .i64, .int .i64, .bool]], [], 0⟩, ⟨[.agg [.int .i64, .int .i64, .int .i64, .int .i64, .bool], .agg [.int .i64, .int .i64, .int .i64, .int .i64]], [], 0⟩, []⟩
def t96 (m : Nat) : Int × Int × Int × Int × Bool × Int × Int × Int × Int × Int × Int × Bool -> Option (List Un) := fun (a0, a1, a2, a3, a4, a5, a6, a7, a8, a9, a10, a11) =>
 lt ((w64 (a1 - (w64 (a6 + a7)))) : Int) fun x1 =>
 bif a11 then
 some ([.i a0, .i 0, .i (w64 ((w64 (a2 + x1)) - a9)), .i 0, .b true, .i (w64 (a6 + a7)), .i a8, .i x1, .i a9])
 else
 bif a4 then
 some ([.i a0, .i x1, .i (w64 (a2 - a9)), .i 0, .b a4, .i (w64 (a6 + a7)), .i a8, .i 0, .i a9])
 else
 bif x1 == 0 then
 some ([.i a0, .i x1, .i (w64 (a2 - a9)), .i 0, .b a4, .i (w64 (a6 + a7)), .i a8, .i 0, .i a9])
 else
 some ([.i a0, .i x1, .i (w64 (a2 - a9)), .i a10, .b a4, .i (w64 (a6 + a7)), .i a8, .i 0, .i a9])
def f96 : Int × Int × Int × Int × Bool × Int × Int × Int × Int × Int × Int × Bool -> Bool × List Un := fun (a0, a1, a2, a3, a4, a5, a6, a7, a8, a9, a10, a11) => (true, [.i (a0), .i (sf a1 a6 a7 a11), .i (mQ a1 a2 a6 a7 a9 a11), .i (mL a1 a4 a6 a7 a10 a11), .b ((a11 || a4)), .i (w64 (a6 + a7)), .i (a8), .i (ga a1 a6 a7 a11), .i (a9)])
theorem LK (a0 : Int) (a1 : Int) (a2 : Int) (a3 : Int) (a4 : Bool) (a5 : Int) (a6 : Int) (a7 : Int) (a8 : Int) (a9 : Int) (a10 : Int) (a11 : Bool) : ∃ m, t96 m (a0, a1, a2, a3, a4, a5, a6, a7, a8, a9, a10, a11) = some ([.i (a0), .i (sf a1 a6 a7 a11), .i (mQ a1 a2 a6 a7 a9 a11), .i (mL a1 a4 a6 a7 a10 a11), .b ((a11 || a4)), .i (w64 (a6 + a7)), .i (a8), .i (ga a1 a6 a7 a11), .i (a9)]) := by
 refine ⟨0, ?_⟩; unfold t96 sf mQ mL ga; simp only [lt_eq]; cases a11 <;> cases a4 <;> simp only [cond_true, cond_false, Bool.or_true, Bool.or_false] <;> first | rfl | (cases (w64 (a1 - w64 (a6 + a7)) == 0) <;> rfl)
theorem Kl : ER 96 (mkE N96.en N96.ex f96) := an ai T95.right (fun m => []) (t := t96) (by kernel_rfl) (fun m => az) (fun m a => by kernel_rfl) fun (a0, a1, a2, a3, a4, a5, a6, a7, a8, a9, a10, a11) hc => LK a0 a1 a2 a3 a4 a5 a6 a7 a8 a9 a10 a11
def T96 : Tb Tryz.prog LQ TE := T95.add 96 _ Kl
def eW (id : Int) : Int -> List Dat -> Int
 | _, [] => -1
 | i, d :: l => if d.i 0 = id then i else eW id (i + 1) l
def K2 : aA := ⟨T96.tab, 130, ⟨[.af (sB 4), .fn 131 [] [.ptr 0 0 0]], [.cells [.int .i64]], 1⟩, ⟨[.int .i64], [.cells [.int .i64]], 1⟩, []⟩
abbrev xo : Type := List Dat × Int × Int × Int
def rn (m : Nat) (k : xo -> Option (List Un)) : xo -> Option (List Un) := fun (a0, a1, a2, a3) =>
 bif decide (a2 < a1) then
 chk (inb a2 a0.length) <|
 chk (decide (a2.toNat < a0.length)) <|
 bif ((ah a0 a2.toNat).i 0) == a3 then
 some ([.i a2, .i a3])
 else
 k (a0, a1, (w64 (a2 + 1)), a3)
 else
 some ([.i (-1), .i a3])
def o5 (m : Nat) : Nat -> xo -> Option (List Un) := bc (rn m)
theorem qb (m : Nat) (n : Nat) : o5 m (n + 1) = rn m (o5 m n) := rfl
def By (F : xo -> Option (List Un)) : aP := ⟨[.lp [0, 1, 0, 1], .blk 0, .code [1, 1]], ⟨frm 19 [(0, .af (sB 4)), (1, .fn 131 [] [.ptr 0 0 0]), (7, .int .i64), (8, .int .i64)], [.cells [.int .i64]], 1⟩, onU F⟩
theorem KS (m : Nat) : ∀ n, HO K2 (By (o5 m n)) := aw ai T96.right (fun k => [By k]) (fun k h => (aE h az)) fun k a => by kernel_rfl
def t130 (m : Nat) : List Dat × Int -> Option (List Un) := fun (a0, a1) =>
 o5 m m (a0, (a0.length : Int), 0, a1)
theorem Pw (m : Nat) (id : Int) : ∀ (rest pre : List Dat) (n : Nat), rest.length < n -> (pre ++ rest).length < 1000000 ->
 o5 m n (pre ++ rest, ((pre ++ rest).length : Int), (pre.length : Int), id) = some [.i (eW id pre.length rest), .i id] := by
 intro rest
 induction rest with
 | nil =>
  intro pre n hn hl; obtain ⟨n, rfl⟩ := ak n (by simp at hn; omega); rw [qb]; unfold rn; dsimp only; simp [aB, eW]
 | cons x rest ih =>
  intro pre n hn hl; obtain ⟨n, rfl⟩ := ak n (by simp at hn; omega); simp only [List.length_cons, List.length_append] at hn hl; have := ih (pre ++ [x]) n (by omega) (by simp; omega); rw [qb]; unfold rn; dsimp only; simp only [LNl, LNi, Int.cast_ofNat_Int] at this ⊢; unfold eW
  by_cases h1 : x.i 0 = id
  · simp (disch := omega) only [TRa, TRi, aa, LNl, LNi, Int.cast_ofNat_Int, ao]; rw [if_pos h1]
  · rw [if_neg h1]; simp (disch := omega) only [TRa, TRi, aa, LNl, LNi, Int.cast_ofNat_Int, ao]; exact this
def f130 : List Dat × Int -> Bool × List Un := fun (a0, a1) => (decide (a0.length < 1000000), [.i (eW a1 0 a0), .i (a1)])
theorem Ij (a0 : List Dat) (a1 : Int) (hc : (decide (a0.length < 1000000)) = true) : ∃ m, t130 m (a0, a1) = some ([.i (eW a1 0 a0), .i (a1)]) := by
 have h := of_decide_eq_true hc; exact ⟨a0.length + 1, Pw _ a1 a0 [] _ (by omega) (by simpa using h)⟩
theorem FI : ER 130 (mkE K2.en K2.ex f130) := an ai T96.right (fun m => [By (o5 m m)]) (t := t130) (by kernel_rfl) (fun m => (aE (KS m m) az)) (fun m a => by kernel_rfl) fun (a0, a1) hc => Ij a0 a1 hc
def J7 : Tb Tryz.prog LQ TE := T96.add 130 _ FI
def lE (x d : Dat) : Dat := .r [.n (x.i 0), .n (sf (x.i 1) (d.i 1) (d.i 2) (d.b 6)), .n (mQ (x.i 1) (x.i 2) (d.i 1) (d.i 2) (d.i 4) (d.b 6)), .n (mL (x.i 1) (x.b 4) (d.i 1) (d.i 2) (d.i 5) (d.b 6)), .n (bI (d.b 6 || x.b 4))]
structure FL where
 p : Int
 q : Int
 l : Int
 r : Int
 e : Int
 bd : List Dat
def DH (x d : Dat) : Bool := Bn (x.i 1) (x.i 2) (x.b 4) (d.i 1) (d.i 2) (d.i 3) (d.i 4) (d.i 5) (d.b 6)
def iX : List Dat -> Int -> Int -> Int -> Int -> List Dat -> Option FL
 | l, p, q, s, r, [] => some ⟨p, q, s, r, 0, l⟩
 | l, p, q, s, r, d :: t => if eW (d.i 0) 0 l < 0 then none else
  if DH (ah l (eW (d.i 0) 0 l).toNat) d = true then
   iX (l.set (eW (d.i 0) 0 l).toNat (lE (ah l (eW (d.i 0) 0 l).toNat) d)) (w64 (p + w64 (d.i 1 + d.i 2))) (w64 (q + d.i 3)) (w64 (s + ga ((ah l (eW (d.i 0) 0 l).toNat).i 1) (d.i 1) (d.i 2) (d.b 6))) (w64 (r + d.i 4)) t
  else none
def ay (lines l : List Dat) : FL := if pQ lines = true then (iX l 0 0 0 0 lines).getD ⟨0, 0, 0, 0, 3, l⟩ else ⟨0, 0, 0, 0, 3, l⟩
theorem yo (id : Int) : ∀ (l : List Dat) (i : Int), eW id i l = -1 \/ (i <= eW id i l /\ eW id i l < i + l.length)
 | [], i => .inl rfl
 | d :: l, i => by
  unfold eW
  by_cases h : d.i 0 = id
  · rw [if_pos h]; exact .inr ⟨by omega, by simp; omega⟩
  · rw [if_neg h]; rcases yo id l (i + 1) with h | ⟨h1, h2⟩
    · exact .inl h
    · refine .inr ⟨by omega, ?_⟩; simp only [List.length_cons]; omega
def N42 : aA := ⟨J7.tab, 42, ⟨[.ptr 0 0 0, .af (sB 6)], [.cells [.buf 1 5], .af (sB 4)], 0⟩, ⟨[.agg [.int .i64, .int .i64, .int .i64, .int .i64], .int .i64], [.cells [.buf 2 5], .gone, .af (sB 4)], 0⟩, []⟩
abbrev Cw : Type := List Dat × Int × Int × Int × Int × Int × Int × Int × Int × Int × Int × List Dat × List Dat
def yE (m : Nat) (k : Cw -> Option (List Un)) : Cw -> Option (List Un) := fun (a0, a1, a2, a3, a4, a5, a6, a7, a8, a9, a10, a11, a12) =>
 bif decide (a2 < a1) then
 chk (inb a2 a0.length) <|
 chk (decide (a2.toNat < a0.length)) <|
 lt (ah a0 a2.toNat : Dat) fun d1 =>
 chk (decide (a12.length < 1000000)) <|
 bif (decide ((eW (d1.i 0) 0 a12) < 0)) then
 some ([.i 0, .i 0, .i 0, .i 0, .i 3, .d a11])
 else
 chk (inb (eW (d1.i 0) 0 a12) a12.length) <|
 chk (decide ((eW (d1.i 0) 0 a12).toNat < a12.length)) <|
 lt (ah a12 ((eW (d1.i 0) 0 a12).toNat) : Dat) fun d3 =>
 bif !(Bn (d3.i 1) (d3.i 2) (d3.b 4) (d1.i 1) (d1.i 2) (d1.i 3) (d1.i 4) (d1.i 5) (d1.b 6)) then
 some ([.i 0, .i 0, .i 0, .i 0, .i 3, .d a11])
 else
 chk (inb (eW (d1.i 0) 0 a12) a12.length) <|
 chk (decide ((eW (d1.i 0) 0 a12).toNat < a12.length)) <|
 lt (ah a12 ((eW (d1.i 0) 0 a12).toNat) : Dat) fun d5 =>
 chk (inb (eW (d1.i 0) 0 a12) a12.length) <|
 chk (decide ((eW (d1.i 0) 0 a12).toNat < a12.length)) <|
 k (a0, a1, (w64 (a2 + 1)), a3, a4, a5, a6, (w64 (a7 + (w64 ((d1.i 1) + (d1.i 2))))), (w64 (a8 + (d1.i 3))), (w64 (a9 + (ga (d5.i 1) (d1.i 1) (d1.i 2) (d1.b 6)))), (w64 (a10 + (d1.i 4))), a11, (List.set a12 ((eW (d1.i 0) 0 a12).toNat) (.r [.n (d5.i 0), .n (sf (d5.i 1) (d1.i 1) (d1.i 2) (d1.b 6)), .n (mQ (d5.i 1) (d5.i 2) (d1.i 1) (d1.i 2) (d1.i 4) (d1.b 6)), .n (mL (d5.i 1) (d5.b 4) (d1.i 1) (d1.i 2) (d1.i 5) (d1.b 6)), .n (bI ((d1.b 6) || (d5.b 4)))])))
 else
 some ([.i a7, .i a8, .i a9, .i a10, .i 0, .d a12])
def uV (m : Nat) : Nat -> Cw -> Option (List Un) := bc (yE m)
theorem sq (m : Nat) (n : Nat) : uV m (n + 1) = yE m (uV m n) := rfl
def Gn (F : Cw -> Option (List Un)) : aP := ⟨[.lp [0, 1, 0, 1, 1, 1, 1], .blk 0, .code [1, 1, 1, 1, 1]], ⟨frm 89 [(0, .ptr 0 0 0), (4, .ptr 2 0 0), (6, .ptr 3 0 0), (7, .ptr 4 0 0), (18, .af (sB 6)), (19, .int .i64), (20, .int .i64)], [.cells [.buf 5 5], .gone, .cells [.int .i64, .int .i64, .int .i64, .int .i64], .cells [.buf 6 5], .cells [.int .i64, .int .i64, .int .i64, .int .i64], .af (sB 4), .af (sB 4)], 0⟩, onU F⟩
theorem Of (m : Nat) : ∀ n, HO N42 (Gn (uV m n)) := aw ai J7.right (fun k => [Gn k]) (fun k h => (aE h az)) fun k a => by kernel_rfl
def t42 (m : Nat) : List Dat × List Dat -> Option (List Un) := fun (a0, a1) =>
 bif !(pQ a0) then
 some ([.i 0, .i 0, .i 0, .i 0, .i 3, .d a1])
 else
 chk (decide (a1.length < 1000000)) <|
 uV m m (a0, (a0.length : Int), 0, 0, 0, 0, 0, 0, 0, 0, 0, a1, a1)
def F4 (l0 : List Dat) (o : Option FL) : List Un := match o with | some x => [.i x.p, .i x.q, .i x.l, .i x.r, .i x.e, .d x.bd] | none => [.i 0, .i 0, .i 0, .i 0, .i 3, .d l0]
theorem Mw (m : Nat) (l0 : List Dat) : ∀ (rest pre : List Dat) (n : Nat) (p q s r : Int) (l : List Dat), rest.length < n -> (pre ++ rest).length <= 64 -> l.length < 1000000 ->
 uV m n (pre ++ rest, ((pre ++ rest).length : Int), (pre.length : Int), 0, 0, 0, 0, p, q, s, r, l0, l) = some (F4 l0 (iX l p q s r rest)) := by
 intro rest
 induction rest with
 | nil =>
  intro pre n p q s r l hn hl hll; obtain ⟨n, rfl⟩ := ak n (by simp at hn; omega); rw [sq]; unfold yE; dsimp only; simp [aB, iX, F4]
 | cons x rest ih =>
  intro pre n p q s r l hn hl hll; obtain ⟨n, rfl⟩ := ak n (by simp at hn; omega); simp only [List.length_cons, List.length_append] at hn hl; rw [sq]; unfold yE; dsimp only; simp (disch := omega) only [TRa, TRi, aa, LNl, LNi, Int.cast_ofNat_Int, ao]; unfold iX; rcases yo (x.i 0) l 0 with h1 | ⟨h1, h2⟩
  · rw [bT (by omega), if_pos (by omega)]; rfl
  · rw [aB (by omega), if_neg (by omega)]; simp (disch := omega) only [TRa, TRi, aa, LNl, LNi, Int.cast_ofNat_Int, ao]
    by_cases h3 : DH (ah l (eW (x.i 0) 0 l).toNat) x = true
    · rw [if_pos h3]; have h4 := h3; unfold DH at h4; rw [h4]; have := ih (pre ++ [x]) n (w64 (p + w64 (x.i 1 + x.i 2))) (w64 (q + x.i 3)) (w64 (s + ga ((ah l (eW (x.i 0) 0 l).toNat).i 1) (x.i 1) (x.i 2) (x.b 6))) (w64 (r + x.i 4)) (l.set (eW (x.i 0) 0 l).toNat (lE (ah l (eW (x.i 0) 0 l).toNat) x)) (by omega) (by simp; omega) (by simpa using hll)
      try simp (disch := omega) only [TRa, TRi, aa, LNl, LNi, Int.cast_ofNat_Int, ao]
      simp only [LNl, LNi, Int.cast_ofNat_Int] at this ⊢; exact this
    · rw [if_neg h3]; have h4 := h3; unfold DH at h4; rw [show Bn _ _ _ _ _ _ _ _ _ = false from Bool.eq_false_iff.2 h4]; rfl
def f42 : List Dat × List Dat -> Bool × List Un := fun (a0, a1) => (decide (a1.length < 1000000), [.i ((ay a0 a1).p), .i ((ay a0 a1).q), .i ((ay a0 a1).l), .i ((ay a0 a1).r), .i ((ay a0 a1).e), .d ((ay a0 a1).bd)])
theorem LD (a0 : List Dat) (a1 : List Dat) (hc : (decide (a1.length < 1000000)) = true) : ∃ m, t42 m (a0, a1) = some ([.i ((ay a0 a1).p), .i ((ay a0 a1).q), .i ((ay a0 a1).l), .i ((ay a0 a1).r), .i ((ay a0 a1).e), .d ((ay a0 a1).bd)]) := by
 have h := of_decide_eq_true hc; unfold ay; cases ht : pQ a0 with
 | false =>
  refine ⟨0, ?_⟩; unfold t42; dsimp only; rw [ht]; rfl
 | true =>
  have hl : a0.length <= 64 := by
   simp only [pQ, Bool.and_eq_true, decide_eq_true_eq] at ht; exact ht.1
  refine ⟨a0.length + 1, ?_⟩; have := Mw (a0.length + 1) a1 a0 [] (a0.length + 1) 0 0 0 0 a1 (by omega) (by simpa using hl) h; unfold t42; dsimp only; rw [ht]; simp only [Bool.not_true, cond_false, if_true]; rw [aQ h]; refine this.trans ?_
  cases iX a1 0 0 0 0 a0 <;> rfl
theorem II : ER 42 (mkE N42.en N42.ex f42) := an ai J7.right (fun m => [Gn (uV m m)]) (t := t42) (by kernel_rfl) (fun m => (aE (Of m m) az)) (fun m a => by kernel_rfl) fun (a0, a1) hc => LD a0 a1 hc
def T42 : Tb Tryz.prog LQ TE := J7.add 42 _ II
def Ew (p q r s t u : List Int) (i : Int) (x : Dat) : Dat :=
 let y := within (bF p i) 0 (x.i 1 / 4)
 let z := if within (bF q i) 0 (2 * (x.i 1 - y)) > x.i 1 - y then 0 else within (bF q i) 0 (2 * (x.i 1 - y))
 let w := within (bF t i) 0 24
 .r [.n (x.i 0), .n y, .n z, .n (within (bF r i) 0 (1 + x.i 1 / 50)), .n (if w64 ((BitVec.ofInt 64 (bF u i) &&& BitVec.ofInt 64 7).toNat) = 7 then within (bF s i) 0 (x.i 1 - y - z) else 0), .n (if 0 < w - 12 then w - 12 else 0), .n (bI (decide (w64 ((BitVec.ofInt 64 (bF u i) &&& BitVec.ofInt 64 7).toNat) = 7)))]
def FB (s lost : List Int) (i : Int) (x : Dat) : Dat :=
 .r [.n (x.i 0), .n 0, .n 0, .n 0, .n (if i < (lost.length : Int) /\ 0 < lost.getD i.toNat 0 then within (bF s i) 0 (lost.getD i.toNat 0) else 0), .n 0, .n (bI false)]
def ofL (p q r s t u lost : List Int) : Int -> List Dat -> List Dat
 | _, [] => []
 | i, x :: l => (if w64 ((BitVec.ofInt 64 (bF t i) &&& BitVec.ofInt 64 15).toNat) = 15 then [] else if 0 < x.i 1 then [Ew p q r s t u i x] else [FB s lost i x]) ++ ofL p q r s t u lost (i + 1) l
def N58 : aA := ⟨T42.tab, 58, ⟨[.agg [.ints .i64, .ints .i64, .ints .i64, .ints .i64, .ints .i64, .ints .i64], .af (sI 2), .ints .i64], [], 0⟩, ⟨[.buf 0 7], [.af (sB 6)], 0⟩, []⟩
abbrev Cu : Type := List Int × List Dat × Int × Int × List Int × List Int × List Int × List Int × List Int × List Int × List Dat
def xk (m : Nat) (k : Cu -> Option (List Un)) : Cu -> Option (List Un) := fun (a0, a1, a2, a3, a4, a5, a6, a7, a8, a9, a10) =>
 bif decide (a3 < a2) then
 chk (inb a3 a1.length) <|
 chk (decide (a3.toNat < a1.length)) <|
 lt (ah a1 a3.toNat : Dat) fun d1 =>
 chk (decide (0 <= a3)) <|
 bif (w64 ((BitVec.ofInt 64 (bF a8 a3) &&& BitVec.ofInt 64 15).toNat)) == 15 then
 k (a0, a1, a2, (w64 (a3 + 1)), a4, a5, a6, a7, a8, a9, a10)
 else
 bif decide ((d1.i 1) > 0) then
 chk (decide (0 <= a3)) <|
 bif decide (-2305843009213693952 <= 0 /\ 0 <= (w64 ((d1.i 1).tdiv 4)) /\ (w64 ((d1.i 1).tdiv 4)) <= 2305843009213693952) then
 lt ((within (bF a4 a3) 0 (w64 ((d1.i 1).tdiv 4))) : Int) fun x3 =>
 chk (decide (0 <= a3)) <|
 lt ((w64 (2 * (w64 ((d1.i 1) - x3)))) : Int) fun x4 =>
 bif decide (-2305843009213693952 <= 0 /\ 0 <= x4 /\ x4 <= 2305843009213693952) then
 lt ((within (bF a5 a3) 0 x4) : Int) fun x5 =>
 bif (decide (x5 > (w64 ((d1.i 1) - x3)))) then
 chk (decide (0 <= a3)) <|
 lt ((w64 ((d1.i 1).tdiv 50)) : Int) fun x7 =>
 bif decide (-2305843009213693952 <= 0 /\ 0 <= (w64 (1 + x7)) /\ (w64 (1 + x7)) <= 2305843009213693952) then
 lt ((within (bF a6 a3) 0 (w64 (1 + x7))) : Int) fun x8 =>
 chk (decide (0 <= a3)) <|
 lt ((within (bF a8 a3) 0 24) : Int) fun x9 =>
 lt ((if 0 < (w64 (x9 - 12)) then (w64 (x9 - 12)) else 0) : Int) fun x10 =>
 chk (decide (0 <= a3)) <|
 bif (w64 ((BitVec.ofInt 64 (bF a9 a3) &&& BitVec.ofInt 64 7).toNat)) == 7 then
 chk (decide (0 <= a3)) <|
 lt ((w64 ((w64 ((d1.i 1) - x3)) - 0)) : Int) fun x12 =>
 bif decide (-2305843009213693952 <= 0 /\ 0 <= x12 /\ x12 <= 2305843009213693952) then
 chk (fits (a10.length + 1) 56) <|
 k (a0, a1, a2, (w64 (a3 + 1)), a4, a5, a6, a7, a8, a9, (a10 ++ ([.r [.n (d1.i 0), .n x3, .n 0, .n x8, .n (within (bF a7 a3) 0 x12), .n x10, .n (bI true)]])))
 else
 none
 else
 chk (fits (a10.length + 1) 56) <|
 k (a0, a1, a2, (w64 (a3 + 1)), a4, a5, a6, a7, a8, a9, (a10 ++ ([.r [.n (d1.i 0), .n x3, .n 0, .n x8, .n 0, .n x10, .n (bI false)]])))
 else
 none
 else
 chk (decide (0 <= a3)) <|
 lt ((w64 ((d1.i 1).tdiv 50)) : Int) fun x16 =>
 bif decide (-2305843009213693952 <= 0 /\ 0 <= (w64 (1 + x16)) /\ (w64 (1 + x16)) <= 2305843009213693952) then
 lt ((within (bF a6 a3) 0 (w64 (1 + x16))) : Int) fun x17 =>
 chk (decide (0 <= a3)) <|
 lt ((within (bF a8 a3) 0 24) : Int) fun x18 =>
 lt ((if 0 < (w64 (x18 - 12)) then (w64 (x18 - 12)) else 0) : Int) fun x19 =>
 chk (decide (0 <= a3)) <|
 bif (w64 ((BitVec.ofInt 64 (bF a9 a3) &&& BitVec.ofInt 64 7).toNat)) == 7 then
 chk (decide (0 <= a3)) <|
 lt ((w64 ((w64 ((d1.i 1) - x3)) - x5)) : Int) fun x21 =>
 bif decide (-2305843009213693952 <= 0 /\ 0 <= x21 /\ x21 <= 2305843009213693952) then
 chk (fits (a10.length + 1) 56) <|
 k (a0, a1, a2, (w64 (a3 + 1)), a4, a5, a6, a7, a8, a9, (a10 ++ ([.r [.n (d1.i 0), .n x3, .n x5, .n x17, .n (within (bF a7 a3) 0 x21), .n x19, .n (bI true)]])))
 else
 none
 else
 chk (fits (a10.length + 1) 56) <|
 k (a0, a1, a2, (w64 (a3 + 1)), a4, a5, a6, a7, a8, a9, (a10 ++ ([.r [.n (d1.i 0), .n x3, .n x5, .n x17, .n 0, .n x19, .n (bI false)]])))
 else
 none
 else
 none
 else
 none
 else
 bif (decide (a3 < (a0.length : Int))) then
 chk (inb a3 a0.length) <|
 chk (decide (a3.toNat < a0.length)) <|
 bif (decide ((a0.getD a3.toNat 0) > 0)) then
 chk (decide (0 <= a3)) <|
 chk (inb a3 a0.length) <|
 chk (decide (a3.toNat < a0.length)) <|
 bif decide (-2305843009213693952 <= 0 /\ 0 <= (a0.getD a3.toNat 0) /\ (a0.getD a3.toNat 0) <= 2305843009213693952) then
 chk (fits (a10.length + 1) 56) <|
 k (a0, a1, a2, (w64 (a3 + 1)), a4, a5, a6, a7, a8, a9, (a10 ++ ([.r [.n (d1.i 0), .n 0, .n 0, .n 0, .n (within (bF a7 a3) 0 (a0.getD a3.toNat 0)), .n 0, .n (bI false)]])))
 else
 none
 else
 chk (fits (a10.length + 1) 56) <|
 k (a0, a1, a2, (w64 (a3 + 1)), a4, a5, a6, a7, a8, a9, (a10 ++ ([.r [.n (d1.i 0), .n 0, .n 0, .n 0, .n 0, .n 0, .n (bI false)]])))
 else
 chk (fits (a10.length + 1) 56) <|
 k (a0, a1, a2, (w64 (a3 + 1)), a4, a5, a6, a7, a8, a9, (a10 ++ ([.r [.n (d1.i 0), .n 0, .n 0, .n 0, .n 0, .n 0, .n (bI false)]])))
 else
 some ([.d a10])
def tU (m : Nat) : Nat -> Cu -> Option (List Un) := bc (xk m)
theorem sA (m : Nat) (n : Nat) : tU m (n + 1) = xk m (tU m n) := rfl
def GR (F : Cu -> Option (List Un)) : aP := ⟨[.lp [0, 1, 0, 1, 1], .blk 0, .code [1, 1, 1]], ⟨frm 126 [(2, .ints .i64), (3, .ptr 0 0 0), (7, .buf 1 7), (11, .af (sI 2)), (12, .int .i64), (13, .int .i64)], [.cells [.ints .i64, .ints .i64, .ints .i64, .ints .i64, .ints .i64, .ints .i64], .af (sB 6)], 0⟩, onU F⟩
theorem OR (m : Nat) : ∀ n, HO N58 (GR (tU m n)) := aw ai T42.right (fun k => [GR k]) (fun k h => (aE h az)) fun k a => by kernel_rfl
def t58 (m : Nat) : List Int × List Int × List Int × List Int × List Int × List Int × List Dat × List Int -> Option (List Un) := fun (a0, a1, a2, a3, a4, a5, a6, a7) =>
 tU m m (a7, a6, (a6.length : Int), 0, a0, a1, a2, a3, a4, a5, [])
set_option maxHeartbeats 4000000 in
theorem PW (m : Nat) (p q r s t u lost : List Int) (hlost : ∀ y ∈ lost, y <= 2305843009213693952) : ∀ (rest pre acc : List Dat) (n : Nat), rest.length < n -> (pre ++ rest).length < 1000000 -> acc.length <= pre.length -> (∀ d ∈ rest, d.i 1 <= 1152921504606846976) ->
 tU m n (lost, pre ++ rest, ((pre ++ rest).length : Int), (pre.length : Int), p, q, r, s, t, u, acc) = some [.d (acc ++ ofL p q r s t u lost pre.length rest)] := by
 intro rest
 induction rest with
 | nil =>
  intro pre acc n hn hl ha hb; obtain ⟨n, rfl⟩ := ak n (by simp at hn; omega); rw [sA]; unfold xk; dsimp only; simp [aB, ofL]
 | cons x rest ih =>
  intro pre acc n hn hl ha hb; obtain ⟨n, rfl⟩ := ak n (by simp at hn; omega); simp only [List.length_cons, List.length_append] at hn hl; have hx := hb x (by simp); have K : ∀ out : List Dat, out.length <= acc.length + 1 -> tU m n (lost, pre ++ x :: rest, (pre.length : Int) + ((rest.length : Int) + 1), (pre.length : Int) + 1, p, q, r, s, t, u, out) = some [.d (out ++ ofL p q r s t u lost ((pre.length : Int) + 1) rest)] := by
   intro out ho; have := ih (pre ++ [x]) out n (by omega) (by simp; omega) (by simp; omega) (fun d hd => hb d (by simp [hd])); simp only [LNl, LNi, Int.cast_ofNat_Int] at this ⊢; exact this
  rw [sA]; unfold xk; dsimp only; unfold ofL; generalize hi : (pre.length : Int) = i at K ⊢; have hi0 : 0 <= i /\ i < 1000000 := by omega
  by_cases h15 : w64 ((BitVec.ofInt 64 (bF t i) &&& BitVec.ofInt 64 15).toNat) = 15
  · rw [if_pos h15]; subst hi; simp (disch := omega) only [TRa, TRi, aa, LNl, LNi, Int.cast_ofNat_Int, ao]; rw [K _ (by omega)]
  · rw [if_neg h15]
    by_cases hx0 : 0 < x.i 1
    · rw [if_pos hx0]; have e4 : (x.i 1).tdiv 4 = x.i 1 / 4 := Int.tdiv_eq_ediv_of_nonneg (by omega); have e50 : (x.i 1).tdiv 50 = x.i 1 / 50 := Int.tdiv_eq_ediv_of_nonneg (by omega); have k1 : 0 <= within (bF p i) 0 (x.i 1 / 4) /\ within (bF p i) 0 (x.i 1 / 4) <= x.i 1 / 4 := ju (by omega); have k2 : 0 <= within (bF t i) 0 24 /\ within (bF t i) 0 24 <= 24 := ju (by omega); unfold Ew; dsimp only; subst hi; have k3 : 0 <= within (bF q (pre.length : Int)) 0 (2 * (x.i 1 - within (bF p (pre.length : Int)) 0 (x.i 1 / 4))) := (ju (by omega)).1
      by_cases hq : within (bF q (pre.length : Int)) 0 (2 * (x.i 1 - within (bF p (pre.length : Int)) 0 (x.i 1 / 4))) > x.i 1 - within (bF p (pre.length : Int)) 0 (x.i 1 / 4) <;>
       by_cases h7 : w64 ((BitVec.ofInt 64 (bF u (pre.length : Int)) &&& BitVec.ofInt 64 7).toNat) = 7
      · rw [if_pos hq, if_pos h7, decide_eq_true h7]; simp (disch := omega) only [TRa, TRi, aa, LNl, LNi, Int.cast_ofNat_Int, ao, e4, e50]; rw [K _ (by simp)]; simp
      · rw [if_pos hq, if_neg h7, decide_eq_false h7]; simp (disch := omega) only [TRa, TRi, aa, LNl, LNi, Int.cast_ofNat_Int, ao, e4, e50]; rw [K _ (by simp)]; simp
      · rw [if_neg hq, if_pos h7, decide_eq_true h7]; simp (disch := omega) only [TRa, TRi, aa, LNl, LNi, Int.cast_ofNat_Int, ao, e4, e50]; rw [K _ (by simp)]; simp
      · rw [if_neg hq, if_neg h7, decide_eq_false h7]; simp (disch := omega) only [TRa, TRi, aa, LNl, LNi, Int.cast_ofNat_Int, ao, e4, e50]; rw [K _ (by simp)]; simp
    · rw [if_neg hx0]; unfold FB; subst hi
      by_cases hlt : (pre.length : Int) < (lost.length : Int)
      · by_cases hp : 0 < lost.getD pre.length 0
        · have hle : lost.getD pre.length 0 <= 2305843009213693952 := by
           rw [List.getD_eq_getElem?_getD, List.getElem?_eq_getElem (by omega)]; exact hlost _ (List.getElem_mem _)
          rw [if_pos ⟨hlt, by simpa using hp⟩]; simp (disch := omega) only [TRa, TRi, aa, LNl, LNi, Int.cast_ofNat_Int, ao]; rw [K _ (by simp)]; simp
        · rw [if_neg (fun h => hp (by simpa using h.2))]; simp (disch := omega) only [TRa, TRi, aa, LNl, LNi, Int.cast_ofNat_Int, ao]; rw [K _ (by simp)]; simp
      · rw [if_neg (fun h => hlt h.1)]; simp (disch := omega) only [TRa, TRi, aa, LNl, LNi, Int.cast_ofNat_Int, ao]; rw [K _ (by simp)]; simp
def f58 : List Int × List Int × List Int × List Int × List Int × List Int × List Dat × List Int -> Bool × List Un := fun (a0, a1, a2, a3, a4, a5, a6, a7) => (decide (a6.length < 1000000) && (a6.all (fun d => decide (d.i 1 <= 1152921504606846976)) && a7.all fun y => decide (y <= 2305843009213693952)), [.d (ofL a0 a1 a2 a3 a4 a5 a7 0 a6)])
theorem LB (a0 : List Int) (a1 : List Int) (a2 : List Int) (a3 : List Int) (a4 : List Int) (a5 : List Int) (a6 : List Dat) (a7 : List Int) (hc : (decide (a6.length < 1000000) && (a6.all (fun d => decide (d.i 1 <= 1152921504606846976)) && a7.all fun y => decide (y <= 2305843009213693952))) = true) : ∃ m, t58 m (a0, a1, a2, a3, a4, a5, a6, a7) = some ([.d (ofL a0 a1 a2 a3 a4 a5 a7 0 a6)]) := by
 simp only [Bool.and_eq_true, decide_eq_true_eq, List.all_eq_true] at hc; exact ⟨a6.length + 1, PW _ _ _ _ _ _ _ _ (fun y hy => hc.2.2 y hy) a6 [] [] _ (by omega) (by simpa using hc.1) (by simp) (fun d hd => hc.2.1 d hd)⟩
theorem IY : ER 58 (mkE N58.en N58.ex f58) := an ai T42.right (fun m => [GR (tU m m)]) (t := t58) (by kernel_rfl) (fun m => (aE (OR m m) az)) (fun m a => by kernel_rfl) fun (a0, a1, a2, a3, a4, a5, a6, a7) hc => LB a0 a1 a2 a3 a4 a5 a6 a7 hc
def T58 : Tb Tryz.prog LQ TE := T42.add 58 _ IY
def N25 : aA := ⟨T58.tab, 25, ⟨[.np 0 0 0], bo 0, 9⟩, ⟨[.ptr 9 0 0], bo 0 ++ bo 9, 9⟩, []⟩
def t25 (m : Nat) : Int × au × av × aj × List Dat × List Dat × List Dat × List Dat × List Dat × List Dat × List Dat -> Option (List Un) := fun (a0, a1, a2, a3, a4, a5, a6, a7, a8, a9, a10) =>
 chk (decide (0 <= a0)) <|
 chk (decide (0 <= a0)) <|
 chk (decide ((⟨a1, a4, a5, a2, a6, a7, a8⟩ : bg).aR.length < 1000000 /\ (⟨a1, a4, a5, a2, a6, a7, a8⟩ : bg).notes.length < 1000000 /\ (⟨a1, a4, a5, a2, a6, a7, a8⟩ : bg).s0.length < 1000000 /\ (⟨a1, a4, a5, a2, a6, a7, a8⟩ : bg).s1.length < 1000000 /\ (⟨a1, a4, a5, a2, a6, a7, a8⟩ : bg).s2.length < 1000000)) <|
 chk (decide (0 <= a0)) <|
 chk (decide (a9.length < 1000000)) <|
 chk (decide (0 <= a0)) <|
 chk (decide (a10.length < 1000000)) <|
 some (Uns.enc (a1 : au) ++ Uns.enc (a2 : av) ++ Uns.enc (a3 : aj) ++ [.d a4, .d a5, .d a6, .d a7, .d a8, .d a9, .d a10] ++ Uns.enc (((⟨a1, a4, a5, a2, a6, a7, a8⟩ : bg).a) : au) ++ Uns.enc (((⟨a1, a4, a5, a2, a6, a7, a8⟩ : bg).b) : av) ++ Uns.enc (a3 : aj) ++ [.d ((⟨a1, a4, a5, a2, a6, a7, a8⟩ : bg).aR), .d ((⟨a1, a4, a5, a2, a6, a7, a8⟩ : bg).notes), .d ((⟨a1, a4, a5, a2, a6, a7, a8⟩ : bg).s0), .d ((⟨a1, a4, a5, a2, a6, a7, a8⟩ : bg).s1), .d ((⟨a1, a4, a5, a2, a6, a7, a8⟩ : bg).s2), .d a9, .d a10])
def f25 : Int × au × av × aj × List Dat × List Dat × List Dat × List Dat × List Dat × List Dat × List Dat -> Bool × List Un := fun (a0, a1, a2, a3, a4, a5, a6, a7, a8, a9, a10) => (decide (0 <= a0) && decide (a4.length < 1000000 /\ a5.length < 1000000 /\ a6.length < 1000000 /\ a7.length < 1000000 /\ a8.length < 1000000 /\ a9.length < 1000000 /\ a10.length < 1000000), Uns.enc ((a1) : au) ++ Uns.enc ((a2) : av) ++ Uns.enc ((a3) : aj) ++ [.d (a4), .d (a5), .d (a6), .d (a7), .d (a8), .d (a9), .d (a10)] ++ Uns.enc ((a1) : au) ++ Uns.enc ((a2) : av) ++ Uns.enc ((a3) : aj) ++ [.d (a4), .d (a5), .d (a6), .d (a7), .d (a8), .d (a9), .d (a10)])
theorem MK (a0 : Int) (a1 : au) (a2 : av) (a3 : aj) (a4 : List Dat) (a5 : List Dat) (a6 : List Dat) (a7 : List Dat) (a8 : List Dat) (a9 : List Dat) (a10 : List Dat) (hc : (decide (0 <= a0) && decide (a4.length < 1000000 /\ a5.length < 1000000 /\ a6.length < 1000000 /\ a7.length < 1000000 /\ a8.length < 1000000 /\ a9.length < 1000000 /\ a10.length < 1000000)) = true) : ∃ m, t25 m (a0, a1, a2, a3, a4, a5, a6, a7, a8, a9, a10) = some (Uns.enc ((a1) : au) ++ Uns.enc ((a2) : av) ++ Uns.enc ((a3) : aj) ++ [.d (a4), .d (a5), .d (a6), .d (a7), .d (a8), .d (a9), .d (a10)] ++ Uns.enc ((a1) : au) ++ Uns.enc ((a2) : av) ++ Uns.enc ((a3) : aj) ++ [.d (a4), .d (a5), .d (a6), .d (a7), .d (a8), .d (a9), .d (a10)]) := by
 simp only [Bool.and_eq_true, decide_eq_true_eq] at hc; obtain ⟨h0, h1, h2, h3, h4, h5, h6, h7⟩ := hc; refine ⟨0, ?_⟩; unfold t25; dsimp only; simp (disch := omega) only [lt_eq, aQ, gS]
theorem HB : ER 25 (mkE N25.en N25.ex f25) := an ai T58.right (fun m => []) (t := t25) (by kernel_rfl) (fun m => az) (fun m a => by kernel_rfl) fun (a0, a1, a2, a3, a4, a5, a6, a7, a8, a9, a10) hc => MK a0 a1 a2 a3 a4 a5 a6 a7 a8 a9 a10 hc
def T25 : Tb Tryz.prog LQ TE := T58.add 25 _ HB
def N92 : aA := ⟨T25.tab, 92, ⟨[.np 0 0 20, .int .i64], bo 0, 0⟩, ⟨[.bool], bo 0, 0⟩, []⟩
def t92 (m : Nat) : Int × Int × au × av × aj × List Dat × List Dat × List Dat × List Dat × List Dat × List Dat × List Dat -> Option (List Un) := fun (a0, a1, a2, a3, a4, a5, a6, a7, a8, a9, a10, a11) =>
 chk (decide (0 <= a0)) <|
 lt ((([a4.rin, a1]).getD 0 0) : Int) fun x1 =>
 bif decide (x1 < 0) then
 some ([.b false] ++ Uns.enc (a2 : au) ++ Uns.enc (a3 : av) ++ Uns.enc (a4 : aj) ++ [.d a5, .d a6, .d a7, .d a8, .d a9, .d a10, .d a11])
 else
 bif (decide (x1 > 1152921504606846976)) then
 some ([.b false] ++ Uns.enc (a2 : au) ++ Uns.enc (a3 : av) ++ Uns.enc (a4 : aj) ++ [.d a5, .d a6, .d a7, .d a8, .d a9, .d a10, .d a11])
 else
 lt ((([a4.rin, a1]).getD 1 0) : Int) fun x3 =>
 bif decide (x3 < 0) then
 some ([.b false] ++ Uns.enc (a2 : au) ++ Uns.enc (a3 : av) ++ Uns.enc (a4 : aj) ++ [.d a5, .d a6, .d a7, .d a8, .d a9, .d a10, .d a11])
 else
 bif decide (x3 > (w64 (1152921504606846976 - (w64 (0 + x1))))) then
 some ([.b false] ++ Uns.enc (a2 : au) ++ Uns.enc (a3 : av) ++ Uns.enc (a4 : aj) ++ [.d a5, .d a6, .d a7, .d a8, .d a9, .d a10, .d a11])
 else
 chk (decide (0 <= a0)) <|
 some ([.b true] ++ Uns.enc (a2 : au) ++ Uns.enc (a3 : av) ++ Uns.enc (({ a4 with rin := (w64 ((w64 (0 + x1)) + x3)) } : aj) : aj) ++ [.d a5, .d a6, .d a7, .d a8, .d a9, .d a10, .d a11])
def f92 : Int × Int × au × av × aj × List Dat × List Dat × List Dat × List Dat × List Dat × List Dat × List Dat -> Bool × List Un := fun (a0, a1, a2, a3, a4, a5, a6, a7, a8, a9, a10, a11) => (decide (0 <= a0) && decide ((0 : Int) <= a4.rin /\ (0 : Int) <= a1 /\ a4.rin + a1 <= (1152921504606846976 : Int)), [.b (true)] ++ Uns.enc ((a2) : au) ++ Uns.enc ((a3) : av) ++ Uns.enc (({ a4 with rin := a4.rin + a1 }) : aj) ++ [.d (a5), .d (a6), .d (a7), .d (a8), .d (a9), .d (a10), .d (a11)])
theorem M0 (a0 : Int) (a1 : Int) (a2 : au) (a3 : av) (a4 : aj) (a5 : List Dat) (a6 : List Dat) (a7 : List Dat) (a8 : List Dat) (a9 : List Dat) (a10 : List Dat) (a11 : List Dat) (hc : (decide (0 <= a0) && decide ((0 : Int) <= a4.rin /\ (0 : Int) <= a1 /\ a4.rin + a1 <= (1152921504606846976 : Int))) = true) : ∃ m, t92 m (a0, a1, a2, a3, a4, a5, a6, a7, a8, a9, a10, a11) = some ([.b (true)] ++ Uns.enc ((a2) : au) ++ Uns.enc ((a3) : av) ++ Uns.enc (({ a4 with rin := a4.rin + a1 }) : aj) ++ [.d (a5), .d (a6), .d (a7), .d (a8), .d (a9), .d (a10), .d (a11)]) := by
 simp only [Bool.and_eq_true, decide_eq_true_eq] at hc; obtain ⟨h0, h1, h2, h3⟩ := hc; refine ⟨0, ?_⟩; unfold t92; dsimp only; simp only [lt_eq, List.getD_cons_zero, List.getD_cons_succ]; simp (disch := omega) only [TRa, TRi, aa, Int.zero_add]
theorem Ii : ER 92 (mkE N92.en N92.ex f92) := an ai T25.right (fun m => []) (t := t92) (by kernel_rfl) (fun m => az) (fun m a => by kernel_rfl) fun (a0, a1, a2, a3, a4, a5, a6, a7, a8, a9, a10, a11) hc => M0 a0 a1 a2 a3 a4 a5 a6 a7 a8 a9 a10 a11 hc
def T92 : Tb Tryz.prog LQ TE := T25.add 92 _ Ii
end
end Go.Proofs.YtdbkoeefnodejaaGreat
namespace Go.Proofs.YtdbkoeefnodejaaGreat
noncomputable section
open Go Go.Proofs.YtdbkoeefnodejaaGreat.Ev
set_option maxRecDepth 20000
def nP : List Int -> Int -> Int × Bool
 | [], s => (s, true)
 | x :: l, s => bif (decide (x < 0) || decide (x > 1152921504606846976 - s)) then (0, false) else nP l (s + x)
def gn (l : List Int) : Int := (nP l 0).1
def jr (l : List Int) : Bool := (nP l 0).2
def oL (l : List Int) : Bool := l.all fun x => decide (0 <= x /\ x <= 1152921504606846976)
theorem C5 : ∀ (l : List Int) (s b : Int), 0 <= s -> 0 <= b -> (∀ x ∈ l, 0 <= x /\ x <= b) -> s + l.length * b <= 1152921504606846976 -> nP l s = (s + l.sum, true)
 | [], s, b, _, _, _, _ => by simp [nP]
 | x :: l, s, b, h1, h2, h3, h4 => by
  have hx := h3 x (by simp); have hm : 0 <= (l.length : Int) * b := Int.mul_nonneg (by omega) h2; have e : ((x :: l).length : Int) * b = l.length * b + b := by rw [List.length_cons, Int.natCast_add, Int.add_mul]; simp
  rw [e] at h4; have := C5 l (s + x) b (by omega) h2 (fun y hy => h3 y (by simp [hy])) (by omega); simp only [nP]; rw [show (decide (x < 0) || decide (x > 1152921504606846976 - s)) = false by simp; omega, cond_false, this, List.sum_cons]
  congr 1
  omega
theorem o9 : ∀ (l : List Int) (b : Int), 0 <= b -> (∀ x ∈ l, 0 <= x /\ x <= b) -> 0 <= l.sum /\ l.sum <= l.length * b
 | [], b, _, _ => by simp
 | x :: l, b, h2, h3 => by
  have hx := h3 x (by simp); have e : ((x :: l).length : Int) * b = l.length * b + b := by rw [List.length_cons, Int.natCast_add, Int.add_mul]; simp
  have := o9 l b h2 (fun y hy => h3 y (by simp [hy])); rw [e, List.sum_cons]; omega
theorem rG {l : List Int} {b : Int} (h2 : 0 <= b) (h3 : ∀ x ∈ l, 0 <= x /\ x <= b) (h4 : l.length * b <= 1152921504606846976) : gn l = l.sum /\ jr l = true := by
 have := C5 l 0 b (by omega) h2 h3 (by omega); unfold gn jr; rw [this]; simp
def br (n s : Int) (l : List Int) : List Int := l.map fun c => n * c / s
def gP (n s : Int) (l : List Int) : List Int := l.map fun c => n * c % s
theorem rT {l : List Int} : oL l = true ↔ ∀ x ∈ l, 0 <= x /\ x <= 1152921504606846976 := by simp [oL]
def iR (l : List Int) : List Int -> Nat -> Nat -> Nat
 | [], _, b => b
 | x :: r, i, b => iR l r (i + 1) (bif decide (x > l.getD b 0) then i else b)
def cV (l : List Int) : Nat := iR l l 0 0
def fP (z : Int) : Nat -> List Int -> List Int -> List Int
 | 0, o, _ => o
 | k + 1, o, l => fP z k (o.set (cV l) (o.getD (cV l) 0 + 1)) (l.set (cV l) z)
def cf (n : Int) (l : List Int) : List Int :=
 bif !(jr l) then List.replicate l.length 0 else
 bif decide (max n 0 >= gn l) then l else
 fP 0 (max n 0 - (br (max n 0) (gn l) l).sum).toNat (br (max n 0) (gn l) l) (gP (max n 0) (gn l) l)
theorem zj (l : List Int) : ∀ (r : List Int) (i b : Nat), b < l.length -> i + r.length <= l.length -> iR l r i b < l.length
 | [], _, b, h, _ => h
 | x :: r, i, b, h, h2 => by
  simp only [List.length_cons] at h2; unfold iR; refine zj l r (i + 1) _ ?_ (by omega); cases decide (x > l.getD b 0)
  · exact h
  · show i < l.length; omega
theorem jj {l : List Int} (h : l ≠ []) : cV l < l.length := zj l l 0 0 (List.length_pos_iff.2 h) (by simp)
theorem zG : ∀ (l : List Int) (s : Int), 0 <= s -> s <= 1152921504606846976 -> (nP l s).2 = true -> (∀ x ∈ l, 0 <= x /\ x <= 1152921504606846976) /\ (nP l s).1 = s + l.sum /\ s + l.sum <= 1152921504606846976
 | [], s, h1, h2, _ => by simp [nP, h2]
 | x :: l, s, h1, h2, h3 => by
  simp only [nP] at h3 ⊢
  by_cases hx : x < 0 \/ x > 1152921504606846976 - s
  · rw [show (decide (x < 0) || decide (x > 1152921504606846976 - s)) = true by simpa using hx] at h3; cases h3
  · rw [show (decide (x < 0) || decide (x > 1152921504606846976 - s)) = false by simp; omega] at h3 ⊢; simp only [cond_false] at h3 ⊢; obtain ⟨a, b, c⟩ := zG l (s + x) (by omega) (by omega) h3; refine ⟨fun y hy => ?_, by rw [b, List.sum_cons]; omega, by rw [List.sum_cons]; omega⟩; rcases List.mem_cons.1 hy with rfl | hy
    · omega
    · exact a y hy
theorem jl {l : List Int} (h : jr l = true) : (∀ x ∈ l, 0 <= x /\ x <= 1152921504606846976) /\ gn l = l.sum /\ l.sum <= 1152921504606846976 := by
 obtain ⟨a, b, c⟩ := zG l 0 (by omega) (by omega) h; exact ⟨a, by unfold gn; omega, by omega⟩
theorem dw : ∀ (l : List Int), (∀ x ∈ l, 0 <= x) -> 0 <= l.sum
 | [], _ => by simp
 | x :: l, h => by
  have := h x (by simp); have := dw l (fun y hy => h y (by simp [hy])); rw [List.sum_cons]; omega
theorem tS {f g : Int -> Int} : ∀ (l : List Int), (∀ x ∈ l, f x <= g x) -> (l.map f).sum <= (l.map g).sum
 | [], _ => by simp
 | x :: l, h => by
  have := h x (by simp); have := tS l (fun y hy => h y (by simp [hy])); simp only [List.map_cons, List.sum_cons]; omega
theorem wT {n s : Int} {l : List Int} (h1 : 0 <= n) (h2 : n < s) (hb : ∀ x ∈ l, 0 <= x /\ x <= 1152921504606846976) : (∀ y ∈ br n s l, 0 <= y /\ y <= 1152921504606846976) /\ 0 <= (br n s l).sum /\ (br n s l).sum <= l.sum := by
 have e : ∀ x ∈ l, 0 <= n * x / s /\ n * x / s <= x := fun x hx => by
  have hx := hb x hx; refine ⟨Int.ediv_nonneg (Int.mul_nonneg h1 hx.1) (by omega), ?_⟩; have : n * x <= s * x := Int.mul_le_mul_of_nonneg_right (by omega) hx.1; exact Int.ediv_le_of_le_mul (by omega) (by rw [Int.mul_comm x s]; exact this)
 have a : ∀ y ∈ br n s l, 0 <= y /\ y <= 1152921504606846976 := by
  intro y hy; obtain ⟨x, hx, rfl⟩ := List.mem_map.1 hy; have := e x hx; have := hb x hx; omega
 refine ⟨a, dw _ (fun y hy => (a y hy).1), ?_⟩; have := tS (f := fun c => n * c / s) (g := id) l (fun x hx => (e x hx).2); simpa [br] using this
theorem iu {l : List Int} {i : Nat} (h : i < l.length) : l.getD i 0 ∈ l := by
 rw [List.getD_eq_getElem?_getD, List.getElem?_eq_getElem h]; exact List.getElem_mem h
theorem vP (z : Int) : ∀ (k : Nat) (o l : List Int), (fP z k o l).length = o.length
 | 0, _, _ => rfl
 | k + 1, o, l => by simp [fP, vP z k]
theorem sU (n : Int) (l : List Int) : (cf n l).length = l.length := by
 unfold cf; cases jr l
 · simp
 · cases decide (max n 0 >= gn l)
   · simp [vP, br]
   · simp
theorem qV : ∀ (l : List Int) (b : Nat) (v : Int), b < l.length -> (l.set b v).sum = l.sum - l.getD b 0 + v
 | [], b, v, h => by simp at h
 | x :: l, 0, v, _ => by simp; omega
 | x :: l, b + 1, v, h => by
  have := qV l b v (by simpa using h); simp only [List.set_cons_succ, List.sum_cons, List.getD_cons_succ]; omega
theorem gL (l : List Int) (b i : Nat) (v : Int) (h : b < l.length) : (l.set b v).getD i 0 = if i = b then v else l.getD i 0 := by
 simp only [List.getD_eq_getElem?_getD, List.getElem?_set]
 by_cases e : b = i
 · subst e; simp [h]
 · rw [if_neg e, if_neg (Ne.symm e)]
theorem oB (l : List Int) : ∀ (r pre : List Int) (b : Nat), l = pre ++ r -> b < l.length -> (∀ j, j < pre.length -> l.getD j 0 <= l.getD b 0) -> (∀ j, j < b -> l.getD j 0 < l.getD b 0) -> b <= pre.length ->
 (∀ j, j < l.length -> l.getD j 0 <= l.getD (iR l r pre.length b) 0) /\ ∀ j, j < iR l r pre.length b -> l.getD j 0 < l.getD (iR l r pre.length b) 0
 | [], pre, b, he, hb, h1, h2, _ => by
  have : pre.length = l.length := by rw [he]; simp
  exact ⟨fun j hj => h1 j (by omega), h2⟩
 | x :: r, pre, b, he, hb, h1, h2, h3 => by
  have hg : l.getD pre.length 0 = x := by rw [he]; simp
  have hl : l.length = pre.length + (r.length + 1) := by rw [he]; simp
  have hp : (pre ++ [x]).length = pre.length + 1 := by simp
  simp only [iR]; rw [<- hp]
  by_cases hx : x > l.getD b 0
  · rw [show decide (x > l.getD b 0) = true from decide_eq_true hx, cond_true]; refine oB l r (pre ++ [x]) pre.length (by rw [he]; simp) (by omega) (fun j hj => ?_) (fun j hj => ?_) (by omega)
    · rw [hp] at hj
      by_cases e : j = pre.length
      · subst e; omega
      · have := h1 j (by omega); omega
    · have := h1 j hj; omega
  · rw [show decide (x > l.getD b 0) = false from decide_eq_false hx, cond_false]; refine oB l r (pre ++ [x]) b (by rw [he]; simp) hb (fun j hj => ?_) h2 (by omega); rw [hp] at hj
    by_cases e : j = pre.length
    · subst e; omega
    · exact h1 j (by omega)
theorem ki {l : List Int} (h : l ≠ []) : (∀ j, j < l.length -> l.getD j 0 <= l.getD (cV l) 0) /\ ∀ j, j < cV l -> l.getD j 0 < l.getD (cV l) 0 :=
 oB l l [] 0 rfl (List.length_pos_iff.2 h) (fun j hj => by simp at hj) (fun j hj => by omega) (by simp)
theorem kN : ∀ (l : List Int), (∀ x ∈ l, x <= 0) -> l.sum <= 0
 | [], _ => by simp
 | x :: l, h => by
  have := h x (by simp); have := kN l (fun y hy => h y (by simp [hy])); rw [List.sum_cons]; omega
theorem oi {l : List Int} {x : Int} (h : x ∈ l) : ∃ j, j < l.length /\ l.getD j 0 = x := by
 obtain ⟨j, hj, rfl⟩ := List.getElem_of_mem h; exact ⟨j, hj, by rw [List.getD_eq_getElem?_getD, List.getElem?_eq_getElem hj]; rfl⟩
theorem uZ {s : Int} (hs : 0 < s) : ∀ (k : Nat) (o l : List Int), o.length = l.length -> (∀ x ∈ l, 0 <= x /\ x < s) -> s * (k : Int) <= l.sum ->
 (fP 0 k o l).sum = o.sum + k /\ (∀ i, i < l.length -> (fP 0 k o l).getD i 0 = o.getD i 0 \/ ((fP 0 k o l).getD i 0 = o.getD i 0 + 1 /\ 0 < l.getD i 0)) /\
 ∀ i j, i < j -> j < l.length -> l.getD j 0 <= l.getD i 0 -> (fP 0 k o l).getD j 0 - o.getD j 0 <= (fP 0 k o l).getD i 0 - o.getD i 0
 | 0, o, l, hl, hb, hk => by simp [fP]
 | k + 1, o, l, hl, hb, hk => by
  have e1 : s * ((k + 1 : Nat) : Int) = s * k + s := by rw [Int.natCast_add, Int.mul_add]; simp
  rw [e1] at hk; have hk0 : 0 <= s * (k : Int) := Int.mul_nonneg (by omega) (by omega); have hne : l ≠ [] := by rintro rfl; simp at hk; omega
  have hB := jj hne; obtain ⟨hm, hf⟩ := ki hne; have hpos : 0 < l.getD (cV l) 0 := by
   rcases Int.lt_or_le 0 (l.getD (cV l) 0) with h | h
   · exact h
   · have := kN l (fun x hx => by
      obtain ⟨j, hj, rfl⟩ := oi hx; have := hm j hj; omega)
     omega
  have hmem := hb _ (iu hB); simp only [fP]; generalize hbb : cV l = b at *
  have hs' := qV l b 0 hB; have ho' := qV o b (o.getD b 0 + 1) (by omega); obtain ⟨g1, g2, g3⟩ := uZ hs k (o.set b (o.getD b 0 + 1)) (l.set b 0) (by simp [hl]) (fun x hx => by
   rcases List.mem_or_eq_of_mem_set hx with h | h
   · exact hb x h
   · omega) (by omega)
  generalize fP 0 k (o.set b (o.getD b 0 + 1)) (l.set b 0) = y at *
  simp only [List.length_set] at g2 g3; refine ⟨by rw [g1, ho']; simp only [Int.natCast_add]; omega, fun i hi => ?_, fun i j hij hj hle => ?_⟩
  · have := g2 i hi; rw [gL _ _ _ _ (by omega), gL _ _ _ _ hB] at this
    by_cases e : i = b
    · subst e; simp only [↓reduceIte] at this; right; omega
    · simpa [e] using this
  · have a1 := g2 i (by omega); have a2 := g2 j hj; have a3 := g3 i j hij hj; rw [gL _ _ _ _ (by omega), gL _ _ _ _ hB] at a1 a2; rw [gL _ _ _ _ hB, gL _ _ _ _ hB, gL _ _ _ _ (by omega), gL _ _ _ _ (by omega)] at a3
    by_cases ei : i = b
    · subst ei; have ne : ¬ j = i := by omega
      simp only [↓reduceIte, ne] at a1 a2 a3; omega
    · by_cases ej : j = b
      · subst ej; have := hf i hij; omega
      · simp only [ei, ej, if_false] at a1 a2 a3; exact a3 hle
theorem th (a s : Int) : ∀ l : List Int, s * (br a s l).sum + (gP a s l).sum = a * l.sum
 | [] => by simp [br, gP]
 | x :: l => by
  have := th a s l; have e := Int.mul_ediv_add_emod (a * x) s; show s * (a * x / s + (br a s l).sum) + (a * x % s + (gP a s l).sum) = a * (x + l.sum)
  rw [Int.mul_add, Int.mul_add]; omega
theorem vU (f : Int -> Int) {l : List Int} {b : Nat} (h : b < l.length) : (l.map f).getD b 0 = f (l.getD b 0) := by
 simp [List.getD_eq_getElem?_getD, List.getElem?_eq_getElem h]
theorem DC {a : Int} {l : List Int} (ha : 0 <= a) (hok : jr l = true) (hlt : a < l.sum) : (cf a l).sum = a /\
 (∀ i, i < l.length -> (cf a l).getD i 0 = a * l.getD i 0 / l.sum \/ ((cf a l).getD i 0 = a * l.getD i 0 / l.sum + 1 /\ 0 < a * l.getD i 0 % l.sum)) /\
 ∀ i j, i < j -> j < l.length -> a * l.getD j 0 % l.sum <= a * l.getD i 0 % l.sum -> (cf a l).getD j 0 - a * l.getD j 0 / l.sum <= (cf a l).getD i 0 - a * l.getD i 0 / l.sum := by
 obtain ⟨hb, hs, hs2⟩ := jl hok; have hr : ∀ x ∈ gP a l.sum l, 0 <= x /\ x < l.sum := by
  intro y hy; obtain ⟨x, hx, rfl⟩ := List.mem_map.1 hy; exact ⟨Int.emod_nonneg _ (by omega), Int.emod_lt_of_pos _ (by omega)⟩
 have hsum := th a l.sum l; have hr0 := dw _ (fun x hx => (hr x hx).1); have hk : 0 <= a - (br a l.sum l).sum := by
  have : l.sum * (br a l.sum l).sum <= l.sum * a := by rw [Int.mul_comm l.sum a]; omega
  have := Int.le_of_mul_le_mul_left this (by omega); omega
 have he : cf a l = fP 0 (a - (br a l.sum l).sum).toNat (br a l.sum l) (gP a l.sum l) := by
  unfold cf; rw [hok, hs, show max a 0 = a by omega, show decide (a >= l.sum) = false from decide_eq_false (by omega)]; rfl
 have hl1 : (br a l.sum l).length = l.length := by simp [br]
 have hl2 : (gP a l.sum l).length = l.length := by simp [gP]
 have d := uZ (s := l.sum) (by omega) (a - (br a l.sum l).sum).toNat (br a l.sum l) (gP a l.sum l) (by omega) hr (by
  rw [Int.toNat_of_nonneg hk, Int.mul_sub, Int.mul_comm l.sum a]; omega)
 rw [<- he, hl2] at d; obtain ⟨d1, d2, d3⟩ := d; have ef : ∀ i, i < l.length -> (br a l.sum l).getD i 0 = a * l.getD i 0 / l.sum := fun i hi => vU _ hi
 have er : ∀ i, i < l.length -> (gP a l.sum l).getD i 0 = a * l.getD i 0 % l.sum := fun i hi => vU _ hi
 refine ⟨by rw [d1, Int.toNat_of_nonneg hk]; omega, fun i hi => ?_, fun i j hij hj hle => ?_⟩
 · have := d2 i hi
   rwa [ef i hi, er i hi] at this
 · have := d3 i j hij hj (by rw [er i (by omega), er j hj]; exact hle)
   rwa [ef i (by omega), ef j hj] at this
theorem Dt {a : Int} {l : List Int} (hok : jr l = true) (hge : l.sum <= max a 0) : cf a l = l := by
 obtain ⟨hb, hs, hs2⟩ := jl hok; unfold cf; rw [hok, hs, show decide (max a 0 >= l.sum) = true from decide_eq_true hge]; rfl
theorem Jw {a x s : Int} (ha : 0 <= a) (hlt : a < s) (hx : 0 <= x) : 0 <= a * x / s /\ a * x / s <= x /\ (0 < a * x % s -> a * x / s + 1 <= x) := by
 have e := Int.mul_ediv_add_emod (a * x) s; have hm : a * x <= (s - 1) * x := Int.mul_le_mul_of_nonneg_right (by omega) hx; have hsx : (s - 1) * x = s * x - x := by rw [Int.sub_mul, Int.one_mul]
 refine ⟨Int.ediv_nonneg (Int.mul_nonneg ha hx) (by omega), Int.ediv_le_of_le_mul (by omega) (by rw [Int.mul_comm x s]; omega), fun h => ?_⟩; have : s * (a * x / s) < s * x := by omega
 have := Int.lt_of_mul_lt_mul_left this (by omega); omega
theorem zR {a : Int} {l : List Int} (ha : 0 <= a) (hok : jr l = true) : (cf a l).sum = min a l.sum /\ ∀ i, i < l.length -> 0 <= (cf a l).getD i 0 /\ (cf a l).getD i 0 <= l.getD i 0 := by
 obtain ⟨hb, hs, hs2⟩ := jl hok
 by_cases h : l.sum <= a
 · rw [Dt hok (by omega)]; exact ⟨by omega, fun i hi => ⟨(hb _ (iu hi)).1, Int.le_refl _⟩⟩
 · obtain ⟨h1, h2, _⟩ := DC ha hok (by omega); refine ⟨by omega, fun i hi => ?_⟩; have hx := hb _ (iu hi); have := Jw (a := a) (s := l.sum) ha (by omega) hx.1; rcases h2 i hi with h | ⟨h, h'⟩ <;> omega
def bp : List Bool -> List Int -> List Int
 | [], _ => []
 | false :: ms, l => 0 :: bp ms l
 | true :: ms, l => l.headD 0 :: bp ms l.tail
def hZ : List Bool -> Nat -> Nat
 | [], _ => 0
 | false :: ms, i => hZ ms i + 1
 | true :: _, 0 => 0
 | true :: ms, i + 1 => hZ ms i + 1
def bq : List Bool -> Nat
 | [] => 0
 | false :: ms => bq ms
 | true :: ms => bq ms + 1
theorem jG : ∀ (ms : List Bool) (l : List Int), (bp ms l).length = ms.length
 | [], _ => rfl
 | false :: ms, l => by simp [bp, jG ms l]
 | true :: ms, l => by simp [bp, jG ms l.tail]
theorem rq : ∀ (ms : List Bool) (i : Nat), i < bq ms -> hZ ms i < ms.length
 | [], i, h => by simp [bq] at h
 | false :: ms, i, h => by have := rq ms i h; simp [hZ]; omega
 | true :: ms, 0, _ => by simp [hZ]
 | true :: ms, i + 1, h => by have := rq ms i (by simpa [bq] using h); simp [hZ]; omega
theorem oy : ∀ (ms : List Bool) (i j : Nat), i < j -> j < bq ms -> hZ ms i < hZ ms j
 | [], i, j, _, h => by simp [bq] at h
 | false :: ms, i, j, h, h2 => by have := oy ms i j h h2; simp [hZ]; omega
 | true :: ms, 0, j + 1, _, _ => by simp [hZ]
 | true :: ms, i + 1, j + 1, h, h2 => by have := oy ms i j (by omega) (by simpa [bq] using h2); simp [hZ]; omega
theorem gg : ∀ (ms : List Bool) (l : List Int) (i : Nat), l.length = bq ms -> i < bq ms -> (bp ms l).getD (hZ ms i) 0 = l.getD i 0
 | [], l, i, _, h => by simp [bq] at h
 | false :: ms, l, i, h, h2 => by simp only [bp, hZ, List.getD_cons_succ]; exact gg ms l i h h2
 | true :: ms, [], i, h, _ => by simp [bq] at h
 | true :: ms, x :: l, 0, h, _ => by simp [bp, hZ]
 | true :: ms, x :: l, i + 1, h, h2 => by
  simp only [bp, hZ, List.getD_cons_succ, List.tail_cons]; exact gg ms l i (by simpa [bq] using h) (by simpa [bq] using h2)
theorem nU : ∀ (ms : List Bool) (l : List Int) (i : Nat) (v : Int), l.length = bq ms -> i < bq ms -> (bp ms l).set (hZ ms i) v = bp ms (l.set i v)
 | [], l, i, v, _, h => by simp [bq] at h
 | false :: ms, l, i, v, h, h2 => by simp only [bp, hZ, List.set_cons_succ]; rw [nU ms l i v h h2]
 | true :: ms, [], i, v, h, _ => by simp [bq] at h
 | true :: ms, x :: l, 0, v, h, _ => by simp [bp, hZ]
 | true :: ms, x :: l, i + 1, v, h, h2 => by
  simp only [bp, hZ, List.set_cons_succ, List.tail_cons, List.headD_cons]; rw [nU ms l i v (by simpa [bq] using h) (by simpa [bq] using h2)]
theorem qT : ∀ (ms : List Bool) (p : Nat), p < ms.length -> (∃ i, i < bq ms /\ p = hZ ms i) \/ ∀ l, (bp ms l).getD p 0 = 0
 | [], p, h => by simp at h
 | false :: ms, 0, _ => .inr fun l => by simp [bp]
 | true :: ms, 0, _ => .inl ⟨0, by simp [bq], by simp [hZ]⟩
 | false :: ms, p + 1, h => by
  rcases qT ms p (by simpa using h) with ⟨i, h1, h2⟩ | h2
  · exact .inl ⟨i, h1, by simp [hZ, h2]⟩
  · exact .inr fun l => by simp only [bp, List.getD_cons_succ]; exact h2 l
 | true :: ms, p + 1, h => by
  rcases qT ms p (by simpa using h) with ⟨i, h1, h2⟩ | h2
  · exact .inl ⟨i + 1, by simp [bq, h1], by simp [hZ, h2]⟩
  · exact .inr fun l => by simp only [bp, List.getD_cons_succ]; exact h2 _
theorem z8 {l : List Int} {b : Nat} (hb : b < l.length) (h1 : ∀ j, j < l.length -> l.getD j 0 <= l.getD b 0) (h2 : ∀ j, j < b -> l.getD j 0 < l.getD b 0) : cV l = b := by
 have hne : l ≠ [] := by rintro rfl; simp at hb
 obtain ⟨m1, m2⟩ := ki hne; have hB := jj hne; rcases Nat.lt_trichotomy (cV l) b with h | h | h
 · have := h2 _ h; have := m1 b hb; omega
 · exact h
 · have := m2 _ h; have := h1 _ hB; omega
theorem Ai (ms : List Bool) (l : List Int) (hl : l.length = bq ms) (hp : 0 < l.getD (cV l) 0) : cV (bp ms l) = hZ ms (cV l) := by
 have hne : l ≠ [] := by rintro rfl; simp at hp
 obtain ⟨m1, m2⟩ := ki hne; have hB := jj hne; rw [hl] at hB; refine z8 (by rw [jG]; exact rq ms _ hB) (fun j hj => ?_) (fun j hj => ?_)
 · rw [gg ms l _ hl hB]; rw [jG] at hj; rcases qT ms j hj with ⟨i, h1, rfl⟩ | h2
   · rw [gg ms l i hl h1]; exact m1 i (by omega)
   · rw [h2]; omega
 · rw [gg ms l _ hl hB]; have hj2 : j < ms.length := Nat.lt_trans hj (rq ms _ hB); rcases qT ms j hj2 with ⟨i, h1, rfl⟩ | h2
   · rw [gg ms l i hl h1]; refine m2 i ?_
     rcases Nat.lt_trichotomy i (cV l) with h | h | h
     · exact h
     · subst h; omega
     · have := oy ms _ _ h h1; omega
   · rw [h2]; exact hp
theorem vV {s : Int} (hs : 0 < s) (ms : List Bool) : ∀ (k : Nat) (o l : List Int), o.length = bq ms -> l.length = bq ms -> (∀ x ∈ l, 0 <= x /\ x < s) -> s * (k : Int) <= l.sum ->
 fP 0 k (bp ms o) (bp ms l) = bp ms (fP 0 k o l)
 | 0, o, l, _, _, _, _ => rfl
 | k + 1, o, l, ho, hl, hb, hk => by
  have e1 : s * ((k + 1 : Nat) : Int) = s * k + s := by rw [Int.natCast_add, Int.mul_add]; simp
  rw [e1] at hk; have hk0 : 0 <= s * (k : Int) := Int.mul_nonneg (by omega) (by omega); have hne : l ≠ [] := by rintro rfl; simp at hk; omega
  have hB := jj hne; obtain ⟨hm, hf⟩ := ki hne; have hpos : 0 < l.getD (cV l) 0 := by
   rcases Int.lt_or_le 0 (l.getD (cV l) 0) with h | h
   · exact h
   · have := kN l (fun x hx => by
      obtain ⟨j, hj, rfl⟩ := oi hx; have := hm j hj; omega)
     omega
  have hmem := hb _ (iu hB); have hs' := qV l (cV l) 0 hB; simp only [fP]; rw [Ai ms l hl hpos, gg ms o _ ho (by omega), nU ms o _ _ ho (by omega), nU ms l _ _ hl (by omega)]; refine vV hs ms k _ _ (by simpa using ho) (by simpa using hl) (fun x hx => ?_) (by omega); rcases List.mem_or_eq_of_mem_set hx with h | h
  · exact hb x h
  · omega
theorem nG (f : Int -> Int) (h0 : f 0 = 0) : ∀ (ms : List Bool) (l : List Int), (bp ms l).map f = bp ms (l.map f)
 | [], _ => rfl
 | false :: ms, l => by simp [bp, h0, nG f h0 ms l]
 | true :: ms, l => by
  simp only [bp, List.map_cons, nG f h0 ms l.tail]; cases l with
  | nil => simp [h0]
  | cons x l => simp
theorem kV : ∀ (ms : List Bool) (l : List Int), l.length = bq ms -> (bp ms l).sum = l.sum
 | [], l, h => by rw [List.eq_nil_of_length_eq_zero h]; rfl
 | false :: ms, l, h => by simp [bp, kV ms l h]
 | true :: ms, [], h => by simp [bq] at h
 | true :: ms, x :: l, h => by simp [bp, kV ms l (by simpa [bq] using h)]
theorem tG : ∀ (ms : List Bool) (l : List Int) (y : Int), y ∈ bp ms l -> y = 0 \/ y ∈ l
 | [], _, y, h => by simp [bp] at h
 | false :: ms, l, y, h => by
  simp only [bp, List.mem_cons] at h; rcases h with h | h
  · exact .inl h
  · exact tG ms l y h
 | true :: ms, l, y, h => by
  simp only [bp, List.mem_cons] at h; rcases h with h | h
  · cases l with
    | nil => exact .inl (by simpa using h)
    | cons x l => exact .inr (by simp at h; simp [h])
  · rcases tG ms l.tail y h with h | h
    · exact .inl h
    · exact .inr (List.mem_of_mem_tail h)
theorem D5 (ms : List Bool) (n : Int) (l : List Int) (hl : l.length = bq ms) (b : Int) (hb0 : 0 <= b) (hb : ∀ x ∈ l, 0 <= x /\ x <= b) (h4 : ms.length * b <= 1152921504606846976) :
 cf n (bp ms l) = bp ms (cf n l) := by
 have hlm : bq ms <= ms.length := by
  clear hl h4
  induction ms with
  | nil => simp [bq]
  | cons c ms ih => cases c <;> simp [bq] <;> omega
 have hlb : (l.length : Int) * b <= ms.length * b := Int.mul_le_mul_of_nonneg_right (by omega) hb0; obtain ⟨s1, o1⟩ := rG hb0 hb (by omega); have hb2 : ∀ x ∈ bp ms l, 0 <= x /\ x <= b := fun x hx => by
  rcases tG ms l x hx with h | h
  · omega
  · exact hb x h
 obtain ⟨s2, o2⟩ := rG hb0 hb2 (by rw [jG]; exact h4); rw [kV ms l hl] at s2; obtain ⟨hB, _, hs2⟩ := jl o1; have h0 := dw l (fun x hx => (hb x hx).1); unfold cf; rw [o1, o2, s1, s2]; simp only [Bool.not_true, cond_false]
 by_cases h : max n 0 >= l.sum
 · rw [decide_eq_true h, cond_true, cond_true]
 · rw [decide_eq_false h, cond_false, cond_false]; have ef : br (max n 0) l.sum (bp ms l) = bp ms (br (max n 0) l.sum l) := nG (fun c => max n 0 * c / l.sum) (by simp) ms l; have er : gP (max n 0) l.sum (bp ms l) = bp ms (gP (max n 0) l.sum l) := nG (fun c => max n 0 * c % l.sum) (by simp) ms l; have lf : (br (max n 0) l.sum l).length = bq ms := by simpa [br] using hl
   have lr : (gP (max n 0) l.sum l).length = bq ms := by simpa [gP] using hl
   rw [ef, er, kV ms _ lf]; have hr : ∀ x ∈ gP (max n 0) l.sum l, 0 <= x /\ x < l.sum := by
    intro y hy; obtain ⟨x, hx, rfl⟩ := List.mem_map.1 hy; exact ⟨Int.emod_nonneg _ (by omega), Int.emod_lt_of_pos _ (by omega)⟩
   have hsum := th (max n 0) l.sum l; have hr0 := dw _ (fun x hx => (hr x hx).1); have hk : 0 <= max n 0 - (br (max n 0) l.sum l).sum := by
    have : l.sum * (br (max n 0) l.sum l).sum <= l.sum * max n 0 := by rw [Int.mul_comm l.sum (max n 0)]; omega
    have := Int.le_of_mul_le_mul_left this (by omega); omega
   exact vV (s := l.sum) (by omega) ms _ _ _ lf lr hr (by rw [Int.toNat_of_nonneg hk, Int.mul_sub, Int.mul_comm l.sum (max n 0)]; omega)
theorem MB {n c p : Int} (h1 : 0 <= n) (h2 : n < p) (h3 : p <= 1152921504606846976) (h4 : 0 <= c) (h5 : c <= 1152921504606846976) : mdV n c p 0 = n * c / p /\ nb n c p 0 = true /\ 0 <= n * c / p /\ n * c / p <= c := by
 have h : n * c / p <= c := by
  have : n * c <= p * c := Int.mul_le_mul_of_nonneg_right (by omega) h4; exact Int.ediv_le_of_le_mul (by omega) (by rw [Int.mul_comm c p]; exact this)
 have ok : nb n c p 0 = true := by rw [Cj h1 (by omega) h4 h5 (by omega) h3 (by omega) (by omega), L6]; simp; omega
 exact ⟨by unfold mdV; rw [ok, L6]; rfl, ok, Int.ediv_nonneg (Int.mul_nonneg h1 h4) (by omega), h⟩
theorem HI {n c s q : Int} (hq : q = n * c / s) (h1 : 0 <= n) (h2 : 0 < s) (h3 : s <= 1152921504606846976) (h4 : 0 <= c) :
 nT (nT (nT n * nT c) - nT (nT q * nT s)) = n * c % s := by
 show IntKind.u64.wrap (IntKind.u64.wrap (IntKind.u64.wrap n * IntKind.u64.wrap c) - IntKind.u64.wrap (IntKind.u64.wrap q * IntKind.u64.wrap s)) = n * c % s; simp only [lg]; rw [<- Int.mul_emod, <- Int.mul_emod, <- Int.sub_emod]; have e := Int.mul_ediv_add_emod (n * c) s; have a := Int.emod_nonneg (n * c) (show s ≠ 0 by omega); have b := Int.emod_lt_of_pos (n * c) h2; rw [<- hq] at e; rw [show n * c - q * s = n * c % s by rw [Int.mul_comm q s]; omega]; exact Int.emod_eq_of_lt a (by omega)
theorem Ac {α : Type} (pre done : List α) (x y : α) (rest : List α) (h : done.length = pre.length) : List.set (done ++ x :: rest) pre.length y = done ++ y :: rest := by rw [<- h]; simp
def Mi : aA := ⟨T92.tab, 128, ⟨[.ints .i64], [], 0⟩, ⟨[.int .i64, .bool], [], 0⟩, []⟩
abbrev ye : Type := Int × List Int × Int × Int
def qN (m : Nat) (k : ye -> Option (List Un)) : ye -> Option (List Un) := fun (a0, a1, a2, a3) =>
 bif decide (a3 < a2) then
 chk (inb a3 a1.length) <|
 chk (decide (a3.toNat < a1.length)) <|
 bif (decide ((a1.getD a3.toNat 0) < 0)) then
 some ([.i 0, .b false])
 else
 bif (decide ((a1.getD a3.toNat 0) > (w64 (1152921504606846976 - a0)))) then
 some ([.i 0, .b false])
 else
 k ((w64 (a0 + (a1.getD a3.toNat 0))), a1, a2, (w64 (a3 + 1)))
 else
 some ([.i a0, .b true])
def oz (m : Nat) : Nat -> ye -> Option (List Un) := bc (qN m)
theorem qj (m : Nat) (n : Nat) : oz m (n + 1) = qN m (oz m n) := rfl
def BD (F : ye -> Option (List Un)) : aP := ⟨[.lp [0, 1, 0, 1, 1], .blk 0, .code [1, 1, 1]], ⟨frm 26 [(4, .int .i64), (7, .ints .i64), (8, .int .i64), (9, .int .i64)], [], 0⟩, onU F⟩
theorem LM (m : Nat) : ∀ n, HO Mi (BD (oz m n)) := aw ai T92.right (fun k => [BD k]) (fun k h => (aE h az)) fun k a => by kernel_rfl
def t128 (m : Nat) : List Int -> Option (List Un) := fun a0 =>
 oz m m (0, a0, (a0.length : Int), 0)
theorem Hl (m : Nat) : ∀ (rest pre : List Int) (s : Int) (n : Nat), rest.length < n -> 0 <= s -> s <= 1152921504606846976 -> (pre ++ rest).length < 1099511627776 ->
 oz m n (s, pre ++ rest, ((pre ++ rest).length : Int), (pre.length : Int)) = some [.i (nP rest s).1, .b (nP rest s).2] := by
 intro rest
 induction rest with
 | nil =>
  intro pre s n hn h1 h2 h3; obtain ⟨n, rfl⟩ := ak n (by simp at hn; omega); rw [qj]; unfold qN; dsimp only; simp [aB, nP]
 | cons x rest ih =>
  intro pre s n hn h1 h2 h3; obtain ⟨n, rfl⟩ := ak n (by simp at hn; omega); simp only [List.length_append, List.length_cons] at h3 hn; rw [qj]; unfold qN; dsimp only; simp only [nP]
  by_cases c1 : x < 0
  · rw [decide_eq_true c1, Bool.true_or, cond_true]; simp (disch := omega) only [TRa, TRi, aa, LNl, LNi, Int.cast_ofNat_Int, bV]
  · by_cases c2 : x > 1152921504606846976 - s
    · rw [decide_eq_true c2, Bool.or_true, cond_true]; simp (disch := omega) only [TRa, TRi, aa, LNl, LNi, Int.cast_ofNat_Int, bV]
    · rw [decide_eq_false c1, decide_eq_false c2, Bool.false_or, cond_false]; have := ih (pre ++ [x]) (s + x) n (by omega) (by omega) (by omega) (by simp; omega); simp (disch := omega) only [TRa, TRi, aa, LNl, LNi, Int.cast_ofNat_Int, bV]; simp only [LNl, LNi, Int.cast_ofNat_Int] at this ⊢; exact this
def f128 : List Int -> Bool × List Un := fun a0 => (decide (a0.length < 1099511627776), [.i (gn a0), .b (jr a0)])
theorem JP (a0 : List Int) (hc : (decide (a0.length < 1099511627776)) = true) : ∃ m, t128 m a0 = some ([.i (gn a0), .b (jr a0)]) := by
 exact ⟨a0.length + 1, Hl _ a0 [] 0 _ (by omega) (by omega) (by omega) (by simpa using of_decide_eq_true hc)⟩
theorem ET : ER 128 (mkE Mi.en Mi.ex f128) := an ai T92.right (fun m => [BD (oz m m)]) (t := t128) (by kernel_rfl) (fun m => (aE (LM m m) az)) (fun m a => by kernel_rfl) fun a0 hc => JP a0 hc
def JA : Tb Tryz.prog LQ TE := T92.add 128 _ ET
def Nz : aA := ⟨JA.tab, 172, ⟨[.int .i64, .int .i64, .ints .i64], [], 0⟩, ⟨[.buf 0 1, .buf 1 1], [.ints .i64, .ints .u64], 0⟩, []⟩
abbrev yc : Type := Int × Int × List Int × Int × Int × List Int × List Int
def qU (m : Nat) (k : yc -> Option (List Un)) : yc -> Option (List Un) := fun (a0, a1, a2, a3, a4, a5, a6) =>
 bif decide (a4 < a3) then
 chk (inb a4 a2.length) <|
 chk (decide (a4.toNat < a2.length)) <|
 chk (inb a4 a5.length) <|
 chk (decide (a4.toNat < a5.length)) <|
 lt ((List.set a5 a4.toNat (mdV a0 (a2.getD a4.toNat 0) a1 0)) : List Int) fun l5 =>
 chk (inb a4 l5.length) <|
 chk (decide (a4.toNat < l5.length)) <|
 chk (inb a4 a6.length) <|
 chk (decide (a4.toNat < a6.length)) <|
 k (a0, a1, a2, a3, (w64 (a4 + 1)), l5, (List.set a6 a4.toNat (nT ((nT ((nT a0) * (nT (a2.getD a4.toNat 0)))) - (nT ((nT (l5.getD a4.toNat 0)) * (nT a1)))))))
 else
 some ([.l a5, .l a6])
def oP (m : Nat) : Nat -> yc -> Option (List Un) := bc (qU m)
theorem pA (m : Nat) (n : Nat) : oP m (n + 1) = qU m (oP m n) := rfl
def Bf (F : yc -> Option (List Un)) : aP := ⟨[.lp [0, 1, 0, 1, 1], .blk 0, .code [1, 1, 1]], ⟨frm 55 [(0, .int .i64), (1, .int .i64), (8, .buf 0 1), (9, .buf 1 1), (18, .ints .i64), (19, .int .i64), (20, .int .i64)], [.ints .i64, .ints .u64], 0⟩, onU F⟩
theorem MW (m : Nat) : ∀ n, HO Nz (Bf (oP m n)) := aw ai JA.right (fun k => [Bf k]) (fun k h => (aE h az)) fun k a => by kernel_rfl
def t172 (m : Nat) : Int × Int × List Int -> Option (List Un) := fun (a0, a1, a2) =>
 chk (jH (a2.length : Int) 8) <|
 chk (jH (a2.length : Int) 8) <|
 oP m m (a0, a1, a2, (a2.length : Int), 0, (List.replicate a2.length 0), (List.replicate a2.length 0))
theorem Nh (m : Nat) (a s : Int) (h1 : 0 <= a) (h2 : a < s) (h3 : s <= 1152921504606846976) : ∀ (rest pre d1 d2 : List Int) (n : Nat), rest.length < n -> d1.length = pre.length -> d2.length = pre.length -> (∀ x ∈ rest, 0 <= x /\ x <= 1152921504606846976) -> (pre ++ rest).length < 1099511627776 ->
 oP m n (a, s, pre ++ rest, ((pre ++ rest).length : Int), (pre.length : Int), d1 ++ List.replicate rest.length 0, d2 ++ List.replicate rest.length 0) = some [.l (d1 ++ br a s rest), .l (d2 ++ gP a s rest)] := by
 intro rest
 induction rest with
 | nil =>
  intro pre d1 d2 n hn p1 p2 hb h4; obtain ⟨n, rfl⟩ := ak n (by simp at hn; omega); rw [pA]; unfold qU; dsimp only; simp [aB, br, gP]
 | cons x rest ih =>
  intro pre d1 d2 n hn p1 p2 hb h4; obtain ⟨n, rfl⟩ := ak n (by simp at hn; omega); simp only [List.length_append, List.length_cons] at h4 hn; rw [pA]; unfold qU; dsimp only; simp only [List.length_cons, List.replicate_succ]; have hx := hb x (by simp); obtain ⟨e1, _, _, _⟩ := MB h1 h2 h3 hx.1 hx.2; have := ih (pre ++ [x]) (d1 ++ [a * x / s]) (d2 ++ [a * x % s]) n (by omega) (by simp; omega) (by simp; omega) (fun y hy => hb y (by simp [hy])) (by simp; omega); have le := HI (n := a) (c := x) (s := s) rfl h1 (by omega) h3 hx.1; simp (disch := omega) only [TRa, TRi, aa, LNl, LNi, Int.cast_ofNat_Int, bV, e1, Ac _ _ _ _ _ p1, vl _ _ _ _ _ p1, Ac _ _ _ _ _ p2]; rw [le]; simp only [LNl, LNi, Int.cast_ofNat_Int] at this ⊢; refine this.trans ?_
  simp [br, gP]
def f172 : Int × Int × List Int -> Bool × List Un := fun (a0, a1, a2) => (decide (0 <= a0 /\ a0 < a1 /\ a1 <= 1152921504606846976 /\ a2.length < 1099511627776) && oL a2, [.l (br a0 a1 a2), .l (gP a0 a1 a2)])
theorem HZ (a0 : Int) (a1 : Int) (a2 : List Int) (hc : (decide (0 <= a0 /\ a0 < a1 /\ a1 <= 1152921504606846976 /\ a2.length < 1099511627776) && oL a2) = true) : ∃ m, t172 m (a0, a1, a2) = some ([.l (br a0 a1 a2), .l (gP a0 a1 a2)]) := by
 simp only [Bool.and_eq_true, decide_eq_true_eq, rT] at hc; obtain ⟨⟨h1, h2, h3, h4⟩, hb⟩ := hc; refine ⟨a2.length + 1, ?_⟩; unfold t172; simp (disch := omega) only [TRa, TRi, aa]; exact Nh (a2.length + 1) a0 a1 h1 h2 h3 a2 [] [] [] (a2.length + 1) (by omega) rfl rfl hb (by simpa using h4)
theorem Fv : ER 172 (mkE Nz.en Nz.ex f172) := an ai JA.right (fun m => [Bf (oP m m)]) (t := t172) (by kernel_rfl) (fun m => (aE (MW m m) az)) (fun m a => by kernel_rfl) fun (a0, a1, a2) hc => HZ a0 a1 a2 hc
def DS : Tb Tryz.prog LQ TE := JA.add 172 _ Fv
def Ec : aA := ⟨DS.tab, 166, ⟨[.int .i64, .ints .i64], [], 0⟩, ⟨[.buf 0 1], [.ints .i64], 0⟩, []⟩
abbrev xF : Type := Int × Int × Int × Int × List Int × List Int
abbrev jJ : Type := Int × List Int × List Int
abbrev yC : Type := Int × Int × Int × List Int × List Int
def qS (m : Nat) (k1 : jJ -> Option (List Un)) (k : xF -> Option (List Un)) : xF -> Option (List Un) := fun (a0, a1, a2, a3, a4, a5) =>
 bif decide (a3 < a2) then
 chk (inb a3 a5.length) <|
 chk (decide (a3.toNat < a5.length)) <|
 chk (inb a1 a5.length) <|
 chk (decide (a1.toNat < a5.length)) <|
 bif (decide ((a5.getD a3.toNat 0) > (a5.getD a1.toNat 0))) then
 k (a0, a3, a2, (w64 (a3 + 1)), a4, a5)
 else
 k (a0, a1, a2, (w64 (a3 + 1)), a4, a5)
 else
 chk (inb a1 a4.length) <|
 chk (decide (a1.toNat < a4.length)) <|
 chk (inb a1 a4.length) <|
 chk (decide (a1.toNat < a4.length)) <|
 chk (inb a1 a5.length) <|
 chk (decide (a1.toNat < a5.length)) <|
 k1 ((w64 (a0 - 1)), (List.set a4 a1.toNat (w64 ((a4.getD a1.toNat 0) + 1))), (List.set a5 a1.toNat 0))
def oR (m : Nat) (k1 : jJ -> Option (List Un)) : Nat -> xF -> Option (List Un) := bc (qS m k1)
theorem pC (m : Nat) (k1 : jJ -> Option (List Un)) (n : Nat) : oR m k1 (n + 1) = qS m k1 (oR m k1 n) := rfl
def B1 (F : xF -> Option (List Un)) : aP := ⟨[.lp [0, 1, 0, 1, 0, 0, 1, 0, 0, 0, 1, 1, 1, 1, 1, 1, 1, 1], .blk 4, .code [1, 1, 0, 0, 1, 0, 0, 0, 1, 1, 1, 1, 1, 1, 1, 1], .blk 3, .code [1, 1, 0, 0, 0, 1, 1, 1, 1, 1, 1, 1, 1], .lp [0, 0, 1, 1, 1, 1, 1, 1, 1, 1], .blk 2, .code [1, 1, 1, 1, 1, 1, 1, 1, 1]], ⟨frm 80 [(7, .buf 0 1), (8, .buf 1 1), (9, .int .i64), (12, .int .i64), (55, .int .i64), (56, .int .i64)], [.ints .i64, .ints .u64], 0⟩, onU F⟩
def rz (m : Nat) (k : jJ -> Option (List Un)) : jJ -> Option (List Un) := fun (a0, a1, a2) =>
 bif decide (a0 > 0) then
 oR m k m (a0, 0, (a2.length : Int), 0, a1, a2)
 else
 some ([.l a1])
def lb (m : Nat) : Nat -> jJ -> Option (List Un) := bc (rz m)
theorem pU (m : Nat) (n : Nat) : lb m (n + 1) = rz m (lb m n) := rfl
def w7 (F : jJ -> Option (List Un)) : aP := ⟨[.lp [0, 0, 1, 1, 1, 1, 1, 1, 1, 1], .blk 2, .code [1, 1, 1, 1, 1, 1, 1, 1, 1]], ⟨frm 80 [(7, .buf 0 1), (8, .buf 1 1), (9, .int .i64)], [.ints .i64, .ints .u64], 0⟩, onU F⟩
def rH (m : Nat) (k : yC -> Option (List Un)) : yC -> Option (List Un) := fun (a0, a1, a2, a3, a4) =>
 bif decide (a2 < a1) then
 chk (inb a2 a3.length) <|
 chk (decide (a2.toNat < a3.length)) <|
 k ((w64 (a0 - (a3.getD a2.toNat 0))), a1, (w64 (a2 + 1)), a3, a4)
 else
 lb m m (a0, a3, a4)
def pa (m : Nat) : Nat -> yC -> Option (List Un) := bc (rH m)
theorem pE (m : Nat) (n : Nat) : pa m (n + 1) = rH m (pa m n) := rfl
def Bj (F : yC -> Option (List Un)) : aP := ⟨[.lp [0, 1, 0, 1, 1, 1, 1, 1, 1, 1], .blk 0, .code [1, 1, 1, 1, 1, 1, 1, 1]], ⟨frm 80 [(7, .buf 0 1), (8, .buf 1 1), (9, .int .i64), (40, .buf 0 1), (41, .int .i64), (42, .int .i64)], [.ints .i64, .ints .u64], 0⟩, onU F⟩
theorem Mx (m : Nat) (k1 : jJ -> Option (List Un)) (h1 : HO Ec (w7 k1)) : ∀ n, HO Ec (B1 (oR m k1 n)) := aw ai DS.right (fun k => [w7 k1, B1 k]) (fun k h => (aE h1 (aE h az))) fun k a => by kernel_rfl
theorem Ly (m : Nat) : ∀ n, HO Ec (w7 (lb m n)) := aw ai DS.right (fun k => [B1 (oR m (k) m)]) (fun k h => (aE (Mx m _ h m) az)) fun k a => by kernel_rfl
theorem Nn (m : Nat) : ∀ n, HO Ec (Bj (pa m n)) := aw ai DS.right (fun k => [Bj k, w7 (lb m m)]) (fun k h => (aE h (aE (Ly m m) az))) fun k a => by kernel_rfl
def t166 (m : Nat) : Int × List Int -> Option (List Un) := fun (a0, a1) =>
 chk (decide (a1.length < 1099511627776)) <|
 bif !(jr a1) then
 chk (jH (a1.length : Int) 8) <|
 some ([.l (List.replicate a1.length 0)])
 else
 lt ((if a0 < 0 then 0 else a0) : Int) fun x2 =>
 bif decide (x2 >= (gn a1)) then
 chk (fits (0 + a1.length) 8) <|
 some ([.l a1])
 else
 chk (decide (0 <= x2 /\ x2 < (gn a1) /\ (gn a1) <= 1152921504606846976 /\ a1.length < 1099511627776) && oL a1) <|
 lt ((br x2 (gn a1) a1) : List Int) fun l3 =>
 pa m m (x2, (l3.length : Int), 0, l3, (gP x2 (gn a1) a1))
theorem F1 (m : Nat) (k1 : jJ -> Option (List Un)) (left : Int) (out lost : List Int) (h1 : 0 < left) (h2 : left < 4611686018427387904) (hl : out.length = lost.length) (hs : lost.length < 1099511627776)
 (hb : ∀ x ∈ out, 0 <= x /\ x < 4611686018427387904) : ∀ (rest pre : List Int) (b n : Nat), rest.length < n -> lost = pre ++ rest -> b < lost.length ->
 oR m k1 n (left, (b : Int), (lost.length : Int), (pre.length : Int), out, lost) =
  k1 (left - 1, out.set (iR lost rest pre.length b) (out.getD (iR lost rest pre.length b) 0 + 1), lost.set (iR lost rest pre.length b) 0) := by
 intro rest
 induction rest with
 | nil =>
  intro pre b n hn he hlt; obtain ⟨n, rfl⟩ := ak n (by simp at hn; omega); have hp : pre.length = lost.length := by rw [he]; simp
  have hm := hb _ (iu (l := out) (i := b) (by omega)); rw [pC]; unfold qS; dsimp only; simp only [iR, Int.toNat_natCast]; simp (disch := omega) only [TRa, TRi, aa]
 | cons x rest ih =>
  intro pre b n hn he hlt; obtain ⟨n, rfl⟩ := ak n (by simp at hn; omega); have hp : lost.length = pre.length + (rest.length + 1) := by rw [he]; simp
  have hg : lost.getD pre.length 0 = x := by rw [he]; simp
  rw [pC]; unfold qS; dsimp only; simp only [iR, Int.toNat_natCast, hg]; have i1 := ih (pre ++ [x]) pre.length n (by simp at hn; omega) (by rw [he]; simp) (by omega); have i2 := ih (pre ++ [x]) b n (by simp at hn; omega) (by rw [he]; simp) hlt; simp only [List.length_append, List.length_cons, List.length_nil, Int.natCast_add, Nat.zero_add, Int.cast_ofNat_Int] at i1 i2
  by_cases c : x > lost.getD b 0
  · simp (disch := omega) only [TRa, TRi, aa]; exact i1
  · simp (disch := omega) only [TRa, TRi, aa]; exact i2
theorem E9 (m : Nat) : ∀ (k : Nat) (left : Int) (out lost : List Int) (n : Nat), left.toNat = k -> k < n -> left < 4611686018427387904 -> out.length = lost.length -> lost.length < 1099511627776 -> lost.length < m -> lost ≠ [] -> (∀ x ∈ out, 0 <= x /\ x + left < 4611686018427387904) ->
 lb m n (left, out, lost) = some [.l (fP 0 k out lost)] := by
 intro k
 induction k with
 | zero =>
  intro left out lost n hk hn h2 hl hs hm hne hb; obtain ⟨n, rfl⟩ := ak n (by omega); rw [pU]; unfold rz; dsimp only; simp only [fP]; rw [aB (by omega)]
 | succ k ih =>
  intro left out lost n hk hn h2 hl hs hm hne hb; obtain ⟨n, rfl⟩ := ak n (by omega); rw [pU]; unfold rz; dsimp only; have hB := jj hne; rw [bT (by omega)]; have := F1 m (lb m n) left out lost (by omega) h2 hl hs (fun x hx => by have := hb x hx; omega) lost [] 0 m hm rfl (List.length_pos_iff.2 hne); simp only [List.length_nil, Int.natCast_zero] at this; refine this.trans ?_
  have hq := hb _ (iu (l := out) (i := cV lost) (by omega)); rw [show iR lost lost 0 0 = cV lost from rfl]; refine ih _ _ _ _ (by omega) (by omega) (by omega) (by simp [hl]) (by simpa using hs) (by simpa using hm) (by intro h; simp at h; exact hne h) (fun x hx => ?_); rcases List.mem_or_eq_of_mem_set hx with h | h
  · have := hb x h; omega
  · omega
theorem N6 (m : Nat) (lost : List Int) : ∀ (rest pre : List Int) (left : Int) (n : Nat), rest.length < n -> (∀ x ∈ rest, 0 <= x /\ x <= 1152921504606846976) -> -1152921504606846976 <= left - rest.sum -> left <= 1152921504606846976 -> (pre ++ rest).length < 1099511627776 ->
 pa m n (left, ((pre ++ rest).length : Int), (pre.length : Int), pre ++ rest, lost) = lb m m (left - rest.sum, pre ++ rest, lost) := by
 intro rest
 induction rest with
 | nil =>
  intro pre left n hn hb h1 h2 h3; obtain ⟨n, rfl⟩ := ak n (by simp at hn; omega); rw [pE]; unfold rH; dsimp only; simp [aB]
 | cons x rest ih =>
  intro pre left n hn hb h1 h2 h3; obtain ⟨n, rfl⟩ := ak n (by simp at hn; omega); simp only [List.length_append, List.length_cons] at h3 hn; have hx := hb x (by simp); have hs := dw rest (fun y hy => (hb y (by simp [hy])).1); rw [List.sum_cons] at h1 ⊢; rw [pE]; unfold rH; dsimp only; have := ih (pre ++ [x]) (left - x) n (by omega) (fun y hy => hb y (by simp [hy])) (by omega) (by omega) (by simp; omega); rw [show left - (x + rest.sum) = left - x - rest.sum by omega]; simp (disch := omega) only [TRa, TRi, aa, LNl, LNi, Int.cast_ofNat_Int, bV]; simp only [LNl, LNi, Int.cast_ofNat_Int] at this ⊢; exact this
def f166 : Int × List Int -> Bool × List Un := fun (a0, a1) => (decide (a0 <= 9223372036854775807 /\ a1.length < 1099511627776), [.l (cf a0 a1)])
theorem H6 (a0 : Int) (a1 : List Int) (hc : (decide (a0 <= 9223372036854775807 /\ a1.length < 1099511627776)) = true) : ∃ m, t166 m (a0, a1) = some ([.l (cf a0 a1)]) := by
 obtain ⟨h1, h2⟩ := of_decide_eq_true hc; clear hc; refine ⟨1152921504606846976 + a1.length + 2, ?_⟩; unfold t166 cf; dsimp only; rw [aQ h2]; cases hok : jr a1 with
 | false =>
  simp only [Bool.not_false, cond_true]; simp (disch := omega) only [TRa, TRi, aa]
 | true =>
  simp only [Bool.not_true, cond_false]; obtain ⟨hb, hs, hs2⟩ := jl hok; simp only [lt_eq]; rw [jV a0 0]; generalize hn : max a0 0 = a; have ha : 0 <= a := by omega
  have hr : oL a1 = true := rT.2 hb
  by_cases hge : a >= gn a1
  · simp only [show decide (a >= gn a1) = true by simpa using hge, cond_true]; simp (disch := omega) only [TRa, TRi, aa, Nat.zero_add]
  · simp only [show decide (a >= gn a1) = false by simpa using hge, cond_false]; obtain ⟨f1, f2, f3⟩ := wT (l := a1) ha (show a < gn a1 by omega) hb; have hlf : (br a (gn a1) a1).length = a1.length := by simp [br]
    have hlr : (gP a (gn a1) a1).length = a1.length := by simp [gP]
    have hne : a1 ≠ [] := by rintro rfl; simp at hs; omega
    have e1 := N6 (1152921504606846976 + a1.length + 2) (gP a (gn a1) a1) (br a (gn a1) a1) [] a (1152921504606846976 + a1.length + 2) (by omega) f1 (by omega) (by omega) (by simp; omega); have e2 := E9 (1152921504606846976 + a1.length + 2) _ (a - (br a (gn a1) a1).sum) (br a (gn a1) a1) (gP a (gn a1) a1) (1152921504606846976 + a1.length + 2) rfl (by omega) (by omega) (by omega) (by omega) (by omega)
     (by intro h; have := congrArg List.length h; rw [hlr] at this; exact hne (List.eq_nil_of_length_eq_zero this)) (fun x hx => by have := f1 x hx; omega)
    rw [hr, Bool.and_true]; simp (disch := omega) only [aQ]; exact e1.trans e2
theorem Gf : ER 166 (mkE Ec.en Ec.ex f166) := an ai DS.right (fun m => [Bj (pa m m)]) (t := t166) (by kernel_rfl) (fun m => (aE (Nn m m) az)) (fun m a => by kernel_rfl) fun (a0, a1) hc => H6 a0 a1 hc
def Gw : Tb Tryz.prog LQ TE := DS.add 166 _ Gf
end
end Go.Proofs.YtdbkoeefnodejaaGreat
namespace Go.Proofs.YtdbkoeefnodejaaGreat
noncomputable section
open Go Go.Proofs.YtdbkoeefnodejaaGreat.Ev
set_option maxRecDepth 20000
@[ext] structure aW where
 ax : Int
 fee : Int
 bt : Int
 aq : Int
 room : Int
instance : Uns aW := Uns.via (B := Int × Int × Int × Int × Int) (fun x => (x.ax, x.fee, x.bt, x.aq, x.room)) (fun x => match x with | (ax, fee, bt, aq, room) => ⟨ax, fee, bt, aq, room⟩) (fun _ => rfl)
def isN : Dat -> Bool
 | .n _ => true
 | .r _ => false
def ky (k : Nat) : Dat -> Bool
 | .r l => l.length == k && l.all isN
 | .n _ => false
theorem Bi : ∀ {d : Dat}, isN d = true -> d = .n d.int
 | .n _, _ => rfl
 | .r _, h => by cases h
theorem Bd {d : Dat} (h : ky 3 d = true) : d = .r [.n (d.i 0), .n (d.i 1), .n (d.i 2)] := by
 match d, h with
 | .r [a, b, c], h =>
  simp [ky] at h; obtain ⟨h1, h2, h3⟩ := h; show Dat.r [a, b, c] = .r [.n a.int, .n b.int, .n c.int]; rw [<- Bi h1, <- Bi h2, <- Bi h3]
 | .r [], h => simp [ky] at h
 | .r [a], h => simp [ky] at h
 | .r [a, b], h => simp [ky] at h
 | .r (a :: b :: c :: d :: l), h => simp [ky] at h
def jh (d : Dat) : Bool := ky 3 d && decide (0 <= d.i 1 /\ d.i 1 <= 1125899906842624 /\ 0 <= d.i 2 /\ d.i 2 <= 1125899906842624)
theorem bZ {d : Dat} (h : jh d = true) : ky 3 d = true /\ 0 <= d.i 1 /\ d.i 1 <= 1125899906842624 /\ 0 <= d.i 2 /\ d.i 2 <= 1125899906842624 := by
 simp only [jh, Bool.and_eq_true, decide_eq_true_eq] at h; exact h
def aM (c : List Dat) : Bool := decide (c.length <= 1000) && c.all jh
theorem bz {c : List Dat} (h : aM c = true) : c.length <= 1000 /\ ∀ d ∈ c, jh d = true := by
 simp only [aM, Bool.and_eq_true, decide_eq_true_eq, List.all_eq_true] at h; exact h
theorem tQ {c : List Dat} (h1 : c.length <= 1000) (h2 : ∀ d ∈ c, jh d = true) : aM c = true := by
 simp only [aM, Bool.and_eq_true, decide_eq_true_eq, List.all_eq_true]; exact ⟨h1, h2⟩
def bN (j : Nat) (x : Int) (d : Dat) : Dat := if j = 1 then .r [.n (d.i 0), .n (d.i 1 - x), .n (d.i 2)] else .r [.n (d.i 0), .n (d.i 1), .n (d.i 2 - x)]
def bB (j : Nat) : List Int -> List Dat -> List Dat
 | x :: xs, d :: c => bN j x d :: bB j xs c
 | _, _ => []
def bu (at_ kind : Int) : Int -> List Int -> List Dat
 | _, [] => []
 | i, x :: xs => (if 0 < x then [.r [.n at_, .n kind, .n i, .n x]] else []) ++ bu at_ kind (i + 1) xs
def jb (at_ kind n : Int) : List Dat := if 0 < n then [.r [.n at_, .n kind, .n (-1), .n n]] else []
def ar (sel : Dat -> Bool) (j : Nat) (n : Int) (c : List Dat) : List Int := cf n (c.map fun d => bif sel d then d.i j else 0)
def aF (r : Int) (d : Dat) : Bool := d.i 0 == r
def bl (at_ kind : Int) : Nat -> Int -> Int -> List Dat -> List Dat × List Dat × Int
 | 0, _, _, c => (c, [], 0)
 | k + 1, r, n, c =>
  ((bl at_ kind k (r + 1) (n - (ar (aF r) 1 n c).sum) (bB 1 (ar (aF r) 1 n c) c)).1,
   bu at_ kind 0 (ar (aF r) 1 n c) ++ (bl at_ kind k (r + 1) (n - (ar (aF r) 1 n c).sum) (bB 1 (ar (aF r) 1 n c) c)).2.1,
   (ar (aF r) 1 n c).sum + (bl at_ kind k (r + 1) (n - (ar (aF r) 1 n c).sum) (bB 1 (ar (aF r) 1 n c) c)).2.2)
def cS (at_ kind rank : Int) (x : aW) (c : List Dat) : aW × List Dat × List Dat :=
 if kind = 1 then ({ x with ax := x.ax - min x.fee x.ax, fee := x.fee - min x.fee x.ax }, c, jb at_ kind (min x.fee x.ax))
 else if kind = 2 then ({ x with ax := x.ax - min x.bt x.ax, bt := x.bt - min x.bt x.ax }, c, jb at_ kind (min x.bt x.ax))
 else if kind = 6 then ({ x with ax := x.ax - min x.room x.ax, room := x.room - min x.room x.ax }, c, jb at_ kind (min x.room x.ax))
 else if kind = 3 then ({ x with ax := x.ax - (ar (aF rank) 2 x.ax c).sum }, bB 2 (ar (aF rank) 2 x.ax c) c, bu at_ kind 0 (ar (aF rank) 2 x.ax c))
 else if kind = 4 then ({ x with ax := x.ax - (bl at_ kind 8 0 (min x.aq x.ax) c).2.2, aq := x.aq - (bl at_ kind 8 0 (min x.aq x.ax) c).2.2 }, (bl at_ kind 8 0 (min x.aq x.ax) c).1, (bl at_ kind 8 0 (min x.aq x.ax) c).2.1)
 else if kind = 5 then ({ x with ax := x.ax - (ar (fun _ => true) 1 (min x.aq x.ax) c).sum, aq := x.aq - (ar (fun _ => true) 1 (min x.aq x.ax) c).sum }, bB 1 (ar (fun _ => true) 1 (min x.aq x.ax) c) c, bu at_ kind 0 (ar (fun _ => true) 1 (min x.aq x.ax) c))
 else if kind = 7 then ({ x with ax := x.ax - (bl at_ kind 8 0 x.ax c).2.2 }, (bl at_ kind 8 0 x.ax c).1, (bl at_ kind 8 0 x.ax c).2.1)
 else (x, c, [])
def de : Int -> List Dat -> aW -> List Dat -> aW × List Dat × List Dat
 | _, [], x, c => (x, c, [])
 | at_, s :: l, x, c => ((de (at_ + 1) l (cS at_ (s.i 0) (s.i 1) x c).1 (cS at_ (s.i 0) (s.i 1) x c).2.1).1, (de (at_ + 1) l (cS at_ (s.i 0) (s.i 1) x c).1 (cS at_ (s.i 0) (s.i 1) x c).2.1).2.1, (cS at_ (s.i 0) (s.i 1) x c).2.2 ++ (de (at_ + 1) l (cS at_ (s.i 0) (s.i 1) x c).1 (cS at_ (s.i 0) (s.i 1) x c).2.1).2.2)
def mj (x : aW) : Bool := decide ((0 <= x.ax /\ x.ax <= 1152921504606846976) /\ (0 <= x.fee /\ x.fee <= 1152921504606846976) /\ (0 <= x.bt /\ x.bt <= 1152921504606846976) /\ (0 <= x.aq /\ x.aq <= 1152921504606846976) /\ (0 <= x.room /\ x.room <= 1152921504606846976))
theorem qG {x : aW} (h : mj x = true) : (0 <= x.ax /\ x.ax <= 1152921504606846976) /\ (0 <= x.fee /\ x.fee <= 1152921504606846976) /\ (0 <= x.bt /\ x.bt <= 1152921504606846976) /\ (0 <= x.aq /\ x.aq <= 1152921504606846976) /\ (0 <= x.room /\ x.room <= 1152921504606846976) := of_decide_eq_true h
def Cg (sel : Dat -> Bool) (j : Nat) (c : List Dat) : Int := (c.map fun d => bif sel d then d.i j else 0).sum
theorem kU {c : List Dat} (sel : Dat -> Bool) {j : Nat} (hj : j = 1 \/ j = 2) (h : aM c = true) : (∀ x ∈ (c.map fun d => bif sel d then d.i j else 0), 0 <= x /\ x <= 1125899906842624) /\ jr (c.map fun d => bif sel d then d.i j else 0) = true /\ 0 <= Cg sel j c /\ Cg sel j c <= 1125899906842624 * c.length := by
 obtain ⟨h1, h2⟩ := bz h; have hb : ∀ x ∈ (c.map fun d => bif sel d then d.i j else 0), 0 <= x /\ x <= 1125899906842624 := by
  intro x hx; obtain ⟨d, hd, rfl⟩ := List.mem_map.1 hx; have := bZ (h2 d hd); cases sel d
  · simp only [cond_false]; omega
  · rcases hj with rfl | rfl <;> simp only [cond_true] <;> omega
 have hl : (c.map fun d => bif sel d then d.i j else 0).length = c.length := by simp
 have hm : ((c.map fun d => bif sel d then d.i j else 0).length : Int) * 1125899906842624 <= 1152921504606846976 := by rw [hl]; omega
 have hs := o9 _ 1125899906842624 (by decide) hb; rw [hl] at hs; exact ⟨hb, (rG (by decide) hb hm).2, hs.1, by unfold Cg; omega⟩
theorem Ak {n : Int} {l : List Int} (h : n <= 0) : cf n l = cf 0 l := by
 unfold cf; rw [show max n 0 = max 0 0 by omega]
theorem dx {c : List Dat} (sel : Dat -> Bool) {j : Nat} (hj : j = 1 \/ j = 2) (n : Int) (h : aM c = true) : (ar sel j n c).length = c.length /\ (ar sel j n c).sum = min (max n 0) (Cg sel j c) /\ ∀ i, i < c.length -> 0 <= (ar sel j n c).getD i 0 /\ (ar sel j n c).getD i 0 <= bif sel (ah c i) then (ah c i).i j else 0 := by
 obtain ⟨hb, ho, hw0, hw1⟩ := kU sel hj h; have e : ar sel j n c = cf (max n 0) (c.map fun d => bif sel d then d.i j else 0) := by
  by_cases hn : 0 <= n
  · rw [show max n 0 = n by omega]; rfl
  · rw [show max n 0 = 0 by omega]; exact Ak (by omega)
 rw [e]; obtain ⟨h1, h2⟩ := zR (a := max n 0) (by omega) ho; refine ⟨by rw [sU]; simp, h1, fun i hi => ?_⟩; have := h2 i (by simpa using hi)
 rwa [show (c.map fun d => bif sel d then d.i j else 0).getD i 0 = bif sel (ah c i) then (ah c i).i j else 0 by simp [List.getD_eq_getElem?_getD, hi, ah]] at this
theorem k8 (j : Nat) : ∀ (xs : List Int) (c : List Dat), xs.length = c.length -> (bB j xs c).length = c.length
 | [], [], _ => rfl
 | x :: xs, d :: c, h => by simp [bB, k8 j xs c (by simpa using h)]
 | [], _ :: _, h => by simp at h
 | _ :: _, [], h => by simp at h
theorem kO (j : Nat) : ∀ (xs : List Int) (c : List Dat) (i : Nat), xs.length = c.length -> i < c.length -> ah (bB j xs c) i = bN j (xs.getD i 0) (ah c i)
 | [], [], i, _, h => by simp at h
 | x :: xs, d :: c, 0, _, _ => rfl
 | x :: xs, d :: c, i + 1, h, hi => kO j xs c i (by simpa using h) (by simpa using hi)
 | [], _ :: _, _, h, _ => by simp at h
 | _ :: _, [], _, h, _ => by simp at h
theorem nO {l : List Dat} {d : Dat} (h : d ∈ l) : ∃ i, i < l.length /\ ah l i = d := by
 obtain ⟨i, hi, rfl⟩ := List.getElem_of_mem h; exact ⟨i, hi, lC hi⟩
theorem lZ {l : List Dat} {i : Nat} (h : i < l.length) : ah l i ∈ l := by rw [lC h]; exact List.getElem_mem h
theorem Aw {d : Dat} {j : Nat} {x : Int} (hj : j = 1 \/ j = 2) (h : jh d = true) (h0 : 0 <= x) (h1 : x <= d.i j) : jh (bN j x d) = true := by
 have := bZ h; rcases hj with rfl | rfl
 · simp only [bN, if_true, jh, Bool.and_eq_true, decide_eq_true_eq, dM, gU]; exact ⟨rfl, by omega⟩
 · simp only [bN, show ¬ (2 : Nat) = 1 by decide, if_false, jh, Bool.and_eq_true, decide_eq_true_eq, dM, gU]; exact ⟨rfl, by omega⟩
theorem oe {c : List Dat} (sel : Dat -> Bool) {j : Nat} (hj : j = 1 \/ j = 2) (n : Int) (h : aM c = true) : aM (bB j (ar sel j n c) c) = true /\ (bB j (ar sel j n c) c).length = c.length := by
 obtain ⟨l1, l2, l3⟩ := dx sel hj n h; obtain ⟨h1, h2⟩ := bz h; have hl := k8 j _ c l1; refine ⟨tQ (by omega) fun d hd => ?_, hl⟩; obtain ⟨i, hi, rfl⟩ := nO hd; rw [hl] at hi; rw [kO j _ c i l1 hi]; have := l3 i hi; have hg := h2 _ (lZ hi); refine Aw hj hg this.1 ?_
 have h4 := bZ hg; cases hs : sel (ah c i) <;> rw [hs] at this
 · rcases hj with rfl | rfl <;> simp only [cond_false] at this <;> omega
 · exact this.2
theorem iA (a k : Int) : ∀ (xs : List Int) (i : Int), (bu a k i xs).length <= xs.length
 | [], i => by simp [bu]
 | x :: xs, i => by
  have := iA a k xs (i + 1); simp only [bu, List.length_append, List.length_cons]
  split <;> simp <;> omega
theorem BH (a k n : Int) : (jb a k n).length <= 1 := by unfold jb; split <;> simp
theorem ta (a kd : Int) : ∀ (k : Nat) (r n : Int) (c : List Dat), aM c = true -> aM (bl a kd k r n c).1 = true /\ (bl a kd k r n c).1.length = c.length /\ (bl a kd k r n c).2.1.length <= k * c.length /\ 0 <= (bl a kd k r n c).2.2 /\ (bl a kd k r n c).2.2 <= max n 0
 | 0, r, n, c, h => ⟨h, rfl, by simp [bl], by simp [bl], by simp only [bl]; omega⟩
 | k + 1, r, n, c, h => by
  obtain ⟨g1, g2⟩ := oe (aF r) (j := 1) (.inl rfl) n h; obtain ⟨l1, l2, l3⟩ := dx (aF r) (j := 1) (.inl rfl) n h; obtain ⟨_, _, w0, w1⟩ := kU (aF r) (j := 1) (.inl rfl) h; obtain ⟨i1, i2, i3, i4, i5⟩ := ta a kd k (r + 1) (n - (ar (aF r) 1 n c).sum) _ g1; have hp := iA a kd (ar (aF r) 1 n c) 0; simp only [bl]; refine ⟨i1, by omega, ?_, by omega, by omega⟩; rw [List.length_append, Nat.add_mul]; rw [g2] at i3; omega
theorem tt (a kd rk : Int) {x : aW} {c : List Dat} (hx : mj x = true) (h : aM c = true) : mj (cS a kd rk x c).1 = true /\ aM (cS a kd rk x c).2.1 = true /\ (cS a kd rk x c).2.1.length = c.length /\ (cS a kd rk x c).2.2.length <= 8000 := by
 have hx' := qG hx; have hc := (bz h).1; have p1 := BH a kd; have s2 := fun sel j hj n => dx (c := c) sel (j := j) hj n h
 have w2 := fun sel j hj => (kU (c := c) sel (j := j) hj h).2.2
 have g2 := fun sel j hj n => oe (c := c) sel (j := j) hj n h
 have r2 := fun n => ta a kd 8 0 n c h
 unfold cS
 by_cases k1 : kd = 1
 · rw [if_pos k1]; exact ⟨decide_eq_true (by simp only; omega), h, rfl, by have := p1 (min x.fee x.ax); simp only; omega⟩
 rw [if_neg k1]
 by_cases k1 : kd = 2
 · rw [if_pos k1]; exact ⟨decide_eq_true (by simp only; omega), h, rfl, by have := p1 (min x.bt x.ax); simp only; omega⟩
 rw [if_neg k1]
 by_cases k1 : kd = 6
 · rw [if_pos k1]; exact ⟨decide_eq_true (by simp only; omega), h, rfl, by have := p1 (min x.room x.ax); simp only; omega⟩
 rw [if_neg k1]
 by_cases k1 : kd = 3
 · rw [if_pos k1]; have q1 := s2 (aF rk) 2 (.inr rfl) x.ax; have q2 := w2 (aF rk) 2 (.inr rfl); have q3 := g2 (aF rk) 2 (.inr rfl) x.ax; have q4 := iA a kd (ar (aF rk) 2 x.ax c) 0; exact ⟨decide_eq_true (by simp only; omega), q3.1, q3.2, by simp only; omega⟩
 rw [if_neg k1]
 by_cases k1 : kd = 4
 · rw [if_pos k1]; have q := r2 (min x.aq x.ax); generalize bl a kd 8 0 (min x.aq x.ax) c = y at *
   exact ⟨decide_eq_true (by simp only; omega), q.1, q.2.1, by simp only; omega⟩
 rw [if_neg k1]
 by_cases k1 : kd = 5
 · rw [if_pos k1]; have q1 := s2 (fun _ => true) 1 (.inl rfl) (min x.aq x.ax); have q2 := w2 (fun _ => true) 1 (.inl rfl); have q3 := g2 (fun _ => true) 1 (.inl rfl) (min x.aq x.ax); have q4 := iA a kd (ar (fun _ => true) 1 (min x.aq x.ax) c) 0; exact ⟨decide_eq_true (by simp only; omega), q3.1, q3.2, by simp only; omega⟩
 rw [if_neg k1]
 by_cases k1 : kd = 7
 · rw [if_pos k1]; have q := r2 x.ax; generalize bl a kd 8 0 x.ax c = y at *
   exact ⟨decide_eq_true (by simp only; omega), q.1, q.2.1, by simp only; omega⟩
 rw [if_neg k1]; exact ⟨hx, h, rfl, by simp⟩
theorem Ck : ∀ (l : List Dat) (a : Int) (x : aW) (c : List Dat), mj x = true -> aM c = true -> mj (de a l x c).1 = true /\ aM (de a l x c).2.1 = true /\ (de a l x c).2.1.length = c.length /\ (de a l x c).2.2.length <= 8000 * l.length
 | [], a, x, c, hx, h => ⟨hx, h, rfl, by simp [de]⟩
 | s :: l, a, x, c, hx, h => by
  obtain ⟨h1, h2, h3, h4⟩ := tt a (s.i 0) (s.i 1) hx h; obtain ⟨i1, i2, i3, i4⟩ := Ck l (a + 1) _ _ h1 h2; simp only [de, List.length_append, List.length_cons]; exact ⟨i1, i2, by omega, by omega⟩
def fM (sel : Dat -> Bool) : Int -> List Dat -> List Int
 | _, [] => []
 | i, d :: c => bif sel d then i :: fM sel (i + 1) c else fM sel (i + 1) c
def cL (sel : Dat -> Bool) (j : Nat) : List Dat -> List Int
 | [] => []
 | d :: c => bif sel d then d.i j :: cL sel j c else cL sel j c
def jx (j : Nat) : List Int -> List Int -> List Dat -> List Dat
 | w :: ws, x :: xs, c => jx j ws xs (c.set w.toNat (bN j x (ah c w.toNat)))
 | _, _, c => c
def qB (at_ kind : Int) : List Int -> List Int -> List Dat
 | w :: ws, x :: xs => (if 0 < x then [.r [.n at_, .n kind, .n w, .n x]] else []) ++ qB at_ kind ws xs
 | _, _ => []
theorem DQ {j : Nat} {d : Dat} (h : ky 3 d = true) : bN j 0 d = d := by
 have e := Bd h; unfold bN; rw [Int.sub_zero, Int.sub_zero, <- e]
 split <;> rfl
theorem l7 (sel : Dat -> Bool) (j : Nat) : ∀ (rest pre : List Dat) (xs : List Int), xs.length = bq (rest.map sel) -> (∀ d ∈ rest, ky 3 d = true) ->
 jx j (fM sel pre.length rest) xs (pre ++ rest) = pre ++ bB j (bp (rest.map sel) xs) rest
 | [], pre, xs, h, _ => by rw [List.eq_nil_of_length_eq_zero h]; simp [fM, jx, bB, bp]
 | d :: rest, pre, xs, h, hr => by
  have ih := fun xs h y => l7 sel j rest (pre ++ [y]) xs h (fun z hz => hr z (by simp [hz]))
  simp only [List.length_append, List.length_cons, List.length_nil, List.append_assoc, List.cons_append, List.nil_append, Int.natCast_add, Int.cast_ofNat_Int, Nat.zero_add] at ih; simp only [List.map_cons] at h; cases hs : sel d
  · rw [hs] at h; simp only [fM, hs, cond_false, List.map_cons, bp, bB]; rw [DQ (hr d (by simp)), <- ih xs h d]
  · rw [hs] at h; cases xs with
    | nil => simp [bq] at h
    | cons x xs =>
     simp only [fM, hs, cond_true, List.map_cons, bp, bB, jx, Int.toNat_natCast, CA, ao, List.headD_cons, List.tail_cons]; exact ih xs (by simpa [bq] using h) _
theorem ot (a k : Int) (sel : Dat -> Bool) : ∀ (rest : List Dat) (i : Int) (xs : List Int), xs.length = bq (rest.map sel) -> qB a k (fM sel i rest) xs = bu a k i (bp (rest.map sel) xs)
 | [], i, xs, h => by rw [List.eq_nil_of_length_eq_zero h]; rfl
 | d :: rest, i, xs, h => by
  have ih := fun xs h => ot a k sel rest (i + 1) xs h
  simp only [List.map_cons] at h; cases hs : sel d
  · rw [hs] at h; simp only [fM, hs, cond_false, List.map_cons, bp, bu]; rw [ih xs h]; rfl
  · rw [hs] at h; cases xs with
    | nil => simp [bq] at h
    | cons x xs =>
     simp only [fM, hs, cond_true, List.map_cons, bp, bu, qB, List.headD_cons, List.tail_cons]; rw [ih xs (by simpa [bq] using h)]
theorem wc (sel : Dat -> Bool) (j : Nat) : ∀ c : List Dat, (c.map fun d => bif sel d then d.i j else 0) = bp (c.map sel) (cL sel j c)
 | [] => rfl
 | d :: c => by
  have := wc sel j c; simp only [List.map_cons, cL]; cases hs : sel d <;> simp [bp, this]
theorem uE (sel : Dat -> Bool) (j : Nat) : ∀ c : List Dat, (cL sel j c).length = bq (c.map sel)
 | [] => rfl
 | d :: c => by
  have := uE sel j c; cases hs : sel d <;> simp [cL, hs, bq, this]
theorem nK (sel : Dat -> Bool) : ∀ (c : List Dat) (i : Int), (fM sel i c).length = bq (c.map sel)
 | [], _ => rfl
 | d :: c, i => by
  have := nK sel c (i + 1); cases hs : sel d <;> simp [fM, hs, bq, this]
theorem jz : ∀ ms : List Bool, bq ms <= ms.length
 | [] => Nat.le_refl _
 | false :: ms => by have := jz ms; simp [bq]; omega
 | true :: ms => by have := jz ms; simp [bq]; omega
theorem nr (sel : Dat -> Bool) : ∀ (c : List Dat) (i : Int), ∀ w ∈ fM sel i c, i <= w /\ w < i + c.length
 | [], i, w, h => by simp [fM] at h
 | d :: c, i, w, h => by
  have ih := nr sel c (i + 1) w; simp only [List.length_cons, Int.natCast_add]; cases hs : sel d <;> simp only [fM, hs, cond_false, cond_true, List.mem_cons] at h
  · have := ih h; omega
  · rcases h with h | h
    · omega
    · have := ih h; omega
theorem nh (sel : Dat -> Bool) (j : Nat) : ∀ c : List Dat, ∀ x ∈ cL sel j c, ∃ d ∈ c, x = d.i j
 | [], x, h => by simp [cL] at h
 | d :: c, x, h => by
  cases hs : sel d <;> simp only [cL, hs, cond_false, cond_true, List.mem_cons] at h
  · obtain ⟨e, h1, h2⟩ := nh sel j c x h; exact ⟨e, by simp [h1], h2⟩
  · rcases h with h | h
    · exact ⟨d, by simp, h⟩
    · obtain ⟨e, h1, h2⟩ := nh sel j c x h; exact ⟨e, by simp [h1], h2⟩
theorem iM (sel : Dat -> Bool) {j : Nat} (hj : j = 1 \/ j = 2) (n : Int) {c : List Dat} (h : aM c = true) : ar sel j n c = bp (c.map sel) (cf n (cL sel j c)) := by
 obtain ⟨h1, h2⟩ := bz h; unfold ar; rw [wc]; refine D5 (c.map sel) n (cL sel j c) (uE sel j c) 1125899906842624 (by decide) (fun x hx => ?_) (by simp; omega); obtain ⟨d, hd, rfl⟩ := nh sel j c x hx; have := bZ (h2 d hd); rcases hj with rfl | rfl <;> omega
theorem si (sel : Dat -> Bool) {j : Nat} (hj : j = 1 \/ j = 2) (n : Int) {c : List Dat} (h : aM c = true) : (cf n (cL sel j c)).length = bq (c.map sel) /\ (∀ x ∈ cf n (cL sel j c), 0 <= x /\ x <= 1125899906842624) /\ 0 <= (cf n (cL sel j c)).sum /\ (cf n (cL sel j c)).sum <= 1125899906842624000 /\ (cf n (cL sel j c)).sum = (ar sel j n c).sum := by
 obtain ⟨h1, h2⟩ := bz h; have hb : ∀ x ∈ cL sel j c, 0 <= x /\ x <= 1125899906842624 := fun x hx => by
  obtain ⟨d, hd, rfl⟩ := nh sel j c x hx; have := bZ (h2 d hd); rcases hj with rfl | rfl <;> omega
 have hl := uE sel j c; have ht := jz (c.map sel); rw [List.length_map] at ht; have hok := (rG (l := cL sel j c) (b := 1125899906842624) (by decide) hb (by omega)).2; have e : cf n (cL sel j c) = cf (max n 0) (cL sel j c) := by
  by_cases hn : 0 <= n
  · rw [show max n 0 = n by omega]
  · rw [show max n 0 = 0 by omega]; exact Ak (by omega)
 obtain ⟨p1, p2⟩ := zR (a := max n 0) (by omega) hok; have hm : ∀ x ∈ cf n (cL sel j c), 0 <= x /\ x <= 1125899906842624 := by
  intro x hx; obtain ⟨i, hi, rfl⟩ := oi hx; rw [sU] at hi; rw [e]; have := p2 i hi; have := hb _ (iu hi); omega
 have hlen : (cf n (cL sel j c)).length = bq (c.map sel) := by rw [sU, hl]
 have hs := o9 _ _ (by decide) hm; rw [hlen] at hs; refine ⟨hlen, hm, hs.1, by omega, ?_⟩; rw [iM sel hj n h, kV _ _ hlen]
def HL : aA := ⟨Gw.tab, 136, ⟨[.ptr 0 0 0, .int .i64, .fn 167 [] [.ptr 3 0 0], .fn 138 [] []], [.cells [.int .i64, .int .i64, .int .i64, .int .i64, .int .i64, .buf 1 3, .int .i64, .int .i64, .buf 2 4], .af (sI 3), .af (sI 4), .cells [.int .i64]], 0⟩, ⟨[.int .i64], [.cells [.int .i64, .int .i64, .int .i64, .int .i64, .int .i64, .buf 1 3, .int .i64, .int .i64, .buf 4 4], .af (sI 3), .gone, .gone, .af (sI 4)], 0⟩, []⟩
abbrev xJ : Type := Int × Int × Int × aW × Int × Int × List Dat × List Int × List Int × List Dat
abbrev wY : Type := Int × Int × Int × aW × Int × Int × List Dat × Int × List Int × List Int × List Dat
def rj (m : Nat) (k : xJ -> Option (List Un)) : xJ -> Option (List Un) := fun (a0, a1, a2, a3, a4, a5, a6, a7, a8, a9) =>
 bif decide (a2 < a1) then
 chk (inb a2 a8.length) <|
 chk (decide (a2.toNat < a8.length)) <|
 chk (inb a2 a7.length) <|
 chk (decide (a2.toNat < a7.length)) <|
 chk (inb (a7.getD a2.toNat 0) a6.length) <|
 chk (decide ((a7.getD a2.toNat 0).toNat < a6.length)) <|
 chk (decide ((a7.getD a2.toNat 0).toNat < a6.length)) <|
 lt (ah a6 ((a7.getD a2.toNat 0).toNat) : Dat) fun d4 =>
 lt ((List.set a6 ((a7.getD a2.toNat 0).toNat) (.r [.n (d4.i 0), .n (d4.i 1), .n (w64 (((ah a6 ((a7.getD a2.toNat 0).toNat)).i 2) - (a8.getD a2.toNat 0)))])) : List Dat) fun l5 =>
 lt ((w64 (a0 + (a8.getD a2.toNat 0))) : Int) fun x6 =>
 chk (inb a2 a7.length) <|
 chk (decide (a2.toNat < a7.length)) <|
 bif (decide ((a8.getD a2.toNat 0) > 0)) then
 chk (fits (a9.length + 1) 32) <|
 k (x6, a1, (w64 (a2 + 1)), a3, a4, a5, l5, a7, a8, (a9 ++ ([.r [.n a4, .n a5, .n (a7.getD a2.toNat 0), .n (a8.getD a2.toNat 0)]])))
 else
 k (x6, a1, (w64 (a2 + 1)), a3, a4, a5, l5, a7, a8, a9)
 else
 some ([.i a0] ++ Uns.enc (({ a3 with ax := (w64 (a3.ax - a0)) } : aW) : aW) ++ [.i a4, .i a5, .d a6, .d a9])
def m5 (m : Nat) : Nat -> xJ -> Option (List Un) := bc (rj m)
theorem qv (m : Nat) (n : Nat) : m5 m (n + 1) = rj m (m5 m n) := rfl
def BI (F : xJ -> Option (List Un)) : aP := ⟨[.lp [0, 1, 0, 1, 1, 1, 1], .blk 2, .code [1, 1, 1, 1, 1]], ⟨frm 88 [(0, .ptr 0 0 0), (3, .fn 138 [] []), (9, .buf 4 1), (13, .int .i64), (44, .buf 5 1), (45, .int .i64), (46, .int .i64)], [.cells [.int .i64, .int .i64, .int .i64, .int .i64, .int .i64, .buf 1 3, .int .i64, .int .i64, .buf 6 4], .af (sI 3), .gone, .gone, .ints .i64, .ints .i64, .af (sI 4)], 0⟩, onU F⟩
def qK (m : Nat) (k : wY -> Option (List Un)) : wY -> Option (List Un) := fun (a0, a1, a2, a3, a4, a5, a6, a7, a8, a9, a10) =>
 bif decide (a2 < a1) then
 chk (inb a2 a6.length) <|
 chk (decide (a2.toNat < a6.length)) <|
 lt (ah a6 a2.toNat : Dat) fun d1 =>
 bif (d1.i 0) == a7 then
 chk (fits (a8.length + 1) 8) <|
 chk (fits (a9.length + 1) 8) <|
 k (a0, a1, (w64 (a2 + 1)), a3, a4, a5, a6, a7, (a8 ++ ([a2])), (a9 ++ ([(d1.i 2)])), a10)
 else
 k (a0, a1, (w64 (a2 + 1)), a3, a4, a5, a6, a7, a8, a9, a10)
 else
 chk (decide (a0 <= 9223372036854775807 /\ a9.length < 1099511627776)) <|
 m5 m m (0, ((cf a0 a9).length : Int), 0, a3, a4, a5, a6, a8, (cf a0 a9), a10)
def oN (m : Nat) : Nat -> wY -> Option (List Un) := bc (qK m)
theorem qn (m : Nat) (n : Nat) : oN m (n + 1) = qK m (oN m n) := rfl
def Bq (F : wY -> Option (List Un)) : aP := ⟨[.lp [0, 1, 0, 1, 1], .blk 0, .code [1, 1, 1]], ⟨frm 88 [(0, .ptr 0 0 0), (1, .int .i64), (2, .fn 167 [] [.ptr 4 0 0]), (3, .fn 138 [] []), (9, .buf 5 1), (10, .buf 6 1), (20, .buf 1 3), (21, .int .i64), (22, .int .i64)], [.cells [.int .i64, .int .i64, .int .i64, .int .i64, .int .i64, .buf 1 3, .int .i64, .int .i64, .buf 7 4], .af (sI 3), .gone, .gone, .cells [.int .i64], .ints .i64, .ints .i64, .af (sI 4)], 0⟩, onU F⟩
theorem Mf (m : Nat) : ∀ n, HO HL (BI (m5 m n)) := aw ai Gw.right (fun k => [BI k]) (fun k h => (aE h az)) fun k a => by kernel_rfl
theorem KU (m : Nat) : ∀ n, HO HL (Bq (oN m n)) := aw ai Gw.right (fun k => [Bq k, BI (m5 m m)]) (fun k h => (aE h (aE (Mf m m) az))) fun k a => by kernel_rfl
def Lp (m : Nat) : Int × aW × Int × Int × List Dat × List Dat × Int -> Option (List Un) := fun (a0, a1, a2, a3, a4, a5, a6) =>
 oN m m (a0, (a4.length : Int), 0, a1, a2, a3, a4, a6, [], [], a5)
theorem Kk (m : Nat) (nn : Int) (hnn : nn <= 9223372036854775807) (y : aW) (q kd : Int) (rk : Int) (out : List Dat) : ∀ (rest pre : List Dat) (n : Nat) (who what : List Int), rest.length < n -> (pre ++ rest).length <= 1000 -> who.length <= pre.length -> what.length <= pre.length ->
 oN m n (nn, ((pre ++ rest).length : Int), (pre.length : Int), y, q, kd, pre ++ rest, rk, who, what, out) =
  m5 m m (0, ((cf nn (what ++ cL (aF rk) 2 rest)).length : Int), 0, y, q, kd, pre ++ rest, who ++ fM (aF rk) pre.length rest, cf nn (what ++ cL (aF rk) 2 rest), out) := by
 intro rest
 induction rest with
 | nil =>
  intro pre n who what hn hl h1 h2; obtain ⟨n, rfl⟩ := ak n (by simp at hn; omega); rw [qn]; unfold qK; dsimp only; simp only [List.append_nil, fM, cL] at hl ⊢; rw [aB (by omega), aQ ⟨hnn, by omega⟩]
 | cons x rest ih =>
  intro pre n who what hn hl h1 h2; obtain ⟨n, rfl⟩ := ak n (by simp at hn; omega); simp only [List.length_append, List.length_cons] at hl hn; rw [qn]; unfold qK; dsimp only; simp only [lt_eq]
  by_cases hs : x.i 0 = rk
  · have := ih (pre ++ [x]) n (who ++ [(pre.length : Int)]) (what ++ [x.i 2]) (by omega) (by simp; omega) (by simp; omega) (by simp; omega); simp only [fM, cL, aF, Et hs, cond_true] at this ⊢; simp (disch := omega) only [TRa, TRi, aa, LNl, LNi, Int.cast_ofNat_Int, ao, bV]; simp only [LNl, LNi, Int.cast_ofNat_Int] at this ⊢; exact this
  · have := ih (pre ++ [x]) n who what (by omega) (by simp; omega) (by simp; omega) (by simp; omega); simp only [fM, cL, aF, nf hs, cond_false] at this ⊢; simp (disch := omega) only [TRa, TRi, aa, LNl, LNi, Int.cast_ofNat_Int, ao, bV]; simp only [LNl, LNi, Int.cast_ofNat_Int] at this ⊢; exact this
theorem J1 (m : Nat) (y : aW) (hy : 0 <= y.ax /\ y.ax <= 1152921504606846976) (q kd : Int) : ∀ (rest done ws wd : List Int) (c out : List Dat) (n : Nat) (paid : Int), rest.length < n -> ws.length = rest.length -> wd.length = done.length -> (done ++ rest).length <= 1000 -> (∀ w ∈ ws, 0 <= w /\ w < c.length) -> (∀ x ∈ rest, 0 <= x /\ x <= 1152921504606846976) -> 0 <= paid -> paid + rest.sum <= 1152921504606846976 -> (∀ i, i < c.length -> - paid <= (ah c i).i 2 /\ (ah c i).i 2 <= 1152921504606846976) -> c.length <= 1000 -> out.length + rest.length <= 137438953472 ->
 m5 m n (paid, ((done ++ rest).length : Int), (done.length : Int), y, q, kd, c, wd ++ ws, done ++ rest, out) =
  some ([.i (paid + rest.sum)] ++ Uns.enc (({ y with ax := y.ax - (paid + rest.sum) } : aW) : aW) ++ [.i q, .i kd, .d (jx 2 ws rest c), .d (out ++ qB q kd ws rest)]) := by
 intro rest
 induction rest with
 | nil =>
  intro done ws wd c out n paid hn e1 e2 hl hw hx p0 p1 hc cl ol; obtain ⟨n, rfl⟩ := ak n (by simp at hn; omega); obtain rfl := List.eq_nil_of_length_eq_zero e1; rw [qv]; unfold rj; dsimp only; simp only [List.append_nil, jx, qB, List.sum_nil, Int.add_zero] at p1 ⊢; rw [aB (by omega), aa (by omega) (by omega)]
 | cons x rest ih =>
  intro done ws wd c out n paid hn e1 e2 hl hw hx p0 p1 hc cl ol; obtain ⟨n, rfl⟩ := ak n (by simp at hn; omega); cases ws with
  | nil => simp at e1
  | cons w ws =>
  simp only [List.length_append, List.length_cons, List.sum_cons] at hl hn e1 p1 ol; have hx0 := hx x (by simp); have hw0 := hw w (by simp); have hs0 := dw rest (fun z hz => (hx z (by simp [hz])).1); obtain ⟨v, rfl⟩ : ∃ v : Nat, w = (v : Int) := ⟨w.toNat, by omega⟩
  have hr := hc v (by omega); have gw : (wd ++ (v : Int) :: ws).getD done.length 0 = v := by rw [<- e2]; exact bV _ _ _ _
  have hset : ∀ i, i < (c.set v (bN 2 x (ah c v))).length -> - (paid + x) <= (ah (c.set v (bN 2 x (ah c v))) i).i 2 /\ (ah (c.set v (bN 2 x (ah c v))) i).i 2 <= 1152921504606846976 := by
   intro i hi; rw [List.length_set] at hi
   by_cases e : i = v
   · subst e; have e3 : ah (c.set i (bN 2 x (ah c i))) i = bN 2 x (ah c i) := by simp [ah, hi]
     rw [e3]; simp only [bN, show ¬ (2 : Nat) = 1 by decide, if_false, gU]; omega
   · have e3 : ah (c.set v (bN 2 x (ah c v))) i = ah c i := by simp [ah, List.getElem?_set, Ne.symm e]
     rw [e3]; have := hc i hi; omega
  have := ih (done ++ [x]) ws (wd ++ [(v : Int)]) (c.set v (bN 2 x (ah c v))) (out ++ if 0 < x then [.r [.n q, .n kd, .n v, .n x]] else []) n (paid + x) (by omega) (by omega) (by simp [e2]) (by simp; omega) (fun z hz => by have := hw z (by simp [hz]); simpa using this) (fun z hz => hx z (by simp [hz])) (by omega) (by omega) hset (by simpa using cl) (by split <;> simp <;> omega); simp only [jx, qB, List.sum_cons, Int.toNat_natCast]; rw [show paid + (x + rest.sum) = paid + x + rest.sum by omega]; rw [<- List.append_assoc, <- this]; rw [qv]; unfold rj; dsimp only; have ec : done ++ [x] ++ rest = done ++ x :: rest := by simp
  have ew : wd ++ [(v : Int)] ++ ws = wd ++ (v : Int) :: ws := by simp
  rw [ec, ew]; have e5 : (bN 2 x (ah c v)) = Dat.r [.n ((ah c v).i 0), .n ((ah c v).i 1), .n ((ah c v).i 2 - x)] := by simp only [bN, show ¬ (2 : Nat) = 1 by decide, if_false]
  rw [e5]; simp only [lt_eq, Int.toNat_natCast, gw, bV, List.length_append, List.length_cons, List.length_nil, Nat.zero_add, Int.natCast_add, Int.cast_ofNat_Int]
  by_cases h0 : 0 < x
  · rw [if_pos h0]; simp (disch := omega) only [TRa, TRi, aa, Int.natCast_add]
  · rw [if_neg h0]; simp (disch := omega) only [TRa, TRi, aa, Int.natCast_add, List.append_nil]
def PN : Int × aW × Int × Int × List Dat × List Dat × Int -> Bool × List Un := fun (a0, a1, a2, a3, a4, a5, a6) => (decide (a0 <= 9223372036854775807 /\ 0 <= a1.ax /\ a1.ax <= 1152921504606846976 /\ a5.length <= 68719476736) && aM a4, [.i ((ar (aF a6) 2 a0 a4).sum)] ++ Uns.enc (({ a1 with ax := a1.ax - (ar (aF a6) 2 a0 a4).sum }) : aW) ++ [.i (a2), .i (a3), .d (bB 2 (ar (aF a6) 2 a0 a4) a4), .d (a5 ++ bu a2 a3 0 (ar (aF a6) 2 a0 a4))])
theorem IL (a0 : Int) (a1 : aW) (a2 : Int) (a3 : Int) (a4 : List Dat) (a5 : List Dat) (a6 : Int) (hc : (decide (a0 <= 9223372036854775807 /\ 0 <= a1.ax /\ a1.ax <= 1152921504606846976 /\ a5.length <= 68719476736) && aM a4) = true) : ∃ m, Lp m (a0, a1, a2, a3, a4, a5, a6) = some ([.i ((ar (aF a6) 2 a0 a4).sum)] ++ Uns.enc (({ a1 with ax := a1.ax - (ar (aF a6) 2 a0 a4).sum }) : aW) ++ [.i (a2), .i (a3), .d (bB 2 (ar (aF a6) 2 a0 a4) a4), .d (a5 ++ bu a2 a3 0 (ar (aF a6) 2 a0 a4))]) := by
 simp only [Bool.and_eq_true, decide_eq_true_eq] at hc; obtain ⟨⟨h1, h2, h3, h4⟩, h5⟩ := hc; obtain ⟨c1, c2⟩ := bz h5; obtain ⟨p1, p2, p3, p4, p5⟩ := si (aF a6) (j := 2) (.inr rfl) a0 h5; refine ⟨2000, ?_⟩; unfold Lp; refine (Kk 2000 a0 h1 a1 a2 a3 a6 a5 a4 [] 2000 [] [] (by omega) (by simpa using c1) (by simp) (by simp)).trans ?_
 simp only [List.nil_append, List.length_nil]; have ht := jz (a4.map (aF a6)); rw [List.length_map] at ht; have e := J1 2000 a1 ⟨h2, h3⟩ a2 a3 (cf a0 (cL (aF a6) 2 a4)) [] (fM (aF a6) 0 a4) [] a4 a5 2000 0 (by omega) (by rw [p1, nK]) rfl (by simp; omega) (fun w hw => by have := nr _ _ _ w hw; omega) (fun x hx => by have := p2 x hx; omega) (by omega) (by omega) (fun i hi => by have := bZ (c2 _ (lZ hi)); omega) c1 (by omega); refine e.trans ?_
 have g1 := l7 (aF a6) 2 a4 [] (cf a0 (cL (aF a6) 2 a4)) p1 (fun d hd => (bZ (c2 d hd)).1); have g2 := ot a2 a3 (aF a6) a4 0 (cf a0 (cL (aF a6) 2 a4)) p1; simp only [List.nil_append, List.length_nil, Int.cast_ofNat_Int] at g1 g2; rw [g1, g2, Int.zero_add, p5, iM (aF a6) (j := 2) (.inr rfl) a0 h5]
theorem Gk : ER 136 (mkE HL.en HL.ex PN) := an ai Gw.right (fun m => [Bq (oN m m)]) (t := Lp) (by kernel_rfl) (fun m => (aE (KU m m) az)) (fun m a => by kernel_rfl) fun (a0, a1, a2, a3, a4, a5, a6) hc => IL a0 a1 a2 a3 a4 a5 a6 hc
def GS : Tb Tryz.prog LQ TE := Gw.add 136 _ Gk
def IF : aA := ⟨GS.tab, 136, ⟨[.ptr 0 0 0, .int .i64, .fn 167 [] [.ptr 3 0 0], .fn 141 [] []], [.cells [.int .i64, .int .i64, .int .i64, .int .i64, .int .i64, .buf 1 3, .int .i64, .int .i64, .buf 2 4], .af (sI 3), .af (sI 4), .cells [.int .i64]], 0⟩, ⟨[.int .i64], [.cells [.int .i64, .int .i64, .int .i64, .int .i64, .int .i64, .buf 1 3, .int .i64, .int .i64, .buf 4 4], .af (sI 3), .gone, .gone, .af (sI 4)], 0⟩, []⟩
abbrev wB : Type := Int × Int × Int × aW × Int × Int × List Dat × List Int × List Int × List Dat
abbrev yd : Type := Int × Int × Int × aW × Int × Int × List Dat × Int × List Int × List Int × List Dat
def qI (m : Nat) (k : wB -> Option (List Un)) : wB -> Option (List Un) := fun (a0, a1, a2, a3, a4, a5, a6, a7, a8, a9) =>
 bif decide (a2 < a1) then
 chk (inb a2 a8.length) <|
 chk (decide (a2.toNat < a8.length)) <|
 chk (inb a2 a7.length) <|
 chk (decide (a2.toNat < a7.length)) <|
 chk (inb (a7.getD a2.toNat 0) a6.length) <|
 chk (decide ((a7.getD a2.toNat 0).toNat < a6.length)) <|
 chk (decide ((a7.getD a2.toNat 0).toNat < a6.length)) <|
 lt (ah a6 ((a7.getD a2.toNat 0).toNat) : Dat) fun d4 =>
 lt ((List.set a6 ((a7.getD a2.toNat 0).toNat) (.r [.n (d4.i 0), .n (w64 (((ah a6 ((a7.getD a2.toNat 0).toNat)).i 1) - (a8.getD a2.toNat 0))), .n (d4.i 2)])) : List Dat) fun l5 =>
 lt ((w64 (a0 + (a8.getD a2.toNat 0))) : Int) fun x6 =>
 chk (inb a2 a7.length) <|
 chk (decide (a2.toNat < a7.length)) <|
 bif (decide ((a8.getD a2.toNat 0) > 0)) then
 chk (fits (a9.length + 1) 32) <|
 k (x6, a1, (w64 (a2 + 1)), a3, a4, a5, l5, a7, a8, (a9 ++ ([.r [.n a4, .n a5, .n (a7.getD a2.toNat 0), .n (a8.getD a2.toNat 0)]])))
 else
 k (x6, a1, (w64 (a2 + 1)), a3, a4, a5, l5, a7, a8, a9)
 else
 some ([.i a0] ++ Uns.enc (({ a3 with ax := (w64 (a3.ax - a0)) } : aW) : aW) ++ [.i a4, .i a5, .d a6, .d a9])
def mO (m : Nat) : Nat -> wB -> Option (List Un) := bc (qI m)
theorem qk (m : Nat) (n : Nat) : mO m (n + 1) = qI m (mO m n) := rfl
def Bu (F : wB -> Option (List Un)) : aP := ⟨[.lp [0, 1, 0, 1, 1, 1, 1], .blk 2, .code [1, 1, 1, 1, 1]], ⟨frm 88 [(0, .ptr 0 0 0), (3, .fn 141 [] []), (9, .buf 4 1), (13, .int .i64), (44, .buf 5 1), (45, .int .i64), (46, .int .i64)], [.cells [.int .i64, .int .i64, .int .i64, .int .i64, .int .i64, .buf 1 3, .int .i64, .int .i64, .buf 6 4], .af (sI 3), .gone, .gone, .ints .i64, .ints .i64, .af (sI 4)], 0⟩, onU F⟩
def qO (m : Nat) (k : yd -> Option (List Un)) : yd -> Option (List Un) := fun (a0, a1, a2, a3, a4, a5, a6, a7, a8, a9, a10) =>
 bif decide (a2 < a1) then
 chk (inb a2 a6.length) <|
 chk (decide (a2.toNat < a6.length)) <|
 lt (ah a6 a2.toNat : Dat) fun d1 =>
 bif (d1.i 0) == a7 then
 chk (fits (a8.length + 1) 8) <|
 chk (fits (a9.length + 1) 8) <|
 k (a0, a1, (w64 (a2 + 1)), a3, a4, a5, a6, a7, (a8 ++ ([a2])), (a9 ++ ([(d1.i 1)])), a10)
 else
 k (a0, a1, (w64 (a2 + 1)), a3, a4, a5, a6, a7, a8, a9, a10)
 else
 chk (decide (a0 <= 9223372036854775807 /\ a9.length < 1099511627776)) <|
 mO m m (0, ((cf a0 a9).length : Int), 0, a3, a4, a5, a6, a8, (cf a0 a9), a10)
def o3 (m : Nat) : Nat -> yd -> Option (List Un) := bc (qO m)
theorem qa (m : Nat) (n : Nat) : o3 m (n + 1) = qO m (o3 m n) := rfl
def A0 (F : yd -> Option (List Un)) : aP := ⟨[.lp [0, 1, 0, 1, 1], .blk 0, .code [1, 1, 1]], ⟨frm 88 [(0, .ptr 0 0 0), (1, .int .i64), (2, .fn 167 [] [.ptr 4 0 0]), (3, .fn 141 [] []), (9, .buf 5 1), (10, .buf 6 1), (20, .buf 1 3), (21, .int .i64), (22, .int .i64)], [.cells [.int .i64, .int .i64, .int .i64, .int .i64, .int .i64, .buf 1 3, .int .i64, .int .i64, .buf 7 4], .af (sI 3), .gone, .gone, .cells [.int .i64], .ints .i64, .ints .i64, .af (sI 4)], 0⟩, onU F⟩
theorem My (m : Nat) : ∀ n, HO IF (Bu (mO m n)) := aw ai GS.right (fun k => [Bu k]) (fun k h => (aE h az)) fun k a => by kernel_rfl
theorem MZ (m : Nat) : ∀ n, HO IF (A0 (o3 m n)) := aw ai GS.right (fun k => [A0 k, Bu (mO m m)]) (fun k h => (aE h (aE (My m m) az))) fun k a => by kernel_rfl
def Lz (m : Nat) : Int × aW × Int × Int × List Dat × List Dat × Int -> Option (List Un) := fun (a0, a1, a2, a3, a4, a5, a6) =>
 o3 m m (a0, (a4.length : Int), 0, a1, a2, a3, a4, a6, [], [], a5)
theorem Kf (m : Nat) (nn : Int) (hnn : nn <= 9223372036854775807) (y : aW) (q kd : Int) (rk : Int) (out : List Dat) : ∀ (rest pre : List Dat) (n : Nat) (who what : List Int), rest.length < n -> (pre ++ rest).length <= 1000 -> who.length <= pre.length -> what.length <= pre.length ->
 o3 m n (nn, ((pre ++ rest).length : Int), (pre.length : Int), y, q, kd, pre ++ rest, rk, who, what, out) =
  mO m m (0, ((cf nn (what ++ cL (aF rk) 1 rest)).length : Int), 0, y, q, kd, pre ++ rest, who ++ fM (aF rk) pre.length rest, cf nn (what ++ cL (aF rk) 1 rest), out) := by
 intro rest
 induction rest with
 | nil =>
  intro pre n who what hn hl h1 h2; obtain ⟨n, rfl⟩ := ak n (by simp at hn; omega); rw [qa]; unfold qO; dsimp only; simp only [List.append_nil, fM, cL] at hl ⊢; rw [aB (by omega), aQ ⟨hnn, by omega⟩]
 | cons x rest ih =>
  intro pre n who what hn hl h1 h2; obtain ⟨n, rfl⟩ := ak n (by simp at hn; omega); simp only [List.length_append, List.length_cons] at hl hn; rw [qa]; unfold qO; dsimp only; simp only [lt_eq]
  by_cases hs : x.i 0 = rk
  · have := ih (pre ++ [x]) n (who ++ [(pre.length : Int)]) (what ++ [x.i 1]) (by omega) (by simp; omega) (by simp; omega) (by simp; omega); simp only [fM, cL, aF, Et hs, cond_true] at this ⊢; simp (disch := omega) only [TRa, TRi, aa, LNl, LNi, Int.cast_ofNat_Int, ao, bV]; simp only [LNl, LNi, Int.cast_ofNat_Int] at this ⊢; exact this
  · have := ih (pre ++ [x]) n who what (by omega) (by simp; omega) (by simp; omega) (by simp; omega); simp only [fM, cL, aF, nf hs, cond_false] at this ⊢; simp (disch := omega) only [TRa, TRi, aa, LNl, LNi, Int.cast_ofNat_Int, ao, bV]; simp only [LNl, LNi, Int.cast_ofNat_Int] at this ⊢; exact this
theorem Hr (m : Nat) (y : aW) (hy : 0 <= y.ax /\ y.ax <= 1152921504606846976) (q kd : Int) : ∀ (rest done ws wd : List Int) (c out : List Dat) (n : Nat) (paid : Int), rest.length < n -> ws.length = rest.length -> wd.length = done.length -> (done ++ rest).length <= 1000 -> (∀ w ∈ ws, 0 <= w /\ w < c.length) -> (∀ x ∈ rest, 0 <= x /\ x <= 1152921504606846976) -> 0 <= paid -> paid + rest.sum <= 1152921504606846976 -> (∀ i, i < c.length -> - paid <= (ah c i).i 1 /\ (ah c i).i 1 <= 1152921504606846976) -> c.length <= 1000 -> out.length + rest.length <= 137438953472 ->
 mO m n (paid, ((done ++ rest).length : Int), (done.length : Int), y, q, kd, c, wd ++ ws, done ++ rest, out) =
  some ([.i (paid + rest.sum)] ++ Uns.enc (({ y with ax := y.ax - (paid + rest.sum) } : aW) : aW) ++ [.i q, .i kd, .d (jx 1 ws rest c), .d (out ++ qB q kd ws rest)]) := by
 intro rest
 induction rest with
 | nil =>
  intro done ws wd c out n paid hn e1 e2 hl hw hx p0 p1 hc cl ol; obtain ⟨n, rfl⟩ := ak n (by simp at hn; omega); obtain rfl := List.eq_nil_of_length_eq_zero e1; rw [qk]; unfold qI; dsimp only; simp only [List.append_nil, jx, qB, List.sum_nil, Int.add_zero] at p1 ⊢; rw [aB (by omega), aa (by omega) (by omega)]
 | cons x rest ih =>
  intro done ws wd c out n paid hn e1 e2 hl hw hx p0 p1 hc cl ol; obtain ⟨n, rfl⟩ := ak n (by simp at hn; omega); cases ws with
  | nil => simp at e1
  | cons w ws =>
  simp only [List.length_append, List.length_cons, List.sum_cons] at hl hn e1 p1 ol; have hx0 := hx x (by simp); have hw0 := hw w (by simp); have hs0 := dw rest (fun z hz => (hx z (by simp [hz])).1); obtain ⟨v, rfl⟩ : ∃ v : Nat, w = (v : Int) := ⟨w.toNat, by omega⟩
  have hr := hc v (by omega); have gw : (wd ++ (v : Int) :: ws).getD done.length 0 = v := by rw [<- e2]; exact bV _ _ _ _
  have hset : ∀ i, i < (c.set v (bN 1 x (ah c v))).length -> - (paid + x) <= (ah (c.set v (bN 1 x (ah c v))) i).i 1 /\ (ah (c.set v (bN 1 x (ah c v))) i).i 1 <= 1152921504606846976 := by
   intro i hi; rw [List.length_set] at hi
   by_cases e : i = v
   · subst e; have e3 : ah (c.set i (bN 1 x (ah c i))) i = bN 1 x (ah c i) := by simp [ah, hi]
     rw [e3]; simp only [bN, if_true, dM]; omega
   · have e3 : ah (c.set v (bN 1 x (ah c v))) i = ah c i := by simp [ah, List.getElem?_set, Ne.symm e]
     rw [e3]; have := hc i hi; omega
  have := ih (done ++ [x]) ws (wd ++ [(v : Int)]) (c.set v (bN 1 x (ah c v))) (out ++ if 0 < x then [.r [.n q, .n kd, .n v, .n x]] else []) n (paid + x) (by omega) (by omega) (by simp [e2]) (by simp; omega) (fun z hz => by have := hw z (by simp [hz]); simpa using this) (fun z hz => hx z (by simp [hz])) (by omega) (by omega) hset (by simpa using cl) (by split <;> simp <;> omega); simp only [jx, qB, List.sum_cons, Int.toNat_natCast]; rw [show paid + (x + rest.sum) = paid + x + rest.sum by omega]; rw [<- List.append_assoc, <- this]; rw [qk]; unfold qI; dsimp only; have ec : done ++ [x] ++ rest = done ++ x :: rest := by simp
  have ew : wd ++ [(v : Int)] ++ ws = wd ++ (v : Int) :: ws := by simp
  rw [ec, ew]; have e5 : (bN 1 x (ah c v)) = Dat.r [.n ((ah c v).i 0), .n ((ah c v).i 1 - x), .n ((ah c v).i 2)] := by simp only [bN, if_true]
  rw [e5]; simp only [lt_eq, Int.toNat_natCast, gw, bV, List.length_append, List.length_cons, List.length_nil, Nat.zero_add, Int.natCast_add, Int.cast_ofNat_Int]
  by_cases h0 : 0 < x
  · rw [if_pos h0]; simp (disch := omega) only [TRa, TRi, aa, Int.natCast_add]
  · rw [if_neg h0]; simp (disch := omega) only [TRa, TRi, aa, Int.natCast_add, List.append_nil]
def PH : Int × aW × Int × Int × List Dat × List Dat × Int -> Bool × List Un := fun (a0, a1, a2, a3, a4, a5, a6) => (decide (a0 <= 9223372036854775807 /\ 0 <= a1.ax /\ a1.ax <= 1152921504606846976 /\ a5.length <= 68719476736) && aM a4, [.i ((ar (aF a6) 1 a0 a4).sum)] ++ Uns.enc (({ a1 with ax := a1.ax - (ar (aF a6) 1 a0 a4).sum }) : aW) ++ [.i (a2), .i (a3), .d (bB 1 (ar (aF a6) 1 a0 a4) a4), .d (a5 ++ bu a2 a3 0 (ar (aF a6) 1 a0 a4))])
theorem Km (a0 : Int) (a1 : aW) (a2 : Int) (a3 : Int) (a4 : List Dat) (a5 : List Dat) (a6 : Int) (hc : (decide (a0 <= 9223372036854775807 /\ 0 <= a1.ax /\ a1.ax <= 1152921504606846976 /\ a5.length <= 68719476736) && aM a4) = true) : ∃ m, Lz m (a0, a1, a2, a3, a4, a5, a6) = some ([.i ((ar (aF a6) 1 a0 a4).sum)] ++ Uns.enc (({ a1 with ax := a1.ax - (ar (aF a6) 1 a0 a4).sum }) : aW) ++ [.i (a2), .i (a3), .d (bB 1 (ar (aF a6) 1 a0 a4) a4), .d (a5 ++ bu a2 a3 0 (ar (aF a6) 1 a0 a4))]) := by
 simp only [Bool.and_eq_true, decide_eq_true_eq] at hc; obtain ⟨⟨h1, h2, h3, h4⟩, h5⟩ := hc; obtain ⟨c1, c2⟩ := bz h5; obtain ⟨p1, p2, p3, p4, p5⟩ := si (aF a6) (j := 1) (.inl rfl) a0 h5; refine ⟨2000, ?_⟩; unfold Lz; refine (Kf 2000 a0 h1 a1 a2 a3 a6 a5 a4 [] 2000 [] [] (by omega) (by simpa using c1) (by simp) (by simp)).trans ?_
 simp only [List.nil_append, List.length_nil]; have ht := jz (a4.map (aF a6)); rw [List.length_map] at ht; have e := Hr 2000 a1 ⟨h2, h3⟩ a2 a3 (cf a0 (cL (aF a6) 1 a4)) [] (fM (aF a6) 0 a4) [] a4 a5 2000 0 (by omega) (by rw [p1, nK]) rfl (by simp; omega) (fun w hw => by have := nr _ _ _ w hw; omega) (fun x hx => by have := p2 x hx; omega) (by omega) (by omega) (fun i hi => by have := bZ (c2 _ (lZ hi)); omega) c1 (by omega); refine e.trans ?_
 have g1 := l7 (aF a6) 1 a4 [] (cf a0 (cL (aF a6) 1 a4)) p1 (fun d hd => (bZ (c2 d hd)).1); have g2 := ot a2 a3 (aF a6) a4 0 (cf a0 (cL (aF a6) 1 a4)) p1; simp only [List.nil_append, List.length_nil, Int.cast_ofNat_Int] at g1 g2; rw [g1, g2, Int.zero_add, p5, iM (aF a6) (j := 1) (.inl rfl) a0 h5]
theorem FQ : ER 136 (mkE IF.en IF.ex PH) := an ai GS.right (fun m => [A0 (o3 m m)]) (t := Lz) (by kernel_rfl) (fun m => (aE (MZ m m) az)) (fun m a => by kernel_rfl) fun (a0, a1, a2, a3, a4, a5, a6) hc => Km a0 a1 a2 a3 a4 a5 a6 hc
def F9 : Tb Tryz.prog LQ TE := GS.add 136 _ FQ
def Hy : aA := ⟨F9.tab, 136, ⟨[.ptr 0 0 0, .int .i64, .fn 140 [] [], .fn 141 [] []], [.cells [.int .i64, .int .i64, .int .i64, .int .i64, .int .i64, .buf 1 3, .int .i64, .int .i64, .buf 2 4], .af (sI 3), .af (sI 4)], 0⟩, ⟨[.int .i64], [.cells [.int .i64, .int .i64, .int .i64, .int .i64, .int .i64, .buf 1 3, .int .i64, .int .i64, .buf 3 4], .af (sI 3), .gone, .af (sI 4)], 0⟩, []⟩
abbrev wP : Type := Int × Int × Int × aW × Int × Int × List Dat × List Int × List Int × List Dat
abbrev yl : Type := Int × Int × Int × aW × Int × Int × List Dat × List Int × List Int × List Dat
def qQ (m : Nat) (k : wP -> Option (List Un)) : wP -> Option (List Un) := fun (a0, a1, a2, a3, a4, a5, a6, a7, a8, a9) =>
 bif decide (a2 < a1) then
 chk (inb a2 a8.length) <|
 chk (decide (a2.toNat < a8.length)) <|
 chk (inb a2 a7.length) <|
 chk (decide (a2.toNat < a7.length)) <|
 chk (inb (a7.getD a2.toNat 0) a6.length) <|
 chk (decide ((a7.getD a2.toNat 0).toNat < a6.length)) <|
 chk (decide ((a7.getD a2.toNat 0).toNat < a6.length)) <|
 lt (ah a6 ((a7.getD a2.toNat 0).toNat) : Dat) fun d4 =>
 lt ((List.set a6 ((a7.getD a2.toNat 0).toNat) (.r [.n (d4.i 0), .n (w64 (((ah a6 ((a7.getD a2.toNat 0).toNat)).i 1) - (a8.getD a2.toNat 0))), .n (d4.i 2)])) : List Dat) fun l5 =>
 lt ((w64 (a0 + (a8.getD a2.toNat 0))) : Int) fun x6 =>
 chk (inb a2 a7.length) <|
 chk (decide (a2.toNat < a7.length)) <|
 bif (decide ((a8.getD a2.toNat 0) > 0)) then
 chk (fits (a9.length + 1) 32) <|
 k (x6, a1, (w64 (a2 + 1)), a3, a4, a5, l5, a7, a8, (a9 ++ ([.r [.n a4, .n a5, .n (a7.getD a2.toNat 0), .n (a8.getD a2.toNat 0)]])))
 else
 k (x6, a1, (w64 (a2 + 1)), a3, a4, a5, l5, a7, a8, a9)
 else
 some ([.i a0] ++ Uns.enc (({ a3 with ax := (w64 (a3.ax - a0)) } : aW) : aW) ++ [.i a4, .i a5, .d a6, .d a9])
def mT (m : Nat) : Nat -> wP -> Option (List Un) := bc (qQ m)
theorem pM (m : Nat) (n : Nat) : mT m (n + 1) = qQ m (mT m n) := rfl
def AJ (F : wP -> Option (List Un)) : aP := ⟨[.lp [0, 1, 0, 1, 1, 1, 1], .blk 2, .code [1, 1, 1, 1, 1]], ⟨frm 88 [(0, .ptr 0 0 0), (3, .fn 141 [] []), (9, .buf 3 1), (13, .int .i64), (44, .buf 4 1), (45, .int .i64), (46, .int .i64)], [.cells [.int .i64, .int .i64, .int .i64, .int .i64, .int .i64, .buf 1 3, .int .i64, .int .i64, .buf 5 4], .af (sI 3), .gone, .ints .i64, .ints .i64, .af (sI 4)], 0⟩, onU F⟩
def ru (m : Nat) (k : yl -> Option (List Un)) : yl -> Option (List Un) := fun (a0, a1, a2, a3, a4, a5, a6, a7, a8, a9) =>
 bif decide (a2 < a1) then
 chk (inb a2 a6.length) <|
 chk (decide (a2.toNat < a6.length)) <|
 chk (fits (a7.length + 1) 8) <|
 chk (fits (a8.length + 1) 8) <|
 k (a0, a1, (w64 (a2 + 1)), a3, a4, a5, a6, (a7 ++ ([a2])), (a8 ++ ([((ah a6 a2.toNat).i 1)])), a9)
 else
 chk (decide (a0 <= 9223372036854775807 /\ a8.length < 1099511627776)) <|
 mT m m (0, ((cf a0 a8).length : Int), 0, a3, a4, a5, a6, a7, (cf a0 a8), a9)
def oT (m : Nat) : Nat -> yl -> Option (List Un) := bc (ru m)
theorem pR (m : Nat) (n : Nat) : oT m (n + 1) = ru m (oT m n) := rfl
def Ay (F : yl -> Option (List Un)) : aP := ⟨[.lp [0, 1, 0, 1, 1], .blk 0, .code [1, 1, 1]], ⟨frm 88 [(0, .ptr 0 0 0), (1, .int .i64), (2, .fn 140 [] []), (3, .fn 141 [] []), (9, .buf 3 1), (10, .buf 4 1), (20, .buf 1 3), (21, .int .i64), (22, .int .i64)], [.cells [.int .i64, .int .i64, .int .i64, .int .i64, .int .i64, .buf 1 3, .int .i64, .int .i64, .buf 5 4], .af (sI 3), .gone, .ints .i64, .ints .i64, .af (sI 4)], 0⟩, onU F⟩
theorem Nb (m : Nat) : ∀ n, HO Hy (AJ (mT m n)) := aw ai F9.right (fun k => [AJ k]) (fun k h => (aE h az)) fun k a => by kernel_rfl
theorem MD (m : Nat) : ∀ n, HO Hy (Ay (oT m n)) := aw ai F9.right (fun k => [Ay k, AJ (mT m m)]) (fun k h => (aE h (aE (Nb m m) az))) fun k a => by kernel_rfl
def LR (m : Nat) : Int × aW × Int × Int × List Dat × List Dat -> Option (List Un) := fun (a0, a1, a2, a3, a4, a5) =>
 oT m m (a0, (a4.length : Int), 0, a1, a2, a3, a4, [], [], a5)
theorem Ju (m : Nat) (nn : Int) (hnn : nn <= 9223372036854775807) (y : aW) (q kd : Int) (out : List Dat) : ∀ (rest pre : List Dat) (n : Nat) (who what : List Int), rest.length < n -> (pre ++ rest).length <= 1000 -> who.length <= pre.length -> what.length <= pre.length ->
 oT m n (nn, ((pre ++ rest).length : Int), (pre.length : Int), y, q, kd, pre ++ rest, who, what, out) =
  mT m m (0, ((cf nn (what ++ cL (fun _ => true) 1 rest)).length : Int), 0, y, q, kd, pre ++ rest, who ++ fM (fun _ => true) pre.length rest, cf nn (what ++ cL (fun _ => true) 1 rest), out) := by
 intro rest
 induction rest with
 | nil =>
  intro pre n who what hn hl h1 h2; obtain ⟨n, rfl⟩ := ak n (by simp at hn; omega); rw [pR]; unfold ru; dsimp only; simp only [List.append_nil, fM, cL] at hl ⊢; rw [aB (by omega), aQ ⟨hnn, by omega⟩]
 | cons x rest ih =>
  intro pre n who what hn hl h1 h2; obtain ⟨n, rfl⟩ := ak n (by simp at hn; omega); simp only [List.length_append, List.length_cons] at hl hn; rw [pR]; unfold ru; dsimp only; have := ih (pre ++ [x]) n (who ++ [(pre.length : Int)]) (what ++ [x.i 1]) (by omega) (by simp; omega) (by simp; omega) (by simp; omega); simp only [fM, cL, cond_true] at this ⊢; simp (disch := omega) only [TRa, TRi, aa, LNl, LNi, Int.cast_ofNat_Int, ao, bV]; simp only [LNl, LNi, Int.cast_ofNat_Int] at this ⊢; exact this
theorem Ic (m : Nat) (y : aW) (hy : 0 <= y.ax /\ y.ax <= 1152921504606846976) (q kd : Int) : ∀ (rest done ws wd : List Int) (c out : List Dat) (n : Nat) (paid : Int), rest.length < n -> ws.length = rest.length -> wd.length = done.length -> (done ++ rest).length <= 1000 -> (∀ w ∈ ws, 0 <= w /\ w < c.length) -> (∀ x ∈ rest, 0 <= x /\ x <= 1152921504606846976) -> 0 <= paid -> paid + rest.sum <= 1152921504606846976 -> (∀ i, i < c.length -> - paid <= (ah c i).i 1 /\ (ah c i).i 1 <= 1152921504606846976) -> c.length <= 1000 -> out.length + rest.length <= 137438953472 ->
 mT m n (paid, ((done ++ rest).length : Int), (done.length : Int), y, q, kd, c, wd ++ ws, done ++ rest, out) =
  some ([.i (paid + rest.sum)] ++ Uns.enc (({ y with ax := y.ax - (paid + rest.sum) } : aW) : aW) ++ [.i q, .i kd, .d (jx 1 ws rest c), .d (out ++ qB q kd ws rest)]) := by
 intro rest
 induction rest with
 | nil =>
  intro done ws wd c out n paid hn e1 e2 hl hw hx p0 p1 hc cl ol; obtain ⟨n, rfl⟩ := ak n (by simp at hn; omega); obtain rfl := List.eq_nil_of_length_eq_zero e1; rw [pM]; unfold qQ; dsimp only; simp only [List.append_nil, jx, qB, List.sum_nil, Int.add_zero] at p1 ⊢; rw [aB (by omega), aa (by omega) (by omega)]
 | cons x rest ih =>
  intro done ws wd c out n paid hn e1 e2 hl hw hx p0 p1 hc cl ol; obtain ⟨n, rfl⟩ := ak n (by simp at hn; omega); cases ws with
  | nil => simp at e1
  | cons w ws =>
  simp only [List.length_append, List.length_cons, List.sum_cons] at hl hn e1 p1 ol; have hx0 := hx x (by simp); have hw0 := hw w (by simp); have hs0 := dw rest (fun z hz => (hx z (by simp [hz])).1); obtain ⟨v, rfl⟩ : ∃ v : Nat, w = (v : Int) := ⟨w.toNat, by omega⟩
  have hr := hc v (by omega); have gw : (wd ++ (v : Int) :: ws).getD done.length 0 = v := by rw [<- e2]; exact bV _ _ _ _
  have hset : ∀ i, i < (c.set v (bN 1 x (ah c v))).length -> - (paid + x) <= (ah (c.set v (bN 1 x (ah c v))) i).i 1 /\ (ah (c.set v (bN 1 x (ah c v))) i).i 1 <= 1152921504606846976 := by
   intro i hi; rw [List.length_set] at hi
   by_cases e : i = v
   · subst e; have e3 : ah (c.set i (bN 1 x (ah c i))) i = bN 1 x (ah c i) := by simp [ah, hi]
     rw [e3]; simp only [bN, if_true, dM]; omega
   · have e3 : ah (c.set v (bN 1 x (ah c v))) i = ah c i := by simp [ah, List.getElem?_set, Ne.symm e]
     rw [e3]; have := hc i hi; omega
  have := ih (done ++ [x]) ws (wd ++ [(v : Int)]) (c.set v (bN 1 x (ah c v))) (out ++ if 0 < x then [.r [.n q, .n kd, .n v, .n x]] else []) n (paid + x) (by omega) (by omega) (by simp [e2]) (by simp; omega) (fun z hz => by have := hw z (by simp [hz]); simpa using this) (fun z hz => hx z (by simp [hz])) (by omega) (by omega) hset (by simpa using cl) (by split <;> simp <;> omega); simp only [jx, qB, List.sum_cons, Int.toNat_natCast]; rw [show paid + (x + rest.sum) = paid + x + rest.sum by omega]; rw [<- List.append_assoc, <- this]; rw [pM]; unfold qQ; dsimp only; have ec : done ++ [x] ++ rest = done ++ x :: rest := by simp
  have ew : wd ++ [(v : Int)] ++ ws = wd ++ (v : Int) :: ws := by simp
  rw [ec, ew]; have e5 : (bN 1 x (ah c v)) = Dat.r [.n ((ah c v).i 0), .n ((ah c v).i 1 - x), .n ((ah c v).i 2)] := by simp only [bN, if_true]
  rw [e5]; simp only [lt_eq, Int.toNat_natCast, gw, bV, List.length_append, List.length_cons, List.length_nil, Nat.zero_add, Int.natCast_add, Int.cast_ofNat_Int]
  by_cases h0 : 0 < x
  · rw [if_pos h0]; simp (disch := omega) only [TRa, TRi, aa, Int.natCast_add]
  · rw [if_neg h0]; simp (disch := omega) only [TRa, TRi, aa, Int.natCast_add, List.append_nil]
def P4 : Int × aW × Int × Int × List Dat × List Dat -> Bool × List Un := fun (a0, a1, a2, a3, a4, a5) => (decide (a0 <= 9223372036854775807 /\ 0 <= a1.ax /\ a1.ax <= 1152921504606846976 /\ a5.length <= 68719476736) && aM a4, [.i ((ar (fun _ => true) 1 a0 a4).sum)] ++ Uns.enc (({ a1 with ax := a1.ax - (ar (fun _ => true) 1 a0 a4).sum }) : aW) ++ [.i (a2), .i (a3), .d (bB 1 (ar (fun _ => true) 1 a0 a4) a4), .d (a5 ++ bu a2 a3 0 (ar (fun _ => true) 1 a0 a4))])
theorem Iu (a0 : Int) (a1 : aW) (a2 : Int) (a3 : Int) (a4 : List Dat) (a5 : List Dat) (hc : (decide (a0 <= 9223372036854775807 /\ 0 <= a1.ax /\ a1.ax <= 1152921504606846976 /\ a5.length <= 68719476736) && aM a4) = true) : ∃ m, LR m (a0, a1, a2, a3, a4, a5) = some ([.i ((ar (fun _ => true) 1 a0 a4).sum)] ++ Uns.enc (({ a1 with ax := a1.ax - (ar (fun _ => true) 1 a0 a4).sum }) : aW) ++ [.i (a2), .i (a3), .d (bB 1 (ar (fun _ => true) 1 a0 a4) a4), .d (a5 ++ bu a2 a3 0 (ar (fun _ => true) 1 a0 a4))]) := by
 simp only [Bool.and_eq_true, decide_eq_true_eq] at hc; obtain ⟨⟨h1, h2, h3, h4⟩, h5⟩ := hc; obtain ⟨c1, c2⟩ := bz h5; obtain ⟨p1, p2, p3, p4, p5⟩ := si (fun _ => true) (j := 1) (.inl rfl) a0 h5; refine ⟨2000, ?_⟩; unfold LR; refine (Ju 2000 a0 h1 a1 a2 a3 a5 a4 [] 2000 [] [] (by omega) (by simpa using c1) (by simp) (by simp)).trans ?_
 simp only [List.nil_append, List.length_nil]; have ht := jz (a4.map (fun _ => true)); rw [List.length_map] at ht; have e := Ic 2000 a1 ⟨h2, h3⟩ a2 a3 (cf a0 (cL (fun _ => true) 1 a4)) [] (fM (fun _ => true) 0 a4) [] a4 a5 2000 0 (by omega) (by rw [p1, nK]) rfl (by simp; omega) (fun w hw => by have := nr _ _ _ w hw; omega) (fun x hx => by have := p2 x hx; omega) (by omega) (by omega) (fun i hi => by have := bZ (c2 _ (lZ hi)); omega) c1 (by omega); refine e.trans ?_
 have g1 := l7 (fun _ => true) 1 a4 [] (cf a0 (cL (fun _ => true) 1 a4)) p1 (fun d hd => (bZ (c2 d hd)).1); have g2 := ot a2 a3 (fun _ => true) a4 0 (cf a0 (cL (fun _ => true) 1 a4)) p1; simp only [List.nil_append, List.length_nil, Int.cast_ofNat_Int] at g1 g2; rw [g1, g2, Int.zero_add, p5, iM (fun _ => true) (j := 1) (.inl rfl) a0 h5]
theorem G4 : ER 136 (mkE Hy.en Hy.ex P4) := an ai F9.right (fun m => [Ay (oT m m)]) (t := LR) (by kernel_rfl) (fun m => (aE (MD m m) az)) (fun m a => by kernel_rfl) fun (a0, a1, a2, a3, a4, a5) hc => Iu a0 a1 a2 a3 a4 a5 hc
def Jl : Tb Tryz.prog LQ TE := F9.add 136 _ G4
def Nc : aA := ⟨Jl.tab, 139, ⟨[.ptr 0 0 0, .int .i64], [.cells [.int .i64, .int .i64, .int .i64, .int .i64, .int .i64, .buf 1 3, .int .i64, .int .i64, .buf 2 4], .af (sI 3), .af (sI 4)], 0⟩, ⟨[.int .i64], [.cells [.int .i64, .int .i64, .int .i64, .int .i64, .int .i64, .buf 1 3, .int .i64, .int .i64, .buf 3 4], .af (sI 3), .gone, .af (sI 4)], 0⟩, []⟩
abbrev xX : Type := Int × Int × Int × aW × Int × Int × List Dat × List Dat
def rF (m : Nat) (k : xX -> Option (List Un)) : xX -> Option (List Un) := fun (a0, a1, a2, a3, a4, a5, a6, a7) =>
 bif decide (a2 < 8) then
 chk (decide ((w64 (a0 - a1)) <= 9223372036854775807 /\ 0 <= a3.ax /\ a3.ax <= 1152921504606846976 /\ a7.length <= 68719476736) && aM a6) <|
 k (a0, (w64 (a1 + ((ar (aF a2) 1 (w64 (a0 - a1)) a6).sum))), (w64 (a2 + 1)), ({ a3 with ax := a3.ax - (ar (aF a2) 1 (w64 (a0 - a1)) a6).sum }), a4, a5, (bB 1 (ar (aF a2) 1 (w64 (a0 - a1)) a6) a6), (a7 ++ bu a4 a5 0 (ar (aF a2) 1 (w64 (a0 - a1)) a6)))
 else
 some ([.i a1] ++ Uns.enc (a3 : aW) ++ [.i a4, .i a5, .d a6, .d a7])
def pc (m : Nat) : Nat -> xX -> Option (List Un) := bc (rF m)
theorem qh (m : Nat) (n : Nat) : pc m (n + 1) = rF m (pc m n) := rfl
def A8 (F : xX -> Option (List Un)) : aP := ⟨[.lp [0, 1, 0, 1, 1], .blk 0, .code [1, 1, 1]], ⟨frm 21 [(0, .ptr 0 0 0), (1, .int .i64), (5, .int .i64), (7, .int .i64)], [.cells [.int .i64, .int .i64, .int .i64, .int .i64, .int .i64, .buf 1 3, .int .i64, .int .i64, .buf 3 4], .af (sI 3), .gone, .af (sI 4)], 0⟩, onU F⟩
theorem Mm (m : Nat) : ∀ n, HO Nc (A8 (pc m n)) := aw ai Jl.right (fun k => [A8 k]) (fun k h => (aE h az)) fun k a => by kernel_rfl
def t139 (m : Nat) : Int × aW × Int × Int × List Dat × List Dat -> Option (List Un) := fun (a0, a1, a2, a3, a4, a5) =>
 pc m m (a0, 0, 0, a1, a2, a3, a4, a5)
theorem Om (m : Nat) (nn q kd : Int) : ∀ (k n : Nat) (r paid : Int) (y : aW) (c out : List Dat), k < n -> r + k = 8 -> 0 <= r -> aM c = true -> 0 <= paid -> paid <= nn -> nn - paid <= y.ax -> y.ax <= 1152921504606846976 -> nn <= 1152921504606846976 -> out.length + 1000 * k <= 68719476736 ->
 pc m n (nn, paid, r, y, q, kd, c, out) = some ([.i (paid + (bl q kd k r (nn - paid) c).2.2)] ++ Uns.enc (({ y with ax := y.ax - (bl q kd k r (nn - paid) c).2.2 } : aW) : aW) ++ [.i q, .i kd, .d (bl q kd k r (nn - paid) c).1, .d (out ++ (bl q kd k r (nn - paid) c).2.1)]) := by
 intro k
 induction k with
 | zero =>
  intro n r paid y c out hn hr h0 hc p0 p1 p2 p3 p4 ho; obtain ⟨n, rfl⟩ := ak n (by omega); rw [qh]; unfold rF; dsimp only; simp only [bl, Int.add_zero, Int.sub_zero, List.append_nil]; rw [aB (by omega)]
 | succ k ih =>
  intro n r paid y c out hn hr h0 hc p0 p1 p2 p3 p4 ho; obtain ⟨n, rfl⟩ := ak n (by omega); rw [qh]; unfold rF; dsimp only; obtain ⟨l1, l2, l3⟩ := dx (aF r) (j := 1) (.inl rfl) (nn - paid) hc; obtain ⟨_, _, w0, w1⟩ := kU (aF r) (j := 1) (.inl rfl) hc; obtain ⟨g1, g2⟩ := oe (aF r) (j := 1) (.inl rfl) (nn - paid) hc; have hpl := iA q kd (ar (aF r) 1 (nn - paid) c) 0; have hcl := (bz hc).1; rw [bT (by omega), aa (n := nn - paid) (by omega) (by omega), hc, Bool.and_true, aQ ⟨by omega, by omega, by omega, by omega⟩]; have := ih n (r + 1) (paid + (ar (aF r) 1 (nn - paid) c).sum) { y with ax := y.ax - (ar (aF r) 1 (nn - paid) c).sum } (bB 1 (ar (aF r) 1 (nn - paid) c) c) (out ++ bu q kd 0 (ar (aF r) 1 (nn - paid) c)) (by omega) (by omega) (by omega) g1 (by omega) (by omega) (by simp only; omega) (by simp only; omega) p4 (by rw [List.length_append]; omega); rw [aa (n := r + 1) (by omega) (by omega), aa (n := paid + (ar (aF r) 1 (nn - paid) c).sum) (by omega) (by omega), this]; simp only [bl]; rw [show nn - (paid + (ar (aF r) 1 (nn - paid) c).sum) = nn - paid - (ar (aF r) 1 (nn - paid) c).sum by omega]; simp only [Int.add_assoc, List.append_assoc, Int.sub_sub]
def f139 : Int × aW × Int × Int × List Dat × List Dat -> Bool × List Un := fun (a0, a1, a2, a3, a4, a5) => (decide (0 <= a0 /\ a0 <= a1.ax /\ a1.ax <= 1152921504606846976 /\ a5.length <= 34359738368) && aM a4, [.i ((bl a2 a3 8 0 a0 a4).2.2)] ++ Uns.enc (({ a1 with ax := a1.ax - (bl a2 a3 8 0 a0 a4).2.2 }) : aW) ++ [.i (a2), .i (a3), .d ((bl a2 a3 8 0 a0 a4).1), .d (a5 ++ (bl a2 a3 8 0 a0 a4).2.1)])
theorem Jn (a0 : Int) (a1 : aW) (a2 : Int) (a3 : Int) (a4 : List Dat) (a5 : List Dat) (hc : (decide (0 <= a0 /\ a0 <= a1.ax /\ a1.ax <= 1152921504606846976 /\ a5.length <= 34359738368) && aM a4) = true) : ∃ m, t139 m (a0, a1, a2, a3, a4, a5) = some ([.i ((bl a2 a3 8 0 a0 a4).2.2)] ++ Uns.enc (({ a1 with ax := a1.ax - (bl a2 a3 8 0 a0 a4).2.2 }) : aW) ++ [.i (a2), .i (a3), .d ((bl a2 a3 8 0 a0 a4).1), .d (a5 ++ (bl a2 a3 8 0 a0 a4).2.1)]) := by
 simp only [Bool.and_eq_true, decide_eq_true_eq] at hc; obtain ⟨⟨h1, h2, h3, h4⟩, h5⟩ := hc; refine ⟨20, ?_⟩; have := Om 20 a0 a2 a3 8 20 0 0 a1 a4 a5 (by omega) (by omega) (by omega) h5 (by omega) (by omega) (by omega) h3 (by omega) (by omega); simp only [Int.sub_zero, Int.zero_add] at this; exact this
theorem G2 : ER 139 (mkE Nc.en Nc.ex f139) := an ai Jl.right (fun m => [A8 (pc m m)]) (t := t139) (by kernel_rfl) (fun m => (aE (Mm m m) az)) (fun m a => by kernel_rfl) fun (a0, a1, a2, a3, a4, a5) hc => Jn a0 a1 a2 a3 a4 a5 hc
def HT : Tb Tryz.prog LQ TE := Jl.add 139 _ G2
def sg (d : Dat) : Bool := decide (0 <= d.i 3)
theorem zo {d : Dat} (h : sg d = true) : 0 <= d.i 3 := of_decide_eq_true h
theorem vz : ∀ l : List Dat, (∀ d ∈ l, sg d = true) -> 0 <= al 3 l
 | [], _ => by simp [al]
 | d :: l, h => by
  have := vz l fun x hx => h x (by simp [hx])
  have := zo (h d (by simp)); simp only [al]; omega
def N54 : aA := ⟨HT.tab, 54, ⟨[.af (sI 4)], [], 0⟩, ⟨[.int .i64], [], 0⟩, []⟩
abbrev Cs : Type := Int × List Dat × Int × Int
def yh (m : Nat) (k : Cs -> Option (List Un)) : Cs -> Option (List Un) := fun (a0, a1, a2, a3) =>
 bif decide (a3 < a2) then
 chk (inb a3 a1.length) <|
 chk (decide (a3.toNat < a1.length)) <|
 k ((w64 (a0 + ((ah a1 a3.toNat).i 3))), a1, a2, (w64 (a3 + 1)))
 else
 some ([.i a0])
def vG (m : Nat) : Nat -> Cs -> Option (List Un) := bc (yh m)
theorem sh (m : Nat) (n : Nat) : vG m (n + 1) = yh m (vG m n) := rfl
def Gl (F : Cs -> Option (List Un)) : aP := ⟨[.lp [0, 1, 0, 1, 1], .blk 0, .code [1, 1, 1]], ⟨frm 18 [(3, .int .i64), (6, .af (sI 4)), (7, .int .i64), (8, .int .i64)], [], 0⟩, onU F⟩
theorem OU (m : Nat) : ∀ n, HO N54 (Gl (vG m n)) := aw ai HT.right (fun k => [Gl k]) (fun k h => (aE h az)) fun k a => by kernel_rfl
def t54 (m : Nat) : List Dat -> Option (List Un) := fun a0 =>
 vG m m (0, a0, (a0.length : Int), 0)
theorem Ol (m : Nat) : ∀ (rest pre : List Dat) (n : Nat) (b : Int), rest.length < n -> (pre ++ rest).length <= 1000000 -> (∀ d ∈ rest, sg d = true) -> 0 <= b -> b + al 3 rest <= 1152921504606846976 ->
 vG m n (b, pre ++ rest, ((pre ++ rest).length : Int), (pre.length : Int)) = some [.i (b + al 3 rest)] := by
 intro rest
 induction rest with
 | nil =>
  intro pre n b hn hl hg h0 h1; obtain ⟨n, rfl⟩ := ak n (by simp at hn; omega); rw [sh]; unfold yh; dsimp only; simp [aB, al]
 | cons x rest ih =>
  intro pre n b hn hl hg h0 h1; obtain ⟨n, rfl⟩ := ak n (by simp at hn; omega); simp only [List.length_cons, List.length_append] at hn hl; have hx := zo (hg x (by simp)); have hr := vz rest fun d hd => hg d (by simp [hd])
  simp only [al] at h1; rw [sh]; unfold yh; dsimp only; have := ih (pre ++ [x]) n (b + x.i 3) (by omega) (by simp; omega) (fun d hd => hg d (by simp [hd])) (by omega) (by omega); simp only [al] at this ⊢; simp (disch := omega) only [TRa, TRi, aa, LNl, LNi, Int.cast_ofNat_Int, ao]; simp only [LNl, LNi, Int.cast_ofNat_Int] at this ⊢; exact this
def f54 : List Dat -> Bool × List Un := fun a0 => (decide (a0.length <= 1000000) && (a0.all sg && decide (al 3 a0 <= 1152921504606846976)), [.i (al 3 a0)])
theorem Mt (a0 : List Dat) (hc : (decide (a0.length <= 1000000) && (a0.all sg && decide (al 3 a0 <= 1152921504606846976))) = true) : ∃ m, t54 m a0 = some ([.i (al 3 a0)]) := by
 simp only [Bool.and_eq_true, decide_eq_true_eq, List.all_eq_true] at hc; refine ⟨a0.length + 1, ?_⟩; exact (Ol _ a0 [] (a0.length + 1) 0 (by omega) (by simpa using hc.1) hc.2.1 (by omega) (by simpa using hc.2.2)).trans (by simp only [Int.zero_add])
theorem Ht : ER 54 (mkE N54.en N54.ex f54) := an ai HT.right (fun m => [Gl (vG m m)]) (t := t54) (by kernel_rfl) (fun m => (aE (OU m m) az)) (fun m a => by kernel_rfl) fun a0 hc => Mt a0 hc
def T54 : Tb Tryz.prog LQ TE := HT.add 54 _ Ht
def Pd : aA := ⟨T54.tab, 103, ⟨[.ptr 0 0 0, .agg [.int .i64, .int .i64]], [.cells [.int .i64, .int .i64, .int .i64, .int .i64, .int .i64, .buf 1 3, .int .i64, .int .i64, .buf 2 4], .af (sI 3), .af (sI 4)], 0⟩, ⟨[], [.cells [.int .i64, .int .i64, .int .i64, .int .i64, .int .i64, .buf 1 3, .int .i64, .int .i64, .buf 3 4], .af (sI 3), .gone, .af (sI 4)], 0⟩, []⟩
def t103 (m : Nat) : Int × Int × aW × Int × Int × List Dat × List Dat -> Option (List Un) := fun (a0, a1, a2, a3, a4, a5, a6) =>
 bif a0 == 1 then
 lt ((if a2.ax < a2.fee then a2.ax else a2.fee) : Int) fun x1 =>
 lt ((if x1 < 0 then 0 else x1) : Int) fun x2 =>
 bif decide (x2 > 0) then
 chk (fits (a6.length + 1) 32) <|
 some (Uns.enc (({ a2 with ax := (w64 (a2.ax - x2)), fee := (w64 (a2.fee - x2)) } : aW) : aW) ++ [.i a3, .i a4, .d a5, .d (a6 ++ ([.r [.n a3, .n a4, .n (-1), .n x2]]))])
 else
 some (Uns.enc (({ a2 with ax := (w64 (a2.ax - x2)), fee := (w64 (a2.fee - x2)) } : aW) : aW) ++ [.i a3, .i a4, .d a5, .d a6])
 else
 bif a0 == 2 then
 lt ((if a2.ax < a2.bt then a2.ax else a2.bt) : Int) fun x4 =>
 lt ((if x4 < 0 then 0 else x4) : Int) fun x5 =>
 bif decide (x5 > 0) then
 chk (fits (a6.length + 1) 32) <|
 some (Uns.enc (({ a2 with ax := (w64 (a2.ax - x5)), bt := (w64 (a2.bt - x5)) } : aW) : aW) ++ [.i a3, .i a4, .d a5, .d (a6 ++ ([.r [.n a3, .n a4, .n (-1), .n x5]]))])
 else
 some (Uns.enc (({ a2 with ax := (w64 (a2.ax - x5)), bt := (w64 (a2.bt - x5)) } : aW) : aW) ++ [.i a3, .i a4, .d a5, .d a6])
 else
 bif a0 == 6 then
 lt ((if a2.ax < a2.room then a2.ax else a2.room) : Int) fun x7 =>
 lt ((if x7 < 0 then 0 else x7) : Int) fun x8 =>
 bif decide (x8 > 0) then
 chk (fits (a6.length + 1) 32) <|
 some (Uns.enc (({ a2 with ax := (w64 (a2.ax - x8)), room := (w64 (a2.room - x8)) } : aW) : aW) ++ [.i a3, .i a4, .d a5, .d (a6 ++ ([.r [.n a3, .n a4, .n (-1), .n x8]]))])
 else
 some (Uns.enc (({ a2 with ax := (w64 (a2.ax - x8)), room := (w64 (a2.room - x8)) } : aW) : aW) ++ [.i a3, .i a4, .d a5, .d a6])
 else
 bif a0 == 3 then
 chk (decide (a2.ax <= 9223372036854775807 /\ 0 <= a2.ax /\ a2.ax <= 1152921504606846976 /\ a6.length <= 68719476736) && aM a5) <|
 some (Uns.enc (({ a2 with ax := a2.ax - (ar (aF a1) 2 a2.ax a5).sum }) : aW) ++ [.i a3, .i a4, .d (bB 2 (ar (aF a1) 2 a2.ax a5) a5), .d (a6 ++ bu a3 a4 0 (ar (aF a1) 2 a2.ax a5))])
 else
 bif a0 == 4 then
 lt ((if a2.ax < a2.aq then a2.ax else a2.aq) : Int) fun x12 =>
 chk (decide (0 <= x12 /\ x12 <= a2.ax /\ a2.ax <= 1152921504606846976 /\ a6.length <= 34359738368) && aM a5) <|
 lt (({ a2 with ax := a2.ax - (bl a3 a4 8 0 x12 a5).2.2 }) : aW) fun g13 =>
 chk (decide (a2.aq = g13.aq)) <|
 some (Uns.enc (({ g13 with aq := (w64 (a2.aq - ((bl a3 a4 8 0 x12 a5).2.2))) } : aW) : aW) ++ [.i a3, .i a4, .d ((bl a3 a4 8 0 x12 a5).1), .d (a6 ++ (bl a3 a4 8 0 x12 a5).2.1)])
 else
 bif a0 == 5 then
 lt ((if a2.ax < a2.aq then a2.ax else a2.aq) : Int) fun x16 =>
 chk (decide (x16 <= 9223372036854775807 /\ 0 <= a2.ax /\ a2.ax <= 1152921504606846976 /\ a6.length <= 68719476736) && aM a5) <|
 lt (({ a2 with ax := a2.ax - (ar (fun _ => true) 1 x16 a5).sum }) : aW) fun g18 =>
 chk (decide (a2.aq = g18.aq)) <|
 some (Uns.enc (({ g18 with aq := (w64 (a2.aq - ((ar (fun _ => true) 1 x16 a5).sum))) } : aW) : aW) ++ [.i a3, .i a4, .d (bB 1 (ar (fun _ => true) 1 x16 a5) a5), .d (a6 ++ bu a3 a4 0 (ar (fun _ => true) 1 x16 a5))])
 else
 bif a0 == 7 then
 chk (decide (0 <= a2.ax /\ a2.ax <= a2.ax /\ a2.ax <= 1152921504606846976 /\ a6.length <= 34359738368) && aM a5) <|
 some (Uns.enc (({ a2 with ax := a2.ax - (bl a3 a4 8 0 a2.ax a5).2.2 }) : aW) ++ [.i a3, .i a4, .d ((bl a3 a4 8 0 a2.ax a5).1), .d (a6 ++ (bl a3 a4 8 0 a2.ax a5).2.1)])
 else
 some (Uns.enc (a2 : aW) ++ [.i a3, .i a4, .d a5, .d a6])
def f103 : Int × Int × aW × Int × Int × List Dat × List Dat -> Bool × List Un := fun (a0, a1, a2, a3, a4, a5, a6) => (decide (a4 = a0 /\ a6.length <= 17179869184) && (mj a2 && aM a5), Uns.enc (((cS a3 a0 a1 a2 a5).1) : aW) ++ [.i (a3), .i (a4), .d ((cS a3 a0 a1 a2 a5).2.1), .d (a6 ++ (cS a3 a0 a1 a2 a5).2.2)])
set_option maxHeartbeats 2000000 in
theorem Ix (a0 : Int) (a1 : Int) (a2 : aW) (a3 : Int) (a4 : Int) (a5 : List Dat) (a6 : List Dat) (hc : (decide (a4 = a0 /\ a6.length <= 17179869184) && (mj a2 && aM a5)) = true) : ∃ m, t103 m (a0, a1, a2, a3, a4, a5, a6) = some (Uns.enc (((cS a3 a0 a1 a2 a5).1) : aW) ++ [.i (a3), .i (a4), .d ((cS a3 a0 a1 a2 a5).2.1), .d (a6 ++ (cS a3 a0 a1 a2 a5).2.2)]) := by
 simp only [Bool.and_eq_true, decide_eq_true_eq] at hc; obtain ⟨⟨rfl, ho⟩, hx, hc⟩ := hc; have hx' := qG hx; have hcl := (bz hc).1; have w2 := fun sel j hj => (kU (c := a5) sel (j := j) hj hc).2.2
 have s2 := fun sel j hj n => (dx (c := a5) sel (j := j) hj n hc).2.1
 have mm : ∀ a b : Int, (if b < a then b else a) = min a b := fun a b => by omega
 have mx : ∀ a : Int, (if a < 0 then 0 else a) = max a 0 := fun a => by omega
 refine ⟨0, ?_⟩; unfold t103 cS; dsimp only; simp only [lt_eq, mm, mx]; have one : ∀ (z : Int) (u : aW) (o2 : List Dat), 0 <= z -> ∀ v : aW, u = v -> (bif decide (z > 0) then chk (fits (a6.length + 1) 32) (some (Uns.enc (u : aW) ++ [.i a3, .i a4, .d a5, .d (a6 ++ ([.r [.n a3, .n a4, .n (-1), .n z]]))])) else some (Uns.enc (u : aW) ++ [.i a3, .i a4, .d a5, .d a6])) = some (Uns.enc (v : aW) ++ [.i a3, .i a4, .d a5, .d (a6 ++ jb a3 a4 z)]) := by
  intro z u o2 hz v huv; subst huv; unfold jb
  by_cases h : z > 0
  · rw [bT h, sn (by omega) (by omega), if_pos (by omega)]
  · rw [aB h, if_neg (by omega), List.append_nil]
 by_cases k1 : a4 = 1
 · rw [fq k1, if_pos k1]; rw [show max (min a2.fee a2.ax) 0 = min a2.fee a2.ax by omega]; exact one _ _ [] (by omega) _ (by rw [aa (by omega) (by omega), aa (by omega) (by omega)])
 rw [fw k1, if_neg k1]
 by_cases k2 : a4 = 2
 · rw [fq k2, if_pos k2]; rw [show max (min a2.bt a2.ax) 0 = min a2.bt a2.ax by omega]; exact one _ _ [] (by omega) _ (by rw [aa (by omega) (by omega), aa (by omega) (by omega)])
 rw [fw k2, if_neg k2]
 by_cases k6 : a4 = 6
 · rw [fq k6, if_pos k6]; rw [show max (min a2.room a2.ax) 0 = min a2.room a2.ax by omega]; exact one _ _ [] (by omega) _ (by rw [aa (by omega) (by omega), aa (by omega) (by omega)])
 rw [fw k6, if_neg k6]
 by_cases k3 : a4 = 3
 · rw [fq k3, if_pos k3, hc, Bool.and_true, aQ (by omega)]
 rw [fw k3, if_neg k3]
 by_cases k4 : a4 = 4
 · rw [fq k4, if_pos k4, hc, Bool.and_true, aQ (by omega), aQ trivial]; have q := ta a3 a4 8 0 (min a2.aq a2.ax) a5 hc; generalize bl a3 a4 8 0 (min a2.aq a2.ax) a5 = y at *
   rw [aa (by omega) (by omega)]
 rw [fw k4, if_neg k4]
 by_cases k5 : a4 = 5
 · rw [fq k5, if_pos k5, hc, Bool.and_true, aQ (by omega), aQ trivial]; have q1 := s2 (fun _ => true) 1 (.inl rfl) (min a2.aq a2.ax); have q2 := w2 (fun _ => true) 1 (.inl rfl); rw [aa (n := a2.aq - _) (by omega) (by omega)]
 rw [fw k5, if_neg k5]
 by_cases k7 : a4 = 7
 · rw [fq k7, if_pos k7, hc, Bool.and_true, aQ (by omega)]
 rw [fw k7, if_neg k7, List.append_nil]
theorem EV : ER 103 (mkE Pd.en Pd.ex f103) := an ai T54.right (fun m => []) (t := t103) (by kernel_rfl) (fun m => az) (fun m a => by kernel_rfl) fun (a0, a1, a2, a3, a4, a5, a6) hc => Ix a0 a1 a2 a3 a4 a5 a6 hc
def IS : Tb Tryz.prog LQ TE := T54.add 103 _ EV
def N45 : aA := ⟨IS.tab, 45, ⟨[.int .i64, .agg [.int .i64, .int .i64, .int .i64, .int .i64, .af (sI 3)], .af (sI 2)], [], 0⟩, ⟨[.buf 0 4, .int .i64, .agg [.int .i64, .int .i64, .int .i64, .int .i64, .buf 1 3]], [.af (sI 4), .af (sI 3)], 0⟩, []⟩
abbrev C4 : Type := List Dat × Int × Int × Int × Int × Int × Int × aW × Int × Int × List Dat × List Dat × List Dat
def xD (m : Nat) (k : C4 -> Option (List Un)) : C4 -> Option (List Un) := fun (a0, a1, a2, a3, a4, a5, a6, a7, a8, a9, a10, a11, a12) =>
 bif decide (a2 < a1) then
 chk (inb a2 a0.length) <|
 chk (decide (a2.toNat < a0.length)) <|
 lt (ah a0 a2.toNat : Dat) fun d1 =>
 chk (decide ((d1.i 0) = (d1.i 0) /\ a12.length <= 17179869184) && (mj a7 && aM a11)) <|
 k (a0, a1, (w64 (a2 + 1)), a3, a4, a5, a6, ((cS a2 (d1.i 0) (d1.i 1) a7 a11).1), a2, (d1.i 0), a10, ((cS a2 (d1.i 0) (d1.i 1) a7 a11).2.1), (a12 ++ (cS a2 (d1.i 0) (d1.i 1) a7 a11).2.2))
 else
 some ([.i a7.ax, .i a7.fee, .i a7.bt, .i a7.aq, .i a7.room, .d a12, .d a11])
def vv (m : Nat) : Nat -> C4 -> Option (List Un) := bc (xD m)
theorem uf (m : Nat) (n : Nat) : vv m (n + 1) = xD m (vv m n) := rfl
def Ge (F : C4 -> Option (List Un)) : aP := ⟨[.lp [0, 1, 0, 1, 1, 1], .blk 0, .code [1, 1, 1, 1]], ⟨frm 52 [(8, .ptr 0 0 0), (9, .ptr 1 0 0), (20, .af (sI 2)), (21, .int .i64), (22, .int .i64)], [.cells [.int .i64, .int .i64, .int .i64, .int .i64, .buf 2 3], .cells [.int .i64, .int .i64, .int .i64, .int .i64, .int .i64, .buf 3 3, .int .i64, .int .i64, .buf 4 4], .af (sI 3), .af (sI 3), .af (sI 4)], 0⟩, onU F⟩
theorem N7 (m : Nat) : ∀ n, HO N45 (Ge (vv m n)) := aw ai IS.right (fun k => [Ge k]) (fun k h => (aE h az)) fun k a => by kernel_rfl
def t45 (m : Nat) : Int × Int × Int × Int × Int × List Dat × List Dat -> Option (List Un) := fun (a0, a1, a2, a3, a4, a5, a6) =>
 chk (decide (a5.length < 1000000)) <|
 vv m m (a6, (a6.length : Int), 0, 0, 0, 0, 0, (⟨a0, a1, a2, a3, a4⟩ : aW), 0, 0, [], a5, [])
theorem Pz (m : Nat) (z1 z2 z3 z4 : Int) (zl : List Dat) : ∀ (rest pre : List Dat) (n : Nat) (y : aW) (q kd : Int) (c out : List Dat), rest.length < n -> (pre ++ rest).length <= 1000000 -> mj y = true -> aM c = true -> out.length <= 8000 * pre.length ->
 vv m n (pre ++ rest, ((pre ++ rest).length : Int), (pre.length : Int), z1, z2, z3, z4, y, q, kd, zl, c, out) = some [.i (de pre.length rest y c).1.ax, .i (de pre.length rest y c).1.fee, .i (de pre.length rest y c).1.bt, .i (de pre.length rest y c).1.aq, .i (de pre.length rest y c).1.room, .d (out ++ (de pre.length rest y c).2.2), .d (de pre.length rest y c).2.1] := by
 intro rest
 induction rest with
 | nil =>
  intro pre n y q kd c out hn hl hy hc ho; obtain ⟨n, rfl⟩ := ak n (by simp at hn; omega); rw [uf]; unfold xD; dsimp only; simp [aB, de]
 | cons x rest ih =>
  intro pre n y q kd c out hn hl hy hc ho; obtain ⟨n, rfl⟩ := ak n (by simp at hn; omega); simp only [List.length_cons, List.length_append] at hn hl; obtain ⟨s1, s2, s3, s4⟩ := tt pre.length (x.i 0) (x.i 1) hy hc; have := ih (pre ++ [x]) n _ (pre.length : Int) (x.i 0) _ (out ++ (cS pre.length (x.i 0) (x.i 1) y c).2.2) (by omega) (by simp; omega) s1 s2 (by simp; omega); simp only [de]; rw [uf]; unfold xD; dsimp only; simp only [hy, hc, Bool.and_self, Bool.and_true]; simp only [Int.toNat_natCast, ao, lt_eq]; generalize cS pre.length (x.i 0) (x.i 1) y c = u at *
  simp only [hy, hc, Bool.and_self, Bool.and_true, decide_true, true_and]; simp (disch := omega) only [TRa, TRi, aa, LNl, LNi, Int.cast_ofNat_Int, ao]; simp only [LNl, LNi, Int.cast_ofNat_Int] at this ⊢; exact this
def f45 : Int × Int × Int × Int × Int × List Dat × List Dat -> Bool × List Un := fun (a0, a1, a2, a3, a4, a5, a6) => (decide (a6.length <= 1000000) && (mj ⟨a0, a1, a2, a3, a4⟩ && aM a5), [.i ((de 0 a6 ⟨a0, a1, a2, a3, a4⟩ a5).1.ax), .i ((de 0 a6 ⟨a0, a1, a2, a3, a4⟩ a5).1.fee), .i ((de 0 a6 ⟨a0, a1, a2, a3, a4⟩ a5).1.bt), .i ((de 0 a6 ⟨a0, a1, a2, a3, a4⟩ a5).1.aq), .i ((de 0 a6 ⟨a0, a1, a2, a3, a4⟩ a5).1.room), .d ((de 0 a6 ⟨a0, a1, a2, a3, a4⟩ a5).2.2), .d ((de 0 a6 ⟨a0, a1, a2, a3, a4⟩ a5).2.1)])
theorem NF (a0 : Int) (a1 : Int) (a2 : Int) (a3 : Int) (a4 : Int) (a5 : List Dat) (a6 : List Dat) (hc : (decide (a6.length <= 1000000) && (mj ⟨a0, a1, a2, a3, a4⟩ && aM a5)) = true) : ∃ m, t45 m (a0, a1, a2, a3, a4, a5, a6) = some ([.i ((de 0 a6 ⟨a0, a1, a2, a3, a4⟩ a5).1.ax), .i ((de 0 a6 ⟨a0, a1, a2, a3, a4⟩ a5).1.fee), .i ((de 0 a6 ⟨a0, a1, a2, a3, a4⟩ a5).1.bt), .i ((de 0 a6 ⟨a0, a1, a2, a3, a4⟩ a5).1.aq), .i ((de 0 a6 ⟨a0, a1, a2, a3, a4⟩ a5).1.room), .d ((de 0 a6 ⟨a0, a1, a2, a3, a4⟩ a5).2.2), .d ((de 0 a6 ⟨a0, a1, a2, a3, a4⟩ a5).2.1)]) := by
 simp only [Bool.and_eq_true, decide_eq_true_eq] at hc; obtain ⟨h1, h2, h3⟩ := hc; have hl := (bz h3).1; refine ⟨a6.length + 1, ?_⟩; unfold t45; dsimp only; rw [aQ (by omega)]; exact Pz _ 0 0 0 0 [] a6 [] (a6.length + 1) _ 0 0 a5 [] (by omega) (by simpa using h1) h2 h3 (by simp)
theorem Ko : ER 45 (mkE N45.en N45.ex f45) := an ai IS.right (fun m => [Ge (vv m m)]) (t := t45) (by kernel_rfl) (fun m => (aE (N7 m m) az)) (fun m a => by kernel_rfl) fun (a0, a1, a2, a3, a4, a5, a6) hc => NF a0 a1 a2 a3 a4 a5 a6 hc
def T45 : Tb Tryz.prog LQ TE := IS.add 45 _ Ko
end
end Go.Proofs.YtdbkoeefnodejaaGreat
namespace Go.Proofs.YtdbkoeefnodejaaGreat
noncomputable section
open Go Go.Proofs.YtdbkoeefnodejaaGreat.Ev
set_option maxRecDepth 20000
theorem fb (j : Nat) : ∀ l : List Dat, (∀ d ∈ l, 0 <= d.i j) -> 0 <= al j l
 | [], _ => by simp [al]
 | d :: l, h => by
  have := h d (by simp); have := fb j l fun x hx => h x (by simp [hx])
  simp only [al]; omega
theorem sL (j : Nat) : ∀ a b : List Dat, al j (a ++ b) = al j a + al j b
 | [], b => by simp [al]
 | d :: a, b => by simp only [List.cons_append, al, sL j a b]; omega
theorem sC (a k : Int) : ∀ (xs : List Int) (i : Int), (∀ x ∈ xs, 0 <= x) -> al 3 (bu a k i xs) = xs.sum
 | [], i, _ => rfl
 | x :: xs, i, h => by
  have := sC a k xs (i + 1) fun y hy => h y (by simp [hy])
  have h0 := h x (by simp); simp only [bu, sL, List.sum_cons, this]
  by_cases hx : 0 < x
  · rw [if_pos hx]; simp [al, eF]
  · rw [if_neg hx]; simp only [al]; omega
theorem A9 {c : List Dat} (sel : Dat -> Bool) {j : Nat} (hj : j = 1 \/ j = 2) (n : Int) (h : aM c = true) : ∀ x ∈ ar sel j n c, 0 <= x := fun x hx => by
 obtain ⟨l1, l2, l3⟩ := dx sel hj n h; obtain ⟨i, hi, rfl⟩ := oi hx; rw [l1] at hi; exact (l3 i hi).1
end
end Go.Proofs.YtdbkoeefnodejaaGreat
