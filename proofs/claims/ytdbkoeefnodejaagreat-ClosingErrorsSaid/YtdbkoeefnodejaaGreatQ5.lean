/- Part of a proof: Deal, Right, Trust, Notes, View, Same, Begins, Pool, Pro, Flow, FlowAid, FlowPlain. Conditions: none. -/
import Derived.Test.YtdbkoeefnodejaaGreatQ4
set_option linter.unusedVariables false
set_option linter.unusedSimpArgs false
set_option linter.unnecessarySimpa false
set_option linter.unusedSectionVars false
namespace Go.Proofs.YtdbkoeefnodejaaGreat
noncomputable section
open Go Go.Proofs.YtdbkoeefnodejaaGreat.Ev
set_option maxRecDepth 20000
def PR : aD := ⟨T18.tab, 151, ⟨[.int .i64, .int .i64, .int .i64], [], 0⟩, ⟨[.bool], [], 0⟩, []⟩
def t151 (m : Nat) : Int × Int × Int -> Option (List Un) := fun (a0, a1, a2) =>
 bif decide (a0 >= a1) then
 some ([.b (decide (a0 <= a2))])
 else
 some ([.b false])
def f151 : Int × Int × Int -> Bool × List Un := fun (a0, a1, a2) => (true, [.b (decide (a1 <= a0 /\ a0 <= a2))])
theorem Kg (a0 : Int) (a1 : Int) (a2 : Int) : ∃ m, t151 m (a0, a1, a2) = some ([.b (decide (a1 <= a0 /\ a0 <= a2))]) := by
 refine ⟨0, ?_⟩; unfold t151
 by_cases h : a1 <= a0 <;> by_cases h2 : a0 <= a2 <;> simp [h, h2]
theorem Jc : ER 151 (mkE PR.en PR.ex f151) := aq ak T18.right (fun m => []) (t := t151) (by kernel_rfl) (fun m => aA) (fun m a => by kernel_rfl) fun (a0, a1, a2) hc => Kg a0 a1 a2
def LS : Tb Tryz.prog LQ TE XX := T18.add 151 _ Jc
def wU (a b : Int) : List Dat -> Int -> Int
 | [], _ => -1
 | d :: l, i => if a = d.i 0 /\ b = d.i 1 then i else wU a b l (i + 1)
theorem AO (a b : Int) : ∀ (l : List Dat) (i : Int), 0 <= i -> (0 <= wU a b l i ↔ ca l a b = true)
 | [], i, h => by simp [wU, ca]
 | d :: l, i, h => by
  have := AO a b l (i + 1) (by omega); simp only [ca, List.any_cons, zbf, zab, zaE] at this ⊢; unfold wU
  by_cases hc : a = d.i 0 /\ b = d.i 1
  . rw [if_pos hc]; exact ⟨fun _ => .inl ⟨hc.1.symm, hc.2.symm⟩, fun _ => h⟩
  . rw [if_neg hc, this]; exact ⟨.inr, fun h => h.resolve_left fun e => hc ⟨e.1.symm, e.2.symm⟩⟩
def Nx : aD := ⟨LS.tab, 168, ⟨[.ag (sI 2), .agg [.int .i64, .int .i64]], [], 0⟩, ⟨[.int .i64], [], 0⟩, []⟩
abbrev zh : Type := List Dat × Int × Int × Int × Int
def sX (m : Nat) (k : zh -> Option (List Un)) : zh -> Option (List Un) := fun (a0, a1, a2, a3, a4) =>
 bif decide (a2 < a1) then
 chk (inb a2 a0.length) <|
 chk (decide (a2.toNat < a0.length)) <|
 lt (ae a0 a2.toNat : Dat) fun d1 =>
 bif ((a3 == (d1.i 0)) && ((a4 == (d1.i 1)) && true)) then
 some ([.i a2])
 else
 k (a0, a1, (w64 (a2 + 1)), a3, a4)
 else
 some ([.i (-1)])
def qb (m : Nat) : Nat -> zh -> Option (List Un) := bp (sX m)
theorem rT (m : Nat) (n : Nat) : qb m (n + 1) = sX m (qb m n) := rfl
def Dt (F : zh -> Option (List Un)) : aT := ⟨[.lp [0, 1, 0, 1], .blk 0, .code [1, 1]], ⟨frm 19 [(0, .ag (sI 2)), (3, .ptr 0 0 0), (7, .int .i64), (8, .int .i64)], [.cells [.int .i64, .int .i64]], 0⟩, onU F⟩
theorem MV (m : Nat) : ∀ n, HO Nx (Dt (qb m n)) := ay ak LS.right (fun k => [Dt k]) (fun k h => (aJ h aA)) fun k a => by kernel_rfl
def t168 (m : Nat) : List Dat × Int × Int -> Option (List Un) := fun (a0, a1, a2) =>
 qb m m (a0, (a0.length : Int), 0, a1, a2)
theorem R9 (m : Nat) (a b : Int) : ∀ (rest pre : List Dat) (n : Nat), rest.length < n -> (pre ++ rest).length < 1099511627776 ->
 qb m n (pre ++ rest, ((pre ++ rest).length : Int), (pre.length : Int), a, b) = some [.i (wU a b rest pre.length)] := by
 intro rest
 induction rest with
 | nil =>
  intro pre n hn hl; obtain ⟨n, rfl⟩ := al n (by simp at hn; omega); rw [rT]; unfold sX; dsimp only; simp [aB, wU]
 | cons x rest ih =>
  intro pre n hn hl; obtain ⟨n, rfl⟩ := al n (by simp at hn; omega); simp only [zaf, zai] at hn hl; have := ih (pre ++ [x]) n (by omega) (by simp; omega); rw [rT]; unfold sX; dsimp only; simp only [wU]
  by_cases h1 : a = x.i 0
  . by_cases h2 : b = x.i 1
    . rw [if_pos ⟨h1, h2⟩]; simp (disch := omega) only [TRa, TRi, aa, LNl, LNi, zaa, ar]
    . rw [if_neg (fun h => h2 h.2)]; simp (disch := omega) only [TRa, TRi, aa, LNl, LNi, zaa, ar]; simp only [LNl, LNi, zaa] at this ⊢; exact this
  . rw [if_neg (fun h => h1 h.1)]; simp (disch := omega) only [TRa, TRi, aa, LNl, LNi, zaa, ar]; simp only [LNl, LNi, zaa] at this ⊢; exact this
def f168 : List Dat × Int × Int -> Bool × List Un := fun (a0, a1, a2) => (decide (a0.length < 1099511627776), [.i (wU a1 a2 a0 0)])
theorem J7 (a0 : List Dat) (a1 : Int) (a2 : Int) (hc : (decide (a0.length < 1099511627776)) = true) : ∃ m, t168 m (a0, a1, a2) = some ([.i (wU a1 a2 a0 0)]) := by
 refine ⟨a0.length + 1, ?_⟩; exact R9 _ a1 a2 a0 [] _ (by omega) (zak hc)
theorem HE : ER 168 (mkE Nx.en Nx.ex f168) := aq ak LS.right (fun m => [Dt (qb m m)]) (t := t168) (by kernel_rfl) (fun m => (aJ (MV m m) aA)) (fun m a => by kernel_rfl) fun (a0, a1, a2) hc => J7 a0 a1 a2 hc
def PC : Tb Tryz.prog LQ TE XX := LS.add 168 _ HE
def Qv : aD := ⟨PC.tab, 152, ⟨[.ag (sI 2), .agg [.int .i64, .int .i64]], [], 0⟩, ⟨[.bool], [], 0⟩, []⟩
def t152 (m : Nat) : List Dat × Int × Int -> Option (List Un) := fun (a0, a1, a2) =>
 chk (decide (a0.length < 1099511627776)) <|
 some ([.b (decide ((wU a1 a2 a0 0) >= 0))])
def f152 : List Dat × Int × Int -> Bool × List Un := fun (a0, a1, a2) => (decide (a0.length < 1099511627776), [.b (ca a0 a1 a2)])
theorem JE (a0 : List Dat) (a1 : Int) (a2 : Int) (hc : (decide (a0.length < 1099511627776)) = true) : ∃ m, t152 m (a0, a1, a2) = some ([.b (ca a0 a1 a2)]) := by
 refine ⟨0, ?_⟩; have e := AO a1 a2 a0 0 (zb8 0); have h := zak hc; unfold t152; simp (disch := omega) only [TRa, TRi, aa]; cases h : ca a0 a1 a2 <;> simp [h] at e ⊢ <;> omega
theorem GS : ER 152 (mkE Qv.en Qv.ex f152) := aq ak PC.right (fun m => []) (t := t152) (by kernel_rfl) (fun m => aA) (fun m a => by kernel_rfl) fun (a0, a1, a2) hc => JE a0 a1 a2 hc
def KZ : Tb Tryz.prog LQ TE XX := PC.add 152 _ GS
theorem K3 {c y : Bool} : (bif c then some [Un.b y] else some [.b false]) = some [.b (c && y)] := by cases c <;> rfl
def ki (d : aP) : Bool :=
 decide (0 <= d.b.oc /\ d.b.oc <= 100000) && (decide (0 <= d.b.ic /\ d.b.ic <= 100000) && (decide (0 <= d.b.late /\ d.b.late <= 100000) && (decide (0 <= d.b.kV /\ d.b.kV <= 100000) && (decide (0 <= d.b.clean /\ d.b.clean <= 100000) &&
 (decide (1 <= d.a.year /\ d.a.year <= 9000) && (decide (1 <= d.a.month /\ d.a.month <= 12) && (decide (0 <= d.a.basis /\ d.a.basis <= 2) && (decide (0 <= d.b.fee /\ d.b.fee <= 5000) && (decide (0 <= d.b.bU /\ d.b.bU <= 1099511627776) &&
 (decide (0 <= d.b.target /\ d.b.target <= 10000) && (decide (0 <= d.b.advance /\ d.b.advance <= 1099511627776) && decide (0 <= d.b.et /\ d.b.et <= 600))))))))))))
def OD : aD := ⟨KZ.tab, 117, ⟨[.agg [.int .i64, .int .i64, .int .i64, .ag (sI 2), .ag (sI 3), .int .i64, .int .i64, .int .i64, .int .i64, .int .i64, .int .i64, .int .i64, .int .i64, .int .i64, .int .i64, .ag (sI 2), .ag (sI 2), .ag (sI 2)]], [], 0⟩, ⟨[.bool], [], 0⟩, []⟩
abbrev yY : Type := Int × Int × aP × List Int
def zY (m : Nat) (k : yY -> Option (List Un)) : yY -> Option (List Un) := fun (a0, a1, a2, a3) =>
 bif decide (a1 < a0) then
 chk (inb a1 a3.length) <|
 chk (decide (a1.toNat < a3.length)) <|
 bif !(decide (0 <= (a3.getD a1.toNat 0) /\ (a3.getD a1.toNat 0) <= 100000)) then
 some ([.b false])
 else
 k (a0, (w64 (a1 + 1)), a2, a3)
 else
 bif (decide (1 <= a2.a.year /\ a2.a.year <= 9000)) then
 bif (decide (1 <= a2.a.month /\ a2.a.month <= 12)) then
 bif (decide (0 <= a2.a.basis /\ a2.a.basis <= 2)) then
 bif (decide (0 <= a2.b.fee /\ a2.b.fee <= 5000)) then
 bif (decide (0 <= a2.b.bU /\ a2.b.bU <= 1099511627776)) then
 bif (decide (0 <= a2.b.target /\ a2.b.target <= 10000)) then
 bif (decide (0 <= a2.b.advance /\ a2.b.advance <= 1099511627776)) then
 some ([.b (decide (0 <= a2.b.et /\ a2.b.et <= 600))])
 else
 some ([.b false])
 else
 some ([.b false])
 else
 some ([.b false])
 else
 some ([.b false])
 else
 some ([.b false])
 else
 some ([.b false])
 else
 some ([.b false])
def oG (m : Nat) : Nat -> yY -> Option (List Un) := bp (zY m)
theorem AR (m : Nat) (n : Nat) : oG m (n + 1) = zY m (oG m n) := rfl
def CU (F : yY -> Option (List Un)) : aT := ⟨[.lp [0, 1, 0, 1], .blk 0, .code [1, 1]], ⟨frm 68 [(1, .ptr 0 0 0), (20, .buf 1 1), (21, .int .i64), (22, .int .i64)], [.cells [.int .i64, .int .i64, .int .i64, .ag (sI 2), .ag (sI 3), .int .i64, .int .i64, .int .i64, .int .i64, .int .i64, .int .i64, .int .i64, .int .i64, .int .i64, .int .i64, .ag (sI 2), .ag (sI 2), .ag (sI 2)], .ints .i64], 0⟩, onU F⟩
theorem NU (m : Nat) : ∀ n, HO OD (CU (oG m n)) := ay ak KZ.right (fun k => [CU k]) (fun k h => (aJ h aA)) fun k a => by kernel_rfl
def t117 (m : Nat) : aP -> Option (List Un) := fun a0 =>
 oG m m (5, 0, a0, ([a0.b.oc, a0.b.ic, a0.b.late, a0.b.kV, a0.b.clean] : List Int))
def f117 : aP -> Bool × List Un := fun a0 => (true, [.b (ki a0)])
set_option maxHeartbeats 2000000 in
theorem Ln (a0 : aP) : ∃ m, t117 m a0 = some ([.b (ki a0)]) := by
 refine ⟨6, ?_⟩; unfold t117; rw [show oG 6 6 = oG 6 (0 + 1 + 1 + 1 + 1 + 1 + 1) from rfl]; simp only [AR]; unfold zY; dsimp only; simp (disch := omega) only [TRa, TRi, aa, zaf, zaB, zaI, zaw, Int.reduceToNat, Nat.reduceAdd, za0, Int.reduceAdd, zaW, zaR, Int.reduceLT]; simp only [K3]; rfl
theorem Jd : ER 117 (mkE OD.en OD.ex f117) := aq ak KZ.right (fun m => [CU (oG m m)]) (t := t117) (by kernel_rfl) (fun m => (aJ (NU m m) aA)) (fun m a => by kernel_rfl) fun a0 hc => Ln a0
def JC : Tb Tryz.prog LQ TE XX := KZ.add 117 _ Jd
def gz : Int -> Int -> List Dat -> Option Int
 | _, all, [] => some all
 | last, all, d :: l => if d.i 0 <= last then none else if 0 <= d.i 1 /\ d.i 1 <= 1099511627776 - all then gz (d.i 0) (all + d.i 1) l else none
def eF (l : List Dat) : Option Int := if 1 <= l.length /\ l.length <= 64 then gz 0 0 l else none
def Kp (o : Option Int) : Option (List Un) := some [.i (o.getD 0), .b o.isSome]
def MQ : aD := ⟨JC.tab, 115, ⟨[.ag (sI 2)], [], 0⟩, ⟨[.int .i64, .bool], [], 0⟩, []⟩
abbrev yx : Type := Int × Int × List Dat × Int × Int
def s9 (m : Nat) (k : yx -> Option (List Un)) : yx -> Option (List Un) := fun (a0, a1, a2, a3, a4) =>
 bif decide (a4 < a3) then
 chk (inb a4 a2.length) <|
 chk (decide (a4.toNat < a2.length)) <|
 lt (ae a2 a4.toNat : Dat) fun d2 =>
 bif decide ((d2.i 0) <= a0) then
 some ([.i 0, .b false])
 else
 bif !(decide (0 <= (d2.i 1) /\ (d2.i 1) <= (w64 (1099511627776 - a1)))) then
 some ([.i 0, .b false])
 else
 k ((d2.i 0), (w64 (a1 + (d2.i 1))), a2, a3, (w64 (a4 + 1)))
 else
 some ([.i a1, .b true])
def qM (m : Nat) : Nat -> yx -> Option (List Un) := bp (s9 m)
theorem sh (m : Nat) (n : Nat) : qM m (n + 1) = s9 m (qM m n) := rfl
def DH (F : yx -> Option (List Un)) : aT := ⟨[.lp [0, 1, 0, 1, 1, 1], .blk 0, .code [1, 1, 1, 1]], ⟨frm 38 [(4, .int .i64), (5, .int .i64), (12, .ag (sI 2)), (13, .int .i64), (14, .int .i64)], [], 0⟩, onU F⟩
theorem Ot (m : Nat) : ∀ n, HO MQ (DH (qM m n)) := ay ak JC.right (fun k => [DH k]) (fun k h => (aJ h aA)) fun k a => by kernel_rfl
def t115 (m : Nat) : List Dat -> Option (List Un) := fun a0 =>
 bif !(decide (1 <= (a0.length : Int) /\ (a0.length : Int) <= 64)) then
 some ([.i 0, .b false])
 else
 qM m m (0, 0, a0, (a0.length : Int), 0)
theorem KE (m : Nat) : ∀ (rest pre : List Dat) (n : Nat) (last all : Int), rest.length < n -> (pre ++ rest).length <= 64 -> 0 <= all -> all <= 1099511627776 ->
 qM m n (last, all, pre ++ rest, ((pre ++ rest).length : Int), (pre.length : Int)) = Kp (gz last all rest) := by
 intro rest
 induction rest with
 | nil =>
  intro pre n last all hn hl h0 h1; obtain ⟨n, rfl⟩ := al n (by simp at hn; omega); rw [sh]; unfold s9; dsimp only; simp [aB, gz, Kp]
 | cons x rest ih =>
  intro pre n last all hn hl h0 h1; obtain ⟨n, rfl⟩ := al n (by simp at hn; omega); simp only [zaf, zai] at hn hl; rw [sh]; unfold s9; dsimp only; simp only [gz]
  by_cases c1 : x.i 0 <= last
  . rw [if_pos c1]; simp (disch := omega) only [TRa, TRi, aa, LNl, LNi, zaa, ar]; rfl
  . rw [if_neg c1]
    by_cases c2 : 0 <= x.i 1 /\ x.i 1 <= 1099511627776 - all
    . rw [if_pos c2]; have := ih (pre ++ [x]) n (x.i 0) (all + x.i 1) (by omega) (by simp; omega) (by omega) (by omega); simp (disch := omega) only [TRa, TRi, aa, LNl, LNi, zaa, ar]; simp only [LNl, LNi, zaa] at this ⊢; exact this
    . rw [if_neg c2]; simp (disch := omega) only [TRa, TRi, aa, LNl, LNi, zaa, ar]; rfl
def f115 : List Dat -> Bool × List Un := fun a0 => (true, [.i ((eF a0).getD 0), .b ((eF a0).isSome)])
theorem LP (a0 : List Dat) : ∃ m, t115 m a0 = some ([.i ((eF a0).getD 0), .b ((eF a0).isSome)]) := by
 refine ⟨65, ?_⟩; unfold t115 eF
 by_cases h : 1 <= a0.length /\ a0.length <= 64
 . rw [if_pos h]; simp (disch := omega) only [TRa, TRi, aa]; exact KE 65 a0 [] 65 0 0 (by omega) h.2 (by omega) (by omega)
 . rw [if_neg h]; simp (disch := omega) only [TRa, TRi, aa]; rfl
theorem Hv : ER 115 (mkE MQ.en MQ.ex f115) := aq ak JC.right (fun m => [DH (qM m m)]) (t := t115) (by kernel_rfl) (fun m => (aJ (Ot m m) aA)) (fun m a => by kernel_rfl) fun a0 hc => LP a0
def JX : Tb Tryz.prog LQ TE XX := JC.add 115 _ Hv
def jQ (most : Int) : Int -> List Dat -> Option Int
 | all, [] => some all
 | all, d :: l => if (0 <= d.i 0 /\ d.i 0 <= 7) /\ (1 <= d.i 1 /\ d.i 1 <= most - all) /\ (0 <= d.i 2 /\ d.i 2 <= 5000) then jQ most (all + d.i 1) l else none
def ig (most : Int) (l : List Dat) : Option Int := if 1 <= l.length /\ l.length <= 8 then jQ most 0 l else none
def MZ : aD := ⟨JX.tab, 116, ⟨[.ag (sI 3), .int .i64], [], 0⟩, ⟨[.int .i64, .bool], [], 0⟩, []⟩
abbrev zU : Type := Int × Int × List Dat × Int × Int
def tf (m : Nat) (k : zU -> Option (List Un)) : zU -> Option (List Un) := fun (a0, a1, a2, a3, a4) =>
 bif decide (a4 < a3) then
 chk (inb a4 a2.length) <|
 chk (decide (a4.toNat < a2.length)) <|
 lt (ae a2 a4.toNat : Dat) fun d2 =>
 bif !(decide (0 <= (d2.i 0) /\ (d2.i 0) <= 7)) then
 some ([.i 0, .b false])
 else
 bif !(decide (1 <= (d2.i 1) /\ (d2.i 1) <= (w64 (a0 - a1)))) then
 some ([.i 0, .b false])
 else
 bif !(decide (0 <= (d2.i 2) /\ (d2.i 2) <= 5000)) then
 some ([.i 0, .b false])
 else
 k (a0, (w64 (a1 + (d2.i 1))), a2, a3, (w64 (a4 + 1)))
 else
 some ([.i a1, .b true])
def qd (m : Nat) : Nat -> zU -> Option (List Un) := bp (tf m)
theorem sA (m : Nat) (n : Nat) : qd m (n + 1) = tf m (qd m n) := rfl
def CG (F : zU -> Option (List Un)) : aT := ⟨[.lp [0, 1, 0, 1, 1, 1], .blk 0, .code [1, 1, 1, 1]], ⟨frm 44 [(1, .int .i64), (6, .int .i64), (13, .ag (sI 3)), (14, .int .i64), (15, .int .i64)], [], 0⟩, onU F⟩
theorem Nv (m : Nat) : ∀ n, HO MZ (CG (qd m n)) := ay ak JX.right (fun k => [CG k]) (fun k h => (aJ h aA)) fun k a => by kernel_rfl
def t116 (m : Nat) : List Dat × Int -> Option (List Un) := fun (a0, a1) =>
 bif !(decide (1 <= (a0.length : Int) /\ (a0.length : Int) <= 8)) then
 some ([.i 0, .b false])
 else
 qd m m (a1, 0, a0, (a0.length : Int), 0)
theorem Ju (m : Nat) (most : Int) (hm : 0 <= most /\ most <= 1099511627776) : ∀ (rest pre : List Dat) (n : Nat) (all : Int), rest.length < n -> (pre ++ rest).length <= 8 -> 0 <= all -> all <= most ->
 qd m n (most, all, pre ++ rest, ((pre ++ rest).length : Int), (pre.length : Int)) = Kp (jQ most all rest) := by
 intro rest
 induction rest with
 | nil =>
  intro pre n all hn hl h0 h1; obtain ⟨n, rfl⟩ := al n (by simp at hn; omega); rw [sA]; unfold tf; dsimp only; simp [aB, jQ, Kp]
 | cons x rest ih =>
  intro pre n all hn hl h0 h1; obtain ⟨n, rfl⟩ := al n (by simp at hn; omega); simp only [zaf, zai] at hn hl; rw [sA]; unfold tf; dsimp only; simp only [jQ]
  by_cases c1 : 0 <= x.i 0 /\ x.i 0 <= 7
  . by_cases c2 : 1 <= x.i 1 /\ x.i 1 <= most - all
    . by_cases c3 : 0 <= x.i 2 /\ x.i 2 <= 5000
      . rw [if_pos ⟨c1, c2, c3⟩]; have := ih (pre ++ [x]) n (all + x.i 1) (by omega) (by simp; omega) (by omega) (by omega); simp (disch := omega) only [TRa, TRi, aa, LNl, LNi, zaa, ar]; simp only [LNl, LNi, zaa] at this ⊢; exact this
      . rw [if_neg (fun h => c3 h.2.2)]; simp (disch := omega) only [TRa, TRi, aa, LNl, LNi, zaa, ar]; rfl
    . rw [if_neg (fun h => c2 h.2.1)]; simp (disch := omega) only [TRa, TRi, aa, LNl, LNi, zaa, ar]; rfl
  . rw [if_neg (fun h => c1 h.1)]; simp (disch := omega) only [TRa, TRi, aa, LNl, LNi, zaa, ar]; rfl
def f116 : List Dat × Int -> Bool × List Un := fun (a0, a1) => (decide (0 <= a1 /\ a1 <= 1099511627776), [.i ((ig a1 a0).getD 0), .b ((ig a1 a0).isSome)])
theorem Ks (a0 : List Dat) (a1 : Int) (hc : (decide (0 <= a1 /\ a1 <= 1099511627776)) = true) : ∃ m, t116 m (a0, a1) = some ([.i ((ig a1 a0).getD 0), .b ((ig a1 a0).isSome)]) := by
 have hm := zak hc; refine ⟨65, ?_⟩; unfold t116 ig
 by_cases h : 1 <= a0.length /\ a0.length <= 8
 . rw [if_pos h]; simp (disch := omega) only [TRa, TRi, aa]; exact Ju 65 a1 hm a0 [] 65 0 (by omega) h.2 (by omega) (by omega)
 . rw [if_neg h]; simp (disch := omega) only [TRa, TRi, aa]; rfl
theorem GC : ER 116 (mkE MZ.en MZ.ex f116) := aq ak JX.right (fun m => [CG (qd m m)]) (t := t116) (by kernel_rfl) (fun m => (aJ (Nv m m) aA)) (fun m a => by kernel_rfl) fun (a0, a1) hc => Ks a0 a1 hc
def Ma : Tb Tryz.prog LQ TE XX := JX.add 116 _ GC
def zM (d : Dat) : Bool := decide (1 <= d.i 0 /\ d.i 0 <= 7) && decide (0 <= d.i 1 /\ d.i 1 <= (if d.i 0 = 3 then 7 else 0))
def jP : List Dat -> List Dat -> Bool
 | _, [] => true
 | pre, d :: l => zM d && (!ca pre (d.i 0) (d.i 1) && jP (pre ++ [d]) l)
def dm (l : List Dat) : Bool := decide (1 <= (l.length : Int) /\ (l.length : Int) <= 16) && jP [] l
def O1 : aD := ⟨Ma.tab, 118, ⟨[.ag (sI 2)], [], 0⟩, ⟨[.bool], [], 0⟩, []⟩
abbrev zQ : Type := List Dat × List Dat × Int × Int
def sV (m : Nat) (k : zQ -> Option (List Un)) : zQ -> Option (List Un) := fun (a0, a1, a2, a3) =>
 bif decide (a3 < a2) then
 chk (inb a3 a1.length) <|
 chk (decide (a3.toNat < a1.length)) <|
 lt (ae a1 a3.toNat : Dat) fun d2 =>
 bif (d2.i 0) == 3 then
 bif !(decide (1 <= (d2.i 0) /\ (d2.i 0) <= 7)) then
 some ([.b false])
 else
 bif !(decide (0 <= (d2.i 1) /\ (d2.i 1) <= 7)) then
 some ([.b false])
 else
 chk (decide (0 <= a3) && (true && decide (0 <= a3.toNat /\ a3.toNat <= a0.length))) <|
 chk (decide ((List.take a3.toNat a0).length < 1099511627776)) <|
 bif (ca (List.take a3.toNat a0) (d2.i 0) (d2.i 1)) then
 some ([.b false])
 else
 k (a0, a1, a2, (w64 (a3 + 1)))
 else
 bif !(decide (1 <= (d2.i 0) /\ (d2.i 0) <= 7)) then
 some ([.b false])
 else
 bif !(decide (0 <= (d2.i 1) /\ (d2.i 1) <= 0)) then
 some ([.b false])
 else
 chk (decide (0 <= a3) && (true && decide (0 <= a3.toNat /\ a3.toNat <= a0.length))) <|
 chk (decide ((List.take a3.toNat a0).length < 1099511627776)) <|
 bif (ca (List.take a3.toNat a0) (d2.i 0) (d2.i 1)) then
 some ([.b false])
 else
 k (a0, a1, a2, (w64 (a3 + 1)))
 else
 some ([.b true])
def qc (m : Nat) : Nat -> zQ -> Option (List Un) := bp (sV m)
theorem se (m : Nat) (n : Nat) : qc m (n + 1) = sV m (qc m n) := rfl
def Cm (F : zQ -> Option (List Un)) : aT := ⟨[.lp [0, 1, 0, 1, 1], .blk 0, .code [1, 1, 1]], ⟨frm 39 [(0, .ag (sI 2)), (10, .ag (sI 2)), (11, .int .i64), (12, .int .i64)], [], 0⟩, onU F⟩
theorem OL (m : Nat) : ∀ n, HO O1 (Cm (qc m n)) := ay ak Ma.right (fun k => [Cm k]) (fun k h => (aJ h aA)) fun k a => by kernel_rfl
def t118 (m : Nat) : List Dat -> Option (List Un) := fun a0 =>
 bif !(decide (1 <= (a0.length : Int) /\ (a0.length : Int) <= 16)) then
 some ([.b false])
 else
 qc m m (a0, a0, (a0.length : Int), 0)
theorem JV (m : Nat) : ∀ (rest pre : List Dat) (n : Nat), rest.length < n -> (pre ++ rest).length <= 16 ->
 qc m n (pre ++ rest, pre ++ rest, ((pre ++ rest).length : Int), (pre.length : Int)) = some [.b (jP pre rest)] := by
 intro rest
 induction rest with
 | nil =>
  intro pre n hn hl; obtain ⟨n, rfl⟩ := al n (by simp at hn; omega); rw [se]; unfold sV; dsimp only; simp [aB, jP]
 | cons x rest ih =>
  intro pre n hn hl; obtain ⟨n, rfl⟩ := al n (by simp at hn; omega); simp only [zaf, zai] at hn hl; rw [se]; unfold sV; dsimp only; have := ih (pre ++ [x]) n (by omega) (by simp; omega); simp only [jP, zM]
  by_cases c1 : 1 <= x.i 0 /\ x.i 0 <= 7
  . by_cases c3 : x.i 0 = 3
    . by_cases c2 : 0 <= x.i 1 /\ x.i 1 <= 7
      . cases h : ca pre (x.i 0) (x.i 1)
        . simp (disch := omega) only [TRa, TRi, aa, LNl, LNi, zaa, ar, zaM]; simp only [List.take_left, h, zap, if_pos c3, zad c1, zad c2, zba, Bool.not_false]
          (try simp (disch := omega) only [TRa, TRi, aa, LNl, LNi, zaa, ar, zaM])
          simp only [LNl, LNi, zaa] at this ⊢; exact this
        . simp (disch := omega) only [TRa, TRi, aa, LNl, LNi, zaa, ar, zaM]; simp only [List.take_left, h, zaG, if_pos c3, zad c1, zad c2, zba, zbE, zbH]
      . simp (disch := omega) only [TRa, TRi, aa, LNl, LNi, zaa, ar, zaM]; simp only [if_pos c3, zaL c2, Bool.and_false, zbH]
    . by_cases c2 : 0 <= x.i 1 /\ x.i 1 <= 0
      . cases h : ca pre (x.i 0) (x.i 1)
        . simp (disch := omega) only [TRa, TRi, aa, LNl, LNi, zaa, ar, zaM]; simp only [List.take_left, h, zap, if_neg c3, zad c1, zad c2, zba, Bool.not_false]
          (try simp (disch := omega) only [TRa, TRi, aa, LNl, LNi, zaa, ar, zaM])
          simp only [LNl, LNi, zaa] at this ⊢; exact this
        . simp (disch := omega) only [TRa, TRi, aa, LNl, LNi, zaa, ar, zaM]; simp only [List.take_left, h, zaG, if_neg c3, zad c1, zad c2, zba, zbE, zbH]
      . simp (disch := omega) only [TRa, TRi, aa, LNl, LNi, zaa, ar, zaM]; simp only [if_neg c3, zaL c2, Bool.and_false, zbH]
  . by_cases c3 : x.i 0 = 3
    . omega
    . simp (disch := omega) only [TRa, TRi, aa, LNl, LNi, zaa, ar, zaM]; simp only [zaL c1, zbH]
def f118 : List Dat -> Bool × List Un := fun a0 => (true, [.b (dm a0)])
theorem Kq (a0 : List Dat) : ∃ m, t118 m a0 = some ([.b (dm a0)]) := by
 refine ⟨17, ?_⟩; unfold t118 dm
 by_cases h : 1 <= (a0.length : Int) /\ (a0.length : Int) <= 16
 . rw [zad h, zba]; simp (disch := omega) only [TRa, TRi, aa]; exact JV 17 a0 [] 17 (by omega) (by simp; omega)
 . rw [zaL h, zbH]; simp (disch := omega) only [TRa, TRi, aa]
theorem G4 : ER 118 (mkE O1.en O1.ex f118) := aq ak Ma.right (fun m => [Cm (qc m m)]) (t := t118) (by kernel_rfl) (fun m => (aJ (OL m m) aA)) (fun m a => by kernel_rfl) fun a0 hc => Kq a0
def Pl : Tb Tryz.prog LQ TE XX := Ma.add 118 _ G4
def bu (d : aP) : Option (Int × Int) :=
 match eF d.aC with
 | none => none
 | some p => match ig p d.notes with
  | none => none
  | some n => if ki d && (dm d.s0 && (dm d.s1 && dm d.s2)) then some (p, n) else none
theorem yr : ∀ (l : List Dat) (last all r : Int), 0 <= all -> all <= 1099511627776 -> gz last all l = some r -> all <= r /\ r <= 1099511627776
 | [], last, all, r, h0, h1, h => by simp [gz] at h; omega
 | d :: l, last, all, r, h0, h1, h => by
  unfold gz at h
  split at h
  . cases h
  . split at h
    . have := yr l _ _ r (by omega) (by omega) h; omega
    . cases h
theorem FZ {l : List Dat} {r : Int} (h : eF l = some r) : 0 <= r /\ r <= 1099511627776 := by
 unfold eF at h
 split at h
 . exact yr l 0 0 r (by omega) (by omega) h
 . cases h
def N59 : aD := ⟨Pl.tab, 59, ⟨[.agg [.int .i64, .int .i64, .int .i64, .ag (sI 2), .ag (sI 3), .int .i64, .int .i64, .int .i64, .int .i64, .int .i64, .int .i64, .int .i64, .int .i64, .int .i64, .int .i64, .ag (sI 2), .ag (sI 2), .ag (sI 2)]], [], 0⟩, ⟨[.int .i64, .int .i64, .bool], [], 0⟩, [[0, 1, 0, 1, 1, 1, 1]]⟩
def t59 (m : Nat) : aP -> Option (List Un) := fun a0 =>
 chk (decide (0 <= ((eF a0.aC).getD 0) /\ ((eF a0.aC).getD 0) <= 1099511627776)) <|
 bif !((eF a0.aC).isSome) then
 some ([.i 0, .i 0, .b false])
 else
 bif !((ig ((eF a0.aC).getD 0) a0.notes).isSome) then
 some ([.i 0, .i 0, .b false])
 else
 bif !(ki a0) then
 some ([.i 0, .i 0, .b false])
 else
 bif !(dm a0.s0) then
 some ([.i 0, .i 0, .b false])
 else
 bif !(dm a0.s1) then
 some ([.i 0, .i 0, .b false])
 else
 bif !(dm a0.s2) then
 some ([.i 0, .i 0, .b false])
 else
 some ([.i ((eF a0.aC).getD 0), .i ((ig ((eF a0.aC).getD 0) a0.notes).getD 0), .b true])
def f59 : aP -> Bool × List Un := fun a0 => (true, [.i (((bu a0).getD (0, 0)).1), .i (((bu a0).getD (0, 0)).2), .b ((bu a0).isSome)])
theorem Od (a0 : aP) : ∃ m, t59 m a0 = some ([.i (((bu a0).getD (0, 0)).1), .i (((bu a0).getD (0, 0)).2), .b ((bu a0).isSome)]) := by
 refine ⟨0, ?_⟩; unfold t59 bu; cases hl : eF a0.aC with
 | none => simp [lt, chk]
 | some p =>
  have hb := FZ hl; simp only [lt_eq, zby, Option.isSome_some, zbE, zap]; rw [aV hb]; cases hn : ig p a0.notes with
  | none => simp
  | some n =>
   simp only [Option.isSome_some, zbE, zap, zby]; cases ki a0 <;> cases dm a0.s0 <;> cases dm a0.s1 <;> cases dm a0.s2 <;> rfl
theorem Ji : ER 59 (mkE N59.en N59.ex f59) := aq ak Pl.right (fun m => []) (t := t59) (by kernel_rfl) (fun m => aA) (fun m a => by kernel_rfl) fun a0 hc => Od a0
def T59 : Tb Tryz.prog LQ TE XX := Pl.add 59 _ Ji
def N37 : aD := ⟨T59.tab, 37, ⟨[.agg [.int .i64, .int .i64, .int .i64, .ag (sI 2), .ag (sI 3), .int .i64, .int .i64, .int .i64, .int .i64, .int .i64, .int .i64, .int .i64, .int .i64, .int .i64, .int .i64, .ag (sI 2), .ag (sI 2), .ag (sI 2)]], [], 0⟩, ⟨[.bool], [], 0⟩, []⟩
def t37 (m : Nat) : aP -> Option (List Un) := fun a0 =>
 some ([.b ((bu a0).isSome)])
def f37 : aP -> Bool × List Un := fun a0 => (true, [.b ((bu a0).isSome)])
theorem Pp (a0 : aP) : ∃ m, t37 m a0 = some ([.b ((bu a0).isSome)]) := by
 exact ⟨0, rfl⟩
theorem Ko : ER 37 (mkE N37.en N37.ex f37) := aq ak T59.right (fun m => []) (t := t37) (by kernel_rfl) (fun m => aA) (fun m a => by kernel_rfl) fun a0 hc => Pp a0
def T37 : Tb Tryz.prog LQ TE XX := T59.add 37 _ Ko
def N21 : aD := ⟨T37.tab, 21, ⟨[.agg [.int .i64, .int .i64, .int .i64, .ag (sI 2), .ag (sI 3), .int .i64, .int .i64, .int .i64, .int .i64, .int .i64, .int .i64, .int .i64, .int .i64, .int .i64, .int .i64, .ag (sI 2), .ag (sI 2), .ag (sI 2)]], [], 0⟩, ⟨[.int .i64], [], 0⟩, []⟩
def t21 (m : Nat) : aP -> Option (List Un) := fun a0 =>
 some ([.i (((bu a0).getD (0, 0)).1)])
def f21 : aP -> Bool × List Un := fun a0 => (true, [.i (((bu a0).getD (0, 0)).1)])
theorem O0 (a0 : aP) : ∃ m, t21 m a0 = some ([.i (((bu a0).getD (0, 0)).1)]) := by
 exact ⟨0, rfl⟩
theorem J9 : ER 21 (mkE N21.en N21.ex f21) := aq ak T37.right (fun m => []) (t := t21) (by kernel_rfl) (fun m => aA) (fun m a => by kernel_rfl) fun a0 hc => O0 a0
def T21 : Tb Tryz.prog LQ TE XX := T37.add 21 _ J9
def N62 : aD := ⟨T21.tab, 62, ⟨[.ag (sI 7)], [], 0⟩, ⟨[.buf 0 7], [.ag (sI 7)], 0⟩, []⟩
def t62 (m : Nat) : List Dat -> Option (List Un) := fun a0 =>
 bif decide (a0.length = 0) then
 both (
 some ([.d ([])])) (
 chk (fits (0 + a0.length) 56) <|
 some ([.d a0]))
 else
 chk (fits (0 + a0.length) 56) <|
 some ([.d a0])
def f62 : List Dat -> Bool × List Un := fun a0 => (decide (a0.length < 1000000), [.d (a0)])
theorem ON (a0 : List Dat) (hc : (decide (a0.length < 1000000)) = true) : ∃ m, t62 m a0 = some ([.d (a0)]) := by
 have h := zak hc; refine ⟨0, ?_⟩; unfold t62; cases a0 with
 | nil => simp (disch := omega) only [TRa, TRi, aa, zaB, jt, zbd, iu]
 | cons x l =>
  simp only [zaf] at h ⊢; simp (disch := omega) only [TRa, TRi, aa]
theorem Jr : ER 62 (mkE N62.en N62.ex f62) := aq ak T21.right (fun m => []) (t := t62) (by kernel_rfl) (fun m => aA) (fun m a => by kernel_rfl) fun a0 hc => ON a0 hc
def T62 : Tb Tryz.prog LQ TE XX := T21.add 62 _ Jr
def N89 : aD := ⟨T62.tab, 89, ⟨[.ag (sI 2)], [], 0⟩, ⟨[.buf 0 2], [.ag (sI 2)], 0⟩, []⟩
def t89 (m : Nat) : List Dat -> Option (List Un) := fun a0 =>
 bif decide (a0.length = 0) then
 both (
 some ([.d ([])])) (
 chk (fits (0 + a0.length) 16) <|
 some ([.d a0]))
 else
 chk (fits (0 + a0.length) 16) <|
 some ([.d a0])
def f89 : List Dat -> Bool × List Un := fun a0 => (decide (a0.length < 1000000), [.d (a0)])
theorem OF (a0 : List Dat) (hc : (decide (a0.length < 1000000)) = true) : ∃ m, t89 m a0 = some ([.d (a0)]) := by
 have h := zak hc; refine ⟨0, ?_⟩; unfold t89; cases a0 with
 | nil => simp (disch := omega) only [TRa, TRi, aa, zaB, jt, zbd, iu]
 | cons x l =>
  simp only [zaf] at h ⊢; simp (disch := omega) only [TRa, TRi, aa]
theorem Mo : ER 89 (mkE N89.en N89.ex f89) := aq ak T62.right (fun m => []) (t := t89) (by kernel_rfl) (fun m => aA) (fun m a => by kernel_rfl) fun a0 hc => OF a0 hc
def T89 : Tb Tryz.prog LQ TE XX := T62.add 89 _ Mo
def N90 : aD := ⟨T89.tab, 90, ⟨[.ag (sI 3)], [], 0⟩, ⟨[.buf 0 3], [.ag (sI 3)], 0⟩, []⟩
def t90 (m : Nat) : List Dat -> Option (List Un) := fun a0 =>
 bif decide (a0.length = 0) then
 both (
 some ([.d ([])])) (
 chk (fits (0 + a0.length) 24) <|
 some ([.d a0]))
 else
 chk (fits (0 + a0.length) 24) <|
 some ([.d a0])
def f90 : List Dat -> Bool × List Un := fun a0 => (decide (a0.length < 1000000), [.d (a0)])
theorem Pd (a0 : List Dat) (hc : (decide (a0.length < 1000000)) = true) : ∃ m, t90 m a0 = some ([.d (a0)]) := by
 have h := zak hc; refine ⟨0, ?_⟩; unfold t90; cases a0 with
 | nil => simp (disch := omega) only [TRa, TRi, aa, zaB, jt, zbd, iu]
 | cons x l =>
  simp only [zaf] at h ⊢; simp (disch := omega) only [TRa, TRi, aa]
theorem KT : ER 90 (mkE N90.en N90.ex f90) := aq ak T89.right (fun m => []) (t := t90) (by kernel_rfl) (fun m => aA) (fun m a => by kernel_rfl) fun a0 hc => Pd a0 hc
def T90 : Tb Tryz.prog LQ TE XX := T89.add 90 _ KT
def N91 : aD := ⟨T90.tab, 91, ⟨[.ag (sI 2)], [], 0⟩, ⟨[.buf 0 2], [.ag (sI 2)], 0⟩, []⟩
def t91 (m : Nat) : List Dat -> Option (List Un) := fun a0 =>
 bif decide (a0.length = 0) then
 both (
 some ([.d ([])])) (
 chk (fits (0 + a0.length) 16) <|
 some ([.d a0]))
 else
 chk (fits (0 + a0.length) 16) <|
 some ([.d a0])
def f91 : List Dat -> Bool × List Un := fun a0 => (decide (a0.length < 1000000), [.d (a0)])
theorem Pg (a0 : List Dat) (hc : (decide (a0.length < 1000000)) = true) : ∃ m, t91 m a0 = some ([.d (a0)]) := by
 have h := zak hc; refine ⟨0, ?_⟩; unfold t91; cases a0 with
 | nil => simp (disch := omega) only [TRa, TRi, aa, zaB, jt, zbd, iu]
 | cons x l =>
  simp only [zaf] at h ⊢; simp (disch := omega) only [TRa, TRi, aa]
theorem My : ER 91 (mkE N91.en N91.ex f91) := aq ak T90.right (fun m => []) (t := t91) (by kernel_rfl) (fun m => aA) (fun m a => by kernel_rfl) fun a0 hc => Pg a0 hc
def T91 : Tb Tryz.prog LQ TE XX := T90.add 91 _ My
def Ro : aD := ⟨T91.tab, 102, ⟨[.ag (sI 3)], [], 0⟩, ⟨[.buf 0 3], [.ag (sI 3)], 0⟩, []⟩
def t102 (m : Nat) : List Dat -> Option (List Un) := fun a0 =>
 bif decide (a0.length = 0) then
 both (
 some ([.d ([])])) (
 chk (fits (0 + a0.length) 24) <|
 some ([.d a0]))
 else
 chk (fits (0 + a0.length) 24) <|
 some ([.d a0])
def f102 : List Dat -> Bool × List Un := fun a0 => (decide (a0.length < 1000000), [.d (a0)])
theorem LI (a0 : List Dat) (hc : (decide (a0.length < 1000000)) = true) : ∃ m, t102 m a0 = some ([.d (a0)]) := by
 have h := zak hc; refine ⟨0, ?_⟩; unfold t102; cases a0 with
 | nil => simp (disch := omega) only [TRa, TRi, aa, zaB, jt, zbd, iu]
 | cons x l =>
  simp only [zaf] at h ⊢; simp (disch := omega) only [TRa, TRi, aa]
theorem IZ : ER 102 (mkE Ro.en Ro.ex f102) := aq ak T91.right (fun m => []) (t := t102) (by kernel_rfl) (fun m => aA) (fun m a => by kernel_rfl) fun a0 hc => LI a0 hc
def M7 : Tb Tryz.prog LQ TE XX := T91.add 102 _ IZ
def Qk : aD := ⟨M7.tab, 114, ⟨[.ag (sB 4)], [], 0⟩, ⟨[.buf 0 5], [.ag (sB 4)], 0⟩, []⟩
def t114 (m : Nat) : List Dat -> Option (List Un) := fun a0 =>
 bif decide (a0.length = 0) then
 both (
 some ([.d ([])])) (
 chk (fits (0 + a0.length) 40) <|
 some ([.d a0]))
 else
 chk (fits (0 + a0.length) 40) <|
 some ([.d a0])
def f114 : List Dat -> Bool × List Un := fun a0 => (decide (a0.length < 1000000), [.d (a0)])
theorem KY (a0 : List Dat) (hc : (decide (a0.length < 1000000)) = true) : ∃ m, t114 m a0 = some ([.d (a0)]) := by
 have h := zak hc; refine ⟨0, ?_⟩; unfold t114; cases a0 with
 | nil => simp (disch := omega) only [TRa, TRi, aa, zaB, jt, zbd, iu]
 | cons x l =>
  simp only [zaf] at h ⊢; simp (disch := omega) only [TRa, TRi, aa]
theorem Ih : ER 114 (mkE Qk.en Qk.ex f114) := aq ak M7.right (fun m => []) (t := t114) (by kernel_rfl) (fun m => aA) (fun m a => by kernel_rfl) fun a0 hc => KY a0 hc
def NS : Tb Tryz.prog LQ TE XX := M7.add 114 _ Ih
def N38 : aD := ⟨NS.tab, 38, ⟨[.agg [.int .i64, .int .i64, .int .i64, .ag (sI 2), .ag (sI 3), .int .i64, .int .i64, .int .i64, .int .i64, .int .i64, .int .i64, .int .i64, .int .i64, .int .i64, .int .i64, .ag (sI 2), .ag (sI 2), .ag (sI 2)]], [], 0⟩, ⟨[.agg [.int .i64, .int .i64, .int .i64, .buf 0 2, .buf 1 3, .int .i64, .int .i64, .int .i64, .int .i64, .int .i64, .int .i64, .int .i64, .int .i64, .int .i64, .int .i64, .buf 2 2, .buf 3 2, .buf 4 2]], [.ag (sI 2), .ag (sI 3), .ag (sI 2), .ag (sI 2), .ag (sI 2)], 0⟩, [[0, 1, 0, 1, 1, 1]]⟩
def t38 (m : Nat) : aP -> Option (List Un) := fun a0 =>
 chk (decide (a0.aC.length < 1000000)) <|
 chk (decide (a0.notes.length < 1000000)) <|
 chk (decide (a0.s0.length < 1000000)) <|
 chk (decide (a0.s1.length < 1000000)) <|
 chk (decide (a0.s2.length < 1000000)) <|
 some (Uns.enc (a0.a : ao) ++ Uns.enc (a0.b : an) ++ [.d a0.aC, .d a0.notes, .d a0.s0, .d a0.s1, .d a0.s2])
def f38 : aP -> Bool × List Un := fun a0 => (decide (a0.aC.length < 1000000 /\ a0.notes.length < 1000000 /\ a0.s0.length < 1000000 /\ a0.s1.length < 1000000 /\ a0.s2.length < 1000000), Uns.enc ((a0.a) : ao) ++ Uns.enc ((a0.b) : an) ++ [.d (a0.aC), .d (a0.notes), .d (a0.s0), .d (a0.s1), .d (a0.s2)])
theorem O8 (a0 : aP) (hc : (decide (a0.aC.length < 1000000 /\ a0.notes.length < 1000000 /\ a0.s0.length < 1000000 /\ a0.s1.length < 1000000 /\ a0.s2.length < 1000000)) = true) : ∃ m, t38 m a0 = some (Uns.enc ((a0.a) : ao) ++ Uns.enc ((a0.b) : an) ++ [.d (a0.aC), .d (a0.notes), .d (a0.s0), .d (a0.s1), .d (a0.s2)]) := by
 obtain ⟨h1, h2, h3, h4, h5⟩ := zak hc; refine ⟨0, ?_⟩; unfold t38; simp (disch := omega) only [TRa, TRi, aa]
theorem JG : ER 38 (mkE N38.en N38.ex f38) := aq ak NS.right (fun m => []) (t := t38) (by kernel_rfl) (fun m => aA) (fun m a => by kernel_rfl) fun a0 hc => O8 a0 hc
def T38 : Tb Tryz.prog LQ TE XX := NS.add 38 _ JG
theorem Ew : ∀ (l : List Int) (i : Nat) (last all : Int), last < 2 * (i : Int) + 1 -> i + l.length <= 40 -> 0 <= all -> all + 100000 * l.length + 50000 <= 1099511627776 ->
 gz last all (eO i l ++ [.r [.n 99, .n 50000]]) = some (all + af 1 (eO i l ++ [.r [.n 99, .n 50000]]))
 | [], i, last, all, h1, h2, h3, h4 => by
  have e0 : (Dat.r [.n 99, .n 50000]).i 0 = 99 := rfl; have e1 : (Dat.r [.n 99, .n 50000]).i 1 = 50000 := rfl; simp only [eO, zaH, gz, af, e0, e1]; simp only [zaB] at h2 h4; rw [if_neg (by omega), if_pos (by omega)]; rfl
 | x :: l, i, last, all, h1, h2, h3, h4 => by
  have hx := bc (a := x) (show (0 : Int) <= 100000 by decide); have e0 : (AX i x).i 0 = 2 * (i : Int) + 1 := rfl; have e1 : (AX i x).i 1 = within x 0 100000 := rfl; simp only [zaf] at h2 h4; have := Ew l (i + 1) (2 * (i : Int) + 1) (all + within x 0 100000) (by omega) (by omega) (by omega) (by omega); simp only [eO, zaY, gz, af, e0, e1]; rw [if_neg (by omega), if_pos (by omega), this, Int.add_assoc]
theorem JT (k : cS) : eF (dI k) = some (gY k) := by
 have hl := l6 k; have h1 : 1 <= (dI k).length := by simp [dI]
 have := Ew (k.aC.take 10) 0 0 0 (by decide) (by simp; omega) (by decide) (by simp; omega); unfold eF; rw [if_pos ⟨h1, by omega⟩]; simpa [dI, jb, gY] using this
theorem vQ (p q : Int) (hp : 0 <= q) : ∀ (l : List Dat) (all : Int), (∀ d ∈ l, (0 <= d.i 0 /\ d.i 0 <= 7) /\ (1 <= d.i 1 /\ d.i 1 <= q) /\ (0 <= d.i 2 /\ d.i 2 <= 5000)) -> all + l.length * q <= p -> jQ p all l = some (all + af 1 l)
 | [], all, _, _ => by simp [jQ, af]
 | d :: l, all, h, hb => by
  have hd := h d (by simp); simp only [zaf, zas, zbQ] at hb; have hl : 0 <= (l.length : Int) * q := zaZ (by omega) hp; have e : ((1 : Nat) : Int) * q = q := by simp
  have := vQ p q hp l (all + d.i 1) (fun x hx => h x (by simp [hx])) (by omega); simp only [jQ, af]; rw [if_pos ⟨hd.1, ⟨hd.2.1.1, by omega⟩, hd.2.2⟩, this, Int.add_assoc]
theorem Dk (k : cS) : ∀ d ∈ g9 k, (0 <= d.i 0 /\ d.i 0 <= 3) /\ (1 <= d.i 1 /\ d.i 1 <= 1 + gY k / 6) /\ (0 <= d.i 2 /\ d.i 2 <= 1200) := by
 have hp := vu k; simp only [g9, za3, zbs]
 rintro d ⟨i, hi, rfl⟩
 have h1 := bc (a := bo k.nV i) (show (0 : Int) <= 3 by decide); have h2 := bc (a := bo k.notes i) (show (0 : Int) <= gY k / 6 by omega); have h3 := bc (a := bo k.xD i) (show (0 : Int) <= 1200 by decide); simp only [E3, Gz, ez, hG]; omega
theorem ur (k : cS) : 1 <= (g9 k).length /\ (g9 k).length <= 5 := by simp [g9]; omega
theorem KX (k : cS) : ig (gY k) (g9 k) = some (af 1 (g9 k)) := by
 have hp := vu k; have hl := ur k; unfold ig; rw [if_pos ⟨hl.1, by omega⟩]; refine (vQ (gY k) (1 + gY k / 6) (by omega) (g9 k) 0 (fun d hd => ?_) ?_).trans (by rw [za0])
 . have := Dk k d hd; omega
 . have : ((g9 k).length : Int) * (1 + gY k / 6) <= 5 * (1 + gY k / 6) := za2 (by omega) (by omega); omega
theorem Pa (k : cS) : ki (aQ k) = true := by
 have h1 := bc (a := k.a.year) (show (1990 : Int) <= 2040 by decide); have h2 := bc (a := k.a.month) (show (1 : Int) <= 12 by decide); have h3 := bc (a := k.a.basis) (show (0 : Int) <= 2 by decide); have h4 := bc (a := k.b.fee) (show (0 : Int) <= 200 by decide); have h5 := bc (a := k.b.bU) (show (0 : Int) <= 5000 by decide); have h6 := bc (a := k.b.target) (show (0 : Int) <= 500 by decide); have h7 := bc (a := k.b.advance) (show (0 : Int) <= 3000 by decide); have h8 := bc (a := k.b.et) (show (0 : Int) <= 3 by decide); have h9 := bc (a := k.b.oc) (show (0 : Int) <= 12000 by decide); have h10 := bc (a := k.b.ic) (show (0 : Int) <= 15000 by decide); have h11 := bc (a := k.b.late) (show (0 : Int) <= 5000 by decide); have h12 := bc (a := k.b.kV) (show (0 : Int) <= 5000 by decide); have h13 := bc (a := k.b.clean) (show (0 : Int) <= 3000 by decide); simp only [ki, zab, zac]; simp only [aQ]; omega
theorem rE (d : Dat) : ∀ (l pre : List Dat), jP pre (l ++ [d]) = (jP pre l && (zM d && !ca (pre ++ l) (d.i 0) (d.i 1)))
 | [], pre => by simp [jP]
 | x :: l, pre => by
  simp only [zaY, jP, rE d l (pre ++ [x]), zaA, zaH, Bool.and_assoc]
theorem yv : ∀ (xs : List Int) (acc : List Dat), jP [] acc = true -> jP [] (fH acc xs) = true
 | [], acc, h => h
 | x :: xs, acc, h => by
  simp only [fH]; refine yv xs _ ?_
  cases hs : ca acc (within x 1 7) (jK x)
  . have e0 : (Dat.r [.n (within x 1 7), .n (jK x)]).i 0 = within x 1 7 := rfl; have e1 : (Dat.r [.n (within x 1 7), .n (jK x)]).i 1 = jK x := rfl; have hx := bc (a := x) (show (1 : Int) <= 7 by decide); simp only [zbW, zbh]; rw [rE, h, zaH, e0, e1, hs, zba, Bool.not_false, za6]; simp only [zM, e0, e1, zab, zac]; refine ⟨hx, ?_⟩; unfold jK
    by_cases h3 : within x 1 7 = 3
    . have := bc (a := w64 (x.tdiv 7)) (show (0 : Int) <= 3 by decide); rw [if_pos h3, if_pos h3]; omega
    . rw [if_neg h3, if_neg h3]; omega
  . simp only [za7]; exact h
theorem lC (l : List Int) : 1 <= (mM l).length /\ (mM l).length <= 12 := by
 unfold mM
 split
 . decide
 . have := wF (l.take 12) []; simp at this; omega
theorem qx (l : List Int) : dm (mM l) = true := by
 have hl := lC l; unfold dm; rw [zad (by omega), zba]; unfold mM
 split
 . decide
 . exact yv _ _ rfl
theorem Bb (k : cS) : bu (aQ k) = some (gY k, af 1 (g9 k)) := by
 have h1 : eF (aQ k).aC = some (gY k) := JT k; have h2 : ig (gY k) (aQ k).notes = some (af 1 (g9 k)) := KX k; simp only [bu, h1, h2, Pa, show dm (aQ k).s0 = true from qx _, show dm (aQ k).s1 = true from qx _, show dm (aQ k).s2 = true from qx _, zb9, za7]
theorem Bd (k : cS) : (aQ k).aC.length < 1000000 /\ (aQ k).notes.length < 1000000 /\ (aQ k).s0.length < 1000000 /\ (aQ k).s1.length < 1000000 /\ (aQ k).s2.length < 1000000 := by
 have h1 := l6 k; have h2 := ur k; have h3 := lC k.s0; have h4 := lC k.s1; have h5 := lC k.s2; simp only [aQ]; omega
def N40 : aD := ⟨T38.tab, 40, ⟨[.int .i64], [], 0⟩, ⟨[.agg [.int .i64, .int .i64]], [], 0⟩, []⟩
def t40 (m : Nat) : Int -> Option (List Un) := fun a0 =>
 bif (decide ((([0, a0]).getD 0 0) < 0)) then
 some ([.i 0, .i 0])
 else
 bif (decide ((([0, a0]).getD 0 0) > 1152921504606846976)) then
 some ([.i 0, .i 0])
 else
 lt ((w64 (0 + (([0, a0]).getD 0 0))) : Int) fun x3 =>
 bif (decide ((([0, a0]).getD 1 0) < 0)) then
 some ([.i 0, .i 0])
 else
 bif (decide ((([0, a0]).getD 1 0) > (w64 (1152921504606846976 - x3)))) then
 some ([.i 0, .i 0])
 else
 some ([.i (w64 (x3 + (([0, a0]).getD 1 0))), .i 0])
def f40 : Int -> Bool × List Un := fun a0 => (decide (0 <= a0 /\ a0 <= 1152921504606846976), [.i (a0), .i (0)])
theorem Ob (a0 : Int) (hc : (decide (0 <= a0 /\ a0 <= 1152921504606846976)) = true) : ∃ m, t40 m a0 = some ([.i (a0), .i (0)]) := by
 have h := zak hc; refine ⟨0, ?_⟩; unfold t40; simp only [zaI, zaw]; simp (disch := omega) only [TRa, TRi, aa, za0, zbo]
theorem JM : ER 40 (mkE N40.en N40.ex f40) := aq ak T38.right (fun m => []) (t := t40) (by kernel_rfl) (fun m => aA) (fun m a => by kernel_rfl) fun a0 hc => Ob a0 hc
def T40 : Tb Tryz.prog LQ TE XX := T38.add 40 _ JM
def N41 : aD := ⟨T40.tab, 41, ⟨[.agg [.int .i64, .int .i64, .int .i64]], [], 0⟩, ⟨[.agg [.int .i64, .int .i64, .int .i64, .int .i64, .int .i64, .int .i64, .int .i64]], [], 0⟩, []⟩
def t41 (m : Nat) : Int × Int × Int -> Option (List Un) := fun (a0, a1, a2) =>
 some ([.i a0, .i a1, .i a2, .i 0, .i 0, .i 0, .i 0])
def f41 : Int × Int × Int -> Bool × List Un := fun (a0, a1, a2) => (true, [.i (a0), .i (a1), .i (a2), .i (0), .i (0), .i (0), .i (0)])
theorem Nf (a0 : Int) (a1 : Int) (a2 : Int) : ∃ m, t41 m (a0, a1, a2) = some ([.i (a0), .i (a1), .i (a2), .i (0), .i (0), .i (0), .i (0)]) := by
 exact ⟨0, rfl⟩
theorem L0 : ER 41 (mkE N41.en N41.ex f41) := aq ak T40.right (fun m => []) (t := t41) (by kernel_rfl) (fun m => aA) (fun m a => by kernel_rfl) fun (a0, a1, a2) hc => Nf a0 a1 a2
def T41 : Tb Tryz.prog LQ TE XX := T40.add 41 _ L0
def gZ (d : Dat) : Dat := .r [.n (d.i 0), .n (d.i 1), .n 0, .n 0, .n (bI false)]
def N39 : aD := ⟨T41.tab, 39, ⟨[.ag (sI 2)], [], 0⟩, ⟨[.ptr 0 0 0], [.cells [.buf 1 5], .ag (sB 4)], 0⟩, []⟩
abbrev Ef : Type := List Dat × Int × Int × List Dat
def Ai (m : Nat) (k : Ef -> Option (List Un)) : Ef -> Option (List Un) := fun (a0, a1, a2, a3) =>
 bif decide (a2 < a1) then
 chk (inb a2 a0.length) <|
 chk (decide (a2.toNat < a0.length)) <|
 lt (ae a0 a2.toNat : Dat) fun d1 =>
 chk (fits (a3.length + 1) 40) <|
 k (a0, a1, (w64 (a2 + 1)), (a3 ++ ([.r [.n (d1.i 0), .n (d1.i 1), .n 0, .n 0, .n (bI false)]])))
 else
 some ([.d a3])
def xq (m : Nat) : Nat -> Ef -> Option (List Un) := bp (Ai m)
theorem tY (m : Nat) (n : Nat) : xq m (n + 1) = Ai m (xq m n) := rfl
def Ir (F : Ef -> Option (List Un)) : aT := ⟨[.lp [0, 1, 0, 1, 1], .blk 0, .code [1, 1, 1]], ⟨frm 27 [(3, .ptr 0 0 0), (8, .ag (sI 2)), (9, .int .i64), (10, .int .i64)], [.cells [.buf 1 5], .ag (sB 4)], 0⟩, onU F⟩
theorem Q7 (m : Nat) : ∀ n, HO N39 (Ir (xq m n)) := ay ak T41.right (fun k => [Ir k]) (fun k h => (aJ h aA)) fun k a => by kernel_rfl
def t39 (m : Nat) : List Dat -> Option (List Un) := fun a0 =>
 xq m m (a0, (a0.length : Int), 0, [])
theorem Iv (m : Nat) : ∀ (rest pre : List Dat) (n : Nat), rest.length < n -> (pre ++ rest).length < 1000000 ->
 xq m n (pre ++ rest, ((pre ++ rest).length : Int), (pre.length : Int), pre.map gZ) = some [.d ((pre ++ rest).map gZ)] := by
 intro rest
 induction rest with
 | nil =>
  intro pre n hn hl; obtain ⟨n, rfl⟩ := al n (by simp at hn; omega); rw [tY]; unfold Ai; dsimp only; simp [aB]
 | cons x rest ih =>
  intro pre n hn hl; obtain ⟨n, rfl⟩ := al n (by simp at hn; omega); simp only [zaf, zai] at hn hl; rw [tY]; unfold Ai; dsimp only; have := ih (pre ++ [x]) n (by omega) (by simp; omega); rw [zbT] at this; simp (disch := omega) only [TRa, TRi, aa, LNl, LNi, zaa, ar]; simp only [LNl, LNi, zaa] at this ⊢; exact this
def f39 : List Dat -> Bool × List Un := fun a0 => (decide (a0.length < 1000000), [.d (a0.map gZ)])
theorem Ok (a0 : List Dat) (hc : (decide (a0.length < 1000000)) = true) : ∃ m, t39 m a0 = some ([.d (a0.map gZ)]) := by
 exact ⟨a0.length + 1, Iv _ a0 [] _ (by omega) (zak hc)⟩
theorem JI : ER 39 (mkE N39.en N39.ex f39) := aq ak T41.right (fun m => [Ir (xq m m)]) (t := t39) (by kernel_rfl) (fun m => (aJ (Q7 m m) aA)) (fun m a => by kernel_rfl) fun a0 hc => Ok a0 hc
def T39 : Tb Tryz.prog LQ TE XX := T41.add 39 _ JI
@[ext] structure ah where
 rin : Int
 aG : Int
 out : Int
 fee : Int
 mode : Int
 aX : Int
 period : Int
 aM : Int
 aR : Int
 dt : Bool
instance : Uns ah := Uns.via (B := Int × Int × Int × Int × Int × Int × Int × Int × Int × Bool) (fun x => (x.rin, x.aG, x.out, x.fee, x.mode, x.aX, x.period, x.aM, x.aR, x.dt)) (fun x => match x with | (rin, aG, out, fee, mode, aX, period, aM, aR, dt) => ⟨rin, aG, out, fee, mode, aX, period, aM, aR, dt⟩) (fun _ => rfl)
def br (p : Nat) : List BP := [.cells [.int .i64, .int .i64, .int .i64, .buf (p + 1) 2, .buf (p + 2) 3, .int .i64, .int .i64, .int .i64, .int .i64, .int .i64, .int .i64, .int .i64, .int .i64, .int .i64, .int .i64, .buf (p + 3) 2, .buf (p + 4) 2, .buf (p + 5) 2, .ptr (p + 6) 0 0, .buf (p + 8) 7, .int .i64, .int .i64, .int .i64, .int .i64, .int .i64, .int .i64, .int .i64, .int .i64, .int .i64, .bool], .ag (sI 2), .ag (sI 3), .ag (sI 2), .ag (sI 2), .ag (sI 2), .cells [.buf (p + 7) 5], .ag (sB 4), .ag (sI 7)]
structure ab where
 a : ao
 b : an
 n : ah
 aC : List Dat
 notes : List Dat
 s0 : List Dat
 s1 : List Dat
 s2 : List Dat
 ax : List Dat
 tr : List Dat
def rC (d : Dat) : Dat := .r [.n (d.i 0), .n (d.i 1), .n (d.i 2), .n 0, .n 0, .n 0, .n 0]
def kp (d : aP) : ab := ⟨d.a, d.b, ⟨d.b.bU, 0, 0, 0, 0, 0, 0, 0, 0, false⟩, d.aC, d.notes, d.s0, d.s1, d.s2, d.aC.map gZ, d.notes.map rC⟩
def dN (d : aP) : ab := if (bu d).isSome then kp d else ⟨⟨0, 0, 0⟩, ⟨0, 0, 0, 0, 0, 0, 0, 0, 0, 0⟩, ⟨0, 0, 0, 0, 0, 0, 0, 0, 0, false⟩, [], [], [], [], [], [], []⟩
theorem wS {d : aP} (h : (bu d).isSome = true) : 0 <= d.b.bU /\ d.b.bU <= 1099511627776 := by
 unfold bu at h
 split at h
 . cases h
 . split at h
   . cases h
   . split at h
     . rename_i hc; simp only [zab, ki, zac] at hc; omega
     . cases h
def N11 : aD := ⟨T39.tab, 11, ⟨[.agg [.int .i64, .int .i64, .int .i64, .ag (sI 2), .ag (sI 3), .int .i64, .int .i64, .int .i64, .int .i64, .int .i64, .int .i64, .int .i64, .int .i64, .int .i64, .int .i64, .ag (sI 2), .ag (sI 2), .ag (sI 2)]], [], 0⟩, ⟨[.np 0 0 0, .int .i64], br 0, 0⟩, []⟩
abbrev DT : Type := List Dat × Int × Int × ao × an × ah × List Dat × List Dat × List Dat × List Dat × List Dat × List Dat × List Dat
def zE (m : Nat) (k : DT -> Option (List Un)) : DT -> Option (List Un) := fun (a0, a1, a2, a3, a4, a5, a6, a7, a8, a9, a10, a11, a12) =>
 bif decide (a2 < a1) then
 chk (inb a2 a0.length) <|
 chk (decide (a2.toNat < a0.length)) <|
 lt (ae a0 a2.toNat : Dat) fun d1 =>
 chk (fits (a11.length + 1) 56) <|
 k (a0, a1, (w64 (a2 + 1)), a3, a4, a5, a6, a7, a8, a9, a10, (a11 ++ ([.r [.n (d1.i 0), .n (d1.i 1), .n (d1.i 2), .n 0, .n 0, .n 0, .n 0]])), a12)
 else
 some ([.i 0, .i 0] ++ Uns.enc (a3 : ao) ++ Uns.enc (a4 : an) ++ Uns.enc (a5 : ah) ++ [.d a6, .d a7, .d a8, .d a9, .d a10, .d a12, .d a11])
def ya (m : Nat) : Nat -> DT -> Option (List Un) := bp (zE m)
theorem uy (m : Nat) (n : Nat) : ya m (n + 1) = zE m (ya m n) := rfl
def Is (F : DT -> Option (List Un)) : aT := ⟨[.lp [0, 1, 0, 1, 1, 1], .blk 0, .code [1, 1, 1, 1]], ⟨frm 40 [(4, .ptr 0 0 0), (21, .ag (sI 3)), (22, .int .i64), (23, .int .i64)], [.cells [.int .i64, .int .i64, .int .i64, .buf 1 2, .buf 2 3, .int .i64, .int .i64, .int .i64, .int .i64, .int .i64, .int .i64, .int .i64, .int .i64, .int .i64, .int .i64, .buf 3 2, .buf 4 2, .buf 5 2, .ptr 6 0 0, .buf 7 7, .int .i64, .int .i64, .int .i64, .int .i64, .int .i64, .int .i64, .int .i64, .int .i64, .int .i64, .bool], .ag (sI 2), .ag (sI 3), .ag (sI 2), .ag (sI 2), .ag (sI 2), .cells [.buf 8 5], .ag (sI 7), .ag (sB 4)], 0⟩, onU F⟩
theorem Q4 (m : Nat) : ∀ n, HO N11 (Is (ya m n)) := ay ak T39.right (fun k => [Is k]) (fun k h => (aJ h aA)) fun k a => by kernel_rfl
def t11 (m : Nat) : aP -> Option (List Un) := fun a0 =>
 bif !((bu a0).isSome) then
 some ([.i (-1), .i 2] ++ Uns.enc ((⟨0, 0, 0⟩ : ao) : ao) ++ Uns.enc ((⟨0, 0, 0, 0, 0, 0, 0, 0, 0, 0⟩ : an) : an) ++ Uns.enc ((⟨0, 0, 0, 0, 0, 0, 0, 0, 0, false⟩ : ah) : ah) ++ [.d ([]), .d ([]), .d ([]), .d ([]), .d ([]), .d ([]), .d ([])])
 else
 chk (decide (a0.aC.length < 1000000 /\ a0.notes.length < 1000000 /\ a0.s0.length < 1000000 /\ a0.s1.length < 1000000 /\ a0.s2.length < 1000000)) <|
 chk (decide (a0.aC.length < 1000000)) <|
 chk (decide (0 <= a0.b.bU /\ a0.b.bU <= 1152921504606846976)) <|
 ya m m (a0.notes, (a0.notes.length : Int), 0, a0.a, a0.b, (⟨a0.b.bU, 0, 0, 0, 0, 0, 0, 0, 0, false⟩ : ah), a0.aC, a0.notes, a0.s0, a0.s1, a0.s2, [], (a0.aC.map gZ))
theorem FP (m : Nat) (a : ao) (b : an) (n0 : ah) (x1 x2 x3 x4 x5 x6 : List Dat) : ∀ (rest pre : List Dat) (n : Nat), rest.length < n -> (pre ++ rest).length < 1000000 ->
 ya m n (pre ++ rest, ((pre ++ rest).length : Int), (pre.length : Int), a, b, n0, x1, x2, x3, x4, x5, pre.map rC, x6) = some ([.i 0, .i 0] ++ Uns.enc (a : ao) ++ Uns.enc (b : an) ++ Uns.enc (n0 : ah) ++ [.d x1, .d x2, .d x3, .d x4, .d x5, .d x6, .d ((pre ++ rest).map rC)]) := by
 intro rest
 induction rest with
 | nil =>
  intro pre n hn hl; obtain ⟨n, rfl⟩ := al n (by simp at hn; omega); rw [uy]; unfold zE; dsimp only; simp [aB]
 | cons x rest ih =>
  intro pre n hn hl; obtain ⟨n, rfl⟩ := al n (by simp at hn; omega); simp only [zaf, zai] at hn hl; rw [uy]; unfold zE; dsimp only; have := ih (pre ++ [x]) n (by omega) (by simp; omega); rw [zbT] at this; simp (disch := omega) only [TRa, TRi, aa, LNl, LNi, zaa, ar]; simp only [LNl, LNi, zaa] at this ⊢; exact this
def f11 : aP -> Bool × List Un := fun a0 => (decide (a0.aC.length < 1000000 /\ a0.notes.length < 1000000 /\ a0.s0.length < 1000000 /\ a0.s1.length < 1000000 /\ a0.s2.length < 1000000), [.i (((if (bu a0).isSome then 0 else -1) : Int)), .i (((if (bu a0).isSome then 0 else 2) : Int))] ++ Uns.enc (((dN a0).a) : ao) ++ Uns.enc (((dN a0).b) : an) ++ Uns.enc (((dN a0).n) : ah) ++ [.d ((dN a0).aC), .d ((dN a0).notes), .d ((dN a0).s0), .d ((dN a0).s1), .d ((dN a0).s2), .d ((dN a0).ax), .d ((dN a0).tr)])
theorem NZ (a0 : aP) (hc : (decide (a0.aC.length < 1000000 /\ a0.notes.length < 1000000 /\ a0.s0.length < 1000000 /\ a0.s1.length < 1000000 /\ a0.s2.length < 1000000)) = true) : ∃ m, t11 m a0 = some ([.i (((if (bu a0).isSome then 0 else -1) : Int)), .i (((if (bu a0).isSome then 0 else 2) : Int))] ++ Uns.enc (((dN a0).a) : ao) ++ Uns.enc (((dN a0).b) : an) ++ Uns.enc (((dN a0).n) : ah) ++ [.d ((dN a0).aC), .d ((dN a0).notes), .d ((dN a0).s0), .d ((dN a0).s1), .d ((dN a0).s2), .d ((dN a0).ax), .d ((dN a0).tr)]) := by
 have h := zak hc; refine ⟨a0.notes.length + 1, ?_⟩; unfold t11 dN; cases hs : (bu a0).isSome
 . rfl
 . have hr := wS hs; simp only [zbE, zap, za7]; rw [aV h, aV (by omega), aV (by omega)]; exact FP _ _ _ _ _ _ _ _ _ _ a0.notes [] _ (by omega) (by simp; omega)
theorem Ky : ER 11 (mkE N11.en N11.ex f11) := aq ak T39.right (fun m => [Is (ya m m)]) (t := t11) (by kernel_rfl) (fun m => (aJ (Q4 m m) aA)) (fun m a => by kernel_rfl) fun a0 hc => NZ a0 hc
def T11 : Tb Tryz.prog LQ TE XX := T39.add 11 _ Ky
def N36 : aD := ⟨T11.tab, 36, ⟨[.agg [.int .i64, .int .i64]], [], 0⟩, ⟨[.int .i64], [], 0⟩, []⟩
def t36 (m : Nat) : Int × Int -> Option (List Un) := fun (a0, a1) =>
 some ([.i (w64 (a0 - a1))])
def f36 : Int × Int -> Bool × List Un := fun (a0, a1) => (true, [.i (w64 (a0 - a1))])
theorem OZ (a0 : Int) (a1 : Int) : ∃ m, t36 m (a0, a1) = some ([.i (w64 (a0 - a1))]) := by
 exact ⟨0, rfl⟩
theorem K6 : ER 36 (mkE N36.en N36.ex f36) := aq ak T11.right (fun m => []) (t := t36) (by kernel_rfl) (fun m => aA) (fun m a => by kernel_rfl) fun (a0, a1) hc => OZ a0 a1
def T36 : Tb Tryz.prog LQ TE XX := T11.add 36 _ K6
def N99 : aD := ⟨T36.tab, 99, ⟨[.agg [.int .i64, .int .i64, .int .i64, .int .i64, .int .i64, .int .i64, .int .i64]], [], 0⟩, ⟨[.int .i64], [], 0⟩, []⟩
def t99 (m : Nat) : Int × Int × Int × Int × Int × Int × Int -> Option (List Un) := fun (a0, a1, a2, a3, a4, a5, a6) =>
 some ([.i (w64 ((w64 (a1 - (w64 (a3 - a4)))) - a6))])
def f99 : Int × Int × Int × Int × Int × Int × Int -> Bool × List Un := fun (a0, a1, a2, a3, a4, a5, a6) => (true, [.i (w64 (w64 (a1 - w64 (a3 - a4)) - a6))])
theorem Ov (a0 : Int) (a1 : Int) (a2 : Int) (a3 : Int) (a4 : Int) (a5 : Int) (a6 : Int) : ∃ m, t99 m (a0, a1, a2, a3, a4, a5, a6) = some ([.i (w64 (w64 (a1 - w64 (a3 - a4)) - a6))]) := by
 exact ⟨0, rfl⟩
theorem Lw : ER 99 (mkE N99.en N99.ex f99) := aq ak T36.right (fun m => []) (t := t99) (by kernel_rfl) (fun m => aA) (fun m a => by kernel_rfl) fun (a0, a1, a2, a3, a4, a5, a6) hc => Ov a0 a1 a2 a3 a4 a5 a6
def T99 : Tb Tryz.prog LQ TE XX := T36.add 99 _ Lw
def aK (d : Dat) : Int := d.i 1 - (d.i 3 - d.i 4) - d.i 6
def aH (d : Dat) : Bool := decide (0 <= d.i 1 /\ d.i 1 <= 1099511627776 /\ 0 <= d.i 3 /\ d.i 4 = 0 /\ 0 <= d.i 6 /\ d.i 3 + d.i 6 <= d.i 1 /\ 0 <= d.i 5 /\ d.i 5 <= 1125899906842624)
def mA (c : Int) (d : Dat) : Int := max (min c (aK d)) 0
def sE (c : Int) (d : Dat) : Dat := .r [.n (d.i 0), .n (d.i 1), .n (d.i 2), .n (d.i 3 + mA c d), .n (d.i 4), .n (d.i 5), .n (d.i 6)]
def dT (c : Int) (d : Dat) : Dat := .r [.n (d.i 0), .n (d.i 1), .n (d.i 2), .n (d.i 3), .n (d.i 4), .n (d.i 5), .n (d.i 6 + mA c d)]
def nk (c : Int) (d : Dat) : Int := max (min c (d.i 6)) 0
def gh (c : Int) (d : Dat) : Dat := .r [.n (d.i 0), .n (d.i 1), .n (d.i 2), .n (d.i 3), .n (d.i 4), .n (d.i 5), .n (d.i 6 - nk c d)]
def yQ (c : Int) (d : Dat) : Dat := .r [.n (d.i 0), .n (d.i 1), .n (d.i 2), .n (d.i 3), .n (d.i 4), .n (d.i 5 + c), .n (d.i 6)]
def QQ : aD := ⟨T99.tab, 106, ⟨[.np 0 7 0, .int .i64], [.ag (sI 7)], 0⟩, ⟨[.int .i64], [.ag (sI 7)], 0⟩, []⟩
def t106 (m : Nat) : Int × Int × List Dat -> Option (List Un) := fun (a0, a1, a2) =>
 chk (decide (0 <= a0)) <|
 chk (decide (a0.toNat < a2.length)) <|
 lt (ae a2 a0.toNat : Dat) fun d1 =>
 lt ((w64 (w64 ((d1.i 1) - w64 ((d1.i 3) - (d1.i 4))) - (d1.i 6))) : Int) fun x2 =>
 lt ((if x2 < a1 then x2 else a1) : Int) fun x3 =>
 lt ((if x3 < 0 then 0 else x3) : Int) fun x4 =>
 chk (decide (0 <= a0)) <|
 chk (decide (a0.toNat < a2.length)) <|
 lt (ae a2 a0.toNat : Dat) fun d5 =>
 lt ((([(d5.i 3), x4]).getD 0 0) : Int) fun x6 =>
 bif decide (x6 < 0) then
 some ([.i 0, .d a2])
 else
 bif (decide (x6 > 1152921504606846976)) then
 some ([.i 0, .d a2])
 else
 lt ((([(d5.i 3), x4]).getD 1 0) : Int) fun x8 =>
 bif decide (x8 < 0) then
 some ([.i 0, .d a2])
 else
 bif decide (x8 > (w64 (1152921504606846976 - (w64 (0 + x6))))) then
 some ([.i 0, .d a2])
 else
 chk (decide (a0.toNat < a2.length)) <|
 lt (ae a2 a0.toNat : Dat) fun d11 =>
 some ([.i x4, .d (List.set a2 a0.toNat (.r [.n (d11.i 0), .n (d11.i 1), .n (d11.i 2), .n (w64 ((w64 (0 + x6)) + x8)), .n (d11.i 4), .n (d11.i 5), .n (d11.i 6)]))])
def f106 : Int × Int × List Dat -> Bool × List Un := fun (a0, a1, a2) => (decide (0 <= a0 /\ a0.toNat < a2.length) && aH (ae a2 a0.toNat), [.i (mA a1 (ae a2 a0.toNat)), .d (a2.set a0.toNat (sE a1 (ae a2 a0.toNat)))])
theorem L7 (a0 : Int) (a1 : Int) (a2 : List Dat) (hc : (decide (0 <= a0 /\ a0.toNat < a2.length) && aH (ae a2 a0.toNat)) = true) : ∃ m, t106 m (a0, a1, a2) = some ([.i (mA a1 (ae a2 a0.toNat)), .d (a2.set a0.toNat (sE a1 (ae a2 a0.toNat)))]) := by
 simp only [zab, zac, aH] at hc; obtain ⟨⟨h1, h2⟩, h⟩ := hc; refine ⟨0, ?_⟩; unfold t106; dsimp only; simp only [lt_eq]; generalize ae a2 a0.toNat = d at *
 have hv : ∀ c, mA c d = max (min c (aK d)) 0 := fun _ => rfl
 simp only [sE, dT, gh, yQ, nk, hv, aK]; simp only [zaI, zaw, lt_eq, jU, lL]; simp (disch := omega) only [TRa, TRi, aa, za0]
theorem Iy : ER 106 (mkE QQ.en QQ.ex f106) := aq ak T99.right (fun m => []) (t := t106) (by kernel_rfl) (fun m => aA) (fun m a => by kernel_rfl) fun (a0, a1, a2) hc => L7 a0 a1 a2 hc
def Nq : Tb Tryz.prog LQ TE XX := T99.add 106 _ Iy
def Ql : aD := ⟨Nq.tab, 146, ⟨[.np 0 7 0, .int .i64], [.ag (sI 7)], 0⟩, ⟨[.int .i64], [.ag (sI 7)], 0⟩, []⟩
def t146 (m : Nat) : Int × Int × List Dat -> Option (List Un) := fun (a0, a1, a2) =>
 chk (decide (0 <= a0)) <|
 chk (decide (a0.toNat < a2.length)) <|
 lt (ae a2 a0.toNat : Dat) fun d1 =>
 lt ((w64 (w64 ((d1.i 1) - w64 ((d1.i 3) - (d1.i 4))) - (d1.i 6))) : Int) fun x2 =>
 lt ((if x2 < a1 then x2 else a1) : Int) fun x3 =>
 lt ((if x3 < 0 then 0 else x3) : Int) fun x4 =>
 chk (decide (0 <= a0)) <|
 chk (decide (a0.toNat < a2.length)) <|
 chk (decide (0 <= a0)) <|
 chk (decide (a0.toNat < a2.length)) <|
 lt (ae a2 a0.toNat : Dat) fun d6 =>
 some ([.i x4, .d (List.set a2 a0.toNat (.r [.n (d6.i 0), .n (d6.i 1), .n (d6.i 2), .n (d6.i 3), .n (d6.i 4), .n (d6.i 5), .n (w64 (((ae a2 a0.toNat).i 6) + x4))]))])
def f146 : Int × Int × List Dat -> Bool × List Un := fun (a0, a1, a2) => (decide (0 <= a0 /\ a0.toNat < a2.length) && aH (ae a2 a0.toNat), [.i (mA a1 (ae a2 a0.toNat)), .d (a2.set a0.toNat (dT a1 (ae a2 a0.toNat)))])
theorem K0 (a0 : Int) (a1 : Int) (a2 : List Dat) (hc : (decide (0 <= a0 /\ a0.toNat < a2.length) && aH (ae a2 a0.toNat)) = true) : ∃ m, t146 m (a0, a1, a2) = some ([.i (mA a1 (ae a2 a0.toNat)), .d (a2.set a0.toNat (dT a1 (ae a2 a0.toNat)))]) := by
 simp only [zab, zac, aH] at hc; obtain ⟨⟨h1, h2⟩, h⟩ := hc; refine ⟨0, ?_⟩; unfold t146; dsimp only; simp only [lt_eq]; generalize ae a2 a0.toNat = d at *
 have hv : ∀ c, mA c d = max (min c (aK d)) 0 := fun _ => rfl
 simp only [sE, dT, gh, yQ, nk, hv, aK]; simp only [zaI, zaw, lt_eq, jU, lL]; simp (disch := omega) only [TRa, TRi, aa, za0]
theorem I8 : ER 146 (mkE Ql.en Ql.ex f146) := aq ak Nq.right (fun m => []) (t := t146) (by kernel_rfl) (fun m => aA) (fun m a => by kernel_rfl) fun (a0, a1, a2) hc => K0 a0 a1 a2 hc
def Pb : Tb Tryz.prog LQ TE XX := Nq.add 146 _ I8
def Rw : aD := ⟨Pb.tab, 148, ⟨[.np 0 7 0, .int .i64], [.ag (sI 7)], 0⟩, ⟨[.int .i64], [.ag (sI 7)], 0⟩, []⟩
def t148 (m : Nat) : Int × Int × List Dat -> Option (List Un) := fun (a0, a1, a2) =>
 chk (decide (0 <= a0)) <|
 chk (decide (a0.toNat < a2.length)) <|
 lt (ae a2 a0.toNat : Dat) fun d1 =>
 lt ((if (d1.i 6) < a1 then (d1.i 6) else a1) : Int) fun x2 =>
 lt ((if x2 < 0 then 0 else x2) : Int) fun x3 =>
 chk (decide (0 <= a0)) <|
 chk (decide (a0.toNat < a2.length)) <|
 chk (decide (0 <= a0)) <|
 chk (decide (a0.toNat < a2.length)) <|
 lt (ae a2 a0.toNat : Dat) fun d5 =>
 some ([.i x3, .d (List.set a2 a0.toNat (.r [.n (d5.i 0), .n (d5.i 1), .n (d5.i 2), .n (d5.i 3), .n (d5.i 4), .n (d5.i 5), .n (w64 (((ae a2 a0.toNat).i 6) - x3))]))])
def f148 : Int × Int × List Dat -> Bool × List Un := fun (a0, a1, a2) => (decide (0 <= a0 /\ a0.toNat < a2.length) && aH (ae a2 a0.toNat), [.i (nk a1 (ae a2 a0.toNat)), .d (a2.set a0.toNat (gh a1 (ae a2 a0.toNat)))])
theorem Mp (a0 : Int) (a1 : Int) (a2 : List Dat) (hc : (decide (0 <= a0 /\ a0.toNat < a2.length) && aH (ae a2 a0.toNat)) = true) : ∃ m, t148 m (a0, a1, a2) = some ([.i (nk a1 (ae a2 a0.toNat)), .d (a2.set a0.toNat (gh a1 (ae a2 a0.toNat)))]) := by
 simp only [zab, zac, aH] at hc; obtain ⟨⟨h1, h2⟩, h⟩ := hc; refine ⟨0, ?_⟩; unfold t148; dsimp only; simp only [lt_eq]; generalize ae a2 a0.toNat = d at *
 have hv : ∀ c, mA c d = max (min c (aK d)) 0 := fun _ => rfl
 simp only [sE, dT, gh, yQ, nk, hv, aK]; simp only [zaI, zaw, lt_eq, jU, lL]; simp (disch := omega) only [TRa, TRi, aa, za0]
theorem HZ : ER 148 (mkE Rw.en Rw.ex f148) := aq ak Pb.right (fun m => []) (t := t148) (by kernel_rfl) (fun m => aA) (fun m a => by kernel_rfl) fun (a0, a1, a2) hc => Mp a0 a1 a2 hc
def On : Tb Tryz.prog LQ TE XX := Pb.add 148 _ HZ
def QN : aD := ⟨On.tab, 100, ⟨[.np 0 7 0, .int .i64], [.ag (sI 7)], 0⟩, ⟨[.bool], [.ag (sI 7)], 0⟩, []⟩
def t100 (m : Nat) : Int × Int × List Dat -> Option (List Un) := fun (a0, a1, a2) =>
 chk (decide (0 <= a0)) <|
 chk (decide (a0.toNat < a2.length)) <|
 lt (ae a2 a0.toNat : Dat) fun d1 =>
 lt ((([(d1.i 5), a1]).getD 0 0) : Int) fun x2 =>
 bif decide (x2 < 0) then
 some ([.b false, .d a2])
 else
 bif (decide (x2 > 1152921504606846976)) then
 some ([.b false, .d a2])
 else
 lt ((([(d1.i 5), a1]).getD 1 0) : Int) fun x4 =>
 bif decide (x4 < 0) then
 some ([.b false, .d a2])
 else
 bif decide (x4 > (w64 (1152921504606846976 - (w64 (0 + x2))))) then
 some ([.b false, .d a2])
 else
 chk (decide (0 <= a0)) <|
 chk (decide (a0.toNat < a2.length)) <|
 lt (ae a2 a0.toNat : Dat) fun d7 =>
 some ([.b true, .d (List.set a2 a0.toNat (.r [.n (d7.i 0), .n (d7.i 1), .n (d7.i 2), .n (d7.i 3), .n (d7.i 4), .n (w64 ((w64 (0 + x2)) + x4)), .n (d7.i 6)]))])
def f100 : Int × Int × List Dat -> Bool × List Un := fun (a0, a1, a2) => (decide (0 <= a1 /\ a1 <= 1125899906842624) && (decide (0 <= a0 /\ a0.toNat < a2.length) && aH (ae a2 a0.toNat)), [.b (true), .d (a2.set a0.toNat (yQ a1 (ae a2 a0.toNat)))])
theorem LH (a0 : Int) (a1 : Int) (a2 : List Dat) (hc : (decide (0 <= a1 /\ a1 <= 1125899906842624) && (decide (0 <= a0 /\ a0.toNat < a2.length) && aH (ae a2 a0.toNat))) = true) : ∃ m, t100 m (a0, a1, a2) = some ([.b (true), .d (a2.set a0.toNat (yQ a1 (ae a2 a0.toNat)))]) := by
 simp only [zab, zac, aH] at hc; obtain ⟨h0, ⟨h1, h2⟩, h⟩ := hc; refine ⟨0, ?_⟩; unfold t100; dsimp only; simp only [lt_eq]; generalize ae a2 a0.toNat = d at *
 have hv : ∀ c, mA c d = max (min c (aK d)) 0 := fun _ => rfl
 simp only [sE, dT, gh, yQ, nk, hv, aK]; simp only [zaI, zaw, lt_eq, jU, lL]; simp (disch := omega) only [TRa, TRi, aa, za0]
theorem GU : ER 100 (mkE QN.en QN.ex f100) := aq ak On.right (fun m => []) (t := t100) (by kernel_rfl) (fun m => aA) (fun m a => by kernel_rfl) fun (a0, a1, a2) hc => LH a0 a1 a2 hc
def Lr : Tb Tryz.prog LQ TE XX := On.add 100 _ GU
def bn (f : Dat -> Int) : List Dat -> Int
 | [] => 0
 | d :: l => f d + bn f l
theorem bW {d : Dat} (h : aH d = true) : 0 <= d.i 1 /\ d.i 1 <= 1099511627776 /\ 0 <= d.i 3 /\ d.i 4 = 0 /\ 0 <= d.i 6 /\ d.i 3 + d.i 6 <= d.i 1 /\ 0 <= d.i 5 /\ d.i 5 <= 1125899906842624 := zak h
def N60 : aD := ⟨Lr.tab, 60, ⟨[.ag (sI 7)], [], 0⟩, ⟨[.int .i64, .int .i64, .int .i64], [], 0⟩, []⟩
abbrev E9 : Type := Int × Int × Int × List Dat × Int × Int
def yy (m : Nat) (k : E9 -> Option (List Un)) : E9 -> Option (List Un) := fun (a0, a1, a2, a3, a4, a5) =>
 bif decide (a5 < a4) then
 chk (inb a5 a3.length) <|
 chk (decide (a5.toNat < a3.length)) <|
 lt (ae a3 a5.toNat : Dat) fun d1 =>
 k ((w64 (a0 + (w64 (w64 ((d1.i 1) - w64 ((d1.i 3) - (d1.i 4))) - (d1.i 6))))), (w64 (a1 + (d1.i 5))), (w64 (a2 + (d1.i 6))), a3, a4, (w64 (a5 + 1)))
 else
 some ([.i a0, .i a1, .i a2])
def xv (m : Nat) : Nat -> E9 -> Option (List Un) := bp (yy m)
theorem vM (m : Nat) (n : Nat) : xv m (n + 1) = yy m (xv m n) := rfl
def Ie (F : E9 -> Option (List Un)) : aT := ⟨[.lp [0, 1, 0, 1], .blk 0, .code [1, 1]], ⟨frm 29 [(2, .int .i64), (3, .int .i64), (4, .int .i64), (7, .ag (sI 7)), (8, .int .i64), (9, .int .i64)], [], 0⟩, onU F⟩
theorem Qd (m : Nat) : ∀ n, HO N60 (Ie (xv m n)) := ay ak Lr.right (fun k => [Ie k]) (fun k h => (aJ h aA)) fun k a => by kernel_rfl
def t60 (m : Nat) : List Dat -> Option (List Un) := fun a0 =>
 xv m m (0, 0, 0, a0, (a0.length : Int), 0)
theorem G2 (m : Nat) : ∀ (rest pre : List Dat) (n : Nat) (b s t : Int), rest.length < n -> (pre ++ rest).length <= 1000 -> (∀ d ∈ rest, aH d = true) -> 0 <= b -> b <= 1099511627776 * pre.length -> 0 <= s -> s <= 1125899906842624 * pre.length -> 0 <= t -> t <= 1099511627776 * pre.length ->
 xv m n (b, s, t, pre ++ rest, ((pre ++ rest).length : Int), (pre.length : Int)) = some [.i (b + bn aK rest), .i (s + af 5 rest), .i (t + af 6 rest)] := by
 intro rest
 induction rest with
 | nil =>
  intro pre n b s t hn hl hg b0 b1 s0 s1 t0 t1; obtain ⟨n, rfl⟩ := al n (by simp at hn; omega); rw [vM]; unfold yy; dsimp only; simp [aB, bn, af]
 | cons x rest ih =>
  intro pre n b s t hn hl hg b0 b1 s0 s1 t0 t1; obtain ⟨n, rfl⟩ := al n (by simp at hn; omega); simp only [zaf, zai] at hn hl; have hx := bW (hg x (by simp)); rw [vM]; unfold yy; dsimp only; have := ih (pre ++ [x]) n (b + aK x) (s + x.i 5) (t + x.i 6) (by omega) (by simp; omega) (fun d hd => hg d (by simp [hd])) (by unfold aK; omega) (by simp [aK]; omega) (by omega) (by simp; omega) (by omega) (by simp; omega); simp only [bn, af, aK] at this ⊢; simp (disch := omega) only [TRa, TRi, aa, LNl, LNi, zaa, ar]; simp only [LNl, LNi, zaa] at this ⊢; exact this
def f60 : List Dat -> Bool × List Un := fun a0 => (decide (a0.length <= 1000) && a0.all aH, [.i (bn aK a0), .i (af 5 a0), .i (af 6 a0)])
theorem OP (a0 : List Dat) (hc : (decide (a0.length <= 1000) && a0.all aH) = true) : ∃ m, t60 m a0 = some ([.i (bn aK a0), .i (af 5 a0), .i (af 6 a0)]) := by
 simp only [zab, zac, zam] at hc; refine ⟨a0.length + 1, ?_⟩; exact (G2 (a0.length + 1) a0 [] (a0.length + 1) 0 0 0 (by omega) (by simpa using hc.1) hc.2 (by omega) (by simp) (by omega) (by simp) (by omega) (by simp)).trans (by simp only [za0])
theorem J5 : ER 60 (mkE N60.en N60.ex f60) := aq ak Lr.right (fun m => [Ie (xv m m)]) (t := t60) (by kernel_rfl) (fun m => (aJ (Qd m m) aA)) (fun m a => by kernel_rfl) fun a0 hc => OP a0 hc
def T60 : Tb Tryz.prog LQ TE XX := Lr.add 60 _ J5
def unD (d : Dat) : Int := d.i 1 - (d.i 3 - d.i 4)
def N23 : aD := ⟨T60.tab, 23, ⟨[.np 0 0 0], br 0, 9⟩, ⟨[.int .i64, .int .i64, .int .i64, .int .i64], br 0, 9⟩, []⟩
abbrev D4 : Type := Int × Int × Int × Int × Int × Int × ao × an × ah × List Dat × List Dat × List Dat × List Dat × List Dat × List Dat × List Dat
def zt (m : Nat) (k : D4 -> Option (List Un)) : D4 -> Option (List Un) := fun (a0, a1, a2, a3, a4, a5, a6, a7, a8, a9, a10, a11, a12, a13, a14, a15) =>
 bif decide (a5 < a4) then
 chk (inb a5 a15.length) <|
 chk (decide (a5.toNat < a15.length)) <|
 lt (ae a15 a5.toNat : Dat) fun d1 =>
 k (a0, a1, a2, (w64 (a3 + (w64 ((d1.i 1) - (w64 ((d1.i 3) - (d1.i 4))))))), a4, (w64 (a5 + 1)), a6, a7, a8, a9, a10, a11, a12, a13, a14, a15)
 else
 some ([.i a0, .i a1, .i a2, .i a3] ++ Uns.enc (a6 : ao) ++ Uns.enc (a7 : an) ++ Uns.enc (a8 : ah) ++ [.d a9, .d a10, .d a11, .d a12, .d a13, .d a14, .d a15])
def xV (m : Nat) : Nat -> D4 -> Option (List Un) := bp (zt m)
theorem tK (m : Nat) (n : Nat) : xV m (n + 1) = zt m (xV m n) := rfl
def HC (F : D4 -> Option (List Un)) : aT := ⟨[.lp [0, 1, 0, 1, 1], .blk 0, .code [1, 1, 1]], ⟨frm 40 [(2, .int .i64), (3, .int .i64), (4, .int .i64), (5, .int .i64), (20, .buf 8 7), (21, .int .i64), (22, .int .i64)], br 0, 9⟩, onU F⟩
theorem QA (m : Nat) : ∀ n, HO N23 (HC (xV m n)) := ay ak T60.right (fun k => [HC k]) (fun k h => (aJ h aA)) fun k a => by kernel_rfl
def t23 (m : Nat) : Int × ao × an × ah × List Dat × List Dat × List Dat × List Dat × List Dat × List Dat × List Dat -> Option (List Un) := fun (a0, a1, a2, a3, a4, a5, a6, a7, a8, a9, a10) =>
 chk (decide (0 <= a0)) <|
 chk (decide (a10.length <= 1000) && a10.all aH) <|
 chk (decide (0 <= a0)) <|
 xV m m ((bn aK a10), (af 5 a10), (af 6 a10), 0, (a10.length : Int), 0, a1, a2, a3, a4, a5, a6, a7, a8, a9, a10)
theorem FA (m : Nat) (b s t : Int) (xa : ao) (xb : an) (xn : ah) (x1 x2 x3 x4 x5 x6 : List Dat) : ∀ (rest pre : List Dat) (n : Nat) (u : Int), rest.length < n -> (pre ++ rest).length <= 1000 -> (∀ d ∈ rest, aH d = true) -> 0 <= u -> u <= 1099511627776 * pre.length ->
 xV m n (b, s, t, u, ((pre ++ rest).length : Int), (pre.length : Int), xa, xb, xn, x1, x2, x3, x4, x5, x6, pre ++ rest) = some ([.i b, .i s, .i t, .i (u + bn unD rest)] ++ Uns.enc xa ++ Uns.enc xb ++ Uns.enc xn ++ [.d x1, .d x2, .d x3, .d x4, .d x5, .d x6, .d (pre ++ rest)]) := by
 intro rest
 induction rest with
 | nil =>
  intro pre n u hn hl hg u0 u1; obtain ⟨n, rfl⟩ := al n (by simp at hn; omega); rw [tK]; unfold zt; dsimp only; simp [aB, bn]
 | cons x rest ih =>
  intro pre n u hn hl hg u0 u1; obtain ⟨n, rfl⟩ := al n (by simp at hn; omega); simp only [zaf, zai] at hn hl; have hx := bW (hg x (by simp)); rw [tK]; unfold zt; dsimp only; have := ih (pre ++ [x]) n (u + unD x) (by omega) (by simp; omega) (fun d hd => hg d (by simp [hd])) (by unfold unD; omega) (by simp [unD]; omega); simp only [bn, unD] at this ⊢; simp (disch := omega) only [TRa, TRi, aa, LNl, LNi, zaa, ar]; simp only [LNl, LNi, zaa] at this ⊢; exact this
def f23 : Int × ao × an × ah × List Dat × List Dat × List Dat × List Dat × List Dat × List Dat × List Dat -> Bool × List Un := fun (a0, a1, a2, a3, a4, a5, a6, a7, a8, a9, a10) => (decide (0 <= a0) && (decide (a10.length <= 1000) && a10.all aH), [.i (bn aK a10), .i (af 5 a10), .i (af 6 a10), .i (bn unD a10)] ++ Uns.enc ((a1) : ao) ++ Uns.enc ((a2) : an) ++ Uns.enc ((a3) : ah) ++ [.d (a4), .d (a5), .d (a6), .d (a7), .d (a8), .d (a9), .d (a10)])
theorem PD (a0 : Int) (a1 : ao) (a2 : an) (a3 : ah) (a4 : List Dat) (a5 : List Dat) (a6 : List Dat) (a7 : List Dat) (a8 : List Dat) (a9 : List Dat) (a10 : List Dat) (hc : (decide (0 <= a0) && (decide (a10.length <= 1000) && a10.all aH)) = true) : ∃ m, t23 m (a0, a1, a2, a3, a4, a5, a6, a7, a8, a9, a10) = some ([.i (bn aK a10), .i (af 5 a10), .i (af 6 a10), .i (bn unD a10)] ++ Uns.enc ((a1) : ao) ++ Uns.enc ((a2) : an) ++ Uns.enc ((a3) : ah) ++ [.d (a4), .d (a5), .d (a6), .d (a7), .d (a8), .d (a9), .d (a10)]) := by
 have hc' := hc; simp only [zab, zac, zam] at hc'; refine ⟨a10.length + 1, ?_⟩; unfold t23; dsimp only; rw [(zan.1 hc).2, iZ]; simp (disch := omega) only [aV]; exact (FA (a10.length + 1) _ _ _ _ _ _ _ _ _ _ _ _ a10 [] (a10.length + 1) 0 (by omega) (by simpa using hc'.2.1) hc'.2.2 (by omega) (by simp)).trans (by simp only [za0, zaH])
theorem Lp : ER 23 (mkE N23.en N23.ex f23) := aq ak T60.right (fun m => [HC (xV m m)]) (t := t23) (by kernel_rfl) (fun m => (aJ (QA m m) aA)) (fun m a => by kernel_rfl) fun (a0, a1, a2, a3, a4, a5, a6, a7, a8, a9, a10) hc => PD a0 a1 a2 a3 a4 a5 a6 a7 a8 a9 a10 hc
def T23 : Tb Tryz.prog LQ TE XX := T60.add 23 _ Lp
theorem Fp {d : Dat} (c : Int) (h : aH d = true) : aH (sE c d) = true := by
 have := bW h; refine zad ?_
 simp only [sE, mA, aK, ez, fu, vZ, og, oS]; omega
theorem BY {d : Dat} (c : Int) (h : aH d = true) : aH (dT c d) = true := by
 have := bW h; refine zad ?_
 simp only [dT, mA, aK, ez, fu, vZ, og, oS]; omega
theorem C0 {d : Dat} (c : Int) (h : aH d = true) : aH (gh c d) = true := by
 have := bW h; refine zad ?_
 simp only [gh, nk, ez, fu, vZ, og, oS]; omega
theorem fD : ∀ l : List Dat, (∀ d ∈ l, aH d = true) -> (0 <= bn aK l /\ bn aK l <= 1099511627776 * l.length) /\ (0 <= af 5 l /\ af 5 l <= 1125899906842624 * l.length) /\ (0 <= af 6 l /\ af 6 l <= 1099511627776 * l.length) /\ (0 <= bn unD l /\ bn unD l <= 1099511627776 * l.length) /\ bn unD l = bn aK l + af 6 l
 | [], _ => by simp [bn, af]
 | d :: l, h => by
  have h1 := bW (h d (by simp)); have h2 := fD l fun x hx => h x (by simp [hx])
  simp only [bn, af, zaf, zas, aK, unD] at h2 ⊢; omega
theorem AS (f : Dat -> Int) (y : Dat) : ∀ (l : List Dat) (j : Nat), j < l.length -> bn f (l.set j y) = bn f l - f (ae l j) + f y
 | [], j, h => by simp at h
 | d :: l, 0, h => by simp only [List.set_cons_zero, bn, ae, zaI]; omega
 | d :: l, j + 1, h => by
  have := AS f y l j (by simpa using h); simp only [ae] at this; simp only [zbP, bn, ae, zaw, this]; omega
theorem D0 {p : Dat -> Prop} {l : List Dat} {j : Nat} {y : Dat} (h : ∀ d ∈ l, p d) (hy : p y) : ∀ d ∈ l.set j y, p d := fun d hd => by
 rcases zbD hd with h1 | rfl
 . exact h d h1
 . exact hy
theorem m8 {l : List Dat} {j : Nat} (h : j < l.length) : ae l j ∈ l := by rw [eH h]; exact zbx h
def PM : aD := ⟨T23.tab, 109, ⟨[.agg [.bool, .bool, .bool, .bool]], [], 0⟩, ⟨[.bool], [], 0⟩, []⟩
def t109 (m : Nat) : Bool × Bool × Bool × Bool -> Option (List Un) := fun (a0, a1, a2, a3) =>
 bif !a0 then
 some ([.b true])
 else
 bif !a2 then
 some ([.b true])
 else
 some ([.b !a3])
def f109 : Bool × Bool × Bool × Bool -> Bool × List Un := fun (a0, a1, a2, a3) => (true, [.b (!a0 || (!a2 || !a3))])
theorem LJ (a0 : Bool) (a1 : Bool) (a2 : Bool) (a3 : Bool) : ∃ m, t109 m (a0, a1, a2, a3) = some ([.b (!a0 || (!a2 || !a3))]) := by
 refine ⟨0, ?_⟩; unfold t109; cases a0 <;> cases a2 <;> cases a3 <;> rfl
theorem G6 : ER 109 (mkE PM.en PM.ex f109) := aq ak T23.right (fun m => []) (t := t109) (by kernel_rfl) (fun m => aA) (fun m a => by kernel_rfl) fun (a0, a1, a2, a3) hc => LJ a0 a1 a2 a3
def Na : Tb Tryz.prog LQ TE XX := T23.add 109 _ G6
def cO (mode aX et : Int) (oc ic late kV : Bool) : Int × Int :=
 if mode = 2 \/ ic = false then (2, 0)
 else if oc = false \/ late = false \/ kV = false then (1, 0)
 else if mode ≠ 1 \/ et <= aX \/ aX + 1 = et then (0, 0)
 else (1, aX + 1)
def N50 : aD := ⟨Na.tab, 50, ⟨[.agg [.int .i64, .int .i64], .int .i64, .agg [.bool, .bool, .bool, .bool]], [], 0⟩, ⟨[.agg [.int .i64, .int .i64]], [], 0⟩, []⟩
def t50 (m : Nat) : Int × Int × Int × Bool × Bool × Bool × Bool -> Option (List Un) := fun (a0, a1, a2, a3, a4, a5, a6) =>
 bif a0 == 2 then
 some ([.i 2, .i 0])
 else
 bif !a4 then
 some ([.i 2, .i 0])
 else
 bif (!a3 || (!a5 || !a6)) then
 some ([.i 1, .i 0])
 else
 bif a0 != 1 then
 some ([.i 0, .i 0])
 else
 bif decide (a1 >= a2) then
 some ([.i 0, .i 0])
 else
 bif (w64 (a1 + 1)) == a2 then
 some ([.i 0, .i 0])
 else
 some ([.i 1, .i (w64 (a1 + 1))])
def f50 : Int × Int × Int × Bool × Bool × Bool × Bool -> Bool × List Un := fun (a0, a1, a2, a3, a4, a5, a6) => (decide (0 <= a1 /\ a1 <= 1000000), [.i ((cO a0 a1 a2 a3 a4 a5 a6).1), .i ((cO a0 a1 a2 a3 a4 a5 a6).2)])
theorem PG (a0 : Int) (a1 : Int) (a2 : Int) (a3 : Bool) (a4 : Bool) (a5 : Bool) (a6 : Bool) (hc : (decide (0 <= a1 /\ a1 <= 1000000)) = true) : ∃ m, t50 m (a0, a1, a2, a3, a4, a5, a6) = some ([.i ((cO a0 a1 a2 a3 a4 a5 a6).1), .i ((cO a0 a1 a2 a3 a4 a5 a6).2)]) := by
 have h := zak hc; refine ⟨0, ?_⟩; unfold t50 cO
 by_cases h1 : a0 = 2
 . simp (disch := omega) only [TRa, TRi, aa]; simp [h1]
 . cases a4
   . simp (disch := omega) only [TRa, TRi, aa]; simp
   . cases a3 <;> cases a5 <;> cases a6 <;> simp [h1, gA] <;> by_cases h2 : a0 = 1 <;> by_cases h3 : a2 <= a1 <;> by_cases h4 : a1 + 1 = a2 <;> simp (disch := omega) only [TRa, TRi, aa] <;> simp [h2, h3, h4]
theorem L4 : ER 50 (mkE N50.en N50.ex f50) := aq ak Na.right (fun m => []) (t := t50) (by kernel_rfl) (fun m => aA) (fun m a => by kernel_rfl) fun (a0, a1, a2, a3, a4, a5, a6) hc => PG a0 a1 a2 a3 a4 a5 a6 hc
def T50 : Tb Tryz.prog LQ TE XX := Na.add 50 _ L4
def dr (n : Int) : Int := if n < 1 then 0 else if n < 3 then 1 else if n < 6 then 2 else 3
def Qt : aD := ⟨T50.tab, 150, ⟨[.int .i64], [], 0⟩, ⟨[.int .i64], [], 0⟩, []⟩
def t150 (m : Nat) : Int -> Option (List Un) := fun a0 =>
 bif decide (a0 < 1) then
 some ([.i 0])
 else
 bif decide (a0 < 3) then
 some ([.i 1])
 else
 bif decide (a0 < 6) then
 some ([.i 2])
 else
 some ([.i 3])
def f150 : Int -> Bool × List Un := fun a0 => (true, [.i (dr a0)])
theorem JH (a0 : Int) : ∃ m, t150 m a0 = some ([.i (dr a0)]) := by
 refine ⟨0, ?_⟩; unfold t150 dr
 by_cases h1 : a0 < 1 <;> by_cases h2 : a0 < 3 <;> by_cases h3 : a0 < 6 <;> simp [h1, h2, h3]
theorem Im : ER 150 (mkE Qt.en Qt.ex f150) := aq ak T50.right (fun m => []) (t := t150) (by kernel_rfl) (fun m => aA) (fun m a => by kernel_rfl) fun a0 hc => JH a0
def LM : Tb Tryz.prog LQ TE XX := T50.add 150 _ Im
def cw (d : Dat) : Bool := decide (0 <= d.i 1 /\ d.i 1 <= 1099511627776)
def cg (j : Int) (l : List Dat) : Int := bn (fun d => if dr (d.i 3) = j then d.i 1 else 0) l
theorem F5 (n : Int) : dr n = 0 \/ dr n = 1 \/ dr n = 2 \/ dr n = 3 := by
 unfold dr
 split
 . exact .inl rfl
 . split
   . exact .inr (.inl rfl)
   . split
     . exact .inr (.inr (.inl rfl))
     . exact .inr (.inr (.inr rfl))
theorem pD {d : Dat} (h : cw d = true) : 0 <= d.i 1 /\ d.i 1 <= 1099511627776 := zak h
def M4 : aD := ⟨LM.tab, 112, ⟨[.ag (sB 4)], [], 0⟩, ⟨[.agg [.int .i64, .int .i64, .int .i64, .int .i64]], [], 0⟩, []⟩
abbrev yK : Type := List Dat × Int × Int × Int × Int × Int × Int × Int × Int × Int × Int
def tu (m : Nat) (k : yK -> Option (List Un)) : yK -> Option (List Un) := fun (a0, a1, a2, a3, a4, a5, a6, a7, a8, a9, a10) =>
 bif decide (a2 < a1) then
 chk (inb a2 a0.length) <|
 chk (decide (a2.toNat < a0.length)) <|
 lt (ae a0 a2.toNat : Dat) fun d1 =>
 chk (inb (dr (d1.i 3)) 4) <|
 chk (decide ((dr (d1.i 3)).toNat < 4)) <|
 lt ((List.getD [a7, a8, a9, a10] ((dr (d1.i 3)).toNat) 0) : Int) fun x2 =>
 chk (inb (dr (d1.i 3)) 4) <|
 chk (decide ((dr (d1.i 3)).toNat < 4)) <|
 k (a0, a1, (w64 (a2 + 1)), a3, a4, a5, a6, (bif decide ((dr (d1.i 3)).toNat = 0) then (w64 (x2 + (d1.i 1))) else a7), (bif decide ((dr (d1.i 3)).toNat = 1) then (w64 (x2 + (d1.i 1))) else a8), (bif decide ((dr (d1.i 3)).toNat = 2) then (w64 (x2 + (d1.i 1))) else a9), (bif decide ((dr (d1.i 3)).toNat = 3) then (w64 (x2 + (d1.i 1))) else a10))
 else
 some ([.i a7, .i a8, .i a9, .i a10])
def rh (m : Nat) : Nat -> yK -> Option (List Un) := bp (tu m)
theorem r9 (m : Nat) (n : Nat) : rh m (n + 1) = tu m (rh m n) := rfl
def Dn (F : yK -> Option (List Un)) : aT := ⟨[.lp [0, 1, 0, 1, 1], .blk 0, .code [1, 1, 1]], ⟨frm 24 [(2, .ptr 0 0 0), (3, .ptr 1 0 0), (6, .ag (sB 4)), (7, .int .i64), (8, .int .i64)], [.cells [.int .i64, .int .i64, .int .i64, .int .i64], .cells [.int .i64, .int .i64, .int .i64, .int .i64]], 0⟩, onU F⟩
theorem M9 (m : Nat) : ∀ n, HO M4 (Dn (rh m n)) := ay ak LM.right (fun k => [Dn k]) (fun k h => (aJ h aA)) fun k a => by kernel_rfl
def t112 (m : Nat) : List Dat -> Option (List Un) := fun a0 =>
 rh m m (a0, (a0.length : Int), 0, 0, 0, 0, 0, 0, 0, 0, 0)
set_option maxHeartbeats 2000000 in
theorem K5 (m : Nat) (z0 z1 z2 z3 : Int) : ∀ (rest pre : List Dat) (n : Nat) (b0 b1 b2 b3 : Int), rest.length < n -> (pre ++ rest).length <= 1000 -> (∀ d ∈ rest, cw d = true) -> (0 <= b0 /\ b0 <= 1099511627776 * pre.length) -> (0 <= b1 /\ b1 <= 1099511627776 * pre.length) -> (0 <= b2 /\ b2 <= 1099511627776 * pre.length) -> (0 <= b3 /\ b3 <= 1099511627776 * pre.length) ->
 rh m n (pre ++ rest, ((pre ++ rest).length : Int), (pre.length : Int), z0, z1, z2, z3, b0, b1, b2, b3) = some [.i (b0 + cg 0 rest), .i (b1 + cg 1 rest), .i (b2 + cg 2 rest), .i (b3 + cg 3 rest)] := by
 intro rest
 induction rest with
 | nil =>
  intro pre n b0 b1 b2 b3 hn hl hg h0 h1 h2 h3; obtain ⟨n, rfl⟩ := al n (by simp at hn; omega); rw [r9]; unfold tu; dsimp only; simp [aB, bn, cg]
 | cons x rest ih =>
  intro pre n b0 b1 b2 b3 hn hl hg h0 h1 h2 h3; obtain ⟨n, rfl⟩ := al n (by simp at hn; omega); simp only [zaf, zai] at hn hl; have hx := pD (hg x (by simp)); have ih' := fun b0 b1 b2 b3 => ih (pre ++ [x]) n b0 b1 b2 b3 (by omega) (by simp; omega) (fun d hd => hg d (by simp [hd]))
  rw [r9]; unfold tu; dsimp only; simp only [cg, bn] at ih' ⊢; rcases F5 (x.i 3) with hb | hb | hb | hb
  . have := ih' (b0 + x.i 1) b1 b2 b3 (by simp; omega) (by simp; omega) (by simp; omega) (by simp; omega); simp (disch := omega) only [TRa, TRi, aa, LNl, LNi, zaa, ar, hb, Int.reduceToNat, zaI, zaw, za7, Int.reduceEq, zbh]; simp only [Nat.reduceEqDiff, zaW, zaR, zaG, zap, reduceCtorEq, Nat.zero_ne_one, Nat.one_ne_zero, za7, zbh, Int.reduceEq, za0]; simp only [LNl, LNi, zaa] at this ⊢; exact this
  . have := ih' b0 (b1 + x.i 1) b2 b3 (by simp; omega) (by simp; omega) (by simp; omega) (by simp; omega); simp (disch := omega) only [TRa, TRi, aa, LNl, LNi, zaa, ar, hb, Int.reduceToNat, zaI, zaw, za7, Int.reduceEq, zbh]; simp only [Nat.reduceEqDiff, zaW, zaR, zaG, zap, reduceCtorEq, Nat.zero_ne_one, Nat.one_ne_zero, za7, zbh, Int.reduceEq, za0]; simp only [LNl, LNi, zaa] at this ⊢; exact this
  . have := ih' b0 b1 (b2 + x.i 1) b3 (by simp; omega) (by simp; omega) (by simp; omega) (by simp; omega); simp (disch := omega) only [TRa, TRi, aa, LNl, LNi, zaa, ar, hb, Int.reduceToNat, zaI, zaw, za7, Int.reduceEq, zbh]; simp only [Nat.reduceEqDiff, zaW, zaR, zaG, zap, reduceCtorEq, Nat.zero_ne_one, Nat.one_ne_zero, za7, zbh, Int.reduceEq, za0]; simp only [LNl, LNi, zaa] at this ⊢; exact this
  . have := ih' b0 b1 b2 (b3 + x.i 1) (by simp; omega) (by simp; omega) (by simp; omega) (by simp; omega); simp (disch := omega) only [TRa, TRi, aa, LNl, LNi, zaa, ar, hb, Int.reduceToNat, zaI, zaw, za7, Int.reduceEq, zbh]; simp only [Nat.reduceEqDiff, zaW, zaR, zaG, zap, reduceCtorEq, Nat.zero_ne_one, Nat.one_ne_zero, za7, zbh, Int.reduceEq, za0]; simp only [LNl, LNi, zaa] at this ⊢; exact this
def f112 : List Dat -> Bool × List Un := fun a0 => (decide (a0.length <= 1000) && a0.all cw, [.i (cg 0 a0), .i (cg 1 a0), .i (cg 2 a0), .i (cg 3 a0)])
theorem Mb (a0 : List Dat) (hc : (decide (a0.length <= 1000) && a0.all cw) = true) : ∃ m, t112 m a0 = some ([.i (cg 0 a0), .i (cg 1 a0), .i (cg 2 a0), .i (cg 3 a0)]) := by
 simp only [zab, zac, zam] at hc; refine ⟨a0.length + 1, ?_⟩; exact (K5 (a0.length + 1) _ _ _ _ a0 [] (a0.length + 1) 0 0 0 0 (by omega) (by simpa using hc.1) hc.2 (by simp) (by simp) (by simp) (by simp)).trans (by simp only [za0])
theorem G1 : ER 112 (mkE M4.en M4.ex f112) := aq ak LM.right (fun m => [Dn (rh m m)]) (t := t112) (by kernel_rfl) (fun m => (aJ (M9 m m) aA)) (fun m a => by kernel_rfl) fun a0 hc => Mb a0 hc
def JU : Tb Tryz.prog LQ TE XX := LM.add 112 _ G1
def Bp (a b c d k : Int) : Int := (if k <= 0 then a else 0) + (if k <= 1 then b else 0) + (if k <= 2 then c else 0) + (if k <= 3 then d else 0)
def OH : aD := ⟨JU.tab, 113, ⟨[.agg [.int .i64, .int .i64, .int .i64, .int .i64], .int .i64], [], 0⟩, ⟨[.int .i64], [], 0⟩, []⟩
abbrev Ac : Type := Int × Int × Int × Int × Int × Int
def lP (m : Nat) (k : Ac -> Option (List Un)) : Ac -> Option (List Un) := fun (a0, a1, a2, a3, a4, a5) =>
 bif decide (a1 < 4) then
 chk (inb a1 4) <|
 chk (decide (a1.toNat < 4)) <|
 k ((w64 (a0 + (List.getD [a2, a3, a4, a5] a1.toNat 0))), (w64 (a1 + 1)), a2, a3, a4, a5)
 else
 some ([.i a0])
def eA (m : Nat) : Nat -> Ac -> Option (List Un) := bp (lP m)
theorem iI (m : Nat) (n : Nat) : eA m (n + 1) = lP m (eA m n) := rfl
def Db (F : Ac -> Option (List Un)) : aT := ⟨[.lp [0, 1, 0, 1, 1], .blk 0, .code [1, 1, 1]], ⟨frm 19 [(2, .ptr 0 0 0), (5, .int .i64), (6, .int .i64)], [.cells [.int .i64, .int .i64, .int .i64, .int .i64]], 0⟩, onU F⟩
theorem Pz (m : Nat) : ∀ n, HO OH (Db (eA m n)) := ay ak JU.right (fun k => [Db k]) (fun k h => (aJ h aA)) fun k a => by kernel_rfl
def t113 (m : Nat) : Int × Int × Int × Int × Int -> Option (List Un) := fun (a0, a1, a2, a3, a4) =>
 eA m m (0, (if a4 < 0 then 0 else a4), a0, a1, a2, a3)
def f113 : Int × Int × Int × Int × Int -> Bool × List Un := fun (a0, a1, a2, a3, a4) => (decide (0 <= a0 /\ a0 <= 1152921504606846976 /\ 0 <= a1 /\ a1 <= 1152921504606846976 /\ 0 <= a2 /\ a2 <= 1152921504606846976 /\ 0 <= a3 /\ a3 <= 1152921504606846976), [.i (Bp a0 a1 a2 a3 a4)])
theorem JB (a0 : Int) (a1 : Int) (a2 : Int) (a3 : Int) (a4 : Int) (hc : (decide (0 <= a0 /\ a0 <= 1152921504606846976 /\ 0 <= a1 /\ a1 <= 1152921504606846976 /\ 0 <= a2 /\ a2 <= 1152921504606846976 /\ 0 <= a3 /\ a3 <= 1152921504606846976)) = true) : ∃ m, t113 m (a0, a1, a2, a3, a4) = some ([.i (Bp a0 a1 a2 a3 a4)]) := by
 have h := zak hc; refine ⟨6, ?_⟩; unfold t113 Bp; dsimp only; have f0 : ∀ (n : Nat) (i s : Int), 4 <= i -> eA 6 (n + 1) (s, i, a0, a1, a2, a3) = some [.i s] := by
  intro n i s hi; rw [iI]; unfold lP; dsimp only; rw [aB (by omega)]
 have f3 : ∀ (n : Nat) (s : Int), 0 <= s -> s <= 3458764513820540928 -> eA 6 (n + 2) (s, 3, a0, a1, a2, a3) = some [.i (s + a3)] := by
  intro n s h1 h2; rw [iI]; unfold lP; dsimp only; simp (disch := omega) only [bz, jh, aV, Int.reduceToNat, zaI, zaw, aa, Int.reduceAdd, f0]
 have f2 : ∀ (n : Nat) (s : Int), 0 <= s -> s <= 2305843009213693952 -> eA 6 (n + 3) (s, 2, a0, a1, a2, a3) = some [.i (s + a2 + a3)] := by
  intro n s h1 h2; rw [iI]; unfold lP; dsimp only; simp (disch := omega) only [bz, jh, aV, Int.reduceToNat, zaI, zaw, aa, Int.reduceAdd, f3]
 have f1 : ∀ (n : Nat) (s : Int), 0 <= s -> s <= 1152921504606846976 -> eA 6 (n + 4) (s, 1, a0, a1, a2, a3) = some [.i (s + a1 + a2 + a3)] := by
  intro n s h1 h2; rw [iI]; unfold lP; dsimp only; simp (disch := omega) only [bz, jh, aV, Int.reduceToNat, zaI, zaw, aa, Int.reduceAdd, f2]
 by_cases k0 : a4 <= 0
 . rw [show (if a4 < 0 then 0 else a4) = (0 : Int) by split <;> omega, show eA 6 6 = eA 6 (5 + 1) from rfl, iI]; unfold lP; dsimp only; simp (disch := omega) only [bz, jh, aV, Int.reduceToNat, zaI, zaw, aa, Int.reduceAdd, za0]; rw [show eA 6 5 = eA 6 (1 + 4) from rfl, f1 _ _ (by omega) (by omega), if_pos k0, if_pos (by omega), if_pos (by omega), if_pos (by omega)]
 . rw [if_neg (show ¬ a4 < 0 by omega), if_neg k0]
   by_cases k1 : a4 = 1
   . subst k1; rw [show eA 6 6 = eA 6 (2 + 4) from rfl, f1 _ _ (by omega) (by omega)]; simp
   . by_cases k2 : a4 = 2
     . subst k2; rw [show eA 6 6 = eA 6 (3 + 3) from rfl, f2 _ _ (by omega) (by omega)]; simp
     . by_cases k3 : a4 = 3
       . subst k3; rw [show eA 6 6 = eA 6 (4 + 2) from rfl, f3 _ _ (by omega) (by omega)]; simp
       . rw [f0 _ _ _ (by omega), if_neg (by omega), if_neg (by omega), if_neg (by omega)]; simp
theorem IS : ER 113 (mkE OH.en OH.ex f113) := aq ak JU.right (fun m => [Db (eA m m)]) (t := t113) (by kernel_rfl) (fun m => (aJ (Pz m m) aA)) (fun m a => by kernel_rfl) fun (a0, a1, a2, a3, a4) hc => JB a0 a1 a2 a3 a4 hc
def LD : Tb Tryz.prog LQ TE XX := JU.add 113 _ IS
theorem Qo (a : List Dat) : (ae [.r [.r a]] 0).d 0 = a := rfl
def N19 : aD := ⟨LD.tab, 19, ⟨[.dpt [.ag (sB 4)]], [], 0⟩, ⟨[.int .i64], [], 0⟩, []⟩
abbrev Ec : Type := Int × List Dat × Int × Int
def Am (m : Nat) (k : Ec -> Option (List Un)) : Ec -> Option (List Un) := fun (a0, a1, a2, a3) =>
 bif decide (a3 < a2) then
 chk (inb a3 a1.length) <|
 chk (decide (a3.toNat < a1.length)) <|
 k ((w64 (a0 + ((ae a1 a3.toNat).i 1))), a1, a2, (w64 (a3 + 1)))
 else
 some ([.i a0])
def xB (m : Nat) : Nat -> Ec -> Option (List Un) := bp (Am m)
theorem vA (m : Nat) (n : Nat) : xB m (n + 1) = Am m (xB m n) := rfl
def Gw (F : Ec -> Option (List Un)) : aT := ⟨[.lp [0, 1, 0, 1, 1], .blk 0, .code [1, 1, 1]], ⟨frm 22 [(3, .int .i64), (9, .ag (sB 4)), (10, .int .i64), (11, .int .i64)], [], 0⟩, onU F⟩
theorem Qa (m : Nat) : ∀ n, HO N19 (Gw (xB m n)) := ay ak LD.right (fun k => [Gw k]) (fun k h => (aJ h aA)) fun k a => by kernel_rfl
def t19 (m : Nat) : List Dat -> Option (List Un) := fun a0 =>
 chk (decide (0 < a0.length)) <|
 xB m m (0, ((ae a0 0).d 0), (((ae a0 0).d 0).length : Int), 0)
theorem Gn (m : Nat) : ∀ (rest pre : List Dat) (n : Nat) (b : Int), rest.length < n -> (pre ++ rest).length <= 1000 -> (∀ d ∈ rest, cw d = true) -> 0 <= b -> b <= 1099511627776 * pre.length ->
 xB m n (b, pre ++ rest, ((pre ++ rest).length : Int), (pre.length : Int)) = some [.i (b + af 1 rest)] := by
 intro rest
 induction rest with
 | nil =>
  intro pre n b hn hl hg h0 h1; obtain ⟨n, rfl⟩ := al n (by simp at hn; omega); rw [vA]; unfold Am; dsimp only; simp [aB, af]
 | cons x rest ih =>
  intro pre n b hn hl hg h0 h1; obtain ⟨n, rfl⟩ := al n (by simp at hn; omega); simp only [zaf, zai] at hn hl; have hx := pD (hg x (by simp)); rw [vA]; unfold Am; dsimp only; have := ih (pre ++ [x]) n (b + x.i 1) (by omega) (by simp; omega) (fun d hd => hg d (by simp [hd])) (by omega) (by simp; omega); simp only [af] at this ⊢; simp (disch := omega) only [TRa, TRi, aa, LNl, LNi, zaa, ar]; simp only [LNl, LNi, zaa] at this ⊢; exact this
def f19 : List Dat -> Bool × List Un := fun a0 => (decide (0 < a0.length) && (decide (((ae a0 0).d 0).length <= 1000) && ((ae a0 0).d 0).all cw), [.i (af 1 ((ae a0 0).d 0))])
theorem O5 (a0 : List Dat) (hc : (decide (0 < a0.length) && (decide (((ae a0 0).d 0).length <= 1000) && ((ae a0 0).d 0).all cw)) = true) : ∃ m, t19 m a0 = some ([.i (af 1 ((ae a0 0).d 0))]) := by
 simp only [zab, zac, zam] at hc; refine ⟨((ae a0 0).d 0).length + 1, ?_⟩; unfold t19; rw [aV hc.1]; exact (Gn _ ((ae a0 0).d 0) [] (((ae a0 0).d 0).length + 1) 0 (by omega) (by simpa using hc.2.1) hc.2.2 (by omega) (by simp)).trans (by simp only [za0])
theorem Kz : ER 19 (mkE N19.en N19.ex f19) := aq ak LD.right (fun m => [Gw (xB m m)]) (t := t19) (by kernel_rfl) (fun m => (aJ (Qa m m) aA)) (fun m a => by kernel_rfl) fun a0 hc => O5 a0 hc
def T19 : Tb Tryz.prog LQ TE XX := LD.add 19 _ Kz
def N57 : aD := ⟨T19.tab, 57, ⟨[.dpt [.ag (sB 4)]], [], 0⟩, ⟨[.buf 0 5], [.ag (sB 4)], 0⟩, []⟩
def t57 (m : Nat) : List Dat -> Option (List Un) := fun a0 =>
 chk (decide (0 < a0.length)) <|
 chk (decide (((ae a0 0).d 0).length < 1000000)) <|
 some ([.d ((ae a0 0).d 0)])
def f57 : List Dat -> Bool × List Un := fun a0 => (decide (0 < a0.length) && decide (((ae a0 0).d 0).length < 1000000), [.d ((ae a0 0).d 0)])
theorem NP (a0 : List Dat) (hc : (decide (0 < a0.length) && decide (((ae a0 0).d 0).length < 1000000)) = true) : ∃ m, t57 m a0 = some ([.d ((ae a0 0).d 0)]) := by
 simp only [zab, zac] at hc; refine ⟨0, ?_⟩; unfold t57; rw [aV hc.1, aV hc.2]
theorem Jl : ER 57 (mkE N57.en N57.ex f57) := aq ak T19.right (fun m => []) (t := t57) (by kernel_rfl) (fun m => aA) (fun m a => by kernel_rfl) fun a0 hc => NP a0 hc
def T57 : Tb Tryz.prog LQ TE XX := T19.add 57 _ Jl
theorem mE (j : Int) : ∀ (l : List Dat), (∀ d ∈ l, cw d = true) -> 0 <= cg j l /\ cg j l <= 1099511627776 * l.length
 | [], _ => by simp [cg, bn]
 | x :: l, h => by
  have h1 := pD (h x (by simp)); have h2 := mE j l fun d hd => h d (by simp [hd])
  simp only [cg, bn, zaf, zas, zaa] at h2 ⊢
  split <;> omega
def N52 : aD := ⟨T57.tab, 52, ⟨[.np 0 0 0, .int .i64, .int .i64], br 0, 9⟩, ⟨[.agg [.int .i64, .int .i64, .int .i64, .int .i64, .int .i64, .int .i64, .int .i64]], br 0, 9⟩, []⟩
def t52 (m : Nat) : Int × Int × Int × ao × an × ah × List Dat × List Dat × List Dat × List Dat × List Dat × List Dat × List Dat -> Option (List Un) := fun (a0, a1, a2, a3, a4, a5, a6, a7, a8, a9, a10, a11, a12) =>
 chk (decide (0 <= a0) && (decide (a12.length <= 1000) && a12.all aH)) <|
 chk (decide (0 <= a0)) <|
 chk (decide (0 < ([.r [.r a11]] : List Dat).length) && (decide (((ae ([.r [.r a11]] : List Dat) 0).d 0).length <= 1000) && ((ae ([.r [.r a11]] : List Dat) 0).d 0).all cw)) <|
 chk (decide (0 <= a0)) <|
 chk (decide (0 <= a0)) <|
 chk (decide (0 < ([.r [.r a11]] : List Dat).length) && decide (((ae ([.r [.r a11]] : List Dat) 0).d 0).length < 1000000)) <|
 lt (((ae ([.r [.r a11]] : List Dat) 0).d 0) : List Dat) fun l5 =>
 chk (decide (l5.length <= 1000) && l5.all cw) <|
 chk (decide (0 <= (cg 0 l5) /\ (cg 0 l5) <= 1152921504606846976 /\ 0 <= (cg 1 l5) /\ (cg 1 l5) <= 1152921504606846976 /\ 0 <= (cg 2 l5) /\ (cg 2 l5) <= 1152921504606846976 /\ 0 <= (cg 3 l5) /\ (cg 3 l5) <= 1152921504606846976)) <|
 chk (decide (0 <= a0)) <|
 chk (decide (0 <= a0)) <|
 some ([.i (af 1 ((ae ([.r [.r a11]] : List Dat) 0).d 0)), .i (((bu (⟨a3, a6, a7, a4, a8, a9, a10⟩ : aP)).getD (0, 0)).1), .i (bn aK a12), .i (if 1099511627776 < a1 then 1099511627776 else a1), .i (if 1099511627776 < a2 then 1099511627776 else a2), .i (Bp (cg 0 l5) (cg 1 l5) (cg 2 l5) (cg 3 l5) 2), .i (w64 (a5.aM - a5.aR))] ++ Uns.enc (a3 : ao) ++ Uns.enc (a4 : an) ++ Uns.enc (a5 : ah) ++ [.d a6, .d a7, .d a8, .d a9, .d a10, .d a11, .d a12])
def f52 : Int × Int × Int × ao × an × ah × List Dat × List Dat × List Dat × List Dat × List Dat × List Dat × List Dat -> Bool × List Un := fun (a0, a1, a2, a3, a4, a5, a6, a7, a8, a9, a10, a11, a12) => (decide (0 <= a0) && ((decide (a11.length <= 1000) && a11.all cw) && (decide (a12.length <= 1000) && a12.all aH)), [.i (af 1 a11), .i (((bu (⟨a3, a6, a7, a4, a8, a9, a10⟩ : aP)).getD (0, 0)).1), .i (bn aK a12), .i (min a1 1099511627776), .i (min a2 1099511627776), .i (cg 2 a11 + cg 3 a11), .i (w64 (a5.aM - a5.aR))] ++ Uns.enc ((a3) : ao) ++ Uns.enc ((a4) : an) ++ Uns.enc ((a5) : ah) ++ [.d (a6), .d (a7), .d (a8), .d (a9), .d (a10), .d (a11), .d (a12)])
theorem NH (a0 : Int) (a1 : Int) (a2 : Int) (a3 : ao) (a4 : an) (a5 : ah) (a6 : List Dat) (a7 : List Dat) (a8 : List Dat) (a9 : List Dat) (a10 : List Dat) (a11 : List Dat) (a12 : List Dat) (hc : (decide (0 <= a0) && ((decide (a11.length <= 1000) && a11.all cw) && (decide (a12.length <= 1000) && a12.all aH))) = true) : ∃ m, t52 m (a0, a1, a2, a3, a4, a5, a6, a7, a8, a9, a10, a11, a12) = some ([.i (af 1 a11), .i (((bu (⟨a3, a6, a7, a4, a8, a9, a10⟩ : aP)).getD (0, 0)).1), .i (bn aK a12), .i (min a1 1099511627776), .i (min a2 1099511627776), .i (cg 2 a11 + cg 3 a11), .i (w64 (a5.aM - a5.aR))] ++ Uns.enc ((a3) : ao) ++ Uns.enc ((a4) : an) ++ Uns.enc ((a5) : ah) ++ [.d (a6), .d (a7), .d (a8), .d (a9), .d (a10), .d (a11), .d (a12)]) := by
 have hc' := hc; simp only [zab, zac, zam] at hc'; obtain ⟨h0, ⟨h1, h2⟩, h3, h4⟩ := hc'; have q1 : (decide (a11.length <= 1000) && a11.all cw) = true := (zan.1 (zan.1 hc).2).1; have q2 : (decide (a12.length <= 1000) && a12.all aH) = true := (zan.1 (zan.1 hc).2).2; have l0 := mE 0 a11 h2; have l1 := mE 1 a11 h2; have l2 := mE 2 a11 h2; have l3 := mE 3 a11 h2; refine ⟨0, ?_⟩; unfold t52; dsimp only [lt, Qo, List.length_cons, List.length_nil]; simp only [zad h0, q1, q2, zb9, iZ, show decide (0 < 0 + 1) = true from rfl, zad (show a11.length < 1000000 by omega)]; rw [aV (by omega)]; simp only [jU, Bp, Int.reduceLE, za7, zbh, za0, zba]; exact aS (by rw [zab]; exact ⟨@zad _ _ h1, zam.2 h2⟩) (aS (@zad _ _ (by omega)) rfl)
theorem Km : ER 52 (mkE N52.en N52.ex f52) := aq ak T57.right (fun m => []) (t := t52) (by kernel_rfl) (fun m => aA) (fun m a => by kernel_rfl) fun (a0, a1, a2, a3, a4, a5, a6, a7, a8, a9, a10, a11, a12) hc => NH a0 a1 a2 a3 a4 a5 a6 a7 a8 a9 a10 a11 a12 hc
def T52 : Tb Tryz.prog LQ TE XX := T57.add 52 _ Km
theorem yf (pre pre' : List Dat) (x : Dat) (rest : List Dat) (h : pre'.length = pre.length) : ae (pre' ++ x :: rest) pre.length = x := by rw [<- h]; exact ar pre' x rest
def B7 : Nat -> Nat -> Dat -> Dat -> Bool
 | _, 0, _, _ => true
 | j, n + 1, x, y => x.i j == y.i j && B7 (j + 1) n x y
def jH (n : Nat) : List Dat -> List Dat -> Bool
 | [], [] => true
 | x :: a, y :: b => B7 0 n x y && jH n a b
 | _, _ => false
def Av : Nat -> Nat -> Dat -> Dat -> Bool
 | j, 0, x, y => x.b j == y.b j
 | j, n + 1, x, y => x.i j == y.i j && Av (j + 1) n x y
def mj : List Int -> List Int -> Bool
 | [], [] => true
 | x :: a, y :: b => x == y && mj a b
 | _, _ => false
theorem oF : ∀ (l : List Int), mj l l = true
 | [] => rfl
 | x :: l => by simp [mj, oF l]
theorem rj (n : Nat) : ∀ (a b : List Dat), a.length ≠ b.length -> jH n a b = false
 | [], [], h => absurd rfl h
 | [], _ :: _, _ => rfl
 | _ :: _, [], _ => rfl
 | x :: a, y :: b, h => by simp [jH, rj n a b (by simpa using h)]
theorem w6 : ∀ (a b : List Int), a.length ≠ b.length -> mj a b = false
 | [], [], h => absurd rfl h
 | [], _ :: _, _ => rfl
 | _ :: _, [], _ => rfl
 | x :: a, y :: b, h => by simp [mj, w6 a b (by simpa using h)]
def N15 : aD := ⟨T52.tab, 15, ⟨[.ag (sI 3), .ag (sI 3)], [], 0⟩, ⟨[.bool], [], 0⟩, []⟩
abbrev D3 : Type := List Dat × List Dat × Int
def yE (m : Nat) (k : D3 -> Option (List Un)) : D3 -> Option (List Un) := fun (a0, a1, a2) =>
 bif (decide (a2 < (a0.length : Int))) then
 chk (inb a2 a0.length) <|
 chk (decide (a2.toNat < a0.length)) <|
 lt (ae a0 a2.toNat : Dat) fun d3 =>
 chk (inb a2 a1.length) <|
 chk (decide (a2.toNat < a1.length)) <|
 lt (ae a1 a2.toNat : Dat) fun d4 =>
 bif (!(((d3.i 0) == (d4.i 0)) && (((d3.i 1) == (d4.i 1)) && (((d3.i 2) == (d4.i 2)) && true)))) then
 some ([.b false])
 else
 k (a0, a1, (w64 (a2 + 1)))
 else
 some ([.b true])
def xS (m : Nat) : Nat -> D3 -> Option (List Un) := bp (yE m)
theorem wv (m : Nat) (n : Nat) : xS m (n + 1) = yE m (xS m n) := rfl
def G5 (F : D3 -> Option (List Un)) : aT := ⟨[.lp [0, 1, 0, 1, 1], .blk 0, .code [1, 1, 1]], ⟨frm 26 [(0, .ag (sI 3)), (1, .ag (sI 3)), (5, .int .i64)], [], 0⟩, onU F⟩
theorem RD (m : Nat) : ∀ n, HO N15 (G5 (xS m n)) := ay ak T52.right (fun k => [G5 k]) (fun k h => (aJ h aA)) fun k a => by kernel_rfl
def t15 (m : Nat) : List Dat × List Dat -> Option (List Un) := fun (a0, a1) =>
 bif ((a0.length : Int) != (a1.length : Int)) then
 some ([.b false])
 else
 xS m m (a0, a1, 0)
theorem KP (m : Nat) : ∀ (rest rest' pre pre' : List Dat) (n : Nat), rest.length < n -> pre'.length = pre.length -> rest'.length = rest.length -> (pre ++ rest).length < 1099511627776 ->
 xS m n (pre ++ rest, pre' ++ rest', (pre.length : Int)) = some [.b (jH 3 rest rest')] := by
 intro rest
 induction rest with
 | nil =>
  intro rest' pre pre' n hn hp hr hl; obtain ⟨n, rfl⟩ := al n (by simp at hn; omega); obtain rfl : rest' = [] := zau (by simpa using hr); rw [wv]; unfold yE; dsimp only; simp [aB, jH]
 | cons x rest ih =>
  intro rest' pre pre' n hn hp hr hl; obtain ⟨n, rfl⟩ := al n (by simp at hn; omega); obtain ⟨y, rest', rfl⟩ : ∃ y l, rest' = y :: l := by cases rest' with | nil => simp at hr | cons y l => exact ⟨y, l, rfl⟩
  simp only [zaf, zai] at hn hl hr; have := ih rest' (pre ++ [x]) (pre' ++ [y]) n (by omega) (by simp [hp]) (by omega) (by simp; omega); rw [wv]; unfold yE; dsimp only; simp only [jH, B7, Av, Nat.reduceAdd]; simp (disch := omega) only [TRa, TRi, aa, LNl, LNi, zaa, ar, yf _ _ _ _ hp]; simp only [LNl, LNi, zaa] at this ⊢
  (try simp only [bne, cond_not])
  cases (x.i 0 == y.i 0) <;> cases (x.i 1 == y.i 1) <;> cases (x.i 2 == y.i 2)
  all_goals (first | exact this | rfl)
def f15 : List Dat × List Dat -> Bool × List Un := fun (a0, a1) => (decide (a0.length < 1099511627776), [.b (jH 3 a0 a1)])
theorem Ng (a0 : List Dat) (a1 : List Dat) (hc : (decide (a0.length < 1099511627776)) = true) : ∃ m, t15 m (a0, a1) = some ([.b (jH 3 a0 a1)]) := by
 have hs := zak hc; refine ⟨a0.length + 1, ?_⟩; unfold t15; dsimp only
 by_cases h : a0.length = a1.length
 . rw [lV (by omega)]; exact KP _ a0 a1 [] [] _ (by omega) rfl h.symm (by simpa using hs)
 . rw [lq (by omega), rj _ _ _ h]
theorem Mf : ER 15 (mkE N15.en N15.ex f15) := aq ak T52.right (fun m => [G5 (xS m m)]) (t := t15) (by kernel_rfl) (fun m => (aJ (RD m m) aA)) (fun m a => by kernel_rfl) fun (a0, a1) hc => Ng a0 a1 hc
def T15 : Tb Tryz.prog LQ TE XX := T52.add 15 _ Mf
def N14 : aD := ⟨T15.tab, 14, ⟨[.ag (sI 4), .ag (sI 4)], [], 0⟩, ⟨[.bool], [], 0⟩, []⟩
abbrev Et : Type := List Dat × List Dat × Int
def yO (m : Nat) (k : Et -> Option (List Un)) : Et -> Option (List Un) := fun (a0, a1, a2) =>
 bif (decide (a2 < (a0.length : Int))) then
 chk (inb a2 a0.length) <|
 chk (decide (a2.toNat < a0.length)) <|
 lt (ae a0 a2.toNat : Dat) fun d3 =>
 chk (inb a2 a1.length) <|
 chk (decide (a2.toNat < a1.length)) <|
 lt (ae a1 a2.toNat : Dat) fun d4 =>
 bif (!(((d3.i 0) == (d4.i 0)) && (((d3.i 1) == (d4.i 1)) && (((d3.i 2) == (d4.i 2)) && (((d3.i 3) == (d4.i 3)) && true))))) then
 some ([.b false])
 else
 k (a0, a1, (w64 (a2 + 1)))
 else
 some ([.b true])
def xN (m : Nat) : Nat -> Et -> Option (List Un) := bp (yO m)
theorem wk (m : Nat) (n : Nat) : xN m (n + 1) = yO m (xN m n) := rfl
def Hf (F : Et -> Option (List Un)) : aT := ⟨[.lp [0, 1, 0, 1, 1], .blk 0, .code [1, 1, 1]], ⟨frm 26 [(0, .ag (sI 4)), (1, .ag (sI 4)), (5, .int .i64)], [], 0⟩, onU F⟩
theorem Ra (m : Nat) : ∀ n, HO N14 (Hf (xN m n)) := ay ak T15.right (fun k => [Hf k]) (fun k h => (aJ h aA)) fun k a => by kernel_rfl
def t14 (m : Nat) : List Dat × List Dat -> Option (List Un) := fun (a0, a1) =>
 bif ((a0.length : Int) != (a1.length : Int)) then
 some ([.b false])
 else
 xN m m (a0, a1, 0)
theorem K7 (m : Nat) : ∀ (rest rest' pre pre' : List Dat) (n : Nat), rest.length < n -> pre'.length = pre.length -> rest'.length = rest.length -> (pre ++ rest).length < 1099511627776 ->
 xN m n (pre ++ rest, pre' ++ rest', (pre.length : Int)) = some [.b (jH 4 rest rest')] := by
 intro rest
 induction rest with
 | nil =>
  intro rest' pre pre' n hn hp hr hl; obtain ⟨n, rfl⟩ := al n (by simp at hn; omega); obtain rfl : rest' = [] := zau (by simpa using hr); rw [wk]; unfold yO; dsimp only; simp [aB, jH]
 | cons x rest ih =>
  intro rest' pre pre' n hn hp hr hl; obtain ⟨n, rfl⟩ := al n (by simp at hn; omega); obtain ⟨y, rest', rfl⟩ : ∃ y l, rest' = y :: l := by cases rest' with | nil => simp at hr | cons y l => exact ⟨y, l, rfl⟩
  simp only [zaf, zai] at hn hl hr; have := ih rest' (pre ++ [x]) (pre' ++ [y]) n (by omega) (by simp [hp]) (by omega) (by simp; omega); rw [wk]; unfold yO; dsimp only; simp only [jH, B7, Av, Nat.reduceAdd]; simp (disch := omega) only [TRa, TRi, aa, LNl, LNi, zaa, ar, yf _ _ _ _ hp]; simp only [LNl, LNi, zaa] at this ⊢
  (try simp only [bne, cond_not])
  cases (x.i 0 == y.i 0) <;> cases (x.i 1 == y.i 1) <;> cases (x.i 2 == y.i 2) <;> cases (x.i 3 == y.i 3)
  all_goals (first | exact this | rfl)
def f14 : List Dat × List Dat -> Bool × List Un := fun (a0, a1) => (decide (a0.length < 1099511627776), [.b (jH 4 a0 a1)])
theorem Nb (a0 : List Dat) (a1 : List Dat) (hc : (decide (a0.length < 1099511627776)) = true) : ∃ m, t14 m (a0, a1) = some ([.b (jH 4 a0 a1)]) := by
 have hs := zak hc; refine ⟨a0.length + 1, ?_⟩; unfold t14; dsimp only
 by_cases h : a0.length = a1.length
 . rw [lV (by omega)]; exact K7 _ a0 a1 [] [] _ (by omega) rfl h.symm (by simpa using hs)
 . rw [lq (by omega), rj _ _ _ h]
theorem Mw : ER 14 (mkE N14.en N14.ex f14) := aq ak T15.right (fun m => [Hf (xN m m)]) (t := t14) (by kernel_rfl) (fun m => (aJ (Ra m m) aA)) (fun m a => by kernel_rfl) fun (a0, a1) hc => Nb a0 a1 hc
def T14 : Tb Tryz.prog LQ TE XX := T15.add 14 _ Mw
def N27 : aD := ⟨T14.tab, 27, ⟨[.ints .i64, .ints .i64], [], 0⟩, ⟨[.bool], [], 0⟩, []⟩
abbrev DY : Type := List Int × List Int × Int
def zA (m : Nat) (k : DY -> Option (List Un)) : DY -> Option (List Un) := fun (a0, a1, a2) =>
 bif (decide (a2 < (a0.length : Int))) then
 chk (inb a2 a0.length) <|
 chk (decide (a2.toNat < a0.length)) <|
 chk (inb a2 a1.length) <|
 chk (decide (a2.toNat < a1.length)) <|
 bif ((a0.getD a2.toNat 0) != (a1.getD a2.toNat 0)) then
 some ([.b false])
 else
 k (a0, a1, (w64 (a2 + 1)))
 else
 some ([.b true])
def w8 (m : Nat) : Nat -> DY -> Option (List Un) := bp (zA m)
theorem wz (m : Nat) (n : Nat) : w8 m (n + 1) = zA m (w8 m n) := rfl
def IL (F : DY -> Option (List Un)) : aT := ⟨[.lp [0, 1, 0, 1, 1], .blk 0, .code [1, 1, 1]], ⟨frm 26 [(0, .ints .i64), (1, .ints .i64), (5, .int .i64)], [], 0⟩, onU F⟩
theorem QG (m : Nat) : ∀ n, HO N27 (IL (w8 m n)) := ay ak T14.right (fun k => [IL k]) (fun k h => (aJ h aA)) fun k a => by kernel_rfl
def t27 (m : Nat) : List Int × List Int -> Option (List Un) := fun (a0, a1) =>
 bif ((a0.length : Int) != (a1.length : Int)) then
 some ([.b false])
 else
 w8 m m (a0, a1, 0)
theorem J8 (m : Nat) : ∀ (rest rest' pre pre' : List Int) (n : Nat), rest.length < n -> pre'.length = pre.length -> rest'.length = rest.length -> (pre ++ rest).length < 1099511627776 ->
 w8 m n (pre ++ rest, pre' ++ rest', (pre.length : Int)) = some [.b (mj rest rest')] := by
 intro rest
 induction rest with
 | nil =>
  intro rest' pre pre' n hn hp hr hl; obtain ⟨n, rfl⟩ := al n (by simp at hn; omega); obtain rfl : rest' = [] := zau (by simpa using hr); rw [wz]; unfold zA; dsimp only; simp [aB, mj]
 | cons x rest ih =>
  intro rest' pre pre' n hn hp hr hl; obtain ⟨n, rfl⟩ := al n (by simp at hn; omega); obtain ⟨y, rest', rfl⟩ : ∃ y l, rest' = y :: l := by cases rest' with | nil => simp at hr | cons y l => exact ⟨y, l, rfl⟩
  simp only [zaf, zai] at hn hl hr; have := ih rest' (pre ++ [x]) (pre' ++ [y]) n (by omega) (by simp [hp]) (by omega) (by simp; omega); rw [wz]; unfold zA; dsimp only; simp only [mj, B7, Av, Nat.reduceAdd]; simp (disch := omega) only [TRa, TRi, aa, LNl, LNi, zaa, cm, xt _ _ _ _ _ hp]; simp only [LNl, LNi, zaa] at this ⊢
  (try simp only [bne, cond_not])
  cases (x == y)
  all_goals (first | exact this | rfl)
def f27 : List Int × List Int -> Bool × List Un := fun (a0, a1) => (decide (a0.length < 1099511627776), [.b (mj a0 a1)])
theorem Px (a0 : List Int) (a1 : List Int) (hc : (decide (a0.length < 1099511627776)) = true) : ∃ m, t27 m (a0, a1) = some ([.b (mj a0 a1)]) := by
 have hs := zak hc; refine ⟨a0.length + 1, ?_⟩; unfold t27; dsimp only
 by_cases h : a0.length = a1.length
 . rw [lV (by omega)]; exact J8 _ a0 a1 [] [] _ (by omega) rfl h.symm (by simpa using hs)
 . rw [lq (by omega), w6 _ _ h]
theorem LR : ER 27 (mkE N27.en N27.ex f27) := aq ak T14.right (fun m => [IL (w8 m m)]) (t := t27) (by kernel_rfl) (fun m => (aJ (QG m m) aA)) (fun m a => by kernel_rfl) fun (a0, a1) hc => Px a0 a1 hc
def T27 : Tb Tryz.prog LQ TE XX := T14.add 27 _ LR
def N63 : aD := ⟨T27.tab, 63, ⟨[.bool], [], 0⟩, ⟨[.int .i64], [], 0⟩, []⟩
def t63 (m : Nat) : Bool -> Option (List Un) := fun a0 =>
 bif a0 then
 some ([.i 1])
 else
 some ([.i 0])
def f63 : Bool -> Bool × List Un := fun a0 => (true, [.i (bI a0)])
theorem PE (a0 : Bool) : ∃ m, t63 m a0 = some ([.i (bI a0)]) := by
 refine ⟨0, ?_⟩; unfold t63; cases a0 <;> rfl
theorem LF : ER 63 (mkE N63.en N63.ex f63) := aq ak T27.right (fun m => []) (t := t63) (by kernel_rfl) (fun m => aA) (fun m a => by kernel_rfl) fun a0 hc => PE a0
def T63 : Tb Tryz.prog LQ TE XX := T27.add 63 _ LF
def N64 : aD := ⟨T63.tab, 64, ⟨[.agg [.int .i64, .int .i64]], [], 0⟩, ⟨[.int .i64], [], 0⟩, []⟩
def t64 (m : Nat) : Int × Int -> Option (List Un) := fun (a0, a1) =>
 some ([.i a0])
def f64 : Int × Int -> Bool × List Un := fun (a0, a1) => (true, [.i (a0)])
theorem M1 (a0 : Int) (a1 : Int) : ∃ m, t64 m (a0, a1) = some ([.i (a0)]) := by
 exact ⟨0, rfl⟩
theorem LL : ER 64 (mkE N64.en N64.ex f64) := aq ak T63.right (fun m => []) (t := t64) (by kernel_rfl) (fun m => aA) (fun m a => by kernel_rfl) fun (a0, a1) hc => M1 a0 a1
def T64 : Tb Tryz.prog LQ TE XX := T63.add 64 _ LL
def N65 : aD := ⟨T64.tab, 65, ⟨[.agg [.int .i64, .int .i64]], [], 0⟩, ⟨[.int .i64], [], 0⟩, []⟩
def t65 (m : Nat) : Int × Int -> Option (List Un) := fun (a0, a1) =>
 some ([.i a1])
def f65 : Int × Int -> Bool × List Un := fun (a0, a1) => (true, [.i (a1)])
theorem Pw (a0 : Int) (a1 : Int) : ∃ m, t65 m (a0, a1) = some ([.i (a1)]) := by
 exact ⟨0, rfl⟩
theorem LX : ER 65 (mkE N65.en N65.ex f65) := aq ak T64.right (fun m => []) (t := t65) (by kernel_rfl) (fun m => aA) (fun m a => by kernel_rfl) fun (a0, a1) hc => Pw a0 a1
def T65 : Tb Tryz.prog LQ TE XX := T64.add 65 _ LX
def vV (d : Dat) : List Int := [d.i 0, d.i 1, d.i 2, d.i 3, bI (d.b 4)]
def sk (d : Dat) : List Int := [w64 (d.i 3 - d.i 4), d.i 5, d.i 6]
def dq (n : ah) (ax notes : List Dat) : List Int := [n.period, n.mode, n.aX, n.out, n.fee, n.aM, n.aR, bI n.dt, n.rin, n.aG] ++ ax.flatMap vV ++ notes.flatMap sk
def N26 : aD := ⟨T65.tab, 26, ⟨[.np 0 0 0], br 0, 9⟩, ⟨[.buf 9 1], br 0 ++ [.ints .i64], 9⟩, []⟩
abbrev D8 : Type := Int × Int × ao × an × ah × List Dat × List Dat × List Dat × List Dat × List Dat × List Dat × List Dat × List Int
abbrev Ea : Type := Int × Int × Int × ao × an × ah × List Dat × List Dat × List Dat × List Dat × List Dat × List Dat × List Dat × List Int × List Dat
def yU (m : Nat) (k : D8 -> Option (List Un)) : D8 -> Option (List Un) := fun (a0, a1, a2, a3, a4, a5, a6, a7, a8, a9, a10, a11, a12) =>
 bif decide (a1 < a0) then
 chk (inb a1 a11.length) <|
 chk (decide (a1.toNat < a11.length)) <|
 lt (ae a11 a1.toNat : Dat) fun d4 =>
 chk (fits (a12.length + 3) 8) <|
 k (a0, (w64 (a1 + 1)), a2, a3, a4, a5, a6, a7, a8, a9, a10, a11, (a12 ++ ([(w64 ((d4.i 3) - (d4.i 4))), (d4.i 5), (d4.i 6)])))
 else
 some (Uns.enc (a2 : ao) ++ Uns.enc (a3 : an) ++ Uns.enc (a4 : ah) ++ [.d a5, .d a6, .d a7, .d a8, .d a9, .d a10, .d a11, .l a12])
def yq (m : Nat) : Nat -> D8 -> Option (List Un) := bp (yU m)
theorem vj (m : Nat) (n : Nat) : yq m (n + 1) = yU m (yq m n) := rfl
def HV (F : D8 -> Option (List Un)) : aT := ⟨[.lp [0, 1, 0, 1, 1, 1], .blk 2, .code [1, 1, 1, 1]], ⟨frm 102 [(3, .buf 9 1), (84, .buf 8 7), (85, .int .i64), (86, .int .i64)], br 0 ++ [.ints .i64], 9⟩, onU F⟩
def zT (m : Nat) (k : Ea -> Option (List Un)) : Ea -> Option (List Un) := fun (a0, a1, a2, a3, a4, a5, a6, a7, a8, a9, a10, a11, a12, a13, a14) =>
 bif decide (a2 < a1) then
 chk (inb a2 a14.length) <|
 chk (decide (a2.toNat < a14.length)) <|
 lt (ae a14 a2.toNat : Dat) fun d2 =>
 chk (fits (a13.length + 5) 8) <|
 k (a0, a1, (w64 (a2 + 1)), a3, a4, a5, a6, a7, a8, a9, a10, a11, a12, (a13 ++ ([(d2.i 0), (d2.i 1), (d2.i 2), (d2.i 3), (bI (d2.b 4))])), a14)
 else
 chk (decide (0 <= a0)) <|
 yq m m ((a12.length : Int), 0, a3, a4, a5, a6, a7, a8, a9, a10, a11, a12, a13)
def xu (m : Nat) : Nat -> Ea -> Option (List Un) := bp (zT m)
theorem v3 (m : Nat) (n : Nat) : xu m (n + 1) = zT m (xu m n) := rfl
def Gk (F : Ea -> Option (List Un)) : aT := ⟨[.lp [0, 1, 0, 1, 1], .blk 0, .code [1, 1, 1]], ⟨frm 102 [(0, .np 0 0 0), (3, .buf 9 1), (58, .buf 10 5), (59, .int .i64), (60, .int .i64)], br 0 ++ [.ints .i64, .ag (sB 4)], 9⟩, onU F⟩
theorem Qr (m : Nat) : ∀ n, HO N26 (HV (yq m n)) := ay ak T65.right (fun k => [HV k]) (fun k h => (aJ h aA)) fun k a => by kernel_rfl
theorem Rm (m : Nat) : ∀ n, HO N26 (Gk (xu m n)) := ay ak T65.right (fun k => [Gk k, HV (yq m m)]) (fun k h => (aJ h (aJ (Qr m m) aA))) fun k a => by kernel_rfl
def t26 (m : Nat) : Int × ao × an × ah × List Dat × List Dat × List Dat × List Dat × List Dat × List Dat × List Dat -> Option (List Un) := fun (a0, a1, a2, a3, a4, a5, a6, a7, a8, a9, a10) =>
 chk (decide (0 <= a0)) <|
 chk (decide (0 <= a0)) <|
 chk (decide (0 <= a0)) <|
 chk (decide (0 <= a0)) <|
 chk (decide (0 <= a0)) <|
 chk (decide (0 <= a0)) <|
 chk (decide (0 <= a0)) <|
 chk (decide (0 <= a0)) <|
 chk (decide (0 <= a0)) <|
 chk (decide (0 <= a0)) <|
 chk (decide (0 <= a0)) <|
 chk (decide (0 < ([.r [.r a9]] : List Dat).length) && decide (((ae ([.r [.r a9]] : List Dat) 0).d 0).length < 1000000)) <|
 lt (((ae ([.r [.r a9]] : List Dat) 0).d 0) : List Dat) fun l1 =>
 xu m m (a0, (l1.length : Int), 0, a1, a2, a3, a4, a5, a6, a7, a8, a9, a10, ([a3.period, a3.mode, a3.aX, a3.out, a3.fee, a3.aM, a3.aR, (bI a3.dt), a3.rin, a3.aG] : List Int), l1)
section
variable (m : Nat) (xa : ao) (xb : an) (xn : ah) (x1 x2 x3 x4 x5 x6 : List Dat)
theorem N7 : ∀ (rest pre : List Dat) (n : Nat) (acc : List Int), rest.length < n -> (pre ++ rest).length < 1000000 -> acc.length <= 6000000 + 3 * pre.length ->
 yq m n (((pre ++ rest).length : Int), (pre.length : Int), xa, xb, xn, x1, x2, x3, x4, x5, x6, pre ++ rest, acc) = some (Uns.enc xa ++ Uns.enc xb ++ Uns.enc xn ++ [.d x1, .d x2, .d x3, .d x4, .d x5, .d x6, .d (pre ++ rest), .l (acc ++ rest.flatMap sk)]) := by
 intro rest
 induction rest with
 | nil =>
  intro pre n acc hn hl ha; obtain ⟨n, rfl⟩ := al n (by simp at hn; omega); rw [vj]; unfold yU; dsimp only; simp [aB]
 | cons x rest ih =>
  intro pre n acc hn hl ha; obtain ⟨n, rfl⟩ := al n (by simp at hn; omega); simp only [zaf, zai] at hn hl; rw [vj]; unfold yU; dsimp only; have := ih (pre ++ [x]) n (acc ++ sk x) (by omega) (by simp; omega) (by simp [sk]; omega); simp only [List.flatMap_cons, sk] at this ⊢; simp (disch := omega) only [TRa, TRi, aa, LNl, LNi, zaa, ar]; simp only [LNl, LNi, zaa] at this ⊢; exact this
theorem Oi (p0 : Int) (hp : 0 <= p0) (notes : List Dat) (hnl : notes.length < 1000000) (hm : notes.length < m) : ∀ (rest pre : List Dat) (n : Nat) (acc : List Int), rest.length < n -> (pre ++ rest).length < 1000000 -> acc.length <= 10 + 5 * pre.length ->
 xu m n (p0, ((pre ++ rest).length : Int), (pre.length : Int), xa, xb, xn, x1, x2, x3, x4, x5, x6, notes, acc, pre ++ rest) = some (Uns.enc xa ++ Uns.enc xb ++ Uns.enc xn ++ [.d x1, .d x2, .d x3, .d x4, .d x5, .d x6, .d notes, .l (acc ++ rest.flatMap vV ++ notes.flatMap sk)]) := by
 intro rest
 induction rest with
 | nil =>
  intro pre n acc hn hl ha; obtain ⟨n, rfl⟩ := al n (by simp at hn; omega); simp only [zaK] at hl; rw [v3]; unfold zT; dsimp only; simp only [zaK, List.flatMap_nil]; rw [aB (by omega), aV hp]; exact N7 m xa xb xn x1 x2 x3 x4 x5 x6 notes [] m acc hm (by simpa using hnl) (by simp; omega)
 | cons x rest ih =>
  intro pre n acc hn hl ha; obtain ⟨n, rfl⟩ := al n (by simp at hn; omega); simp only [zaf, zai] at hn hl; rw [v3]; unfold zT; dsimp only; have := ih (pre ++ [x]) n (acc ++ vV x) (by omega) (by simp; omega) (by simp [vV]; omega); simp only [List.flatMap_cons, vV] at this ⊢; simp (disch := omega) only [TRa, TRi, aa, LNl, LNi, zaa, ar]; simp only [LNl, LNi, zaa] at this ⊢; exact this
end
def f26 : Int × ao × an × ah × List Dat × List Dat × List Dat × List Dat × List Dat × List Dat × List Dat -> Bool × List Un := fun (a0, a1, a2, a3, a4, a5, a6, a7, a8, a9, a10) => (decide (0 <= a0) && decide (a9.length < 1000000 /\ a10.length < 1000000), Uns.enc ((a1) : ao) ++ Uns.enc ((a2) : an) ++ Uns.enc ((a3) : ah) ++ [.d (a4), .d (a5), .d (a6), .d (a7), .d (a8), .d (a9), .d (a10), .l (dq a3 a9 a10)])
theorem OT (a0 : Int) (a1 : ao) (a2 : an) (a3 : ah) (a4 : List Dat) (a5 : List Dat) (a6 : List Dat) (a7 : List Dat) (a8 : List Dat) (a9 : List Dat) (a10 : List Dat) (hc : (decide (0 <= a0) && decide (a9.length < 1000000 /\ a10.length < 1000000)) = true) : ∃ m, t26 m (a0, a1, a2, a3, a4, a5, a6, a7, a8, a9, a10) = some (Uns.enc ((a1) : ao) ++ Uns.enc ((a2) : an) ++ Uns.enc ((a3) : ah) ++ [.d (a4), .d (a5), .d (a6), .d (a7), .d (a8), .d (a9), .d (a10), .l (dq a3 a9 a10)]) := by
 simp only [zab, zac] at hc; obtain ⟨h0, h1, h2⟩ := hc; refine ⟨a9.length + a10.length + 1, ?_⟩; unfold t26; dsimp only [lt, Qo, List.length_cons, List.length_nil]; simp only [aV h0]; refine (aS ?_ (Oi _ a1 a2 a3 a4 a5 a6 a7 a8 a9 a0 h0 a10 h2 (by omega) a9 [] _ _ (by omega) (by simpa using h1) (by simp))).trans ?_
 . rw [zab]; exact ⟨@zad _ _ (by omega), @zad _ _ h1⟩
 . rfl
theorem J3 : ER 26 (mkE N26.en N26.ex f26) := aq ak T65.right (fun m => [Gk (xu m m)]) (t := t26) (by kernel_rfl) (fun m => (aJ (Rm m m) aA)) (fun m a => by kernel_rfl) fun (a0, a1, a2, a3, a4, a5, a6, a7, a8, a9, a10) hc => OT a0 a1 a2 a3 a4 a5 a6 a7 a8 a9 a10 hc
def T26 : Tb Tryz.prog LQ TE XX := T65.add 26 _ J3
def gL (p q r s l : Int) : Bool := decide (0 <= p) && (decide (p <= 1099511627776) && (decide (0 <= q) && (decide (q <= 1099511627776) && (decide (0 <= r) && (decide (r <= 1099511627776) && (decide (0 <= s) && (decide (s <= 1099511627776) && (decide (0 <= l) && decide (l <= 12)))))))))
theorem I0 {α : Type} {x : Int} {a b : α} : (bif decide (x < 0) then a else b) = bif decide (0 <= x) then b else a := by
 by_cases h : x < 0
 . rw [zad h, zaL (show ¬ 0 <= x by omega)]; rfl
 . rw [zaL h, zad (show 0 <= x by omega)]; rfl
theorem Ml {α : Type} {x y : Int} {a b : α} : (bif decide (x > y) then a else b) = bif decide (x <= y) then b else a := by
 by_cases h : x > y
 . rw [zad h, zaL (show ¬ x <= y by omega)]; rfl
 . rw [zaL h, zad (show x <= y by omega)]; rfl
theorem Mu {c y : Bool} : (bif c then some [Un.b y] else some [Un.b false]) = some [.b (c && y)] := by cases c <;> rfl
def Rz : aD := ⟨T26.tab, 129, ⟨[.agg [.int .i64, .int .i64, .int .i64, .int .i64, .int .i64, .int .i64, .bool]], [], 0⟩, ⟨[.bool], [], 0⟩, [[0, 1, 0, 1]]⟩
def t129 (m : Nat) : Int × Int × Int × Int × Int × Int × Bool -> Option (List Un) := fun (a0, a1, a2, a3, a4, a5, a6) =>
 lt ((([a1, a2, a3, a4]).getD 0 0) : Int) fun x1 =>
 bif decide (x1 < 0) then
 some ([.b false])
 else
 bif (decide (x1 > 1099511627776)) then
 some ([.b false])
 else
 lt ((([a1, a2, a3, a4]).getD 1 0) : Int) fun x3 =>
 bif decide (x3 < 0) then
 some ([.b false])
 else
 bif (decide (x3 > 1099511627776)) then
 some ([.b false])
 else
 lt ((([a1, a2, a3, a4]).getD 2 0) : Int) fun x5 =>
 bif decide (x5 < 0) then
 some ([.b false])
 else
 bif (decide (x5 > 1099511627776)) then
 some ([.b false])
 else
 lt ((([a1, a2, a3, a4]).getD 3 0) : Int) fun x7 =>
 bif decide (x7 < 0) then
 some ([.b false])
 else
 bif (decide (x7 > 1099511627776)) then
 some ([.b false])
 else
 bif decide (a5 >= 0) then
 some ([.b (decide (a5 <= 12))])
 else
 some ([.b false])
def f129 : Int × Int × Int × Int × Int × Int × Bool -> Bool × List Un := fun (a0, a1, a2, a3, a4, a5, a6) => (true, [.b (gL a1 a2 a3 a4 a5)])
theorem Mm (a0 : Int) (a1 : Int) (a2 : Int) (a3 : Int) (a4 : Int) (a5 : Int) (a6 : Bool) : ∃ m, t129 m (a0, a1, a2, a3, a4, a5, a6) = some ([.b (gL a1 a2 a3 a4 a5)]) := by
 refine ⟨0, ?_⟩; unfold t129 gL; simp only [lt_eq, zaI, zaw, I0, Ml]; simp only [ge_iff_le, Mu]
theorem Ic : ER 129 (mkE Rz.en Rz.ex f129) := aq ak T26.right (fun m => []) (t := t129) (by kernel_rfl) (fun m => aA) (fun m a => by kernel_rfl) fun (a0, a1, a2, a3, a4, a5, a6) hc => Mm a0 a1 a2 a3 a4 a5 a6
def Kr : Tb Tryz.prog LQ TE XX := T26.add 129 _ Ic
def fZ : Int -> List Dat -> Bool
 | _, [] => true
 | last, d :: l => if d.i 0 <= last then false else if gL (d.i 1) (d.i 2) (d.i 3) (d.i 4) (d.i 5) then fZ (d.i 0) l else false
def kC (l : List Dat) : Bool := decide (l.length <= 64) && fZ 0 l
def N93 : aD := ⟨Kr.tab, 93, ⟨[.ag (sB 6)], [], 0⟩, ⟨[.bool], [], 0⟩, []⟩
abbrev D2 : Type := Int × List Dat × Int × Int
def yN (m : Nat) (k : D2 -> Option (List Un)) : D2 -> Option (List Un) := fun (a0, a1, a2, a3) =>
 bif decide (a3 < a2) then
 chk (inb a3 a1.length) <|
 chk (decide (a3.toNat < a1.length)) <|
 lt (ae a1 a3.toNat : Dat) fun d2 =>
 bif decide ((d2.i 0) <= a0) then
 some ([.b false])
 else
 bif !(gL (d2.i 1) (d2.i 2) (d2.i 3) (d2.i 4) (d2.i 5)) then
 some ([.b false])
 else
 k ((d2.i 0), a1, a2, (w64 (a3 + 1)))
 else
 some ([.b true])
def xL (m : Nat) : Nat -> D2 -> Option (List Un) := bp (yN m)
theorem vW (m : Nat) (n : Nat) : xL m (n + 1) = yN m (xL m n) := rfl
def G7 (F : D2 -> Option (List Un)) : aT := ⟨[.lp [0, 1, 0, 1, 1, 1], .blk 0, .code [1, 1, 1, 1]], ⟨frm 27 [(3, .int .i64), (9, .ag (sB 6)), (10, .int .i64), (11, .int .i64)], [], 0⟩, onU F⟩
theorem Qy (m : Nat) : ∀ n, HO N93 (G7 (xL m n)) := ay ak Kr.right (fun k => [G7 k]) (fun k h => (aJ h aA)) fun k a => by kernel_rfl
def t93 (m : Nat) : List Dat -> Option (List Un) := fun a0 =>
 bif (decide ((a0.length : Int) > 64)) then
 some ([.b false])
 else
 xL m m (0, a0, (a0.length : Int), 0)
theorem QO (m : Nat) : ∀ (rest pre : List Dat) (n : Nat) (last : Int), rest.length < n -> (pre ++ rest).length <= 64 ->
 xL m n (last, pre ++ rest, ((pre ++ rest).length : Int), (pre.length : Int)) = some [.b (fZ last rest)] := by
 intro rest
 induction rest with
 | nil =>
  intro pre n last hn hl; obtain ⟨n, rfl⟩ := al n (by simp at hn; omega); rw [vW]; unfold yN; dsimp only; simp [aB, fZ]
 | cons x rest ih =>
  intro pre n last hn hl; obtain ⟨n, rfl⟩ := al n (by simp at hn; omega); simp only [zaf, zai] at hn hl; have := ih (pre ++ [x]) n (x.i 0) (by omega) (by simp; omega); rw [vW]; unfold yN; dsimp only; simp only [LNl, LNi, zaa] at this ⊢; unfold fZ
  by_cases h1 : x.i 0 <= last
  . simp (disch := omega) only [TRa, TRi, aa, LNl, LNi, zaa, ar]; rw [if_pos h1]
  . rw [if_neg h1]
    by_cases h2 : gL (x.i 1) (x.i 2) (x.i 3) (x.i 4) (x.i 5) = true
    . rw [if_pos h2]; simp (disch := omega) only [TRa, TRi, aa, LNl, LNi, zaa, ar, h2]; exact this
    . rw [if_neg h2]; have h2 : gL (x.i 1) (x.i 2) (x.i 3) (x.i 4) (x.i 5) = false := by simpa using h2
      simp (disch := omega) only [TRa, TRi, aa, LNl, LNi, zaa, ar, h2]
def f93 : List Dat -> Bool × List Un := fun a0 => (true, [.b (kC a0)])
theorem Pu (a0 : List Dat) : ∃ m, t93 m a0 = some ([.b (kC a0)]) := by
 unfold kC
 by_cases h : a0.length <= 64
 . refine ⟨a0.length + 1, ?_⟩; have := QO (a0.length + 1) a0 [] (a0.length + 1) 0 (by omega) (by simpa using h); unfold t93; rw [aB (by omega), zad h, zba]; exact this
 . refine ⟨0, ?_⟩; unfold t93; rw [bz (by omega), zaL h]; rfl
theorem JA : ER 93 (mkE N93.en N93.ex f93) := aq ak Kr.right (fun m => [G7 (xL m m)]) (t := t93) (by kernel_rfl) (fun m => (aJ (Qy m m) aA)) (fun m a => by kernel_rfl) fun a0 hc => Pu a0
def T93 : Tb Tryz.prog LQ TE XX := Kr.add 93 _ JA
def qC (bal lost : Int) (dt : Bool) (pr pp it rc lt : Int) (df : Bool) : Bool :=
 bif dt then (pr == 0) && ((pp == 0) && ((it == 0) && ((lt == 0) && (!df && decide (rc <= lost)))))
 else bif decide (w64 (w64 (bal - pr) - pp) < 0) then false
 else bif df then (bif decide (rc <= w64 (lost + w64 (w64 (bal - pr) - pp))) then true else rc == 0) else rc == 0
theorem FL {c x y : Bool} : (bif c then some [Un.b x] else some [Un.b y]) = some [.b (bif c then x else y)] := by cases c <;> rfl
def N95 : aD := ⟨T93.tab, 95, ⟨[.agg [.int .i64, .int .i64, .int .i64, .int .i64, .bool], .agg [.int .i64, .int .i64, .int .i64, .int .i64, .int .i64, .int .i64, .bool]], [], 0⟩, ⟨[.bool], [], 0⟩, []⟩
def t95 (m : Nat) : Int × Int × Int × Int × Bool × Int × Int × Int × Int × Int × Int × Bool -> Option (List Un) := fun (a0, a1, a2, a3, a4, a5, a6, a7, a8, a9, a10, a11) =>
 bif a4 then
 bif a6 == 0 then
 bif a7 == 0 then
 bif a8 == 0 then
 bif a10 == 0 then
 bif !a11 then
 some ([.b (decide (a9 <= a2))])
 else
 some ([.b false])
 else
 some ([.b false])
 else
 some ([.b false])
 else
 some ([.b false])
 else
 some ([.b false])
 else
 lt ((w64 ((w64 (a1 - a6)) - a7)) : Int) fun x1 =>
 bif decide (x1 < 0) then
 some ([.b false])
 else
 bif a11 then
 bif (decide (a9 <= (w64 (a2 + x1)))) then
 some ([.b true])
 else
 some ([.b (a9 == 0)])
 else
 some ([.b (a9 == 0)])
def f95 : Int × Int × Int × Int × Bool × Int × Int × Int × Int × Int × Int × Bool -> Bool × List Un := fun (a0, a1, a2, a3, a4, a5, a6, a7, a8, a9, a10, a11) => (true, [.b (qC a1 a2 a4 a6 a7 a8 a9 a10 a11)])
theorem NM (a0 : Int) (a1 : Int) (a2 : Int) (a3 : Int) (a4 : Bool) (a5 : Int) (a6 : Int) (a7 : Int) (a8 : Int) (a9 : Int) (a10 : Int) (a11 : Bool) : ∃ m, t95 m (a0, a1, a2, a3, a4, a5, a6, a7, a8, a9, a10, a11) = some ([.b (qC a1 a2 a4 a6 a7 a8 a9 a10 a11)]) := by
 refine ⟨0, ?_⟩; unfold t95 qC; simp only [lt_eq, FL]; cases a4 <;> simp only [zaG, zap]
 cases (a6 == 0) <;> cases (a7 == 0) <;> cases (a8 == 0) <;> cases (a10 == 0) <;> cases a11 <;> rfl
theorem JF : ER 95 (mkE N95.en N95.ex f95) := aq ak T93.right (fun m => []) (t := t95) (by kernel_rfl) (fun m => aA) (fun m a => by kernel_rfl) fun (a0, a1, a2, a3, a4, a5, a6, a7, a8, a9, a10, a11) hc => NM a0 a1 a2 a3 a4 a5 a6 a7 a8 a9 a10 a11
def T95 : Tb Tryz.prog LQ TE XX := T93.add 95 _ JF
def oY (bal pr pp : Int) (df : Bool) : Int := bif df then 0 else w64 (bal - w64 (pr + pp))
def fT (bal pr pp : Int) (df : Bool) : Int := bif df then w64 (bal - w64 (pr + pp)) else 0
def oA (bal lost pr pp rc : Int) (df : Bool) : Int := bif df then w64 (w64 (lost + w64 (bal - w64 (pr + pp))) - rc) else w64 (lost - rc)
def oM (bal : Int) (dt : Bool) (pr pp lt : Int) (df : Bool) : Int := bif df then 0 else bif dt then 0 else bif w64 (bal - w64 (pr + pp)) == 0 then 0 else lt
def N96 : aD := ⟨T95.tab, 96, ⟨[.agg [.int .i64, .int .i64, .int .i64, .int .i64, .bool], .agg [.int .i64, .int .i64, .int .i64, .int .i64, .int .i64, .int .i64, .bool]], [], 0⟩, ⟨[.agg [.int .i64, .int .i64, .int .i64, .int .i64, .bool], .agg [.int .i64, .int .i64, .int .i64, .int .i64]], [], 0⟩, []⟩
def t96 (m : Nat) : Int × Int × Int × Int × Bool × Int × Int × Int × Int × Int × Int × Bool -> Option (List Un) := fun (a0, a1, a2, a3, a4, a5, a6, a7, a8, a9, a10, a11) =>
 lt ((w64 (a1 - (w64 (a6 + a7)))) : Int) fun x1 =>
 bif a11 then
 some ([.i a0, .i 0, .i (w64 ((w64 (a2 + x1)) - a9)), .i 0, .b true, .i (w64 (a6 + a7)), .i a8, .i x1, .i a9])
 else
 bif a4 then
 some ([.i a0, .i x1, .i (w64 (a2 - a9)), .i 0, .b a4, .i (w64 (a6 + a7)), .i a8, .i 0, .i a9])
 else
 bif x1 == 0 then
 some ([.i a0, .i x1, .i (w64 (a2 - a9)), .i 0, .b a4, .i (w64 (a6 + a7)), .i a8, .i 0, .i a9])
 else
 some ([.i a0, .i x1, .i (w64 (a2 - a9)), .i a10, .b a4, .i (w64 (a6 + a7)), .i a8, .i 0, .i a9])
def f96 : Int × Int × Int × Int × Bool × Int × Int × Int × Int × Int × Int × Bool -> Bool × List Un := fun (a0, a1, a2, a3, a4, a5, a6, a7, a8, a9, a10, a11) => (true, [.i (a0), .i (oY a1 a6 a7 a11), .i (oA a1 a2 a6 a7 a9 a11), .i (oM a1 a4 a6 a7 a10 a11), .b ((a11 || a4)), .i (w64 (a6 + a7)), .i (a8), .i (fT a1 a6 a7 a11), .i (a9)])
theorem N6 (a0 : Int) (a1 : Int) (a2 : Int) (a3 : Int) (a4 : Bool) (a5 : Int) (a6 : Int) (a7 : Int) (a8 : Int) (a9 : Int) (a10 : Int) (a11 : Bool) : ∃ m, t96 m (a0, a1, a2, a3, a4, a5, a6, a7, a8, a9, a10, a11) = some ([.i (a0), .i (oY a1 a6 a7 a11), .i (oA a1 a2 a6 a7 a9 a11), .i (oM a1 a4 a6 a7 a10 a11), .b ((a11 || a4)), .i (w64 (a6 + a7)), .i (a8), .i (fT a1 a6 a7 a11), .i (a9)]) := by
 refine ⟨0, ?_⟩; unfold t96 oY oA oM fT; simp only [lt_eq]; cases a11 <;> cases a4 <;> simp only [zaG, zap, Bool.or_true, Bool.or_false] <;> first | rfl | (cases (w64 (a1 - w64 (a6 + a7)) == 0) <;> rfl)
theorem Ms : ER 96 (mkE N96.en N96.ex f96) := aq ak T95.right (fun m => []) (t := t96) (by kernel_rfl) (fun m => aA) (fun m a => by kernel_rfl) fun (a0, a1, a2, a3, a4, a5, a6, a7, a8, a9, a10, a11) hc => N6 a0 a1 a2 a3 a4 a5 a6 a7 a8 a9 a10 a11
def T96 : Tb Tryz.prog LQ TE XX := T95.add 96 _ Ms
def eu (id : Int) : Int -> List Dat -> Int
 | _, [] => -1
 | i, d :: l => if d.i 0 = id then i else eu id (i + 1) l
def Oa : aD := ⟨T96.tab, 130, ⟨[.ag (sB 4), .fn 131 [] [.ptr 0 0 0]], [.cells [.int .i64]], 1⟩, ⟨[.int .i64], [.cells [.int .i64]], 1⟩, []⟩
abbrev yz : Type := List Dat × Int × Int × Int
def sW (m : Nat) (k : yz -> Option (List Un)) : yz -> Option (List Un) := fun (a0, a1, a2, a3) =>
 bif decide (a2 < a1) then
 chk (inb a2 a0.length) <|
 chk (decide (a2.toNat < a0.length)) <|
 bif ((ae a0 a2.toNat).i 0) == a3 then
 some ([.i a2, .i a3])
 else
 k (a0, a1, (w64 (a2 + 1)), a3)
 else
 some ([.i (-1), .i a3])
def qQ (m : Nat) : Nat -> yz -> Option (List Un) := bp (sW m)
theorem rR (m : Nat) (n : Nat) : qQ m (n + 1) = sW m (qQ m n) := rfl
def CV (F : yz -> Option (List Un)) : aT := ⟨[.lp [0, 1, 0, 1], .blk 0, .code [1, 1]], ⟨frm 19 [(0, .ag (sB 4)), (1, .fn 131 [] [.ptr 0 0 0]), (7, .int .i64), (8, .int .i64)], [.cells [.int .i64]], 1⟩, onU F⟩
theorem Pq (m : Nat) : ∀ n, HO Oa (CV (qQ m n)) := ay ak T96.right (fun k => [CV k]) (fun k h => (aJ h aA)) fun k a => by kernel_rfl
def t130 (m : Nat) : List Dat × Int -> Option (List Un) := fun (a0, a1) =>
 qQ m m (a0, (a0.length : Int), 0, a1)
theorem Ry (m : Nat) (id : Int) : ∀ (rest pre : List Dat) (n : Nat), rest.length < n -> (pre ++ rest).length < 1000000 ->
 qQ m n (pre ++ rest, ((pre ++ rest).length : Int), (pre.length : Int), id) = some [.i (eu id pre.length rest), .i id] := by
 intro rest
 induction rest with
 | nil =>
  intro pre n hn hl; obtain ⟨n, rfl⟩ := al n (by simp at hn; omega); rw [rR]; unfold sW; dsimp only; simp [aB, eu]
 | cons x rest ih =>
  intro pre n hn hl; obtain ⟨n, rfl⟩ := al n (by simp at hn; omega); simp only [zaf, zai] at hn hl; have := ih (pre ++ [x]) n (by omega) (by simp; omega); rw [rR]; unfold sW; dsimp only; simp only [LNl, LNi, zaa] at this ⊢; unfold eu
  by_cases h1 : x.i 0 = id
  . simp (disch := omega) only [TRa, TRi, aa, LNl, LNi, zaa, ar]; rw [if_pos h1]
  . rw [if_neg h1]; simp (disch := omega) only [TRa, TRi, aa, LNl, LNi, zaa, ar]; exact this
def f130 : List Dat × Int -> Bool × List Un := fun (a0, a1) => (decide (a0.length < 1000000), [.i (eu a1 0 a0), .i (a1)])
theorem Kt (a0 : List Dat) (a1 : Int) (hc : (decide (a0.length < 1000000)) = true) : ∃ m, t130 m (a0, a1) = some ([.i (eu a1 0 a0), .i (a1)]) := by
 have h := zak hc; exact ⟨a0.length + 1, Ry _ a1 a0 [] _ (by omega) (by simpa using h)⟩
theorem Io : ER 130 (mkE Oa.en Oa.ex f130) := aq ak T96.right (fun m => [CV (qQ m m)]) (t := t130) (by kernel_rfl) (fun m => (aJ (Pq m m) aA)) (fun m a => by kernel_rfl) fun (a0, a1) hc => Kt a0 a1 hc
def JD : Tb Tryz.prog LQ TE XX := T96.add 130 _ Io
def j8 (x d : Dat) : Dat := .r [.n (x.i 0), .n (oY (x.i 1) (d.i 1) (d.i 2) (d.b 6)), .n (oA (x.i 1) (x.i 2) (d.i 1) (d.i 2) (d.i 4) (d.b 6)), .n (oM (x.i 1) (x.b 4) (d.i 1) (d.i 2) (d.i 5) (d.b 6)), .n (bI (d.b 6 || x.b 4))]
structure H9 where
 p : Int
 q : Int
 l : Int
 r : Int
 e : Int
 ax : List Dat
def wM (x d : Dat) : Bool := qC (x.i 1) (x.i 2) (x.b 4) (d.i 1) (d.i 2) (d.i 3) (d.i 4) (d.i 5) (d.b 6)
def cU : List Dat -> Int -> Int -> Int -> Int -> List Dat -> Option H9
 | l, p, q, s, r, [] => some ⟨p, q, s, r, 0, l⟩
 | l, p, q, s, r, d :: t => if eu (d.i 0) 0 l < 0 then none else
  if wM (ae l (eu (d.i 0) 0 l).toNat) d = true then
   cU (l.set (eu (d.i 0) 0 l).toNat (j8 (ae l (eu (d.i 0) 0 l).toNat) d)) (w64 (p + w64 (d.i 1 + d.i 2))) (w64 (q + d.i 3)) (w64 (s + fT ((ae l (eu (d.i 0) 0 l).toNat).i 1) (d.i 1) (d.i 2) (d.b 6))) (w64 (r + d.i 4)) t
  else none
def av (lines l : List Dat) : H9 := if kC lines = true then (cU l 0 0 0 0 lines).getD ⟨0, 0, 0, 0, 3, l⟩ else ⟨0, 0, 0, 0, 3, l⟩
theorem s8 (id : Int) : ∀ (l : List Dat) (i : Int), eu id i l = -1 \/ (i <= eu id i l /\ eu id i l < i + l.length)
 | [], i => .inl rfl
 | d :: l, i => by
  unfold eu
  by_cases h : d.i 0 = id
  . rw [if_pos h]; exact .inr ⟨by omega, by simp; omega⟩
  . rw [if_neg h]; rcases s8 id l (i + 1) with h | ⟨h1, h2⟩
    . exact .inl h
    . refine .inr ⟨by omega, ?_⟩; simp only [zaf]; omega
def N42 : aD := ⟨JD.tab, 42, ⟨[.ptr 0 0 0, .ag (sB 6)], [.cells [.buf 1 5], .ag (sB 4)], 0⟩, ⟨[.agg [.int .i64, .int .i64, .int .i64, .int .i64], .int .i64], [.cells [.buf 2 5], .gone, .ag (sB 4)], 0⟩, []⟩
abbrev Eo : Type := List Dat × Int × Int × Int × Int × Int × Int × Int × Int × Int × Int × List Dat × List Dat
def ze (m : Nat) (k : Eo -> Option (List Un)) : Eo -> Option (List Un) := fun (a0, a1, a2, a3, a4, a5, a6, a7, a8, a9, a10, a11, a12) =>
 bif decide (a2 < a1) then
 chk (inb a2 a0.length) <|
 chk (decide (a2.toNat < a0.length)) <|
 lt (ae a0 a2.toNat : Dat) fun d1 =>
 chk (decide (a12.length < 1000000)) <|
 bif (decide ((eu (d1.i 0) 0 a12) < 0)) then
 some ([.i 0, .i 0, .i 0, .i 0, .i 3, .d a11])
 else
 chk (inb (eu (d1.i 0) 0 a12) a12.length) <|
 chk (decide ((eu (d1.i 0) 0 a12).toNat < a12.length)) <|
 lt (ae a12 ((eu (d1.i 0) 0 a12).toNat) : Dat) fun d3 =>
 bif !(qC (d3.i 1) (d3.i 2) (d3.b 4) (d1.i 1) (d1.i 2) (d1.i 3) (d1.i 4) (d1.i 5) (d1.b 6)) then
 some ([.i 0, .i 0, .i 0, .i 0, .i 3, .d a11])
 else
 chk (inb (eu (d1.i 0) 0 a12) a12.length) <|
 chk (decide ((eu (d1.i 0) 0 a12).toNat < a12.length)) <|
 lt (ae a12 ((eu (d1.i 0) 0 a12).toNat) : Dat) fun d5 =>
 chk (inb (eu (d1.i 0) 0 a12) a12.length) <|
 chk (decide ((eu (d1.i 0) 0 a12).toNat < a12.length)) <|
 k (a0, a1, (w64 (a2 + 1)), a3, a4, a5, a6, (w64 (a7 + (w64 ((d1.i 1) + (d1.i 2))))), (w64 (a8 + (d1.i 3))), (w64 (a9 + (fT (d5.i 1) (d1.i 1) (d1.i 2) (d1.b 6)))), (w64 (a10 + (d1.i 4))), a11, (List.set a12 ((eu (d1.i 0) 0 a12).toNat) (.r [.n (d5.i 0), .n (oY (d5.i 1) (d1.i 1) (d1.i 2) (d1.b 6)), .n (oA (d5.i 1) (d5.i 2) (d1.i 1) (d1.i 2) (d1.i 4) (d1.b 6)), .n (oM (d5.i 1) (d5.b 4) (d1.i 1) (d1.i 2) (d1.i 5) (d1.b 6)), .n (bI ((d1.b 6) || (d5.b 4)))])))
 else
 some ([.i a7, .i a8, .i a9, .i a10, .i 0, .d a12])
def yt (m : Nat) : Nat -> Eo -> Option (List Un) := bp (ze m)
theorem uY (m : Nat) (n : Nat) : yt m (n + 1) = ze m (yt m n) := rfl
def IT (F : Eo -> Option (List Un)) : aT := ⟨[.lp [0, 1, 0, 1, 1, 1, 1], .blk 0, .code [1, 1, 1, 1, 1]], ⟨frm 89 [(0, .ptr 0 0 0), (4, .ptr 2 0 0), (6, .ptr 3 0 0), (7, .ptr 4 0 0), (18, .ag (sB 6)), (19, .int .i64), (20, .int .i64)], [.cells [.buf 5 5], .gone, .cells [.int .i64, .int .i64, .int .i64, .int .i64], .cells [.buf 6 5], .cells [.int .i64, .int .i64, .int .i64, .int .i64], .ag (sB 4), .ag (sB 4)], 0⟩, onU F⟩
theorem QB (m : Nat) : ∀ n, HO N42 (IT (yt m n)) := ay ak JD.right (fun k => [IT k]) (fun k h => (aJ h aA)) fun k a => by kernel_rfl
def t42 (m : Nat) : List Dat × List Dat -> Option (List Un) := fun (a0, a1) =>
 bif !(kC a0) then
 some ([.i 0, .i 0, .i 0, .i 0, .i 3, .d a1])
 else
 chk (decide (a1.length < 1000000)) <|
 yt m m (a0, (a0.length : Int), 0, 0, 0, 0, 0, 0, 0, 0, 0, a1, a1)
def Gd (l0 : List Dat) (o : Option H9) : List Un := match o with | some x => [.i x.p, .i x.q, .i x.l, .i x.r, .i x.e, .d x.ax] | none => [.i 0, .i 0, .i 0, .i 0, .i 3, .d l0]
theorem O7 (m : Nat) (l0 : List Dat) : ∀ (rest pre : List Dat) (n : Nat) (p q s r : Int) (l : List Dat), rest.length < n -> (pre ++ rest).length <= 64 -> l.length < 1000000 ->
 yt m n (pre ++ rest, ((pre ++ rest).length : Int), (pre.length : Int), 0, 0, 0, 0, p, q, s, r, l0, l) = some (Gd l0 (cU l p q s r rest)) := by
 intro rest
 induction rest with
 | nil =>
  intro pre n p q s r l hn hl hll; obtain ⟨n, rfl⟩ := al n (by simp at hn; omega); rw [uY]; unfold ze; dsimp only; simp [aB, cU, Gd]
 | cons x rest ih =>
  intro pre n p q s r l hn hl hll; obtain ⟨n, rfl⟩ := al n (by simp at hn; omega); simp only [zaf, zai] at hn hl; rw [uY]; unfold ze; dsimp only; simp (disch := omega) only [TRa, TRi, aa, LNl, LNi, zaa, ar]; unfold cU; rcases s8 (x.i 0) l 0 with h1 | ⟨h1, h2⟩
  . rw [bz (by omega), if_pos (by omega)]; rfl
  . rw [aB (by omega), if_neg (by omega)]; simp (disch := omega) only [TRa, TRi, aa, LNl, LNi, zaa, ar]
    by_cases h3 : wM (ae l (eu (x.i 0) 0 l).toNat) x = true
    . rw [if_pos h3]; have h4 := h3; unfold wM at h4; rw [h4]; have := ih (pre ++ [x]) n (w64 (p + w64 (x.i 1 + x.i 2))) (w64 (q + x.i 3)) (w64 (s + fT ((ae l (eu (x.i 0) 0 l).toNat).i 1) (x.i 1) (x.i 2) (x.b 6))) (w64 (r + x.i 4)) (l.set (eu (x.i 0) 0 l).toNat (j8 (ae l (eu (x.i 0) 0 l).toNat) x)) (by omega) (by simp; omega) (by simpa using hll)
      try simp (disch := omega) only [TRa, TRi, aa, LNl, LNi, zaa, ar]
      simp only [LNl, LNi, zaa] at this ⊢; exact this
    . rw [if_neg h3]; have h4 := h3; unfold wM at h4; rw [show qC _ _ _ _ _ _ _ _ _ = false from Bool.eq_false_iff.2 h4]; rfl
def f42 : List Dat × List Dat -> Bool × List Un := fun (a0, a1) => (decide (a1.length < 1000000), [.i ((av a0 a1).p), .i ((av a0 a1).q), .i ((av a0 a1).l), .i ((av a0 a1).r), .i ((av a0 a1).e), .d ((av a0 a1).ax)])
theorem Nu (a0 : List Dat) (a1 : List Dat) (hc : (decide (a1.length < 1000000)) = true) : ∃ m, t42 m (a0, a1) = some ([.i ((av a0 a1).p), .i ((av a0 a1).q), .i ((av a0 a1).l), .i ((av a0 a1).r), .i ((av a0 a1).e), .d ((av a0 a1).ax)]) := by
 have h := zak hc; unfold av; cases ht : kC a0 with
 | false =>
  refine ⟨0, ?_⟩; unfold t42; dsimp only; rw [ht]; rfl
 | true =>
  have hl : a0.length <= 64 := by
   simp only [kC, zab, zac] at ht; exact ht.1
  refine ⟨a0.length + 1, ?_⟩; have := O7 (a0.length + 1) a1 a0 [] (a0.length + 1) 0 0 0 0 a1 (by omega) (by simpa using hl) h; unfold t42; dsimp only; rw [ht]; simp only [zbE, zap, za7]; rw [aV h]; refine this.trans ?_
  cases cU a1 0 0 0 0 a0 <;> rfl
theorem Kh : ER 42 (mkE N42.en N42.ex f42) := aq ak JD.right (fun m => [IT (yt m m)]) (t := t42) (by kernel_rfl) (fun m => (aJ (QB m m) aA)) (fun m a => by kernel_rfl) fun (a0, a1) hc => Nu a0 a1 hc
def T42 : Tb Tryz.prog LQ TE XX := JD.add 42 _ Kh
def ku (p q r s t u : List Int) (i : Int) (x : Dat) : Dat :=
 let y := within (bo p i) 0 (x.i 1 / 4)
 let z := if within (bo q i) 0 (2 * (x.i 1 - y)) > x.i 1 - y then 0 else within (bo q i) 0 (2 * (x.i 1 - y))
 let w := within (bo t i) 0 24
 .r [.n (x.i 0), .n y, .n z, .n (within (bo r i) 0 (1 + x.i 1 / 50)), .n (if w64 ((BitVec.ofInt 64 (bo u i) &&& BitVec.ofInt 64 7).toNat) = 7 then within (bo s i) 0 (x.i 1 - y - z) else 0), .n (if 0 < w - 12 then w - 12 else 0), .n (bI (decide (w64 ((BitVec.ofInt 64 (bo u i) &&& BitVec.ofInt 64 7).toNat) = 7)))]
def ky (s lost : List Int) (i : Int) (x : Dat) : Dat :=
 .r [.n (x.i 0), .n 0, .n 0, .n 0, .n (if i < (lost.length : Int) /\ 0 < lost.getD i.toNat 0 then within (bo s i) 0 (lost.getD i.toNat 0) else 0), .n 0, .n (bI false)]
def ofL (p q r s t u lost : List Int) : Int -> List Dat -> List Dat
 | _, [] => []
 | i, x :: l => (if w64 ((BitVec.ofInt 64 (bo t i) &&& BitVec.ofInt 64 15).toNat) = 15 then [] else if 0 < x.i 1 then [ku p q r s t u i x] else [ky s lost i x]) ++ ofL p q r s t u lost (i + 1) l
theorem Eu (p q r s t u lost : List Int) : ∀ (l : List Dat) (i : Int), (ofL p q r s t u lost i l).length <= l.length
 | [], _ => zao _
 | x :: l, i => by
  have := Eu p q r s t u lost l (i + 1); unfold ofL
  split
  . simp; omega
  . split <;> (simp; omega)
def N58 : aD := ⟨T42.tab, 58, ⟨[.agg [.ints .i64, .ints .i64, .ints .i64, .ints .i64, .ints .i64, .ints .i64], .ag (sI 2), .ints .i64], [], 0⟩, ⟨[.buf 0 7], [.ag (sB 6)], 0⟩, []⟩
abbrev Ep : Type := List Int × List Dat × Int × Int × List Int × List Int × List Int × List Int × List Int × List Int × List Dat
def z7 (m : Nat) (k : Ep -> Option (List Un)) : Ep -> Option (List Un) := fun (a0, a1, a2, a3, a4, a5, a6, a7, a8, a9, a10) =>
 bif decide (a3 < a2) then
 chk (inb a3 a1.length) <|
 chk (decide (a3.toNat < a1.length)) <|
 lt (ae a1 a3.toNat : Dat) fun d1 =>
 chk (decide (0 <= a3)) <|
 bif (w64 ((BitVec.ofInt 64 (bo a8 a3) &&& BitVec.ofInt 64 15).toNat)) == 15 then
 k (a0, a1, a2, (w64 (a3 + 1)), a4, a5, a6, a7, a8, a9, a10)
 else
 bif decide ((d1.i 1) > 0) then
 chk (decide (0 <= a3)) <|
 bif decide (-2305843009213693952 <= 0 /\ 0 <= (w64 ((d1.i 1).tdiv 4)) /\ (w64 ((d1.i 1).tdiv 4)) <= 2305843009213693952) then
 lt ((within (bo a4 a3) 0 (w64 ((d1.i 1).tdiv 4))) : Int) fun x3 =>
 chk (decide (0 <= a3)) <|
 lt ((w64 (2 * (w64 ((d1.i 1) - x3)))) : Int) fun x4 =>
 bif decide (-2305843009213693952 <= 0 /\ 0 <= x4 /\ x4 <= 2305843009213693952) then
 lt ((within (bo a5 a3) 0 x4) : Int) fun x5 =>
 bif (decide (x5 > (w64 ((d1.i 1) - x3)))) then
 chk (decide (0 <= a3)) <|
 lt ((w64 ((d1.i 1).tdiv 50)) : Int) fun x7 =>
 bif decide (-2305843009213693952 <= 0 /\ 0 <= (w64 (1 + x7)) /\ (w64 (1 + x7)) <= 2305843009213693952) then
 lt ((within (bo a6 a3) 0 (w64 (1 + x7))) : Int) fun x8 =>
 chk (decide (0 <= a3)) <|
 lt ((within (bo a8 a3) 0 24) : Int) fun x9 =>
 lt ((if 0 < (w64 (x9 - 12)) then (w64 (x9 - 12)) else 0) : Int) fun x10 =>
 chk (decide (0 <= a3)) <|
 bif (w64 ((BitVec.ofInt 64 (bo a9 a3) &&& BitVec.ofInt 64 7).toNat)) == 7 then
 chk (decide (0 <= a3)) <|
 lt ((w64 ((w64 ((d1.i 1) - x3)) - 0)) : Int) fun x12 =>
 bif decide (-2305843009213693952 <= 0 /\ 0 <= x12 /\ x12 <= 2305843009213693952) then
 chk (fits (a10.length + 1) 56) <|
 k (a0, a1, a2, (w64 (a3 + 1)), a4, a5, a6, a7, a8, a9, (a10 ++ ([.r [.n (d1.i 0), .n x3, .n 0, .n x8, .n (within (bo a7 a3) 0 x12), .n x10, .n (bI true)]])))
 else
 none
 else
 chk (fits (a10.length + 1) 56) <|
 k (a0, a1, a2, (w64 (a3 + 1)), a4, a5, a6, a7, a8, a9, (a10 ++ ([.r [.n (d1.i 0), .n x3, .n 0, .n x8, .n 0, .n x10, .n (bI false)]])))
 else
 none
 else
 chk (decide (0 <= a3)) <|
 lt ((w64 ((d1.i 1).tdiv 50)) : Int) fun x16 =>
 bif decide (-2305843009213693952 <= 0 /\ 0 <= (w64 (1 + x16)) /\ (w64 (1 + x16)) <= 2305843009213693952) then
 lt ((within (bo a6 a3) 0 (w64 (1 + x16))) : Int) fun x17 =>
 chk (decide (0 <= a3)) <|
 lt ((within (bo a8 a3) 0 24) : Int) fun x18 =>
 lt ((if 0 < (w64 (x18 - 12)) then (w64 (x18 - 12)) else 0) : Int) fun x19 =>
 chk (decide (0 <= a3)) <|
 bif (w64 ((BitVec.ofInt 64 (bo a9 a3) &&& BitVec.ofInt 64 7).toNat)) == 7 then
 chk (decide (0 <= a3)) <|
 lt ((w64 ((w64 ((d1.i 1) - x3)) - x5)) : Int) fun x21 =>
 bif decide (-2305843009213693952 <= 0 /\ 0 <= x21 /\ x21 <= 2305843009213693952) then
 chk (fits (a10.length + 1) 56) <|
 k (a0, a1, a2, (w64 (a3 + 1)), a4, a5, a6, a7, a8, a9, (a10 ++ ([.r [.n (d1.i 0), .n x3, .n x5, .n x17, .n (within (bo a7 a3) 0 x21), .n x19, .n (bI true)]])))
 else
 none
 else
 chk (fits (a10.length + 1) 56) <|
 k (a0, a1, a2, (w64 (a3 + 1)), a4, a5, a6, a7, a8, a9, (a10 ++ ([.r [.n (d1.i 0), .n x3, .n x5, .n x17, .n 0, .n x19, .n (bI false)]])))
 else
 none
 else
 none
 else
 none
 else
 bif (decide (a3 < (a0.length : Int))) then
 chk (inb a3 a0.length) <|
 chk (decide (a3.toNat < a0.length)) <|
 bif (decide ((a0.getD a3.toNat 0) > 0)) then
 chk (decide (0 <= a3)) <|
 chk (inb a3 a0.length) <|
 chk (decide (a3.toNat < a0.length)) <|
 bif decide (-2305843009213693952 <= 0 /\ 0 <= (a0.getD a3.toNat 0) /\ (a0.getD a3.toNat 0) <= 2305843009213693952) then
 chk (fits (a10.length + 1) 56) <|
 k (a0, a1, a2, (w64 (a3 + 1)), a4, a5, a6, a7, a8, a9, (a10 ++ ([.r [.n (d1.i 0), .n 0, .n 0, .n 0, .n (within (bo a7 a3) 0 (a0.getD a3.toNat 0)), .n 0, .n (bI false)]])))
 else
 none
 else
 chk (fits (a10.length + 1) 56) <|
 k (a0, a1, a2, (w64 (a3 + 1)), a4, a5, a6, a7, a8, a9, (a10 ++ ([.r [.n (d1.i 0), .n 0, .n 0, .n 0, .n 0, .n 0, .n (bI false)]])))
 else
 chk (fits (a10.length + 1) 56) <|
 k (a0, a1, a2, (w64 (a3 + 1)), a4, a5, a6, a7, a8, a9, (a10 ++ ([.r [.n (d1.i 0), .n 0, .n 0, .n 0, .n 0, .n 0, .n (bI false)]])))
 else
 some ([.d a10])
def vU (m : Nat) : Nat -> Ep -> Option (List Un) := bp (z7 m)
theorem vE (m : Nat) (n : Nat) : vU m (n + 1) = z7 m (vU m n) := rfl
def IH (F : Ep -> Option (List Un)) : aT := ⟨[.lp [0, 1, 0, 1, 1], .blk 0, .code [1, 1, 1]], ⟨frm 126 [(2, .ints .i64), (3, .ptr 0 0 0), (7, .buf 1 7), (11, .ag (sI 2)), (12, .int .i64), (13, .int .i64)], [.cells [.ints .i64, .ints .i64, .ints .i64, .ints .i64, .ints .i64, .ints .i64], .ag (sB 6)], 0⟩, onU F⟩
theorem P9 (m : Nat) : ∀ n, HO N58 (IH (vU m n)) := ay ak T42.right (fun k => [IH k]) (fun k h => (aJ h aA)) fun k a => by kernel_rfl
def t58 (m : Nat) : List Int × List Int × List Int × List Int × List Int × List Int × List Dat × List Int -> Option (List Un) := fun (a0, a1, a2, a3, a4, a5, a6, a7) =>
 vU m m (a7, a6, (a6.length : Int), 0, a0, a1, a2, a3, a4, a5, [])
set_option maxHeartbeats 4000000 in
theorem RV (m : Nat) (p q r s t u lost : List Int) (hlost : ∀ y ∈ lost, y <= 2305843009213693952) : ∀ (rest pre acc : List Dat) (n : Nat), rest.length < n -> (pre ++ rest).length < 1000000 -> acc.length <= pre.length -> (∀ d ∈ rest, d.i 1 <= 1152921504606846976) ->
 vU m n (lost, pre ++ rest, ((pre ++ rest).length : Int), (pre.length : Int), p, q, r, s, t, u, acc) = some [.d (acc ++ ofL p q r s t u lost pre.length rest)] := by
 intro rest
 induction rest with
 | nil =>
  intro pre acc n hn hl ha hb; obtain ⟨n, rfl⟩ := al n (by simp at hn; omega); rw [vE]; unfold z7; dsimp only; simp [aB, ofL]
 | cons x rest ih =>
  intro pre acc n hn hl ha hb; obtain ⟨n, rfl⟩ := al n (by simp at hn; omega); simp only [zaf, zai] at hn hl; have hx := hb x (by simp); have K : ∀ out : List Dat, out.length <= acc.length + 1 -> vU m n (lost, pre ++ x :: rest, (pre.length : Int) + ((rest.length : Int) + 1), (pre.length : Int) + 1, p, q, r, s, t, u, out) = some [.d (out ++ ofL p q r s t u lost ((pre.length : Int) + 1) rest)] := by
   intro out ho; have := ih (pre ++ [x]) out n (by omega) (by simp; omega) (by simp; omega) (fun d hd => hb d (by simp [hd])); simp only [LNl, LNi, zaa] at this ⊢; exact this
  rw [vE]; unfold z7; dsimp only; unfold ofL; generalize hi : (pre.length : Int) = i at K ⊢; have hi0 : 0 <= i /\ i < 1000000 := by omega
  by_cases h15 : w64 ((BitVec.ofInt 64 (bo t i) &&& BitVec.ofInt 64 15).toNat) = 15
  . rw [if_pos h15]; subst hi; simp (disch := omega) only [TRa, TRi, aa, LNl, LNi, zaa, ar]; rw [K _ (by omega)]
  . rw [if_neg h15]
    by_cases hx0 : 0 < x.i 1
    . rw [if_pos hx0]; have e4 : (x.i 1).tdiv 4 = x.i 1 / 4 := Int.tdiv_eq_ediv_of_nonneg (by omega); have e50 : (x.i 1).tdiv 50 = x.i 1 / 50 := Int.tdiv_eq_ediv_of_nonneg (by omega); have k1 : 0 <= within (bo p i) 0 (x.i 1 / 4) /\ within (bo p i) 0 (x.i 1 / 4) <= x.i 1 / 4 := bc (by omega); have k2 : 0 <= within (bo t i) 0 24 /\ within (bo t i) 0 24 <= 24 := bc (by omega); unfold ku; dsimp only; subst hi; have k3 : 0 <= within (bo q (pre.length : Int)) 0 (2 * (x.i 1 - within (bo p (pre.length : Int)) 0 (x.i 1 / 4))) := (bc (by omega)).1
      by_cases hq : within (bo q (pre.length : Int)) 0 (2 * (x.i 1 - within (bo p (pre.length : Int)) 0 (x.i 1 / 4))) > x.i 1 - within (bo p (pre.length : Int)) 0 (x.i 1 / 4) <;>
       by_cases h7 : w64 ((BitVec.ofInt 64 (bo u (pre.length : Int)) &&& BitVec.ofInt 64 7).toNat) = 7
      . rw [if_pos hq, if_pos h7, zad h7]; simp (disch := omega) only [TRa, TRi, aa, LNl, LNi, zaa, ar, e4, e50]; rw [K _ (by simp)]; simp
      . rw [if_pos hq, if_neg h7, zaL h7]; simp (disch := omega) only [TRa, TRi, aa, LNl, LNi, zaa, ar, e4, e50]; rw [K _ (by simp)]; simp
      . rw [if_neg hq, if_pos h7, zad h7]; simp (disch := omega) only [TRa, TRi, aa, LNl, LNi, zaa, ar, e4, e50]; rw [K _ (by simp)]; simp
      . rw [if_neg hq, if_neg h7, zaL h7]; simp (disch := omega) only [TRa, TRi, aa, LNl, LNi, zaa, ar, e4, e50]; rw [K _ (by simp)]; simp
    . rw [if_neg hx0]; unfold ky; subst hi
      by_cases hlt : (pre.length : Int) < (lost.length : Int)
      . by_cases hp : 0 < lost.getD pre.length 0
        . have hle : lost.getD pre.length 0 <= 2305843009213693952 := by
           rw [zah, zae (by omega)]; exact hlost _ (zbx _)
          rw [if_pos ⟨hlt, by simpa using hp⟩]; simp (disch := omega) only [TRa, TRi, aa, LNl, LNi, zaa, ar]; rw [K _ (by simp)]; simp
        . rw [if_neg (fun h => hp (by simpa using h.2))]; simp (disch := omega) only [TRa, TRi, aa, LNl, LNi, zaa, ar]; rw [K _ (by simp)]; simp
      . rw [if_neg (fun h => hlt h.1)]; simp (disch := omega) only [TRa, TRi, aa, LNl, LNi, zaa, ar]; rw [K _ (by simp)]; simp
def f58 : List Int × List Int × List Int × List Int × List Int × List Int × List Dat × List Int -> Bool × List Un := fun (a0, a1, a2, a3, a4, a5, a6, a7) => (decide (a6.length < 1000000) && (a6.all (fun d => decide (d.i 1 <= 1152921504606846976)) && a7.all fun y => decide (y <= 2305843009213693952)), [.d (ofL a0 a1 a2 a3 a4 a5 a7 0 a6)])
theorem Po (a0 : List Int) (a1 : List Int) (a2 : List Int) (a3 : List Int) (a4 : List Int) (a5 : List Int) (a6 : List Dat) (a7 : List Int) (hc : (decide (a6.length < 1000000) && (a6.all (fun d => decide (d.i 1 <= 1152921504606846976)) && a7.all fun y => decide (y <= 2305843009213693952))) = true) : ∃ m, t58 m (a0, a1, a2, a3, a4, a5, a6, a7) = some ([.d (ofL a0 a1 a2 a3 a4 a5 a7 0 a6)]) := by
 simp only [zab, zac, zam] at hc; exact ⟨a6.length + 1, RV _ _ _ _ _ _ _ _ (fun y hy => hc.2.2 y hy) a6 [] [] _ (by omega) (by simpa using hc.1) (by simp) (fun d hd => hc.2.1 d hd)⟩
theorem JR : ER 58 (mkE N58.en N58.ex f58) := aq ak T42.right (fun m => [IH (vU m m)]) (t := t58) (by kernel_rfl) (fun m => (aJ (P9 m m) aA)) (fun m a => by kernel_rfl) fun (a0, a1, a2, a3, a4, a5, a6, a7) hc => Po a0 a1 a2 a3 a4 a5 a6 a7 hc
def T58 : Tb Tryz.prog LQ TE XX := T42.add 58 _ JR
def N25 : aD := ⟨T58.tab, 25, ⟨[.np 0 0 0], br 0, 9⟩, ⟨[.ptr 9 0 0], br 0 ++ br 9, 9⟩, []⟩
def t25 (m : Nat) : Int × ao × an × ah × List Dat × List Dat × List Dat × List Dat × List Dat × List Dat × List Dat -> Option (List Un) := fun (a0, a1, a2, a3, a4, a5, a6, a7, a8, a9, a10) =>
 chk (decide (0 <= a0)) <|
 chk (decide (0 <= a0)) <|
 chk (decide ((⟨a1, a4, a5, a2, a6, a7, a8⟩ : aP).aC.length < 1000000 /\ (⟨a1, a4, a5, a2, a6, a7, a8⟩ : aP).notes.length < 1000000 /\ (⟨a1, a4, a5, a2, a6, a7, a8⟩ : aP).s0.length < 1000000 /\ (⟨a1, a4, a5, a2, a6, a7, a8⟩ : aP).s1.length < 1000000 /\ (⟨a1, a4, a5, a2, a6, a7, a8⟩ : aP).s2.length < 1000000)) <|
 chk (decide (0 <= a0)) <|
 chk (decide (a9.length < 1000000)) <|
 chk (decide (0 <= a0)) <|
 chk (decide (a10.length < 1000000)) <|
 some (Uns.enc (a1 : ao) ++ Uns.enc (a2 : an) ++ Uns.enc (a3 : ah) ++ [.d a4, .d a5, .d a6, .d a7, .d a8, .d a9, .d a10] ++ Uns.enc (((⟨a1, a4, a5, a2, a6, a7, a8⟩ : aP).a) : ao) ++ Uns.enc (((⟨a1, a4, a5, a2, a6, a7, a8⟩ : aP).b) : an) ++ Uns.enc (a3 : ah) ++ [.d ((⟨a1, a4, a5, a2, a6, a7, a8⟩ : aP).aC), .d ((⟨a1, a4, a5, a2, a6, a7, a8⟩ : aP).notes), .d ((⟨a1, a4, a5, a2, a6, a7, a8⟩ : aP).s0), .d ((⟨a1, a4, a5, a2, a6, a7, a8⟩ : aP).s1), .d ((⟨a1, a4, a5, a2, a6, a7, a8⟩ : aP).s2), .d a9, .d a10])
def f25 : Int × ao × an × ah × List Dat × List Dat × List Dat × List Dat × List Dat × List Dat × List Dat -> Bool × List Un := fun (a0, a1, a2, a3, a4, a5, a6, a7, a8, a9, a10) => (decide (0 <= a0) && decide (a4.length < 1000000 /\ a5.length < 1000000 /\ a6.length < 1000000 /\ a7.length < 1000000 /\ a8.length < 1000000 /\ a9.length < 1000000 /\ a10.length < 1000000), Uns.enc ((a1) : ao) ++ Uns.enc ((a2) : an) ++ Uns.enc ((a3) : ah) ++ [.d (a4), .d (a5), .d (a6), .d (a7), .d (a8), .d (a9), .d (a10)] ++ Uns.enc ((a1) : ao) ++ Uns.enc ((a2) : an) ++ Uns.enc ((a3) : ah) ++ [.d (a4), .d (a5), .d (a6), .d (a7), .d (a8), .d (a9), .d (a10)])
theorem Nt (a0 : Int) (a1 : ao) (a2 : an) (a3 : ah) (a4 : List Dat) (a5 : List Dat) (a6 : List Dat) (a7 : List Dat) (a8 : List Dat) (a9 : List Dat) (a10 : List Dat) (hc : (decide (0 <= a0) && decide (a4.length < 1000000 /\ a5.length < 1000000 /\ a6.length < 1000000 /\ a7.length < 1000000 /\ a8.length < 1000000 /\ a9.length < 1000000 /\ a10.length < 1000000)) = true) : ∃ m, t25 m (a0, a1, a2, a3, a4, a5, a6, a7, a8, a9, a10) = some (Uns.enc ((a1) : ao) ++ Uns.enc ((a2) : an) ++ Uns.enc ((a3) : ah) ++ [.d (a4), .d (a5), .d (a6), .d (a7), .d (a8), .d (a9), .d (a10)] ++ Uns.enc ((a1) : ao) ++ Uns.enc ((a2) : an) ++ Uns.enc ((a3) : ah) ++ [.d (a4), .d (a5), .d (a6), .d (a7), .d (a8), .d (a9), .d (a10)]) := by
 simp only [zab, zac] at hc; obtain ⟨h0, h1, h2, h3, h4, h5, h6, h7⟩ := hc; refine ⟨0, ?_⟩; unfold t25; dsimp only; simp (disch := omega) only [lt_eq, aV, iZ]
theorem Jo : ER 25 (mkE N25.en N25.ex f25) := aq ak T58.right (fun m => []) (t := t25) (by kernel_rfl) (fun m => aA) (fun m a => by kernel_rfl) fun (a0, a1, a2, a3, a4, a5, a6, a7, a8, a9, a10) hc => Nt a0 a1 a2 a3 a4 a5 a6 a7 a8 a9 a10 hc
def T25 : Tb Tryz.prog LQ TE XX := T58.add 25 _ Jo
def N92 : aD := ⟨T25.tab, 92, ⟨[.np 0 0 20, .int .i64], br 0, 0⟩, ⟨[.bool], br 0, 0⟩, []⟩
def t92 (m : Nat) : Int × Int × ao × an × ah × List Dat × List Dat × List Dat × List Dat × List Dat × List Dat × List Dat -> Option (List Un) := fun (a0, a1, a2, a3, a4, a5, a6, a7, a8, a9, a10, a11) =>
 chk (decide (0 <= a0)) <|
 lt ((([a4.rin, a1]).getD 0 0) : Int) fun x1 =>
 bif decide (x1 < 0) then
 some ([.b false] ++ Uns.enc (a2 : ao) ++ Uns.enc (a3 : an) ++ Uns.enc (a4 : ah) ++ [.d a5, .d a6, .d a7, .d a8, .d a9, .d a10, .d a11])
 else
 bif (decide (x1 > 1152921504606846976)) then
 some ([.b false] ++ Uns.enc (a2 : ao) ++ Uns.enc (a3 : an) ++ Uns.enc (a4 : ah) ++ [.d a5, .d a6, .d a7, .d a8, .d a9, .d a10, .d a11])
 else
 lt ((([a4.rin, a1]).getD 1 0) : Int) fun x3 =>
 bif decide (x3 < 0) then
 some ([.b false] ++ Uns.enc (a2 : ao) ++ Uns.enc (a3 : an) ++ Uns.enc (a4 : ah) ++ [.d a5, .d a6, .d a7, .d a8, .d a9, .d a10, .d a11])
 else
 bif decide (x3 > (w64 (1152921504606846976 - (w64 (0 + x1))))) then
 some ([.b false] ++ Uns.enc (a2 : ao) ++ Uns.enc (a3 : an) ++ Uns.enc (a4 : ah) ++ [.d a5, .d a6, .d a7, .d a8, .d a9, .d a10, .d a11])
 else
 chk (decide (0 <= a0)) <|
 some ([.b true] ++ Uns.enc (a2 : ao) ++ Uns.enc (a3 : an) ++ Uns.enc (({ a4 with rin := (w64 ((w64 (0 + x1)) + x3)) } : ah) : ah) ++ [.d a5, .d a6, .d a7, .d a8, .d a9, .d a10, .d a11])
def f92 : Int × Int × ao × an × ah × List Dat × List Dat × List Dat × List Dat × List Dat × List Dat × List Dat -> Bool × List Un := fun (a0, a1, a2, a3, a4, a5, a6, a7, a8, a9, a10, a11) => (decide (0 <= a0) && decide ((0 : Int) <= a4.rin /\ (0 : Int) <= a1 /\ a4.rin + a1 <= (1152921504606846976 : Int)), [.b (true)] ++ Uns.enc ((a2) : ao) ++ Uns.enc ((a3) : an) ++ Uns.enc (({ a4 with rin := a4.rin + a1 }) : ah) ++ [.d (a5), .d (a6), .d (a7), .d (a8), .d (a9), .d (a10), .d (a11)])
theorem N9 (a0 : Int) (a1 : Int) (a2 : ao) (a3 : an) (a4 : ah) (a5 : List Dat) (a6 : List Dat) (a7 : List Dat) (a8 : List Dat) (a9 : List Dat) (a10 : List Dat) (a11 : List Dat) (hc : (decide (0 <= a0) && decide ((0 : Int) <= a4.rin /\ (0 : Int) <= a1 /\ a4.rin + a1 <= (1152921504606846976 : Int))) = true) : ∃ m, t92 m (a0, a1, a2, a3, a4, a5, a6, a7, a8, a9, a10, a11) = some ([.b (true)] ++ Uns.enc ((a2) : ao) ++ Uns.enc ((a3) : an) ++ Uns.enc (({ a4 with rin := a4.rin + a1 }) : ah) ++ [.d (a5), .d (a6), .d (a7), .d (a8), .d (a9), .d (a10), .d (a11)]) := by
 simp only [zab, zac] at hc; obtain ⟨h0, h1, h2, h3⟩ := hc; refine ⟨0, ?_⟩; unfold t92; dsimp only; simp only [lt_eq, zaI, zaw]; simp (disch := omega) only [TRa, TRi, aa, za0]
theorem KH : ER 92 (mkE N92.en N92.ex f92) := aq ak T25.right (fun m => []) (t := t92) (by kernel_rfl) (fun m => aA) (fun m a => by kernel_rfl) fun (a0, a1, a2, a3, a4, a5, a6, a7, a8, a9, a10, a11) hc => N9 a0 a1 a2 a3 a4 a5 a6 a7 a8 a9 a10 a11 hc
def T92 : Tb Tryz.prog LQ TE XX := T25.add 92 _ KH
def pC : List Int -> Int -> Int × Bool
 | [], s => (s, true)
 | x :: l, s => bif (decide (x < 0) || decide (x > 1152921504606846976 - s)) then (0, false) else pC l (s + x)
def iw (l : List Int) : Int := (pC l 0).1
def kQ (l : List Int) : Bool := (pC l 0).2
def qL (l : List Int) : Bool := l.all fun x => decide (0 <= x /\ x <= 1152921504606846976)
theorem Ej : ∀ (l : List Int) (s b : Int), 0 <= s -> 0 <= b -> (∀ x ∈ l, 0 <= x /\ x <= b) -> s + l.length * b <= 1152921504606846976 -> pC l s = (s + l.sum, true)
 | [], s, b, _, _, _, _ => by simp [pC]
 | x :: l, s, b, h1, h2, h3, h4 => by
  have hx := h3 x (by simp); have hm : 0 <= (l.length : Int) * b := zaZ (by omega) h2; have e : ((x :: l).length : Int) * b = l.length * b + b := by rw [zaf, zas, zbQ]; simp
  rw [e] at h4; have := Ej l (s + x) b (by omega) h2 (fun y hy => h3 y (by simp [hy])) (by omega); simp only [pC]; rw [show (decide (x < 0) || decide (x > 1152921504606846976 - s)) = false by simp; omega, zap, this, zbq]
  congr 1
  omega
theorem qN : ∀ (l : List Int) (b : Int), 0 <= b -> (∀ x ∈ l, 0 <= x /\ x <= b) -> 0 <= l.sum /\ l.sum <= l.length * b
 | [], b, _, _ => by simp
 | x :: l, b, h2, h3 => by
  have hx := h3 x (by simp); have e : ((x :: l).length : Int) * b = l.length * b + b := by rw [zaf, zas, zbQ]; simp
  have := qN l b h2 (fun y hy => h3 y (by simp [hy])); rw [e, zbq]; omega
theorem tG {l : List Int} {b : Int} (h2 : 0 <= b) (h3 : ∀ x ∈ l, 0 <= x /\ x <= b) (h4 : l.length * b <= 1152921504606846976) : iw l = l.sum /\ kQ l = true := by
 have := Ej l 0 b (by omega) h2 h3 (by omega); unfold iw kQ; rw [this]; simp
def bE (n s : Int) (l : List Int) : List Int := l.map fun c => n * c / s
def jd (n s : Int) (l : List Int) : List Int := l.map fun c => n * c % s
theorem uH {l : List Int} : qL l = true ↔ ∀ x ∈ l, 0 <= x /\ x <= 1152921504606846976 := by simp [qL]
def jX (l : List Int) : List Int -> Nat -> Nat -> Nat
 | [], _, b => b
 | x :: r, i, b => jX l r (i + 1) (bif decide (x > l.getD b 0) then i else b)
def dG (l : List Int) : Nat := jX l l 0 0
def gU (z : Int) : Nat -> List Int -> List Int -> List Int
 | 0, o, _ => o
 | k + 1, o, l => gU z k (o.set (dG l) (o.getD (dG l) 0 + 1)) (l.set (dG l) z)
def cC (n : Int) (l : List Int) : List Int :=
 bif !(kQ l) then List.replicate l.length 0 else
 bif decide (max n 0 >= iw l) then l else
 gU 0 (max n 0 - (bE (max n 0) (iw l) l).sum).toNat (bE (max n 0) (iw l) l) (jd (max n 0) (iw l) l)
theorem BH (l : List Int) : ∀ (r : List Int) (i b : Nat), b < l.length -> i + r.length <= l.length -> jX l r i b < l.length
 | [], _, b, h, _ => h
 | x :: r, i, b, h, h2 => by
  simp only [zaf] at h2; unfold jX; refine BH l r (i + 1) _ ?_ (by omega); cases decide (x > l.getD b 0)
  . exact h
  . show i < l.length; omega
theorem kJ {l : List Int} (h : l ≠ []) : dG l < l.length := BH l l 0 0 (List.length_pos_iff.2 h) (by simp)
theorem BC : ∀ (l : List Int) (s : Int), 0 <= s -> s <= 1152921504606846976 -> (pC l s).2 = true -> (∀ x ∈ l, 0 <= x /\ x <= 1152921504606846976) /\ (pC l s).1 = s + l.sum /\ s + l.sum <= 1152921504606846976
 | [], s, h1, h2, _ => by simp [pC, h2]
 | x :: l, s, h1, h2, h3 => by
  simp only [pC] at h3 ⊢
  by_cases hx : x < 0 \/ x > 1152921504606846976 - s
  . rw [show (decide (x < 0) || decide (x > 1152921504606846976 - s)) = true by simpa using hx] at h3; cases h3
  . rw [show (decide (x < 0) || decide (x > 1152921504606846976 - s)) = false by simp; omega] at h3 ⊢; simp only [zap] at h3 ⊢; obtain ⟨a, b, c⟩ := BC l (s + x) (by omega) (by omega) h3; refine ⟨fun y hy => ?_, by rw [b, zbq]; omega, by rw [zbq]; omega⟩; rcases zaV.1 hy with rfl | hy
    . omega
    . exact a y hy
theorem la {l : List Int} (h : kQ l = true) : (∀ x ∈ l, 0 <= x /\ x <= 1152921504606846976) /\ iw l = l.sum /\ l.sum <= 1152921504606846976 := by
 obtain ⟨a, b, c⟩ := BC l 0 (by omega) (by omega) h; exact ⟨a, by unfold iw; omega, by omega⟩
theorem eh : ∀ (l : List Int), (∀ x ∈ l, 0 <= x) -> 0 <= l.sum
 | [], _ => by simp
 | x :: l, h => by
  have := h x (by simp); have := eh l (fun y hy => h y (by simp [hy])); rw [zbq]; omega
theorem wC {f g : Int -> Int} : ∀ (l : List Int), (∀ x ∈ l, f x <= g x) -> (l.map f).sum <= (l.map g).sum
 | [], _ => by simp
 | x :: l, h => by
  have := h x (by simp); have := wC l (fun y hy => h y (by simp [hy])); simp only [zaX, zbq]; omega
theorem zF {n s : Int} {l : List Int} (h1 : 0 <= n) (h2 : n < s) (hb : ∀ x ∈ l, 0 <= x /\ x <= 1152921504606846976) : (∀ y ∈ bE n s l, 0 <= y /\ y <= 1152921504606846976) /\ 0 <= (bE n s l).sum /\ (bE n s l).sum <= l.sum := by
 have e : ∀ x ∈ l, 0 <= n * x / s /\ n * x / s <= x := fun x hx => by
  have hx := hb x hx; refine ⟨zbw (zaZ h1 hx.1) (by omega), ?_⟩; have : n * x <= s * x := za2 (by omega) hx.1; exact Int.ediv_le_of_le_mul (by omega) (by rw [zbb x s]; exact this)
 have a : ∀ y ∈ bE n s l, 0 <= y /\ y <= 1152921504606846976 := by
  intro y hy; obtain ⟨x, hx, rfl⟩ := za3.1 hy; have := e x hx; have := hb x hx; omega
 refine ⟨a, eh _ (fun y hy => (a y hy).1), ?_⟩; have := wC (f := fun c => n * c / s) (g := id) l (fun x hx => (e x hx).2); simpa [bE] using this
theorem jI {l : List Int} {i : Nat} (h : i < l.length) : l.getD i 0 ∈ l := by
 rw [zah, zae h]; exact zbx h
theorem yl (z : Int) : ∀ (k : Nat) (o l : List Int), (gU z k o l).length = o.length
 | 0, _, _ => rfl
 | k + 1, o, l => by simp [gU, yl z k]
theorem uh (n : Int) (l : List Int) : (cC n l).length = l.length := by
 unfold cC; cases kQ l
 . simp
 . cases decide (max n 0 >= iw l)
   . simp [yl, bE]
   . simp
theorem tn : ∀ (l : List Int) (b : Nat) (v : Int), b < l.length -> (l.set b v).sum = l.sum - l.getD b 0 + v
 | [], b, v, h => by simp at h
 | x :: l, 0, v, _ => by simp; omega
 | x :: l, b + 1, v, h => by
  have := tn l b v (by simpa using h); simp only [zbP, zbq, zaw]; omega
theorem iQ (l : List Int) (b i : Nat) (v : Int) (h : b < l.length) : (l.set b v).getD i 0 = if i = b then v else l.getD i 0 := by
 simp only [zah, zbj]
 by_cases e : b = i
 . subst e; simp [h]
 . rw [if_neg e, if_neg (Ne.symm e)]
theorem qp (l : List Int) : ∀ (r pre : List Int) (b : Nat), l = pre ++ r -> b < l.length -> (∀ j, j < pre.length -> l.getD j 0 <= l.getD b 0) -> (∀ j, j < b -> l.getD j 0 < l.getD b 0) -> b <= pre.length ->
 (∀ j, j < l.length -> l.getD j 0 <= l.getD (jX l r pre.length b) 0) /\ ∀ j, j < jX l r pre.length b -> l.getD j 0 < l.getD (jX l r pre.length b) 0
 | [], pre, b, he, hb, h1, h2, _ => by
  have : pre.length = l.length := by rw [he]; simp
  exact ⟨fun j hj => h1 j (by omega), h2⟩
 | x :: r, pre, b, he, hb, h1, h2, h3 => by
  have hg : l.getD pre.length 0 = x := by rw [he]; simp
  have hl : l.length = pre.length + (r.length + 1) := by rw [he]; simp
  have hp : (pre ++ [x]).length = pre.length + 1 := by simp
  simp only [jX]; rw [<- hp]
  by_cases hx : x > l.getD b 0
  . rw [show decide (x > l.getD b 0) = true from zad hx, zaG]; refine qp l r (pre ++ [x]) pre.length (by rw [he]; simp) (by omega) (fun j hj => ?_) (fun j hj => ?_) (by omega)
    . rw [hp] at hj
      by_cases e : j = pre.length
      . subst e; omega
      . have := h1 j (by omega); omega
    . have := h1 j hj; omega
  . rw [show decide (x > l.getD b 0) = false from zaL hx, zap]; refine qp l r (pre ++ [x]) b (by rw [he]; simp) hb (fun j hj => ?_) h2 (by omega); rw [hp] at hj
    by_cases e : j = pre.length
    . subst e; omega
    . exact h1 j (by omega)
theorem lY {l : List Int} (h : l ≠ []) : (∀ j, j < l.length -> l.getD j 0 <= l.getD (dG l) 0) /\ ∀ j, j < dG l -> l.getD j 0 < l.getD (dG l) 0 :=
 qp l l [] 0 rfl (List.length_pos_iff.2 h) (fun j hj => by simp at hj) (fun j hj => by omega) (by simp)
theorem ni : ∀ (l : List Int), (∀ x ∈ l, x <= 0) -> l.sum <= 0
 | [], _ => by simp
 | x :: l, h => by
  have := h x (by simp); have := ni l (fun y hy => h y (by simp [hy])); rw [zbq]; omega
theorem pz {l : List Int} {x : Int} (h : x ∈ l) : ∃ j, j < l.length /\ l.getD j 0 = x := by
 obtain ⟨j, hj, rfl⟩ := List.getElem_of_mem h; exact ⟨j, hj, by rw [zah, zae hj]; rfl⟩
theorem wZ {s : Int} (hs : 0 < s) : ∀ (k : Nat) (o l : List Int), o.length = l.length -> (∀ x ∈ l, 0 <= x /\ x < s) -> s * (k : Int) <= l.sum ->
 (gU 0 k o l).sum = o.sum + k /\ (∀ i, i < l.length -> (gU 0 k o l).getD i 0 = o.getD i 0 \/ ((gU 0 k o l).getD i 0 = o.getD i 0 + 1 /\ 0 < l.getD i 0)) /\
 ∀ i j, i < j -> j < l.length -> l.getD j 0 <= l.getD i 0 -> (gU 0 k o l).getD j 0 - o.getD j 0 <= (gU 0 k o l).getD i 0 - o.getD i 0
 | 0, o, l, hl, hb, hk => by simp [gU]
 | k + 1, o, l, hl, hb, hk => by
  have e1 : s * ((k + 1 : Nat) : Int) = s * k + s := by rw [zas, zb0]; simp
  rw [e1] at hk; have hk0 : 0 <= s * (k : Int) := zaZ (by omega) (by omega); have hne : l ≠ [] := by rintro rfl; simp at hk; omega
  have hB := kJ hne; obtain ⟨hm, hf⟩ := lY hne; have hpos : 0 < l.getD (dG l) 0 := by
   rcases Int.lt_or_le 0 (l.getD (dG l) 0) with h | h
   . exact h
   . have := ni l (fun x hx => by
      obtain ⟨j, hj, rfl⟩ := pz hx; have := hm j hj; omega)
     omega
  have hmem := hb _ (jI hB); simp only [gU]; generalize hbb : dG l = b at *
  have hs' := tn l b 0 hB; have ho' := tn o b (o.getD b 0 + 1) (by omega); obtain ⟨g1, g2, g3⟩ := wZ hs k (o.set b (o.getD b 0 + 1)) (l.set b 0) (by simp [hl]) (fun x hx => by
   rcases zbD hx with h | h
   . exact hb x h
   . omega) (by omega)
  generalize gU 0 k (o.set b (o.getD b 0 + 1)) (l.set b 0) = y at *
  simp only [zbg] at g2 g3; refine ⟨by rw [g1, ho']; simp only [zas]; omega, fun i hi => ?_, fun i j hij hj hle => ?_⟩
  . have := g2 i hi; rw [iQ _ _ _ _ (by omega), iQ _ _ _ _ hB] at this
    by_cases e : i = b
    . subst e; simp only [↓reduceIte] at this; right; omega
    . simpa [e] using this
  . have a1 := g2 i (by omega); have a2 := g2 j hj; have a3 := g3 i j hij hj; rw [iQ _ _ _ _ (by omega), iQ _ _ _ _ hB] at a1 a2; rw [iQ _ _ _ _ hB, iQ _ _ _ _ hB, iQ _ _ _ _ (by omega), iQ _ _ _ _ (by omega)] at a3
    by_cases ei : i = b
    . subst ei; have ne : ¬ j = i := by omega
      simp only [↓reduceIte, ne] at a1 a2 a3; omega
    . by_cases ej : j = b
      . subst ej; have := hf i hij; omega
      . simp only [ei, ej, zbh] at a1 a2 a3; exact a3 hle
theorem wi (a s : Int) : ∀ l : List Int, s * (bE a s l).sum + (jd a s l).sum = a * l.sum
 | [] => by simp [bE, jd]
 | x :: l => by
  have := wi a s l; have e := zbe (a * x) s; show s * (a * x / s + (bE a s l).sum) + (a * x % s + (jd a s l).sum) = a * (x + l.sum)
  rw [zb0, zb0]; omega
theorem yu (f : Int -> Int) {l : List Int} {b : Nat} (h : b < l.length) : (l.map f).getD b 0 = f (l.getD b 0) := by
 simp [zah, zae h]
theorem FQ {a : Int} {l : List Int} (ha : 0 <= a) (hok : kQ l = true) (hlt : a < l.sum) : (cC a l).sum = a /\
 (∀ i, i < l.length -> (cC a l).getD i 0 = a * l.getD i 0 / l.sum \/ ((cC a l).getD i 0 = a * l.getD i 0 / l.sum + 1 /\ 0 < a * l.getD i 0 % l.sum)) /\
 ∀ i j, i < j -> j < l.length -> a * l.getD j 0 % l.sum <= a * l.getD i 0 % l.sum -> (cC a l).getD j 0 - a * l.getD j 0 / l.sum <= (cC a l).getD i 0 - a * l.getD i 0 / l.sum := by
 obtain ⟨hb, hs, hs2⟩ := la hok; have hr : ∀ x ∈ jd a l.sum l, 0 <= x /\ x < l.sum := by
  intro y hy; obtain ⟨x, hx, rfl⟩ := za3.1 hy; exact ⟨zbm _ (by omega), za9 _ (by omega)⟩
 have hsum := wi a l.sum l; have hr0 := eh _ (fun x hx => (hr x hx).1); have hk : 0 <= a - (bE a l.sum l).sum := by
  have : l.sum * (bE a l.sum l).sum <= l.sum * a := by rw [zbb l.sum a]; omega
  have := Int.le_of_mul_le_mul_left this (by omega); omega
 have he : cC a l = gU 0 (a - (bE a l.sum l).sum).toNat (bE a l.sum l) (jd a l.sum l) := by
  unfold cC; rw [hok, hs, show max a 0 = a by omega, show decide (a >= l.sum) = false from zaL (by omega)]; rfl
 have hl1 : (bE a l.sum l).length = l.length := by simp [bE]
 have hl2 : (jd a l.sum l).length = l.length := by simp [jd]
 have d := wZ (s := l.sum) (by omega) (a - (bE a l.sum l).sum).toNat (bE a l.sum l) (jd a l.sum l) (by omega) hr (by
  rw [Int.toNat_of_nonneg hk, Int.mul_sub, zbb l.sum a]; omega)
 rw [<- he, hl2] at d; obtain ⟨d1, d2, d3⟩ := d; have ef : ∀ i, i < l.length -> (bE a l.sum l).getD i 0 = a * l.getD i 0 / l.sum := fun i hi => yu _ hi
 have er : ∀ i, i < l.length -> (jd a l.sum l).getD i 0 = a * l.getD i 0 % l.sum := fun i hi => yu _ hi
 refine ⟨by rw [d1, Int.toNat_of_nonneg hk]; omega, fun i hi => ?_, fun i j hij hj hle => ?_⟩
 . have := d2 i hi
   rwa [ef i hi, er i hi] at this
 . have := d3 i j hij hj (by rw [er i (by omega), er j hj]; exact hle)
   rwa [ef i (by omega), ef j hj] at this
theorem FO {a : Int} {l : List Int} (hok : kQ l = true) (hge : l.sum <= max a 0) : cC a l = l := by
 obtain ⟨hb, hs, hs2⟩ := la hok; unfold cC; rw [hok, hs, show decide (max a 0 >= l.sum) = true from zad hge]; rfl
theorem Lg {a x s : Int} (ha : 0 <= a) (hlt : a < s) (hx : 0 <= x) : 0 <= a * x / s /\ a * x / s <= x /\ (0 < a * x % s -> a * x / s + 1 <= x) := by
 have e := zbe (a * x) s; have hm : a * x <= (s - 1) * x := za2 (by omega) hx; have hsx : (s - 1) * x = s * x - x := by rw [Int.sub_mul, Int.one_mul]
 refine ⟨zbw (zaZ ha hx) (by omega), Int.ediv_le_of_le_mul (by omega) (by rw [zbb x s]; omega), fun h => ?_⟩; have : s * (a * x / s) < s * x := by omega
 have := Int.lt_of_mul_lt_mul_left this (by omega); omega
theorem AT {a : Int} {l : List Int} (ha : 0 <= a) (hok : kQ l = true) : (cC a l).sum = min a l.sum /\ ∀ i, i < l.length -> 0 <= (cC a l).getD i 0 /\ (cC a l).getD i 0 <= l.getD i 0 := by
 obtain ⟨hb, hs, hs2⟩ := la hok
 by_cases h : l.sum <= a
 . rw [FO hok (by omega)]; exact ⟨by omega, fun i hi => ⟨(hb _ (jI hi)).1, zb8 _⟩⟩
 . obtain ⟨h1, h2, _⟩ := FQ ha hok (by omega); refine ⟨by omega, fun i hi => ?_⟩; have hx := hb _ (jI hi); have := Lg (a := a) (s := l.sum) ha (by omega) hx.1; rcases h2 i hi with h | ⟨h, h'⟩ <;> omega
def bC : List Bool -> List Int -> List Int
 | [], _ => []
 | false :: ms, l => 0 :: bC ms l
 | true :: ms, l => l.headD 0 :: bC ms l.tail
def jn : List Bool -> Nat -> Nat
 | [], _ => 0
 | false :: ms, i => jn ms i + 1
 | true :: _, 0 => 0
 | true :: ms, i + 1 => jn ms i + 1
def bD : List Bool -> Nat
 | [] => 0
 | false :: ms => bD ms
 | true :: ms => bD ms + 1
theorem lh : ∀ (ms : List Bool) (l : List Int), (bC ms l).length = ms.length
 | [], _ => rfl
 | false :: ms, l => by simp [bC, lh ms l]
 | true :: ms, l => by simp [bC, lh ms l.tail]
theorem tj : ∀ (ms : List Bool) (i : Nat), i < bD ms -> jn ms i < ms.length
 | [], i, h => by simp [bD] at h
 | false :: ms, i, h => by have := tj ms i h; simp [jn]; omega
 | true :: ms, 0, _ => by simp [jn]
 | true :: ms, i + 1, h => by have := tj ms i (by simpa [bD] using h); simp [jn]; omega
theorem qz : ∀ (ms : List Bool) (i j : Nat), i < j -> j < bD ms -> jn ms i < jn ms j
 | [], i, j, _, h => by simp [bD] at h
 | false :: ms, i, j, h, h2 => by have := qz ms i j h h2; simp [jn]; omega
 | true :: ms, 0, j + 1, _, _ => by simp [jn]
 | true :: ms, i + 1, j + 1, h, h2 => by have := qz ms i j (by omega) (by simpa [bD] using h2); simp [jn]; omega
theorem ij : ∀ (ms : List Bool) (l : List Int) (i : Nat), l.length = bD ms -> i < bD ms -> (bC ms l).getD (jn ms i) 0 = l.getD i 0
 | [], l, i, _, h => by simp [bD] at h
 | false :: ms, l, i, h, h2 => by simp only [bC, jn, zaw]; exact ij ms l i h h2
 | true :: ms, [], i, h, _ => by simp [bD] at h
 | true :: ms, x :: l, 0, h, _ => by simp [bC, jn]
 | true :: ms, x :: l, i + 1, h, h2 => by
  simp only [bC, jn, zaw, List.tail_cons]; exact ij ms l i (by simpa [bD] using h) (by simpa [bD] using h2)
theorem pN : ∀ (ms : List Bool) (l : List Int) (i : Nat) (v : Int), l.length = bD ms -> i < bD ms -> (bC ms l).set (jn ms i) v = bC ms (l.set i v)
 | [], l, i, v, _, h => by simp [bD] at h
 | false :: ms, l, i, v, h, h2 => by simp only [bC, jn, zbP]; rw [pN ms l i v h h2]
 | true :: ms, [], i, v, h, _ => by simp [bD] at h
 | true :: ms, x :: l, 0, v, h, _ => by simp [bC, jn]
 | true :: ms, x :: l, i + 1, v, h, h2 => by
  simp only [bC, jn, zbP, List.tail_cons, List.headD_cons]; rw [pN ms l i v (by simpa [bD] using h) (by simpa [bD] using h2)]
theorem ta : ∀ (ms : List Bool) (p : Nat), p < ms.length -> (∃ i, i < bD ms /\ p = jn ms i) \/ ∀ l, (bC ms l).getD p 0 = 0
 | [], p, h => by simp at h
 | false :: ms, 0, _ => .inr fun l => by simp [bC]
 | true :: ms, 0, _ => .inl ⟨0, by simp [bD], by simp [jn]⟩
 | false :: ms, p + 1, h => by
  rcases ta ms p (by simpa using h) with ⟨i, h1, h2⟩ | h2
  . exact .inl ⟨i, h1, by simp [jn, h2]⟩
  . exact .inr fun l => by simp only [bC, zaw]; exact h2 l
 | true :: ms, p + 1, h => by
  rcases ta ms p (by simpa using h) with ⟨i, h1, h2⟩ | h2
  . exact .inl ⟨i + 1, by simp [bD, h1], by simp [jn, h2]⟩
  . exact .inr fun l => by simp only [bC, zaw]; exact h2 _
theorem Bn {l : List Int} {b : Nat} (hb : b < l.length) (h1 : ∀ j, j < l.length -> l.getD j 0 <= l.getD b 0) (h2 : ∀ j, j < b -> l.getD j 0 < l.getD b 0) : dG l = b := by
 have hne : l ≠ [] := by rintro rfl; simp at hb
 obtain ⟨m1, m2⟩ := lY hne; have hB := kJ hne; rcases Nat.lt_trichotomy (dG l) b with h | h | h
 . have := h2 _ h; have := m1 b hb; omega
 . exact h
 . have := m2 _ h; have := h1 _ hB; omega
theorem AU (ms : List Bool) (l : List Int) (hl : l.length = bD ms) (hp : 0 < l.getD (dG l) 0) : dG (bC ms l) = jn ms (dG l) := by
 have hne : l ≠ [] := by rintro rfl; simp at hp
 obtain ⟨m1, m2⟩ := lY hne; have hB := kJ hne; rw [hl] at hB; refine Bn (by rw [lh]; exact tj ms _ hB) (fun j hj => ?_) (fun j hj => ?_)
 . rw [ij ms l _ hl hB]; rw [lh] at hj; rcases ta ms j hj with ⟨i, h1, rfl⟩ | h2
   . rw [ij ms l i hl h1]; exact m1 i (by omega)
   . rw [h2]; omega
 . rw [ij ms l _ hl hB]; have hj2 : j < ms.length := Nat.lt_trans hj (tj ms _ hB); rcases ta ms j hj2 with ⟨i, h1, rfl⟩ | h2
   . rw [ij ms l i hl h1]; refine m2 i ?_
     rcases Nat.lt_trichotomy i (dG l) with h | h | h
     . exact h
     . subst h; omega
     . have := qz ms _ _ h h1; omega
   . rw [h2]; exact hp
theorem xP {s : Int} (hs : 0 < s) (ms : List Bool) : ∀ (k : Nat) (o l : List Int), o.length = bD ms -> l.length = bD ms -> (∀ x ∈ l, 0 <= x /\ x < s) -> s * (k : Int) <= l.sum ->
 gU 0 k (bC ms o) (bC ms l) = bC ms (gU 0 k o l)
 | 0, o, l, _, _, _, _ => rfl
 | k + 1, o, l, ho, hl, hb, hk => by
  have e1 : s * ((k + 1 : Nat) : Int) = s * k + s := by rw [zas, zb0]; simp
  rw [e1] at hk; have hk0 : 0 <= s * (k : Int) := zaZ (by omega) (by omega); have hne : l ≠ [] := by rintro rfl; simp at hk; omega
  have hB := kJ hne; obtain ⟨hm, hf⟩ := lY hne; have hpos : 0 < l.getD (dG l) 0 := by
   rcases Int.lt_or_le 0 (l.getD (dG l) 0) with h | h
   . exact h
   . have := ni l (fun x hx => by
      obtain ⟨j, hj, rfl⟩ := pz hx; have := hm j hj; omega)
     omega
  have hmem := hb _ (jI hB); have hs' := tn l (dG l) 0 hB; simp only [gU]; rw [AU ms l hl hpos, ij ms o _ ho (by omega), pN ms o _ _ ho (by omega), pN ms l _ _ hl (by omega)]; refine xP hs ms k _ _ (by simpa using ho) (by simpa using hl) (fun x hx => ?_) (by omega); rcases zbD hx with h | h
  . exact hb x h
  . omega
theorem pT (f : Int -> Int) (h0 : f 0 = 0) : ∀ (ms : List Bool) (l : List Int), (bC ms l).map f = bC ms (l.map f)
 | [], _ => rfl
 | false :: ms, l => by simp [bC, h0, pT f h0 ms l]
 | true :: ms, l => by
  simp only [bC, zaX, pT f h0 ms l.tail]; cases l with
  | nil => simp [h0]
  | cons x l => simp
theorem mH : ∀ (ms : List Bool) (l : List Int), l.length = bD ms -> (bC ms l).sum = l.sum
 | [], l, h => by rw [zau h]; rfl
 | false :: ms, l, h => by simp [bC, mH ms l h]
 | true :: ms, [], h => by simp [bD] at h
 | true :: ms, x :: l, h => by simp [bC, mH ms l (by simpa [bD] using h)]
theorem ui : ∀ (ms : List Bool) (l : List Int) (y : Int), y ∈ bC ms l -> y = 0 \/ y ∈ l
 | [], _, y, h => by simp [bC] at h
 | false :: ms, l, y, h => by
  simp only [bC, zaV] at h; rcases h with h | h
  . exact .inl h
  . exact ui ms l y h
 | true :: ms, l, y, h => by
  simp only [bC, zaV] at h; rcases h with h | h
  . cases l with
    | nil => exact .inl (by simpa using h)
    | cons x l => exact .inr (by simp at h; simp [h])
  . rcases ui ms l.tail y h with h | h
    . exact .inl h
    . exact .inr (List.mem_of_mem_tail h)
theorem FH (ms : List Bool) (n : Int) (l : List Int) (hl : l.length = bD ms) (b : Int) (hb0 : 0 <= b) (hb : ∀ x ∈ l, 0 <= x /\ x <= b) (h4 : ms.length * b <= 1152921504606846976) :
 cC n (bC ms l) = bC ms (cC n l) := by
 have hlm : bD ms <= ms.length := by
  clear hl h4
  induction ms with
  | nil => simp [bD]
  | cons c ms ih => cases c <;> simp [bD] <;> omega
 have hlb : (l.length : Int) * b <= ms.length * b := za2 (by omega) hb0; obtain ⟨s1, o1⟩ := tG hb0 hb (by omega); have hb2 : ∀ x ∈ bC ms l, 0 <= x /\ x <= b := fun x hx => by
  rcases ui ms l x hx with h | h
  . omega
  . exact hb x h
 obtain ⟨s2, o2⟩ := tG hb0 hb2 (by rw [lh]; exact h4); rw [mH ms l hl] at s2; obtain ⟨hB, _, hs2⟩ := la o1; have h0 := eh l (fun x hx => (hb x hx).1); unfold cC; rw [o1, o2, s1, s2]; simp only [zbE, zap]
 by_cases h : max n 0 >= l.sum
 . rw [zad h, zaG, zaG]
 . rw [zaL h, zap, zap]; have ef : bE (max n 0) l.sum (bC ms l) = bC ms (bE (max n 0) l.sum l) := pT (fun c => max n 0 * c / l.sum) (by simp) ms l; have er : jd (max n 0) l.sum (bC ms l) = bC ms (jd (max n 0) l.sum l) := pT (fun c => max n 0 * c % l.sum) (by simp) ms l; have lf : (bE (max n 0) l.sum l).length = bD ms := by simpa [bE] using hl
   have lr : (jd (max n 0) l.sum l).length = bD ms := by simpa [jd] using hl
   rw [ef, er, mH ms _ lf]; have hr : ∀ x ∈ jd (max n 0) l.sum l, 0 <= x /\ x < l.sum := by
    intro y hy; obtain ⟨x, hx, rfl⟩ := za3.1 hy; exact ⟨zbm _ (by omega), za9 _ (by omega)⟩
   have hsum := wi (max n 0) l.sum l; have hr0 := eh _ (fun x hx => (hr x hx).1); have hk : 0 <= max n 0 - (bE (max n 0) l.sum l).sum := by
    have : l.sum * (bE (max n 0) l.sum l).sum <= l.sum * max n 0 := by rw [zbb l.sum (max n 0)]; omega
    have := Int.le_of_mul_le_mul_left this (by omega); omega
   exact xP (s := l.sum) (by omega) ms _ _ _ lf lr hr (by rw [Int.toNat_of_nonneg hk, Int.mul_sub, zbb l.sum (max n 0)]; omega)
theorem MT {n c p : Int} (h1 : 0 <= n) (h2 : n < p) (h3 : p <= 1152921504606846976) (h4 : 0 <= c) (h5 : c <= 1152921504606846976) : mdV n c p 0 = n * c / p /\ oH n c p 0 = true /\ 0 <= n * c / p /\ n * c / p <= c := by
 have h : n * c / p <= c := by
  have : n * c <= p * c := za2 (by omega) h4; exact Int.ediv_le_of_le_mul (by omega) (by rw [zbb c p]; exact this)
 have ok : oH n c p 0 = true := by rw [Ed h1 (by omega) h4 h5 (by omega) h3 (by omega) (by omega), Ox]; simp; omega
 exact ⟨by unfold mdV; rw [ok, Ox]; rfl, ok, zbw (zaZ h1 h4) (by omega), h⟩
theorem KB {n c s q : Int} (hq : q = n * c / s) (h1 : 0 <= n) (h2 : 0 < s) (h3 : s <= 1152921504606846976) (h4 : 0 <= c) :
 o5 (o5 (o5 n * o5 c) - o5 (o5 q * o5 s)) = n * c % s := by
 show IntKind.u64.wrap (IntKind.u64.wrap (IntKind.u64.wrap n * IntKind.u64.wrap c) - IntKind.u64.wrap (IntKind.u64.wrap q * IntKind.u64.wrap s)) = n * c % s; simp only [mJ]; rw [<- Int.mul_emod, <- Int.mul_emod, <- Int.sub_emod]; have e := zbe (n * c) s; have a := zbm (n * c) (show s ≠ 0 by omega); have b := za9 (n * c) h2; rw [<- hq] at e; rw [show n * c - q * s = n * c % s by rw [zbb q s]; omega]; exact Int.emod_eq_of_lt a (by omega)
theorem A5 {α : Type} (pre done : List α) (x y : α) (rest : List α) (h : done.length = pre.length) : List.set (done ++ x :: rest) pre.length y = done ++ y :: rest := by rw [<- h]; simp
def NA : aD := ⟨T92.tab, 128, ⟨[.ints .i64], [], 0⟩, ⟨[.int .i64, .bool], [], 0⟩, []⟩
abbrev Ag : Type := Int × List Int × Int × Int
def tx (m : Nat) (k : Ag -> Option (List Un)) : Ag -> Option (List Un) := fun (a0, a1, a2, a3) =>
 bif decide (a3 < a2) then
 chk (inb a3 a1.length) <|
 chk (decide (a3.toNat < a1.length)) <|
 bif (decide ((a1.getD a3.toNat 0) < 0)) then
 some ([.i 0, .b false])
 else
 bif (decide ((a1.getD a3.toNat 0) > (w64 (1152921504606846976 - a0)))) then
 some ([.i 0, .b false])
 else
 k ((w64 (a0 + (a1.getD a3.toNat 0))), a1, a2, (w64 (a3 + 1)))
 else
 some ([.i a0, .b true])
def qO (m : Nat) : Nat -> Ag -> Option (List Un) := bp (tx m)
theorem rp (m : Nat) (n : Nat) : qO m (n + 1) = tx m (qO m n) := rfl
def Ch (F : Ag -> Option (List Un)) : aT := ⟨[.lp [0, 1, 0, 1, 1], .blk 0, .code [1, 1, 1]], ⟨frm 26 [(4, .int .i64), (7, .ints .i64), (8, .int .i64), (9, .int .i64)], [], 0⟩, onU F⟩
theorem PF (m : Nat) : ∀ n, HO NA (Ch (qO m n)) := ay ak T92.right (fun k => [Ch k]) (fun k h => (aJ h aA)) fun k a => by kernel_rfl
def t128 (m : Nat) : List Int -> Option (List Un) := fun a0 =>
 qO m m (0, a0, (a0.length : Int), 0)
theorem KS (m : Nat) : ∀ (rest pre : List Int) (s : Int) (n : Nat), rest.length < n -> 0 <= s -> s <= 1152921504606846976 -> (pre ++ rest).length < 1099511627776 ->
 qO m n (s, pre ++ rest, ((pre ++ rest).length : Int), (pre.length : Int)) = some [.i (pC rest s).1, .b (pC rest s).2] := by
 intro rest
 induction rest with
 | nil =>
  intro pre s n hn h1 h2 h3; obtain ⟨n, rfl⟩ := al n (by simp at hn; omega); rw [rp]; unfold tx; dsimp only; simp [aB, pC]
 | cons x rest ih =>
  intro pre s n hn h1 h2 h3; obtain ⟨n, rfl⟩ := al n (by simp at hn; omega); simp only [zai, zaf] at h3 hn; rw [rp]; unfold tx; dsimp only; simp only [pC]
  by_cases c1 : x < 0
  . rw [zad c1, Bool.true_or, zaG]; simp (disch := omega) only [TRa, TRi, aa, LNl, LNi, zaa, cm]
  . by_cases c2 : x > 1152921504606846976 - s
    . rw [zad c2, Bool.or_true, zaG]; simp (disch := omega) only [TRa, TRi, aa, LNl, LNi, zaa, cm]
    . rw [zaL c1, zaL c2, Bool.false_or, zap]; have := ih (pre ++ [x]) (s + x) n (by omega) (by omega) (by omega) (by simp; omega); simp (disch := omega) only [TRa, TRi, aa, LNl, LNi, zaa, cm]; simp only [LNl, LNi, zaa] at this ⊢; exact this
def f128 : List Int -> Bool × List Un := fun a0 => (decide (a0.length < 1099511627776), [.i (iw a0), .b (kQ a0)])
theorem Ku (a0 : List Int) (hc : (decide (a0.length < 1099511627776)) = true) : ∃ m, t128 m a0 = some ([.i (iw a0), .b (kQ a0)]) := by
 exact ⟨a0.length + 1, KS _ a0 [] 0 _ (by omega) (by omega) (by omega) (by simpa using zak hc)⟩
theorem GI : ER 128 (mkE NA.en NA.ex f128) := aq ak T92.right (fun m => [Ch (qO m m)]) (t := t128) (by kernel_rfl) (fun m => (aJ (PF m m) aA)) (fun m a => by kernel_rfl) fun a0 hc => Ku a0 hc
def Me : Tb Tryz.prog LQ TE XX := T92.add 128 _ GI
def OA : aD := ⟨Me.tab, 172, ⟨[.int .i64, .int .i64, .ints .i64], [], 0⟩, ⟨[.buf 0 1, .buf 1 1], [.ints .i64, .ints .u64], 0⟩, []⟩
abbrev Ae : Type := Int × Int × List Int × Int × Int × List Int × List Int
def tv (m : Nat) (k : Ae -> Option (List Un)) : Ae -> Option (List Un) := fun (a0, a1, a2, a3, a4, a5, a6) =>
 bif decide (a4 < a3) then
 chk (inb a4 a2.length) <|
 chk (decide (a4.toNat < a2.length)) <|
 chk (inb a4 a5.length) <|
 chk (decide (a4.toNat < a5.length)) <|
 lt ((List.set a5 a4.toNat (mdV a0 (a2.getD a4.toNat 0) a1 0)) : List Int) fun l5 =>
 chk (inb a4 l5.length) <|
 chk (decide (a4.toNat < l5.length)) <|
 chk (inb a4 a6.length) <|
 chk (decide (a4.toNat < a6.length)) <|
 k (a0, a1, a2, a3, (w64 (a4 + 1)), l5, (List.set a6 a4.toNat (o5 ((o5 ((o5 a0) * (o5 (a2.getD a4.toNat 0)))) - (o5 ((o5 (l5.getD a4.toNat 0)) * (o5 a1)))))))
 else
 some ([.l a5, .l a6])
def qG (m : Nat) : Nat -> Ae -> Option (List Un) := bp (tv m)
theorem ru (m : Nat) (n : Nat) : qG m (n + 1) = tv m (qG m n) := rfl
def DI (F : Ae -> Option (List Un)) : aT := ⟨[.lp [0, 1, 0, 1, 1], .blk 0, .code [1, 1, 1]], ⟨frm 55 [(0, .int .i64), (1, .int .i64), (8, .buf 0 1), (9, .buf 1 1), (18, .ints .i64), (19, .int .i64), (20, .int .i64)], [.ints .i64, .ints .u64], 0⟩, onU F⟩
theorem OW (m : Nat) : ∀ n, HO OA (DI (qG m n)) := ay ak Me.right (fun k => [DI k]) (fun k h => (aJ h aA)) fun k a => by kernel_rfl
def t172 (m : Nat) : Int × Int × List Int -> Option (List Un) := fun (a0, a1, a2) =>
 chk (ly (a2.length : Int) 8) <|
 chk (ly (a2.length : Int) 8) <|
 qG m m (a0, a1, a2, (a2.length : Int), 0, (List.replicate a2.length 0), (List.replicate a2.length 0))
theorem Nh (m : Nat) (a s : Int) (h1 : 0 <= a) (h2 : a < s) (h3 : s <= 1152921504606846976) : ∀ (rest pre d1 d2 : List Int) (n : Nat), rest.length < n -> d1.length = pre.length -> d2.length = pre.length -> (∀ x ∈ rest, 0 <= x /\ x <= 1152921504606846976) -> (pre ++ rest).length < 1099511627776 ->
 qG m n (a, s, pre ++ rest, ((pre ++ rest).length : Int), (pre.length : Int), d1 ++ List.replicate rest.length 0, d2 ++ List.replicate rest.length 0) = some [.l (d1 ++ bE a s rest), .l (d2 ++ jd a s rest)] := by
 intro rest
 induction rest with
 | nil =>
  intro pre d1 d2 n hn p1 p2 hb h4; obtain ⟨n, rfl⟩ := al n (by simp at hn; omega); rw [ru]; unfold tv; dsimp only; simp [aB, bE, jd]
 | cons x rest ih =>
  intro pre d1 d2 n hn p1 p2 hb h4; obtain ⟨n, rfl⟩ := al n (by simp at hn; omega); simp only [zai, zaf] at h4 hn; rw [ru]; unfold tv; dsimp only; simp only [zaf, zbv]; have hx := hb x (by simp); obtain ⟨e1, _, _, _⟩ := MT h1 h2 h3 hx.1 hx.2; have := ih (pre ++ [x]) (d1 ++ [a * x / s]) (d2 ++ [a * x % s]) n (by omega) (by simp; omega) (by simp; omega) (fun y hy => hb y (by simp [hy])) (by simp; omega); have le := KB (n := a) (c := x) (s := s) rfl h1 (by omega) h3 hx.1; simp (disch := omega) only [TRa, TRi, aa, LNl, LNi, zaa, cm, e1, A5 _ _ _ _ _ p1, xt _ _ _ _ _ p1, A5 _ _ _ _ _ p2]; rw [le]; simp only [LNl, LNi, zaa] at this ⊢; refine this.trans ?_
  simp [bE, jd]
def f172 : Int × Int × List Int -> Bool × List Un := fun (a0, a1, a2) => (decide (0 <= a0 /\ a0 < a1 /\ a1 <= 1152921504606846976 /\ a2.length < 1099511627776) && qL a2, [.l (bE a0 a1 a2), .l (jd a0 a1 a2)])
theorem K2 (a0 : Int) (a1 : Int) (a2 : List Int) (hc : (decide (0 <= a0 /\ a0 < a1 /\ a1 <= 1152921504606846976 /\ a2.length < 1099511627776) && qL a2) = true) : ∃ m, t172 m (a0, a1, a2) = some ([.l (bE a0 a1 a2), .l (jd a0 a1 a2)]) := by
 simp only [zab, zac, uH] at hc; obtain ⟨⟨h1, h2, h3, h4⟩, hb⟩ := hc; refine ⟨a2.length + 1, ?_⟩; unfold t172; simp (disch := omega) only [TRa, TRi, aa]; exact Nh (a2.length + 1) a0 a1 h1 h2 h3 a2 [] [] [] (a2.length + 1) (by omega) rfl rfl hb (by simpa using h4)
theorem IC : ER 172 (mkE OA.en OA.ex f172) := aq ak Me.right (fun m => [DI (qG m m)]) (t := t172) (by kernel_rfl) (fun m => (aJ (OW m m) aA)) (fun m a => by kernel_rfl) fun (a0, a1, a2) hc => K2 a0 a1 a2 hc
def FI : Tb Tryz.prog LQ TE XX := Me.add 172 _ IC
def Fq : aD := ⟨FI.tab, 166, ⟨[.int .i64, .ints .i64], [], 0⟩, ⟨[.buf 0 1], [.ints .i64], 0⟩, []⟩
abbrev zv : Type := Int × Int × Int × Int × List Int × List Int
abbrev lx : Type := Int × List Int × List Int
abbrev yV : Type := Int × Int × Int × List Int × List Int
def sO (m : Nat) (k1 : lx -> Option (List Un)) (k : zv -> Option (List Un)) : zv -> Option (List Un) := fun (a0, a1, a2, a3, a4, a5) =>
 bif decide (a3 < a2) then
 chk (inb a3 a5.length) <|
 chk (decide (a3.toNat < a5.length)) <|
 chk (inb a1 a5.length) <|
 chk (decide (a1.toNat < a5.length)) <|
 bif (decide ((a5.getD a3.toNat 0) > (a5.getD a1.toNat 0))) then
 k (a0, a3, a2, (w64 (a3 + 1)), a4, a5)
 else
 k (a0, a1, a2, (w64 (a3 + 1)), a4, a5)
 else
 chk (inb a1 a4.length) <|
 chk (decide (a1.toNat < a4.length)) <|
 chk (inb a1 a4.length) <|
 chk (decide (a1.toNat < a4.length)) <|
 chk (inb a1 a5.length) <|
 chk (decide (a1.toNat < a5.length)) <|
 k1 ((w64 (a0 - 1)), (List.set a4 a1.toNat (w64 ((a4.getD a1.toNat 0) + 1))), (List.set a5 a1.toNat 0))
def qR (m : Nat) (k1 : lx -> Option (List Un)) : Nat -> zv -> Option (List Un) := bp (sO m k1)
theorem rN (m : Nat) (k1 : lx -> Option (List Un)) (n : Nat) : qR m k1 (n + 1) = sO m k1 (qR m k1 n) := rfl
def Cw (F : zv -> Option (List Un)) : aT := ⟨[.lp [0, 1, 0, 1, 0, 0, 1, 0, 0, 0, 1, 1, 1, 1, 1, 1, 1, 1], .blk 4, .code [1, 1, 0, 0, 1, 0, 0, 0, 1, 1, 1, 1, 1, 1, 1, 1], .blk 3, .code [1, 1, 0, 0, 0, 1, 1, 1, 1, 1, 1, 1, 1], .lp [0, 0, 1, 1, 1, 1, 1, 1, 1, 1], .blk 2, .code [1, 1, 1, 1, 1, 1, 1, 1, 1]], ⟨frm 80 [(7, .buf 0 1), (8, .buf 1 1), (9, .int .i64), (12, .int .i64), (55, .int .i64), (56, .int .i64)], [.ints .i64, .ints .u64], 0⟩, onU F⟩
def sN (m : Nat) (k : lx -> Option (List Un)) : lx -> Option (List Un) := fun (a0, a1, a2) =>
 bif decide (a0 > 0) then
 qR m k m (a0, 0, (a2.length : Int), 0, a1, a2)
 else
 some ([.l a1])
def nr (m : Nat) : Nat -> lx -> Option (List Un) := bp (sN m)
theorem sC (m : Nat) (n : Nat) : nr m (n + 1) = sN m (nr m n) := rfl
def zD (F : lx -> Option (List Un)) : aT := ⟨[.lp [0, 0, 1, 1, 1, 1, 1, 1, 1, 1], .blk 2, .code [1, 1, 1, 1, 1, 1, 1, 1, 1]], ⟨frm 80 [(7, .buf 0 1), (8, .buf 1 1), (9, .int .i64)], [.ints .i64, .ints .u64], 0⟩, onU F⟩
def tF (m : Nat) (k : yV -> Option (List Un)) : yV -> Option (List Un) := fun (a0, a1, a2, a3, a4) =>
 bif decide (a2 < a1) then
 chk (inb a2 a3.length) <|
 chk (decide (a2.toNat < a3.length)) <|
 k ((w64 (a0 - (a3.getD a2.toNat 0))), a1, (w64 (a2 + 1)), a3, a4)
 else
 nr m m (a0, a3, a4)
def qZ (m : Nat) : Nat -> yV -> Option (List Un) := bp (tF m)
theorem rG (m : Nat) (n : Nat) : qZ m (n + 1) = tF m (qZ m n) := rfl
def Du (F : yV -> Option (List Un)) : aT := ⟨[.lp [0, 1, 0, 1, 1, 1, 1, 1, 1, 1], .blk 0, .code [1, 1, 1, 1, 1, 1, 1, 1]], ⟨frm 80 [(7, .buf 0 1), (8, .buf 1 1), (9, .int .i64), (40, .buf 0 1), (41, .int .i64), (42, .int .i64)], [.ints .i64, .ints .u64], 0⟩, onU F⟩
theorem NG (m : Nat) (k1 : lx -> Option (List Un)) (h1 : HO Fq (zD k1)) : ∀ n, HO Fq (Cw (qR m k1 n)) := ay ak FI.right (fun k => [zD k1, Cw k]) (fun k h => (aJ h1 (aJ h aA))) fun k a => by kernel_rfl
theorem Om (m : Nat) : ∀ n, HO Fq (zD (nr m n)) := ay ak FI.right (fun k => [Cw (qR m (k) m)]) (fun k h => (aJ (NG m _ h m) aA)) fun k a => by kernel_rfl
theorem Pv (m : Nat) : ∀ n, HO Fq (Du (qZ m n)) := ay ak FI.right (fun k => [Du k, zD (nr m m)]) (fun k h => (aJ h (aJ (Om m m) aA))) fun k a => by kernel_rfl
def t166 (m : Nat) : Int × List Int -> Option (List Un) := fun (a0, a1) =>
 chk (decide (a1.length < 1099511627776)) <|
 bif !(kQ a1) then
 chk (ly (a1.length : Int) 8) <|
 some ([.l (List.replicate a1.length 0)])
 else
 lt ((if a0 < 0 then 0 else a0) : Int) fun x2 =>
 bif decide (x2 >= (iw a1)) then
 chk (fits (0 + a1.length) 8) <|
 some ([.l a1])
 else
 chk (decide (0 <= x2 /\ x2 < (iw a1) /\ (iw a1) <= 1152921504606846976 /\ a1.length < 1099511627776) && qL a1) <|
 lt ((bE x2 (iw a1) a1) : List Int) fun l3 =>
 qZ m m (x2, (l3.length : Int), 0, l3, (jd x2 (iw a1) a1))
theorem Gq (m : Nat) (k1 : lx -> Option (List Un)) (left : Int) (out lost : List Int) (h1 : 0 < left) (h2 : left < 4611686018427387904) (hl : out.length = lost.length) (hs : lost.length < 1099511627776)
 (hb : ∀ x ∈ out, 0 <= x /\ x < 4611686018427387904) : ∀ (rest pre : List Int) (b n : Nat), rest.length < n -> lost = pre ++ rest -> b < lost.length ->
 qR m k1 n (left, (b : Int), (lost.length : Int), (pre.length : Int), out, lost) =
  k1 (left - 1, out.set (jX lost rest pre.length b) (out.getD (jX lost rest pre.length b) 0 + 1), lost.set (jX lost rest pre.length b) 0) := by
 intro rest
 induction rest with
 | nil =>
  intro pre b n hn he hlt; obtain ⟨n, rfl⟩ := al n (by simp at hn; omega); have hp : pre.length = lost.length := by rw [he]; simp
  have hm := hb _ (jI (l := out) (i := b) (by omega)); rw [rN]; unfold sO; dsimp only; simp only [jX, zaC]; simp (disch := omega) only [TRa, TRi, aa]
 | cons x rest ih =>
  intro pre b n hn he hlt; obtain ⟨n, rfl⟩ := al n (by simp at hn; omega); have hp : lost.length = pre.length + (rest.length + 1) := by rw [he]; simp
  have hg : lost.getD pre.length 0 = x := by rw [he]; simp
  rw [rN]; unfold sO; dsimp only; simp only [jX, zaC, hg]; have i1 := ih (pre ++ [x]) pre.length n (by simp at hn; omega) (by rw [he]; simp) (by omega); have i2 := ih (pre ++ [x]) b n (by simp at hn; omega) (by rw [he]; simp) hlt; simp only [zai, zaf, zaB, zas, zaD, zaa] at i1 i2
  by_cases c : x > lost.getD b 0
  . simp (disch := omega) only [TRa, TRi, aa]; exact i1
  . simp (disch := omega) only [TRa, TRi, aa]; exact i2
theorem F8 (m : Nat) : ∀ (k : Nat) (left : Int) (out lost : List Int) (n : Nat), left.toNat = k -> k < n -> left < 4611686018427387904 -> out.length = lost.length -> lost.length < 1099511627776 -> lost.length < m -> lost ≠ [] -> (∀ x ∈ out, 0 <= x /\ x + left < 4611686018427387904) ->
 nr m n (left, out, lost) = some [.l (gU 0 k out lost)] := by
 intro k
 induction k with
 | zero =>
  intro left out lost n hk hn h2 hl hs hm hne hb; obtain ⟨n, rfl⟩ := al n (by omega); rw [sC]; unfold sN; dsimp only; simp only [gU]; rw [aB (by omega)]
 | succ k ih =>
  intro left out lost n hk hn h2 hl hs hm hne hb; obtain ⟨n, rfl⟩ := al n (by omega); rw [sC]; unfold sN; dsimp only; have hB := kJ hne; rw [bz (by omega)]; have := Gq m (nr m n) left out lost (by omega) h2 hl hs (fun x hx => by have := hb x hx; omega) lost [] 0 m hm rfl (List.length_pos_iff.2 hne); simp only [zaB, Int.natCast_zero] at this; refine this.trans ?_
  have hq := hb _ (jI (l := out) (i := dG lost) (by omega)); rw [show jX lost lost 0 0 = dG lost from rfl]; refine ih _ _ _ _ (by omega) (by omega) (by omega) (by simp [hl]) (by simpa using hs) (by simpa using hm) (by intro h; simp at h; exact hne h) (fun x hx => ?_); rcases zbD hx with h | h
  . have := hb x h; omega
  . omega
theorem QY (m : Nat) (lost : List Int) : ∀ (rest pre : List Int) (left : Int) (n : Nat), rest.length < n -> (∀ x ∈ rest, 0 <= x /\ x <= 1152921504606846976) -> -1152921504606846976 <= left - rest.sum -> left <= 1152921504606846976 -> (pre ++ rest).length < 1099511627776 ->
 qZ m n (left, ((pre ++ rest).length : Int), (pre.length : Int), pre ++ rest, lost) = nr m m (left - rest.sum, pre ++ rest, lost) := by
 intro rest
 induction rest with
 | nil =>
  intro pre left n hn hb h1 h2 h3; obtain ⟨n, rfl⟩ := al n (by simp at hn; omega); rw [rG]; unfold tF; dsimp only; simp [aB]
 | cons x rest ih =>
  intro pre left n hn hb h1 h2 h3; obtain ⟨n, rfl⟩ := al n (by simp at hn; omega); simp only [zai, zaf] at h3 hn; have hx := hb x (by simp); have hs := eh rest (fun y hy => (hb y (by simp [hy])).1); rw [zbq] at h1 ⊢; rw [rG]; unfold tF; dsimp only; have := ih (pre ++ [x]) (left - x) n (by omega) (fun y hy => hb y (by simp [hy])) (by omega) (by omega) (by simp; omega); rw [show left - (x + rest.sum) = left - x - rest.sum by omega]; simp (disch := omega) only [TRa, TRi, aa, LNl, LNi, zaa, cm]; simp only [LNl, LNi, zaa] at this ⊢; exact this
def f166 : Int × List Int -> Bool × List Un := fun (a0, a1) => (decide (a0 <= 9223372036854775807 /\ a1.length < 1099511627776), [.l (cC a0 a1)])
theorem Ke (a0 : Int) (a1 : List Int) (hc : (decide (a0 <= 9223372036854775807 /\ a1.length < 1099511627776)) = true) : ∃ m, t166 m (a0, a1) = some ([.l (cC a0 a1)]) := by
 obtain ⟨h1, h2⟩ := zak hc; clear hc; refine ⟨1152921504606846976 + a1.length + 2, ?_⟩; unfold t166 cC; dsimp only; rw [aV h2]; cases hok : kQ a1 with
 | false =>
  simp only [Bool.not_false, zaG]; simp (disch := omega) only [TRa, TRi, aa]
 | true =>
  simp only [zbE, zap]; obtain ⟨hb, hs, hs2⟩ := la hok; simp only [lt_eq]; rw [lL a0 0]; generalize hn : max a0 0 = a; have ha : 0 <= a := by omega
  have hr : qL a1 = true := uH.2 hb
  by_cases hge : a >= iw a1
  . simp only [show decide (a >= iw a1) = true by simpa using hge, zaG]; simp (disch := omega) only [TRa, TRi, aa, zaD]
  . simp only [show decide (a >= iw a1) = false by simpa using hge, zap]; obtain ⟨f1, f2, f3⟩ := zF (l := a1) ha (show a < iw a1 by omega) hb; have hlf : (bE a (iw a1) a1).length = a1.length := by simp [bE]
    have hlr : (jd a (iw a1) a1).length = a1.length := by simp [jd]
    have hne : a1 ≠ [] := by rintro rfl; simp at hs; omega
    have e1 := QY (1152921504606846976 + a1.length + 2) (jd a (iw a1) a1) (bE a (iw a1) a1) [] a (1152921504606846976 + a1.length + 2) (by omega) f1 (by omega) (by omega) (by simp; omega); have e2 := F8 (1152921504606846976 + a1.length + 2) _ (a - (bE a (iw a1) a1).sum) (bE a (iw a1) a1) (jd a (iw a1) a1) (1152921504606846976 + a1.length + 2) rfl (by omega) (by omega) (by omega) (by omega) (by omega)
     (by intro h; have := congrArg List.length h; rw [hlr] at this; exact hne (zau this)) (fun x hx => by have := f1 x hx; omega)
    rw [hr, za6]; simp (disch := omega) only [aV]; exact e1.trans e2
theorem Hu : ER 166 (mkE Fq.en Fq.ex f166) := aq ak FI.right (fun m => [Du (qZ m m)]) (t := t166) (by kernel_rfl) (fun m => (aJ (Pv m m) aA)) (fun m a => by kernel_rfl) fun (a0, a1) hc => Ke a0 a1 hc
def Ge : Tb Tryz.prog LQ TE XX := FI.add 166 _ Hu
@[ext] structure bk where
 az : Int
 fee : Int
 bK : Int
 au : Int
 room : Int
instance : Uns bk := Uns.via (B := Int × Int × Int × Int × Int) (fun x => (x.az, x.fee, x.bK, x.au, x.room)) (fun x => match x with | (az, fee, bK, au, room) => ⟨az, fee, bK, au, room⟩) (fun _ => rfl)
def isN : Dat -> Bool
 | .n _ => true
 | .r _ => false
def mh (k : Nat) : Dat -> Bool
 | .r l => l.length == k && l.all isN
 | .n _ => false
theorem Ck : ∀ {d : Dat}, isN d = true -> d = .n d.int
 | .n _, _ => rfl
 | .r _, h => by cases h
theorem CR {d : Dat} (h : mh 3 d = true) : d = .r [.n (d.i 0), .n (d.i 1), .n (d.i 2)] := by
 match d, h with
 | .r [a, b, c], h =>
  simp [mh] at h; obtain ⟨h1, h2, h3⟩ := h; show Dat.r [a, b, c] = .r [.n a.int, .n b.int, .n c.int]; rw [<- Ck h1, <- Ck h2, <- Ck h3]
 | .r [], h => simp [mh] at h
 | .r [a], h => simp [mh] at h
 | .r [a, b], h => simp [mh] at h
 | .r (a :: b :: c :: d :: l), h => simp [mh] at h
def kj (d : Dat) : Bool := mh 3 d && decide (0 <= d.i 1 /\ d.i 1 <= 1125899906842624 /\ 0 <= d.i 2 /\ d.i 2 <= 1125899906842624)
theorem cu {d : Dat} (h : kj d = true) : mh 3 d = true /\ 0 <= d.i 1 /\ d.i 1 <= 1125899906842624 /\ 0 <= d.i 2 /\ d.i 2 <= 1125899906842624 := by
 simp only [kj, zab, zac] at h; exact h
def aY (c : List Dat) : Bool := decide (c.length <= 1000) && c.all kj
theorem bO {c : List Dat} (h : aY c = true) : c.length <= 1000 /\ ∀ d ∈ c, kj d = true := by
 simp only [aY, zab, zac, zam] at h; exact h
theorem vw {c : List Dat} (h1 : c.length <= 1000) (h2 : ∀ d ∈ c, kj d = true) : aY c = true := by
 simp only [aY, zab, zac, zam]; exact ⟨h1, h2⟩
def ck (j : Nat) (x : Int) (d : Dat) : Dat := if j = 1 then .r [.n (d.i 0), .n (d.i 1 - x), .n (d.i 2)] else .r [.n (d.i 0), .n (d.i 1), .n (d.i 2 - x)]
def bP (j : Nat) : List Int -> List Dat -> List Dat
 | x :: xs, d :: c => ck j x d :: bP j xs c
 | _, _ => []
def bJ (at_ kind : Int) : Int -> List Int -> List Dat
 | _, [] => []
 | i, x :: xs => (if 0 < x then [.r [.n at_, .n kind, .n i, .n x]] else []) ++ bJ at_ kind (i + 1) xs
def kx (at_ kind n : Int) : List Dat := if 0 < n then [.r [.n at_, .n kind, .n (-1), .n n]] else []
def aw (sel : Dat -> Bool) (j : Nat) (n : Int) (c : List Dat) : List Int := cC n (c.map fun d => bif sel d then d.i j else 0)
def aI (r : Int) (d : Dat) : Bool := d.i 0 == r
def bt (at_ kind : Int) : Nat -> Int -> Int -> List Dat -> List Dat × List Dat × Int
 | 0, _, _, c => (c, [], 0)
 | k + 1, r, n, c =>
  ((bt at_ kind k (r + 1) (n - (aw (aI r) 1 n c).sum) (bP 1 (aw (aI r) 1 n c) c)).1,
   bJ at_ kind 0 (aw (aI r) 1 n c) ++ (bt at_ kind k (r + 1) (n - (aw (aI r) 1 n c).sum) (bP 1 (aw (aI r) 1 n c) c)).2.1,
   (aw (aI r) 1 n c).sum + (bt at_ kind k (r + 1) (n - (aw (aI r) 1 n c).sum) (bP 1 (aw (aI r) 1 n c) c)).2.2)
def dF (at_ kind rank : Int) (x : bk) (c : List Dat) : bk × List Dat × List Dat :=
 if kind = 1 then ({ x with az := x.az - min x.fee x.az, fee := x.fee - min x.fee x.az }, c, kx at_ kind (min x.fee x.az))
 else if kind = 2 then ({ x with az := x.az - min x.bK x.az, bK := x.bK - min x.bK x.az }, c, kx at_ kind (min x.bK x.az))
 else if kind = 6 then ({ x with az := x.az - min x.room x.az, room := x.room - min x.room x.az }, c, kx at_ kind (min x.room x.az))
 else if kind = 3 then ({ x with az := x.az - (aw (aI rank) 2 x.az c).sum }, bP 2 (aw (aI rank) 2 x.az c) c, bJ at_ kind 0 (aw (aI rank) 2 x.az c))
 else if kind = 4 then ({ x with az := x.az - (bt at_ kind 8 0 (min x.au x.az) c).2.2, au := x.au - (bt at_ kind 8 0 (min x.au x.az) c).2.2 }, (bt at_ kind 8 0 (min x.au x.az) c).1, (bt at_ kind 8 0 (min x.au x.az) c).2.1)
 else if kind = 5 then ({ x with az := x.az - (aw (fun _ => true) 1 (min x.au x.az) c).sum, au := x.au - (aw (fun _ => true) 1 (min x.au x.az) c).sum }, bP 1 (aw (fun _ => true) 1 (min x.au x.az) c) c, bJ at_ kind 0 (aw (fun _ => true) 1 (min x.au x.az) c))
 else if kind = 7 then ({ x with az := x.az - (bt at_ kind 8 0 x.az c).2.2 }, (bt at_ kind 8 0 x.az c).1, (bt at_ kind 8 0 x.az c).2.1)
 else (x, c, [])
def dK : Int -> List Dat -> bk -> List Dat -> bk × List Dat × List Dat
 | _, [], x, c => (x, c, [])
 | at_, s :: l, x, c => ((dK (at_ + 1) l (dF at_ (s.i 0) (s.i 1) x c).1 (dF at_ (s.i 0) (s.i 1) x c).2.1).1, (dK (at_ + 1) l (dF at_ (s.i 0) (s.i 1) x c).1 (dF at_ (s.i 0) (s.i 1) x c).2.1).2.1, (dF at_ (s.i 0) (s.i 1) x c).2.2 ++ (dK (at_ + 1) l (dF at_ (s.i 0) (s.i 1) x c).1 (dF at_ (s.i 0) (s.i 1) x c).2.1).2.2)
def nQ (x : bk) : Bool := decide ((0 <= x.az /\ x.az <= 1152921504606846976) /\ (0 <= x.fee /\ x.fee <= 1152921504606846976) /\ (0 <= x.bK /\ x.bK <= 1152921504606846976) /\ (0 <= x.au /\ x.au <= 1152921504606846976) /\ (0 <= x.room /\ x.room <= 1152921504606846976))
theorem ti {x : bk} (h : nQ x = true) : (0 <= x.az /\ x.az <= 1152921504606846976) /\ (0 <= x.fee /\ x.fee <= 1152921504606846976) /\ (0 <= x.bK /\ x.bK <= 1152921504606846976) /\ (0 <= x.au /\ x.au <= 1152921504606846976) /\ (0 <= x.room /\ x.room <= 1152921504606846976) := zak h
def Eb (sel : Dat -> Bool) (j : Nat) (c : List Dat) : Int := (c.map fun d => bif sel d then d.i j else 0).sum
theorem mz {c : List Dat} (sel : Dat -> Bool) {j : Nat} (hj : j = 1 \/ j = 2) (h : aY c = true) : (∀ x ∈ (c.map fun d => bif sel d then d.i j else 0), 0 <= x /\ x <= 1125899906842624) /\ kQ (c.map fun d => bif sel d then d.i j else 0) = true /\ 0 <= Eb sel j c /\ Eb sel j c <= 1125899906842624 * c.length := by
 obtain ⟨h1, h2⟩ := bO h; have hb : ∀ x ∈ (c.map fun d => bif sel d then d.i j else 0), 0 <= x /\ x <= 1125899906842624 := by
  intro x hx; obtain ⟨d, hd, rfl⟩ := za3.1 hx; have := cu (h2 d hd); cases sel d
  . simp only [zap]; omega
  . rcases hj with rfl | rfl <;> simp only [zaG] <;> omega
 have hl : (c.map fun d => bif sel d then d.i j else 0).length = c.length := by simp
 have hm : ((c.map fun d => bif sel d then d.i j else 0).length : Int) * 1125899906842624 <= 1152921504606846976 := by rw [hl]; omega
 have hs := qN _ 1125899906842624 (by decide) hb; rw [hl] at hs; exact ⟨hb, (tG (by decide) hb hm).2, hs.1, by unfold Eb; omega⟩
theorem BM {n : Int} {l : List Int} (h : n <= 0) : cC n l = cC 0 l := by
 unfold cC; rw [show max n 0 = max 0 0 by omega]
theorem eB {c : List Dat} (sel : Dat -> Bool) {j : Nat} (hj : j = 1 \/ j = 2) (n : Int) (h : aY c = true) : (aw sel j n c).length = c.length /\ (aw sel j n c).sum = min (max n 0) (Eb sel j c) /\ ∀ i, i < c.length -> 0 <= (aw sel j n c).getD i 0 /\ (aw sel j n c).getD i 0 <= bif sel (ae c i) then (ae c i).i j else 0 := by
 obtain ⟨hb, ho, hw0, hw1⟩ := mz sel hj h; have e : aw sel j n c = cC (max n 0) (c.map fun d => bif sel d then d.i j else 0) := by
  by_cases hn : 0 <= n
  . rw [show max n 0 = n by omega]; rfl
  . rw [show max n 0 = 0 by omega]; exact BM (by omega)
 rw [e]; obtain ⟨h1, h2⟩ := AT (a := max n 0) (by omega) ho; refine ⟨by rw [uh]; simp, h1, fun i hi => ?_⟩; have := h2 i (by simpa using hi)
 rwa [show (c.map fun d => bif sel d then d.i j else 0).getD i 0 = bif sel (ae c i) then (ae c i).i j else 0 by simp [zah, hi, ae]] at this
theorem mY (j : Nat) : ∀ (xs : List Int) (c : List Dat), xs.length = c.length -> (bP j xs c).length = c.length
 | [], [], _ => rfl
 | x :: xs, d :: c, h => by simp [bP, mY j xs c (by simpa using h)]
 | [], _ :: _, h => by simp at h
 | _ :: _, [], h => by simp at h
theorem mL (j : Nat) : ∀ (xs : List Int) (c : List Dat) (i : Nat), xs.length = c.length -> i < c.length -> ae (bP j xs c) i = ck j (xs.getD i 0) (ae c i)
 | [], [], i, _, h => by simp at h
 | x :: xs, d :: c, 0, _, _ => rfl
 | x :: xs, d :: c, i + 1, h, hi => mL j xs c i (by simpa using h) (by simpa using hi)
 | [], _ :: _, _, h, _ => by simp at h
 | _ :: _, [], _, h, _ => by simp at h
theorem gp {l : List Dat} {d : Dat} (h : d ∈ l) : ∃ i, i < l.length /\ ae l i = d := by
 obtain ⟨i, hi, rfl⟩ := List.getElem_of_mem h; exact ⟨i, hi, eH hi⟩
theorem nK {l : List Dat} {i : Nat} (h : i < l.length) : ae l i ∈ l := by rw [eH h]; exact zbx h
theorem A6 {d : Dat} {j : Nat} {x : Int} (hj : j = 1 \/ j = 2) (h : kj d = true) (h0 : 0 <= x) (h1 : x <= d.i j) : kj (ck j x d) = true := by
 have := cu h; rcases hj with rfl | rfl
 . simp only [ck, za7, kj, zab, zac, ez, hG]; exact ⟨rfl, by omega⟩
 . simp only [ck, show ¬ (2 : Nat) = 1 by decide, zbh, kj, zab, zac, ez, hG]; exact ⟨rfl, by omega⟩
theorem pk {c : List Dat} (sel : Dat -> Bool) {j : Nat} (hj : j = 1 \/ j = 2) (n : Int) (h : aY c = true) : aY (bP j (aw sel j n c) c) = true /\ (bP j (aw sel j n c) c).length = c.length := by
 obtain ⟨l1, l2, l3⟩ := eB sel hj n h; obtain ⟨h1, h2⟩ := bO h; have hl := mY j _ c l1; refine ⟨vw (by omega) fun d hd => ?_, hl⟩; obtain ⟨i, hi, rfl⟩ := gp hd; rw [hl] at hi; rw [mL j _ c i l1 hi]; have := l3 i hi; have hg := h2 _ (nK hi); refine A6 hj hg this.1 ?_
 have h4 := cu hg; cases hs : sel (ae c i) <;> rw [hs] at this
 . rcases hj with rfl | rfl <;> simp only [zap] at this <;> omega
 . exact this.2
theorem jv (a k : Int) : ∀ (xs : List Int) (i : Int), (bJ a k i xs).length <= xs.length
 | [], i => by simp [bJ]
 | x :: xs, i => by
  have := jv a k xs (i + 1); simp only [bJ, zai, zaf]
  split <;> simp <;> omega
theorem CY (a k n : Int) : (kx a k n).length <= 1 := by unfold kx; split <;> simp
theorem tV (a kd : Int) : ∀ (k : Nat) (r n : Int) (c : List Dat), aY c = true -> aY (bt a kd k r n c).1 = true /\ (bt a kd k r n c).1.length = c.length /\ (bt a kd k r n c).2.1.length <= k * c.length /\ 0 <= (bt a kd k r n c).2.2 /\ (bt a kd k r n c).2.2 <= max n 0
 | 0, r, n, c, h => ⟨h, rfl, by simp [bt], by simp [bt], by simp only [bt]; omega⟩
 | k + 1, r, n, c, h => by
  obtain ⟨g1, g2⟩ := pk (aI r) (j := 1) (.inl rfl) n h; obtain ⟨l1, l2, l3⟩ := eB (aI r) (j := 1) (.inl rfl) n h; obtain ⟨_, _, w0, w1⟩ := mz (aI r) (j := 1) (.inl rfl) h; obtain ⟨i1, i2, i3, i4, i5⟩ := tV a kd k (r + 1) (n - (aw (aI r) 1 n c).sum) _ g1; have hp := jv a kd (aw (aI r) 1 n c) 0; simp only [bt]; refine ⟨i1, by omega, ?_, by omega, by omega⟩; rw [zai, za8]; rw [g2] at i3; omega
theorem vL (a kd rk : Int) {x : bk} {c : List Dat} (hx : nQ x = true) (h : aY c = true) : nQ (dF a kd rk x c).1 = true /\ aY (dF a kd rk x c).2.1 = true /\ (dF a kd rk x c).2.1.length = c.length /\ (dF a kd rk x c).2.2.length <= 8000 := by
 have hx' := ti hx; have hc := (bO h).1; have p1 := CY a kd; have s2 := fun sel j hj n => eB (c := c) sel (j := j) hj n h
 have w2 := fun sel j hj => (mz (c := c) sel (j := j) hj h).2.2
 have g2 := fun sel j hj n => pk (c := c) sel (j := j) hj n h
 have r2 := fun n => tV a kd 8 0 n c h
 unfold dF
 by_cases k1 : kd = 1
 . rw [if_pos k1]; exact ⟨zad (by simp only; omega), h, rfl, by have := p1 (min x.fee x.az); simp only; omega⟩
 rw [if_neg k1]
 by_cases k1 : kd = 2
 . rw [if_pos k1]; exact ⟨zad (by simp only; omega), h, rfl, by have := p1 (min x.bK x.az); simp only; omega⟩
 rw [if_neg k1]
 by_cases k1 : kd = 6
 . rw [if_pos k1]; exact ⟨zad (by simp only; omega), h, rfl, by have := p1 (min x.room x.az); simp only; omega⟩
 rw [if_neg k1]
 by_cases k1 : kd = 3
 . rw [if_pos k1]; have q1 := s2 (aI rk) 2 (.inr rfl) x.az; have q2 := w2 (aI rk) 2 (.inr rfl); have q3 := g2 (aI rk) 2 (.inr rfl) x.az; have q4 := jv a kd (aw (aI rk) 2 x.az c) 0; exact ⟨zad (by simp only; omega), q3.1, q3.2, by simp only; omega⟩
 rw [if_neg k1]
 by_cases k1 : kd = 4
 . rw [if_pos k1]; have q := r2 (min x.au x.az); generalize bt a kd 8 0 (min x.au x.az) c = y at *
   exact ⟨zad (by simp only; omega), q.1, q.2.1, by simp only; omega⟩
 rw [if_neg k1]
 by_cases k1 : kd = 5
 . rw [if_pos k1]; have q1 := s2 (fun _ => true) 1 (.inl rfl) (min x.au x.az); have q2 := w2 (fun _ => true) 1 (.inl rfl); have q3 := g2 (fun _ => true) 1 (.inl rfl) (min x.au x.az); have q4 := jv a kd (aw (fun _ => true) 1 (min x.au x.az) c) 0; exact ⟨zad (by simp only; omega), q3.1, q3.2, by simp only; omega⟩
 rw [if_neg k1]
 by_cases k1 : kd = 7
 . rw [if_pos k1]; have q := r2 x.az; generalize bt a kd 8 0 x.az c = y at *
   exact ⟨zad (by simp only; omega), q.1, q.2.1, by simp only; omega⟩
 rw [if_neg k1]; exact ⟨hx, h, rfl, by simp⟩
theorem Ei : ∀ (l : List Dat) (a : Int) (x : bk) (c : List Dat), nQ x = true -> aY c = true -> nQ (dK a l x c).1 = true /\ aY (dK a l x c).2.1 = true /\ (dK a l x c).2.1.length = c.length /\ (dK a l x c).2.2.length <= 8000 * l.length
 | [], a, x, c, hx, h => ⟨hx, h, rfl, by simp [dK]⟩
 | s :: l, a, x, c, hx, h => by
  obtain ⟨h1, h2, h3, h4⟩ := vL a (s.i 0) (s.i 1) hx h; obtain ⟨i1, i2, i3, i4⟩ := Ei l (a + 1) _ _ h1 h2; simp only [dK, zai, zaf]; exact ⟨i1, i2, by omega, by omega⟩
def gT (sel : Dat -> Bool) : Int -> List Dat -> List Int
 | _, [] => []
 | i, d :: c => bif sel d then i :: gT sel (i + 1) c else gT sel (i + 1) c
def dz (sel : Dat -> Bool) (j : Nat) : List Dat -> List Int
 | [] => []
 | d :: c => bif sel d then d.i j :: dz sel j c else dz sel j c
def lj (j : Nat) : List Int -> List Int -> List Dat -> List Dat
 | w :: ws, x :: xs, c => lj j ws xs (c.set w.toNat (ck j x (ae c w.toNat)))
 | _, _, c => c
def sK (at_ kind : Int) : List Int -> List Int -> List Dat
 | w :: ws, x :: xs => (if 0 < x then [.r [.n at_, .n kind, .n w, .n x]] else []) ++ sK at_ kind ws xs
 | _, _ => []
theorem Fc {j : Nat} {d : Dat} (h : mh 3 d = true) : ck j 0 d = d := by
 have e := CR h; unfold ck; rw [zbo, zbo, <- e]
 split <;> rfl
theorem nH (sel : Dat -> Bool) (j : Nat) : ∀ (rest pre : List Dat) (xs : List Int), xs.length = bD (rest.map sel) -> (∀ d ∈ rest, mh 3 d = true) ->
 lj j (gT sel pre.length rest) xs (pre ++ rest) = pre ++ bP j (bC (rest.map sel) xs) rest
 | [], pre, xs, h, _ => by rw [zau h]; simp [gT, lj, bP, bC]
 | d :: rest, pre, xs, h, hr => by
  have ih := fun xs h y => nH sel j rest (pre ++ [y]) xs h (fun z hz => hr z (by simp [hz]))
  simp only [zai, zaf, zaB, zaA, zaY, zaH, zas, zaa, zaD] at ih; simp only [zaX] at h; cases hs : sel d
  . rw [hs] at h; simp only [gT, hs, zap, zaX, bC, bP]; rw [Fc (hr d (by simp)), <- ih xs h d]
  . rw [hs] at h; cases xs with
    | nil => simp [bD] at h
    | cons x xs =>
     simp only [gT, hs, zaG, zaX, bC, bP, lj, zaC, sP, ar, List.headD_cons, List.tail_cons]; exact ih xs (by simpa [bD] using h) _
theorem pO (a k : Int) (sel : Dat -> Bool) : ∀ (rest : List Dat) (i : Int) (xs : List Int), xs.length = bD (rest.map sel) -> sK a k (gT sel i rest) xs = bJ a k i (bC (rest.map sel) xs)
 | [], i, xs, h => by rw [zau h]; rfl
 | d :: rest, i, xs, h => by
  have ih := fun xs h => pO a k sel rest (i + 1) xs h
  simp only [zaX] at h; cases hs : sel d
  . rw [hs] at h; simp only [gT, hs, zap, zaX, bC, bJ]; rw [ih xs h]; rfl
  . rw [hs] at h; cases xs with
    | nil => simp [bD] at h
    | cons x xs =>
     simp only [gT, hs, zaG, zaX, bC, bJ, sK, List.headD_cons, List.tail_cons]; rw [ih xs (by simpa [bD] using h)]
theorem xZ (sel : Dat -> Bool) (j : Nat) : ∀ c : List Dat, (c.map fun d => bif sel d then d.i j else 0) = bC (c.map sel) (dz sel j c)
 | [] => rfl
 | d :: c => by
  have := xZ sel j c; simp only [zaX, dz]; cases hs : sel d <;> simp [bC, this]
theorem uE (sel : Dat -> Bool) (j : Nat) : ∀ c : List Dat, (dz sel j c).length = bD (c.map sel)
 | [] => rfl
 | d :: c => by
  have := uE sel j c; cases hs : sel d <;> simp [dz, hs, bD, this]
theorem pw (sel : Dat -> Bool) : ∀ (c : List Dat) (i : Int), (gT sel i c).length = bD (c.map sel)
 | [], _ => rfl
 | d :: c, i => by
  have := pw sel c (i + 1); cases hs : sel d <;> simp [gT, hs, bD, this]
theorem kL : ∀ ms : List Bool, bD ms <= ms.length
 | [] => zao _
 | false :: ms => by have := kL ms; simp [bD]; omega
 | true :: ms => by have := kL ms; simp [bD]; omega
theorem o9 (sel : Dat -> Bool) : ∀ (c : List Dat) (i : Int), ∀ w ∈ gT sel i c, i <= w /\ w < i + c.length
 | [], i, w, h => by simp [gT] at h
 | d :: c, i, w, h => by
  have ih := o9 sel c (i + 1) w; simp only [zaf, zas]; cases hs : sel d <;> simp only [gT, hs, zap, zaG, zaV] at h
  . have := ih h; omega
  . rcases h with h | h
    . omega
    . have := ih h; omega
theorem o6 (sel : Dat -> Bool) (j : Nat) : ∀ c : List Dat, ∀ x ∈ dz sel j c, ∃ d ∈ c, x = d.i j
 | [], x, h => by simp [dz] at h
 | d :: c, x, h => by
  cases hs : sel d <;> simp only [dz, hs, zap, zaG, zaV] at h
  . obtain ⟨e, h1, h2⟩ := o6 sel j c x h; exact ⟨e, by simp [h1], h2⟩
  . rcases h with h | h
    . exact ⟨d, by simp, h⟩
    . obtain ⟨e, h1, h2⟩ := o6 sel j c x h; exact ⟨e, by simp [h1], h2⟩
theorem j5 (sel : Dat -> Bool) {j : Nat} (hj : j = 1 \/ j = 2) (n : Int) {c : List Dat} (h : aY c = true) : aw sel j n c = bC (c.map sel) (cC n (dz sel j c)) := by
 obtain ⟨h1, h2⟩ := bO h; unfold aw; rw [xZ]; refine FH (c.map sel) n (dz sel j c) (uE sel j c) 1125899906842624 (by decide) (fun x hx => ?_) (by simp; omega); obtain ⟨d, hd, rfl⟩ := o6 sel j c x hx; have := cu (h2 d hd); rcases hj with rfl | rfl <;> omega
theorem tL (sel : Dat -> Bool) {j : Nat} (hj : j = 1 \/ j = 2) (n : Int) {c : List Dat} (h : aY c = true) : (cC n (dz sel j c)).length = bD (c.map sel) /\ (∀ x ∈ cC n (dz sel j c), 0 <= x /\ x <= 1125899906842624) /\ 0 <= (cC n (dz sel j c)).sum /\ (cC n (dz sel j c)).sum <= 1125899906842624000 /\ (cC n (dz sel j c)).sum = (aw sel j n c).sum := by
 obtain ⟨h1, h2⟩ := bO h; have hb : ∀ x ∈ dz sel j c, 0 <= x /\ x <= 1125899906842624 := fun x hx => by
  obtain ⟨d, hd, rfl⟩ := o6 sel j c x hx; have := cu (h2 d hd); rcases hj with rfl | rfl <;> omega
 have hl := uE sel j c; have ht := kL (c.map sel); rw [za5] at ht; have hok := (tG (l := dz sel j c) (b := 1125899906842624) (by decide) hb (by omega)).2; have e : cC n (dz sel j c) = cC (max n 0) (dz sel j c) := by
  by_cases hn : 0 <= n
  . rw [show max n 0 = n by omega]
  . rw [show max n 0 = 0 by omega]; exact BM (by omega)
 obtain ⟨p1, p2⟩ := AT (a := max n 0) (by omega) hok; have hm : ∀ x ∈ cC n (dz sel j c), 0 <= x /\ x <= 1125899906842624 := by
  intro x hx; obtain ⟨i, hi, rfl⟩ := pz hx; rw [uh] at hi; rw [e]; have := p2 i hi; have := hb _ (jI hi); omega
 have hlen : (cC n (dz sel j c)).length = bD (c.map sel) := by rw [uh, hl]
 have hs := qN _ _ (by decide) hm; rw [hlen] at hs; refine ⟨hlen, hm, hs.1, by omega, ?_⟩; rw [j5 sel hj n h, mH _ _ hlen]
def LW : aD := ⟨Ge.tab, 136, ⟨[.ptr 0 0 0, .int .i64, .fn 167 [] [.ptr 3 0 0], .fn 138 [] []], [.cells [.int .i64, .int .i64, .int .i64, .int .i64, .int .i64, .buf 1 3, .int .i64, .int .i64, .buf 2 4], .ag (sI 3), .ag (sI 4), .cells [.int .i64]], 0⟩, ⟨[.int .i64], [.cells [.int .i64, .int .i64, .int .i64, .int .i64, .int .i64, .buf 1 3, .int .i64, .int .i64, .buf 4 4], .ag (sI 3), .gone, .gone, .ag (sI 4)], 0⟩, []⟩
abbrev Ay : Type := Int × Int × Int × bk × Int × Int × List Dat × List Int × List Int × List Dat
abbrev zj : Type := Int × Int × Int × bk × Int × Int × List Dat × Int × List Int × List Int × List Dat
def sZ (m : Nat) (k : Ay -> Option (List Un)) : Ay -> Option (List Un) := fun (a0, a1, a2, a3, a4, a5, a6, a7, a8, a9) =>
 bif decide (a2 < a1) then
 chk (inb a2 a8.length) <|
 chk (decide (a2.toNat < a8.length)) <|
 chk (inb a2 a7.length) <|
 chk (decide (a2.toNat < a7.length)) <|
 chk (inb (a7.getD a2.toNat 0) a6.length) <|
 chk (decide ((a7.getD a2.toNat 0).toNat < a6.length)) <|
 chk (decide ((a7.getD a2.toNat 0).toNat < a6.length)) <|
 lt (ae a6 ((a7.getD a2.toNat 0).toNat) : Dat) fun d4 =>
 lt ((List.set a6 ((a7.getD a2.toNat 0).toNat) (.r [.n (d4.i 0), .n (d4.i 1), .n (w64 (((ae a6 ((a7.getD a2.toNat 0).toNat)).i 2) - (a8.getD a2.toNat 0)))])) : List Dat) fun l5 =>
 lt ((w64 (a0 + (a8.getD a2.toNat 0))) : Int) fun x6 =>
 chk (inb a2 a7.length) <|
 chk (decide (a2.toNat < a7.length)) <|
 bif (decide ((a8.getD a2.toNat 0) > 0)) then
 chk (fits (a9.length + 1) 32) <|
 k (x6, a1, (w64 (a2 + 1)), a3, a4, a5, l5, a7, a8, (a9 ++ ([.r [.n a4, .n a5, .n (a7.getD a2.toNat 0), .n (a8.getD a2.toNat 0)]])))
 else
 k (x6, a1, (w64 (a2 + 1)), a3, a4, a5, l5, a7, a8, a9)
 else
 some ([.i a0] ++ Uns.enc (({ a3 with az := (w64 (a3.az - a0)) } : bk) : bk) ++ [.i a4, .i a5, .d a6, .d a9])
def oI (m : Nat) : Nat -> Ay -> Option (List Un) := bp (sZ m)
theorem rU (m : Nat) (n : Nat) : oI m (n + 1) = sZ m (oI m n) := rfl
def Dv (F : Ay -> Option (List Un)) : aT := ⟨[.lp [0, 1, 0, 1, 1, 1, 1], .blk 2, .code [1, 1, 1, 1, 1]], ⟨frm 88 [(0, .ptr 0 0 0), (3, .fn 138 [] []), (9, .buf 4 1), (13, .int .i64), (44, .buf 5 1), (45, .int .i64), (46, .int .i64)], [.cells [.int .i64, .int .i64, .int .i64, .int .i64, .int .i64, .buf 1 3, .int .i64, .int .i64, .buf 6 4], .ag (sI 3), .gone, .gone, .ints .i64, .ints .i64, .ag (sI 4)], 0⟩, onU F⟩
def tt (m : Nat) (k : zj -> Option (List Un)) : zj -> Option (List Un) := fun (a0, a1, a2, a3, a4, a5, a6, a7, a8, a9, a10) =>
 bif decide (a2 < a1) then
 chk (inb a2 a6.length) <|
 chk (decide (a2.toNat < a6.length)) <|
 lt (ae a6 a2.toNat : Dat) fun d1 =>
 bif (d1.i 0) == a7 then
 chk (fits (a8.length + 1) 8) <|
 chk (fits (a9.length + 1) 8) <|
 k (a0, a1, (w64 (a2 + 1)), a3, a4, a5, a6, a7, (a8 ++ ([a2])), (a9 ++ ([(d1.i 2)])), a10)
 else
 k (a0, a1, (w64 (a2 + 1)), a3, a4, a5, a6, a7, a8, a9, a10)
 else
 chk (decide (a0 <= 9223372036854775807 /\ a9.length < 1099511627776)) <|
 oI m m (0, ((cC a0 a9).length : Int), 0, a3, a4, a5, a6, a8, (cC a0 a9), a10)
def qw (m : Nat) : Nat -> zj -> Option (List Un) := bp (tt m)
theorem sj (m : Nat) (n : Nat) : qw m (n + 1) = tt m (qw m n) := rfl
def CK (F : zj -> Option (List Un)) : aT := ⟨[.lp [0, 1, 0, 1, 1], .blk 0, .code [1, 1, 1]], ⟨frm 88 [(0, .ptr 0 0 0), (1, .int .i64), (2, .fn 167 [] [.ptr 4 0 0]), (3, .fn 138 [] []), (9, .buf 5 1), (10, .buf 6 1), (20, .buf 1 3), (21, .int .i64), (22, .int .i64)], [.cells [.int .i64, .int .i64, .int .i64, .int .i64, .int .i64, .buf 1 3, .int .i64, .int .i64, .buf 7 4], .ag (sI 3), .gone, .gone, .cells [.int .i64], .ints .i64, .ints .i64, .ag (sI 4)], 0⟩, onU F⟩
theorem Oe (m : Nat) : ∀ n, HO LW (Dv (oI m n)) := ay ak Ge.right (fun k => [Dv k]) (fun k h => (aJ h aA)) fun k a => by kernel_rfl
theorem OX (m : Nat) : ∀ n, HO LW (CK (qw m n)) := ay ak Ge.right (fun k => [CK k, Dv (oI m m)]) (fun k h => (aJ h (aJ (Oe m m) aA))) fun k a => by kernel_rfl
def MU (m : Nat) : Int × bk × Int × Int × List Dat × List Dat × Int -> Option (List Un) := fun (a0, a1, a2, a3, a4, a5, a6) =>
 qw m m (a0, (a4.length : Int), 0, a1, a2, a3, a4, a6, [], [], a5)
theorem Lq (m : Nat) (nn : Int) (hnn : nn <= 9223372036854775807) (y : bk) (q kd : Int) (rk : Int) (out : List Dat) : ∀ (rest pre : List Dat) (n : Nat) (who what : List Int), rest.length < n -> (pre ++ rest).length <= 1000 -> who.length <= pre.length -> what.length <= pre.length ->
 qw m n (nn, ((pre ++ rest).length : Int), (pre.length : Int), y, q, kd, pre ++ rest, rk, who, what, out) =
  oI m m (0, ((cC nn (what ++ dz (aI rk) 2 rest)).length : Int), 0, y, q, kd, pre ++ rest, who ++ gT (aI rk) pre.length rest, cC nn (what ++ dz (aI rk) 2 rest), out) := by
 intro rest
 induction rest with
 | nil =>
  intro pre n who what hn hl h1 h2; obtain ⟨n, rfl⟩ := al n (by simp at hn; omega); rw [sj]; unfold tt; dsimp only; simp only [zaK, gT, dz] at hl ⊢; rw [aB (by omega), aV ⟨hnn, by omega⟩]
 | cons x rest ih =>
  intro pre n who what hn hl h1 h2; obtain ⟨n, rfl⟩ := al n (by simp at hn; omega); simp only [zai, zaf] at hl hn; rw [sj]; unfold tt; dsimp only; simp only [lt_eq]
  by_cases hs : x.i 0 = rk
  . have := ih (pre ++ [x]) n (who ++ [(pre.length : Int)]) (what ++ [x.i 2]) (by omega) (by simp; omega) (by simp; omega) (by simp; omega); simp only [gT, dz, aI, me hs, zaG] at this ⊢; simp (disch := omega) only [TRa, TRi, aa, LNl, LNi, zaa, ar, cm]; simp only [LNl, LNi, zaa] at this ⊢; exact this
  . have := ih (pre ++ [x]) n who what (by omega) (by simp; omega) (by simp; omega) (by simp; omega); simp only [gT, dz, aI, mT hs, zap] at this ⊢; simp (disch := omega) only [TRa, TRi, aa, LNl, LNi, zaa, ar, cm]; simp only [LNl, LNi, zaa] at this ⊢; exact this
theorem LO (m : Nat) (y : bk) (hy : 0 <= y.az /\ y.az <= 1152921504606846976) (q kd : Int) : ∀ (rest done ws wd : List Int) (c out : List Dat) (n : Nat) (paid : Int), rest.length < n -> ws.length = rest.length -> wd.length = done.length -> (done ++ rest).length <= 1000 -> (∀ w ∈ ws, 0 <= w /\ w < c.length) -> (∀ x ∈ rest, 0 <= x /\ x <= 1152921504606846976) -> 0 <= paid -> paid + rest.sum <= 1152921504606846976 -> (∀ i, i < c.length -> - paid <= (ae c i).i 2 /\ (ae c i).i 2 <= 1152921504606846976) -> c.length <= 1000 -> out.length + rest.length <= 137438953472 ->
 oI m n (paid, ((done ++ rest).length : Int), (done.length : Int), y, q, kd, c, wd ++ ws, done ++ rest, out) =
  some ([.i (paid + rest.sum)] ++ Uns.enc (({ y with az := y.az - (paid + rest.sum) } : bk) : bk) ++ [.i q, .i kd, .d (lj 2 ws rest c), .d (out ++ sK q kd ws rest)]) := by
 intro rest
 induction rest with
 | nil =>
  intro done ws wd c out n paid hn e1 e2 hl hw hx p0 p1 hc cl ol; obtain ⟨n, rfl⟩ := al n (by simp at hn; omega); obtain rfl := zau e1; rw [rU]; unfold sZ; dsimp only; simp only [zaK, lj, sK, List.sum_nil, zbG] at p1 ⊢; rw [aB (by omega), aa (by omega) (by omega)]
 | cons x rest ih =>
  intro done ws wd c out n paid hn e1 e2 hl hw hx p0 p1 hc cl ol; obtain ⟨n, rfl⟩ := al n (by simp at hn; omega); cases ws with
  | nil => simp at e1
  | cons w ws =>
  simp only [zai, zaf, zbq] at hl hn e1 p1 ol; have hx0 := hx x (by simp); have hw0 := hw w (by simp); have hs0 := eh rest (fun z hz => (hx z (by simp [hz])).1); obtain ⟨v, rfl⟩ : ∃ v : Nat, w = (v : Int) := ⟨w.toNat, by omega⟩
  have hr := hc v (by omega); have gw : (wd ++ (v : Int) :: ws).getD done.length 0 = v := by rw [<- e2]; exact cm _ _ _ _
  have hset : ∀ i, i < (c.set v (ck 2 x (ae c v))).length -> - (paid + x) <= (ae (c.set v (ck 2 x (ae c v))) i).i 2 /\ (ae (c.set v (ck 2 x (ae c v))) i).i 2 <= 1152921504606846976 := by
   intro i hi; rw [zbg] at hi
   by_cases e : i = v
   . subst e; have e3 : ae (c.set i (ck 2 x (ae c i))) i = ck 2 x (ae c i) := by simp [ae, hi]
     rw [e3]; simp only [ck, show ¬ (2 : Nat) = 1 by decide, zbh, hG]; omega
   . have e3 : ae (c.set v (ck 2 x (ae c v))) i = ae c i := by simp [ae, zbj, Ne.symm e]
     rw [e3]; have := hc i hi; omega
  have := ih (done ++ [x]) ws (wd ++ [(v : Int)]) (c.set v (ck 2 x (ae c v))) (out ++ if 0 < x then [.r [.n q, .n kd, .n v, .n x]] else []) n (paid + x) (by omega) (by omega) (by simp [e2]) (by simp; omega) (fun z hz => by have := hw z (by simp [hz]); simpa using this) (fun z hz => hx z (by simp [hz])) (by omega) (by omega) hset (by simpa using cl) (by split <;> simp <;> omega); simp only [lj, sK, zbq, zaC]; rw [show paid + (x + rest.sum) = paid + x + rest.sum by omega]; rw [<- zaA, <- this]; rw [rU]; unfold sZ; dsimp only; have ec : done ++ [x] ++ rest = done ++ x :: rest := by simp
  have ew : wd ++ [(v : Int)] ++ ws = wd ++ (v : Int) :: ws := by simp
  rw [ec, ew]; have e5 : (ck 2 x (ae c v)) = Dat.r [.n ((ae c v).i 0), .n ((ae c v).i 1), .n ((ae c v).i 2 - x)] := by simp only [ck, show ¬ (2 : Nat) = 1 by decide, zbh]
  rw [e5]; simp only [lt_eq, zaC, gw, cm, zai, zaf, zaB, zaD, zas, zaa]
  by_cases h0 : 0 < x
  . rw [if_pos h0]; simp (disch := omega) only [TRa, TRi, aa, zas]
  . rw [if_neg h0]; simp (disch := omega) only [TRa, TRi, aa, zas, zaK]
def R3 : Int × bk × Int × Int × List Dat × List Dat × Int -> Bool × List Un := fun (a0, a1, a2, a3, a4, a5, a6) => (decide (a0 <= 9223372036854775807 /\ 0 <= a1.az /\ a1.az <= 1152921504606846976 /\ a5.length <= 68719476736) && aY a4, [.i ((aw (aI a6) 2 a0 a4).sum)] ++ Uns.enc (({ a1 with az := a1.az - (aw (aI a6) 2 a0 a4).sum }) : bk) ++ [.i (a2), .i (a3), .d (bP 2 (aw (aI a6) 2 a0 a4) a4), .d (a5 ++ bJ a2 a3 0 (aw (aI a6) 2 a0 a4))])
theorem KV (a0 : Int) (a1 : bk) (a2 : Int) (a3 : Int) (a4 : List Dat) (a5 : List Dat) (a6 : Int) (hc : (decide (a0 <= 9223372036854775807 /\ 0 <= a1.az /\ a1.az <= 1152921504606846976 /\ a5.length <= 68719476736) && aY a4) = true) : ∃ m, MU m (a0, a1, a2, a3, a4, a5, a6) = some ([.i ((aw (aI a6) 2 a0 a4).sum)] ++ Uns.enc (({ a1 with az := a1.az - (aw (aI a6) 2 a0 a4).sum }) : bk) ++ [.i (a2), .i (a3), .d (bP 2 (aw (aI a6) 2 a0 a4) a4), .d (a5 ++ bJ a2 a3 0 (aw (aI a6) 2 a0 a4))]) := by
 simp only [zab, zac] at hc; obtain ⟨⟨h1, h2, h3, h4⟩, h5⟩ := hc; obtain ⟨c1, c2⟩ := bO h5; obtain ⟨p1, p2, p3, p4, p5⟩ := tL (aI a6) (j := 2) (.inr rfl) a0 h5; refine ⟨2000, ?_⟩; unfold MU; refine (Lq 2000 a0 h1 a1 a2 a3 a6 a5 a4 [] 2000 [] [] (by omega) (by simpa using c1) (by simp) (by simp)).trans ?_
 simp only [zaH, zaB]; have ht := kL (a4.map (aI a6)); rw [za5] at ht; have e := LO 2000 a1 ⟨h2, h3⟩ a2 a3 (cC a0 (dz (aI a6) 2 a4)) [] (gT (aI a6) 0 a4) [] a4 a5 2000 0 (by omega) (by rw [p1, pw]) rfl (by simp; omega) (fun w hw => by have := o9 _ _ _ w hw; omega) (fun x hx => by have := p2 x hx; omega) (by omega) (by omega) (fun i hi => by have := cu (c2 _ (nK hi)); omega) c1 (by omega); refine e.trans ?_
 have g1 := nH (aI a6) 2 a4 [] (cC a0 (dz (aI a6) 2 a4)) p1 (fun d hd => (cu (c2 d hd)).1); have g2 := pO a2 a3 (aI a6) a4 0 (cC a0 (dz (aI a6) 2 a4)) p1; simp only [zaH, zaB, zaa] at g1 g2; rw [g1, g2, za0, p5, j5 (aI a6) (j := 2) (.inr rfl) a0 h5]
theorem Iz : ER 136 (mkE LW.en LW.ex R3) := aq ak Ge.right (fun m => [CK (qw m m)]) (t := MU) (by kernel_rfl) (fun m => (aJ (OX m m) aA)) (fun m a => by kernel_rfl) fun (a0, a1, a2, a3, a4, a5, a6) hc => KV a0 a1 a2 a3 a4 a5 a6 hc
def Hb : Tb Tryz.prog LQ TE XX := Ge.add 136 _ Iz
def K9 : aD := ⟨Hb.tab, 136, ⟨[.ptr 0 0 0, .int .i64, .fn 167 [] [.ptr 3 0 0], .fn 141 [] []], [.cells [.int .i64, .int .i64, .int .i64, .int .i64, .int .i64, .buf 1 3, .int .i64, .int .i64, .buf 2 4], .ag (sI 3), .ag (sI 4), .cells [.int .i64]], 0⟩, ⟨[.int .i64], [.cells [.int .i64, .int .i64, .int .i64, .int .i64, .int .i64, .buf 1 3, .int .i64, .int .i64, .buf 4 4], .ag (sI 3), .gone, .gone, .ag (sI 4)], 0⟩, []⟩
abbrev yC : Type := Int × Int × Int × bk × Int × Int × List Dat × List Int × List Int × List Dat
abbrev zy : Type := Int × Int × Int × bk × Int × Int × List Dat × Int × List Int × List Int × List Dat
def sY (m : Nat) (k : yC -> Option (List Un)) : yC -> Option (List Un) := fun (a0, a1, a2, a3, a4, a5, a6, a7, a8, a9) =>
 bif decide (a2 < a1) then
 chk (inb a2 a8.length) <|
 chk (decide (a2.toNat < a8.length)) <|
 chk (inb a2 a7.length) <|
 chk (decide (a2.toNat < a7.length)) <|
 chk (inb (a7.getD a2.toNat 0) a6.length) <|
 chk (decide ((a7.getD a2.toNat 0).toNat < a6.length)) <|
 chk (decide ((a7.getD a2.toNat 0).toNat < a6.length)) <|
 lt (ae a6 ((a7.getD a2.toNat 0).toNat) : Dat) fun d4 =>
 lt ((List.set a6 ((a7.getD a2.toNat 0).toNat) (.r [.n (d4.i 0), .n (w64 (((ae a6 ((a7.getD a2.toNat 0).toNat)).i 1) - (a8.getD a2.toNat 0))), .n (d4.i 2)])) : List Dat) fun l5 =>
 lt ((w64 (a0 + (a8.getD a2.toNat 0))) : Int) fun x6 =>
 chk (inb a2 a7.length) <|
 chk (decide (a2.toNat < a7.length)) <|
 bif (decide ((a8.getD a2.toNat 0) > 0)) then
 chk (fits (a9.length + 1) 32) <|
 k (x6, a1, (w64 (a2 + 1)), a3, a4, a5, l5, a7, a8, (a9 ++ ([.r [.n a4, .n a5, .n (a7.getD a2.toNat 0), .n (a8.getD a2.toNat 0)]])))
 else
 k (x6, a1, (w64 (a2 + 1)), a3, a4, a5, l5, a7, a8, a9)
 else
 some ([.i a0] ++ Uns.enc (({ a3 with az := (w64 (a3.az - a0)) } : bk) : bk) ++ [.i a4, .i a5, .d a6, .d a9])
def ot (m : Nat) : Nat -> yC -> Option (List Un) := bp (sY m)
theorem rq (m : Nat) (n : Nat) : ot m (n + 1) = sY m (ot m n) := rfl
def C9 (F : yC -> Option (List Un)) : aT := ⟨[.lp [0, 1, 0, 1, 1, 1, 1], .blk 2, .code [1, 1, 1, 1, 1]], ⟨frm 88 [(0, .ptr 0 0 0), (3, .fn 141 [] []), (9, .buf 4 1), (13, .int .i64), (44, .buf 5 1), (45, .int .i64), (46, .int .i64)], [.cells [.int .i64, .int .i64, .int .i64, .int .i64, .int .i64, .buf 1 3, .int .i64, .int .i64, .buf 6 4], .ag (sI 3), .gone, .gone, .ints .i64, .ints .i64, .ag (sI 4)], 0⟩, onU F⟩
def tC (m : Nat) (k : zy -> Option (List Un)) : zy -> Option (List Un) := fun (a0, a1, a2, a3, a4, a5, a6, a7, a8, a9, a10) =>
 bif decide (a2 < a1) then
 chk (inb a2 a6.length) <|
 chk (decide (a2.toNat < a6.length)) <|
 lt (ae a6 a2.toNat : Dat) fun d1 =>
 bif (d1.i 0) == a7 then
 chk (fits (a8.length + 1) 8) <|
 chk (fits (a9.length + 1) 8) <|
 k (a0, a1, (w64 (a2 + 1)), a3, a4, a5, a6, a7, (a8 ++ ([a2])), (a9 ++ ([(d1.i 1)])), a10)
 else
 k (a0, a1, (w64 (a2 + 1)), a3, a4, a5, a6, a7, a8, a9, a10)
 else
 chk (decide (a0 <= 9223372036854775807 /\ a9.length < 1099511627776)) <|
 ot m m (0, ((cC a0 a9).length : Int), 0, a3, a4, a5, a6, a8, (cC a0 a9), a10)
def qi (m : Nat) : Nat -> zy -> Option (List Un) := bp (tC m)
theorem rV (m : Nat) (n : Nat) : qi m (n + 1) = tC m (qi m n) := rfl
def Df (F : zy -> Option (List Un)) : aT := ⟨[.lp [0, 1, 0, 1, 1], .blk 0, .code [1, 1, 1]], ⟨frm 88 [(0, .ptr 0 0 0), (1, .int .i64), (2, .fn 167 [] [.ptr 4 0 0]), (3, .fn 141 [] []), (9, .buf 5 1), (10, .buf 6 1), (20, .buf 1 3), (21, .int .i64), (22, .int .i64)], [.cells [.int .i64, .int .i64, .int .i64, .int .i64, .int .i64, .buf 1 3, .int .i64, .int .i64, .buf 7 4], .ag (sI 3), .gone, .gone, .cells [.int .i64], .ints .i64, .ints .i64, .ag (sI 4)], 0⟩, onU F⟩
theorem Nk (m : Nat) : ∀ n, HO K9 (C9 (ot m n)) := ay ak Hb.right (fun k => [C9 k]) (fun k h => (aJ h aA)) fun k a => by kernel_rfl
theorem NW (m : Nat) : ∀ n, HO K9 (Df (qi m n)) := ay ak Hb.right (fun k => [Df k, C9 (ot m m)]) (fun k h => (aJ h (aJ (Nk m m) aA))) fun k a => by kernel_rfl
def MW (m : Nat) : Int × bk × Int × Int × List Dat × List Dat × Int -> Option (List Un) := fun (a0, a1, a2, a3, a4, a5, a6) =>
 qi m m (a0, (a4.length : Int), 0, a1, a2, a3, a4, a6, [], [], a5)
theorem JW (m : Nat) (nn : Int) (hnn : nn <= 9223372036854775807) (y : bk) (q kd : Int) (rk : Int) (out : List Dat) : ∀ (rest pre : List Dat) (n : Nat) (who what : List Int), rest.length < n -> (pre ++ rest).length <= 1000 -> who.length <= pre.length -> what.length <= pre.length ->
 qi m n (nn, ((pre ++ rest).length : Int), (pre.length : Int), y, q, kd, pre ++ rest, rk, who, what, out) =
  ot m m (0, ((cC nn (what ++ dz (aI rk) 1 rest)).length : Int), 0, y, q, kd, pre ++ rest, who ++ gT (aI rk) pre.length rest, cC nn (what ++ dz (aI rk) 1 rest), out) := by
 intro rest
 induction rest with
 | nil =>
  intro pre n who what hn hl h1 h2; obtain ⟨n, rfl⟩ := al n (by simp at hn; omega); rw [rV]; unfold tC; dsimp only; simp only [zaK, gT, dz] at hl ⊢; rw [aB (by omega), aV ⟨hnn, by omega⟩]
 | cons x rest ih =>
  intro pre n who what hn hl h1 h2; obtain ⟨n, rfl⟩ := al n (by simp at hn; omega); simp only [zai, zaf] at hl hn; rw [rV]; unfold tC; dsimp only; simp only [lt_eq]
  by_cases hs : x.i 0 = rk
  . have := ih (pre ++ [x]) n (who ++ [(pre.length : Int)]) (what ++ [x.i 1]) (by omega) (by simp; omega) (by simp; omega) (by simp; omega); simp only [gT, dz, aI, me hs, zaG] at this ⊢; simp (disch := omega) only [TRa, TRi, aa, LNl, LNi, zaa, ar, cm]; simp only [LNl, LNi, zaa] at this ⊢; exact this
  . have := ih (pre ++ [x]) n who what (by omega) (by simp; omega) (by simp; omega) (by simp; omega); simp only [gT, dz, aI, mT hs, zap] at this ⊢; simp (disch := omega) only [TRa, TRi, aa, LNl, LNi, zaa, ar, cm]; simp only [LNl, LNi, zaa] at this ⊢; exact this
theorem KD (m : Nat) (y : bk) (hy : 0 <= y.az /\ y.az <= 1152921504606846976) (q kd : Int) : ∀ (rest done ws wd : List Int) (c out : List Dat) (n : Nat) (paid : Int), rest.length < n -> ws.length = rest.length -> wd.length = done.length -> (done ++ rest).length <= 1000 -> (∀ w ∈ ws, 0 <= w /\ w < c.length) -> (∀ x ∈ rest, 0 <= x /\ x <= 1152921504606846976) -> 0 <= paid -> paid + rest.sum <= 1152921504606846976 -> (∀ i, i < c.length -> - paid <= (ae c i).i 1 /\ (ae c i).i 1 <= 1152921504606846976) -> c.length <= 1000 -> out.length + rest.length <= 137438953472 ->
 ot m n (paid, ((done ++ rest).length : Int), (done.length : Int), y, q, kd, c, wd ++ ws, done ++ rest, out) =
  some ([.i (paid + rest.sum)] ++ Uns.enc (({ y with az := y.az - (paid + rest.sum) } : bk) : bk) ++ [.i q, .i kd, .d (lj 1 ws rest c), .d (out ++ sK q kd ws rest)]) := by
 intro rest
 induction rest with
 | nil =>
  intro done ws wd c out n paid hn e1 e2 hl hw hx p0 p1 hc cl ol; obtain ⟨n, rfl⟩ := al n (by simp at hn; omega); obtain rfl := zau e1; rw [rq]; unfold sY; dsimp only; simp only [zaK, lj, sK, List.sum_nil, zbG] at p1 ⊢; rw [aB (by omega), aa (by omega) (by omega)]
 | cons x rest ih =>
  intro done ws wd c out n paid hn e1 e2 hl hw hx p0 p1 hc cl ol; obtain ⟨n, rfl⟩ := al n (by simp at hn; omega); cases ws with
  | nil => simp at e1
  | cons w ws =>
  simp only [zai, zaf, zbq] at hl hn e1 p1 ol; have hx0 := hx x (by simp); have hw0 := hw w (by simp); have hs0 := eh rest (fun z hz => (hx z (by simp [hz])).1); obtain ⟨v, rfl⟩ : ∃ v : Nat, w = (v : Int) := ⟨w.toNat, by omega⟩
  have hr := hc v (by omega); have gw : (wd ++ (v : Int) :: ws).getD done.length 0 = v := by rw [<- e2]; exact cm _ _ _ _
  have hset : ∀ i, i < (c.set v (ck 1 x (ae c v))).length -> - (paid + x) <= (ae (c.set v (ck 1 x (ae c v))) i).i 1 /\ (ae (c.set v (ck 1 x (ae c v))) i).i 1 <= 1152921504606846976 := by
   intro i hi; rw [zbg] at hi
   by_cases e : i = v
   . subst e; have e3 : ae (c.set i (ck 1 x (ae c i))) i = ck 1 x (ae c i) := by simp [ae, hi]
     rw [e3]; simp only [ck, za7, ez]; omega
   . have e3 : ae (c.set v (ck 1 x (ae c v))) i = ae c i := by simp [ae, zbj, Ne.symm e]
     rw [e3]; have := hc i hi; omega
  have := ih (done ++ [x]) ws (wd ++ [(v : Int)]) (c.set v (ck 1 x (ae c v))) (out ++ if 0 < x then [.r [.n q, .n kd, .n v, .n x]] else []) n (paid + x) (by omega) (by omega) (by simp [e2]) (by simp; omega) (fun z hz => by have := hw z (by simp [hz]); simpa using this) (fun z hz => hx z (by simp [hz])) (by omega) (by omega) hset (by simpa using cl) (by split <;> simp <;> omega); simp only [lj, sK, zbq, zaC]; rw [show paid + (x + rest.sum) = paid + x + rest.sum by omega]; rw [<- zaA, <- this]; rw [rq]; unfold sY; dsimp only; have ec : done ++ [x] ++ rest = done ++ x :: rest := by simp
  have ew : wd ++ [(v : Int)] ++ ws = wd ++ (v : Int) :: ws := by simp
  rw [ec, ew]; have e5 : (ck 1 x (ae c v)) = Dat.r [.n ((ae c v).i 0), .n ((ae c v).i 1 - x), .n ((ae c v).i 2)] := by simp only [ck, za7]
  rw [e5]; simp only [lt_eq, zaC, gw, cm, zai, zaf, zaB, zaD, zas, zaa]
  by_cases h0 : 0 < x
  . rw [if_pos h0]; simp (disch := omega) only [TRa, TRi, aa, zas]
  . rw [if_neg h0]; simp (disch := omega) only [TRa, TRi, aa, zas, zaK]
def RP : Int × bk × Int × Int × List Dat × List Dat × Int -> Bool × List Un := fun (a0, a1, a2, a3, a4, a5, a6) => (decide (a0 <= 9223372036854775807 /\ 0 <= a1.az /\ a1.az <= 1152921504606846976 /\ a5.length <= 68719476736) && aY a4, [.i ((aw (aI a6) 1 a0 a4).sum)] ++ Uns.enc (({ a1 with az := a1.az - (aw (aI a6) 1 a0 a4).sum }) : bk) ++ [.i (a2), .i (a3), .d (bP 1 (aw (aI a6) 1 a0 a4) a4), .d (a5 ++ bJ a2 a3 0 (aw (aI a6) 1 a0 a4))])
theorem KO (a0 : Int) (a1 : bk) (a2 : Int) (a3 : Int) (a4 : List Dat) (a5 : List Dat) (a6 : Int) (hc : (decide (a0 <= 9223372036854775807 /\ 0 <= a1.az /\ a1.az <= 1152921504606846976 /\ a5.length <= 68719476736) && aY a4) = true) : ∃ m, MW m (a0, a1, a2, a3, a4, a5, a6) = some ([.i ((aw (aI a6) 1 a0 a4).sum)] ++ Uns.enc (({ a1 with az := a1.az - (aw (aI a6) 1 a0 a4).sum }) : bk) ++ [.i (a2), .i (a3), .d (bP 1 (aw (aI a6) 1 a0 a4) a4), .d (a5 ++ bJ a2 a3 0 (aw (aI a6) 1 a0 a4))]) := by
 simp only [zab, zac] at hc; obtain ⟨⟨h1, h2, h3, h4⟩, h5⟩ := hc; obtain ⟨c1, c2⟩ := bO h5; obtain ⟨p1, p2, p3, p4, p5⟩ := tL (aI a6) (j := 1) (.inl rfl) a0 h5; refine ⟨2000, ?_⟩; unfold MW; refine (JW 2000 a0 h1 a1 a2 a3 a6 a5 a4 [] 2000 [] [] (by omega) (by simpa using c1) (by simp) (by simp)).trans ?_
 simp only [zaH, zaB]; have ht := kL (a4.map (aI a6)); rw [za5] at ht; have e := KD 2000 a1 ⟨h2, h3⟩ a2 a3 (cC a0 (dz (aI a6) 1 a4)) [] (gT (aI a6) 0 a4) [] a4 a5 2000 0 (by omega) (by rw [p1, pw]) rfl (by simp; omega) (fun w hw => by have := o9 _ _ _ w hw; omega) (fun x hx => by have := p2 x hx; omega) (by omega) (by omega) (fun i hi => by have := cu (c2 _ (nK hi)); omega) c1 (by omega); refine e.trans ?_
 have g1 := nH (aI a6) 1 a4 [] (cC a0 (dz (aI a6) 1 a4)) p1 (fun d hd => (cu (c2 d hd)).1); have g2 := pO a2 a3 (aI a6) a4 0 (cC a0 (dz (aI a6) 1 a4)) p1; simp only [zaH, zaB, zaa] at g1 g2; rw [g1, g2, za0, p5, j5 (aI a6) (j := 1) (.inl rfl) a0 h5]
theorem Ga : ER 136 (mkE K9.en K9.ex RP) := aq ak Hb.right (fun m => [Df (qi m m)]) (t := MW) (by kernel_rfl) (fun m => (aJ (NW m m) aA)) (fun m a => by kernel_rfl) fun (a0, a1, a2, a3, a4, a5, a6) hc => KO a0 a1 a2 a3 a4 a5 a6 hc
def Ht : Tb Tryz.prog LQ TE XX := Hb.add 136 _ Ga
def JO : aD := ⟨Ht.tab, 136, ⟨[.ptr 0 0 0, .int .i64, .fn 140 [] [], .fn 141 [] []], [.cells [.int .i64, .int .i64, .int .i64, .int .i64, .int .i64, .buf 1 3, .int .i64, .int .i64, .buf 2 4], .ag (sI 3), .ag (sI 4)], 0⟩, ⟨[.int .i64], [.cells [.int .i64, .int .i64, .int .i64, .int .i64, .int .i64, .buf 1 3, .int .i64, .int .i64, .buf 3 4], .ag (sI 3), .gone, .ag (sI 4)], 0⟩, []⟩
abbrev yP : Type := Int × Int × Int × bk × Int × Int × List Dat × List Int × List Int × List Dat
abbrev y4 : Type := Int × Int × Int × bk × Int × Int × List Dat × List Int × List Int × List Dat
def tH (m : Nat) (k : yP -> Option (List Un)) : yP -> Option (List Un) := fun (a0, a1, a2, a3, a4, a5, a6, a7, a8, a9) =>
 bif decide (a2 < a1) then
 chk (inb a2 a8.length) <|
 chk (decide (a2.toNat < a8.length)) <|
 chk (inb a2 a7.length) <|
 chk (decide (a2.toNat < a7.length)) <|
 chk (inb (a7.getD a2.toNat 0) a6.length) <|
 chk (decide ((a7.getD a2.toNat 0).toNat < a6.length)) <|
 chk (decide ((a7.getD a2.toNat 0).toNat < a6.length)) <|
 lt (ae a6 ((a7.getD a2.toNat 0).toNat) : Dat) fun d4 =>
 lt ((List.set a6 ((a7.getD a2.toNat 0).toNat) (.r [.n (d4.i 0), .n (w64 (((ae a6 ((a7.getD a2.toNat 0).toNat)).i 1) - (a8.getD a2.toNat 0))), .n (d4.i 2)])) : List Dat) fun l5 =>
 lt ((w64 (a0 + (a8.getD a2.toNat 0))) : Int) fun x6 =>
 chk (inb a2 a7.length) <|
 chk (decide (a2.toNat < a7.length)) <|
 bif (decide ((a8.getD a2.toNat 0) > 0)) then
 chk (fits (a9.length + 1) 32) <|
 k (x6, a1, (w64 (a2 + 1)), a3, a4, a5, l5, a7, a8, (a9 ++ ([.r [.n a4, .n a5, .n (a7.getD a2.toNat 0), .n (a8.getD a2.toNat 0)]])))
 else
 k (x6, a1, (w64 (a2 + 1)), a3, a4, a5, l5, a7, a8, a9)
 else
 some ([.i a0] ++ Uns.enc (({ a3 with az := (w64 (a3.az - a0)) } : bk) : bk) ++ [.i a4, .i a5, .d a6, .d a9])
def oa (m : Nat) : Nat -> yP -> Option (List Un) := bp (tH m)
theorem rQ (m : Nat) (n : Nat) : oa m (n + 1) = tH m (oa m n) := rfl
def Dd (F : yP -> Option (List Un)) : aT := ⟨[.lp [0, 1, 0, 1, 1, 1, 1], .blk 2, .code [1, 1, 1, 1, 1]], ⟨frm 88 [(0, .ptr 0 0 0), (3, .fn 141 [] []), (9, .buf 3 1), (13, .int .i64), (44, .buf 4 1), (45, .int .i64), (46, .int .i64)], [.cells [.int .i64, .int .i64, .int .i64, .int .i64, .int .i64, .buf 1 3, .int .i64, .int .i64, .buf 5 4], .ag (sI 3), .gone, .ints .i64, .ints .i64, .ag (sI 4)], 0⟩, onU F⟩
def tA (m : Nat) (k : y4 -> Option (List Un)) : y4 -> Option (List Un) := fun (a0, a1, a2, a3, a4, a5, a6, a7, a8, a9) =>
 bif decide (a2 < a1) then
 chk (inb a2 a6.length) <|
 chk (decide (a2.toNat < a6.length)) <|
 chk (fits (a7.length + 1) 8) <|
 chk (fits (a8.length + 1) 8) <|
 k (a0, a1, (w64 (a2 + 1)), a3, a4, a5, a6, (a7 ++ ([a2])), (a8 ++ ([((ae a6 a2.toNat).i 1)])), a9)
 else
 chk (decide (a0 <= 9223372036854775807 /\ a8.length < 1099511627776)) <|
 oa m m (0, ((cC a0 a8).length : Int), 0, a3, a4, a5, a6, a7, (cC a0 a8), a9)
def qu (m : Nat) : Nat -> y4 -> Option (List Un) := bp (tA m)
theorem rD (m : Nat) (n : Nat) : qu m (n + 1) = tA m (qu m n) := rfl
def Dh (F : y4 -> Option (List Un)) : aT := ⟨[.lp [0, 1, 0, 1, 1], .blk 0, .code [1, 1, 1]], ⟨frm 88 [(0, .ptr 0 0 0), (1, .int .i64), (2, .fn 140 [] []), (3, .fn 141 [] []), (9, .buf 3 1), (10, .buf 4 1), (20, .buf 1 3), (21, .int .i64), (22, .int .i64)], [.cells [.int .i64, .int .i64, .int .i64, .int .i64, .int .i64, .buf 1 3, .int .i64, .int .i64, .buf 5 4], .ag (sI 3), .gone, .ints .i64, .ints .i64, .ag (sI 4)], 0⟩, onU F⟩
theorem PI (m : Nat) : ∀ n, HO JO (Dd (oa m n)) := ay ak Ht.right (fun k => [Dd k]) (fun k h => (aJ h aA)) fun k a => by kernel_rfl
theorem M0 (m : Nat) : ∀ n, HO JO (Dh (qu m n)) := ay ak Ht.right (fun k => [Dh k, Dd (oa m m)]) (fun k h => (aJ h (aJ (PI m m) aA))) fun k a => by kernel_rfl
def Oy (m : Nat) : Int × bk × Int × Int × List Dat × List Dat -> Option (List Un) := fun (a0, a1, a2, a3, a4, a5) =>
 qu m m (a0, (a4.length : Int), 0, a1, a2, a3, a4, [], [], a5)
theorem Mt (m : Nat) (nn : Int) (hnn : nn <= 9223372036854775807) (y : bk) (q kd : Int) (out : List Dat) : ∀ (rest pre : List Dat) (n : Nat) (who what : List Int), rest.length < n -> (pre ++ rest).length <= 1000 -> who.length <= pre.length -> what.length <= pre.length ->
 qu m n (nn, ((pre ++ rest).length : Int), (pre.length : Int), y, q, kd, pre ++ rest, who, what, out) =
  oa m m (0, ((cC nn (what ++ dz (fun _ => true) 1 rest)).length : Int), 0, y, q, kd, pre ++ rest, who ++ gT (fun _ => true) pre.length rest, cC nn (what ++ dz (fun _ => true) 1 rest), out) := by
 intro rest
 induction rest with
 | nil =>
  intro pre n who what hn hl h1 h2; obtain ⟨n, rfl⟩ := al n (by simp at hn; omega); rw [rD]; unfold tA; dsimp only; simp only [zaK, gT, dz] at hl ⊢; rw [aB (by omega), aV ⟨hnn, by omega⟩]
 | cons x rest ih =>
  intro pre n who what hn hl h1 h2; obtain ⟨n, rfl⟩ := al n (by simp at hn; omega); simp only [zai, zaf] at hl hn; rw [rD]; unfold tA; dsimp only; have := ih (pre ++ [x]) n (who ++ [(pre.length : Int)]) (what ++ [x.i 1]) (by omega) (by simp; omega) (by simp; omega) (by simp; omega); simp only [gT, dz, zaG] at this ⊢; simp (disch := omega) only [TRa, TRi, aa, LNl, LNi, zaa, ar, cm]; simp only [LNl, LNi, zaa] at this ⊢; exact this
theorem JN (m : Nat) (y : bk) (hy : 0 <= y.az /\ y.az <= 1152921504606846976) (q kd : Int) : ∀ (rest done ws wd : List Int) (c out : List Dat) (n : Nat) (paid : Int), rest.length < n -> ws.length = rest.length -> wd.length = done.length -> (done ++ rest).length <= 1000 -> (∀ w ∈ ws, 0 <= w /\ w < c.length) -> (∀ x ∈ rest, 0 <= x /\ x <= 1152921504606846976) -> 0 <= paid -> paid + rest.sum <= 1152921504606846976 -> (∀ i, i < c.length -> - paid <= (ae c i).i 1 /\ (ae c i).i 1 <= 1152921504606846976) -> c.length <= 1000 -> out.length + rest.length <= 137438953472 ->
 oa m n (paid, ((done ++ rest).length : Int), (done.length : Int), y, q, kd, c, wd ++ ws, done ++ rest, out) =
  some ([.i (paid + rest.sum)] ++ Uns.enc (({ y with az := y.az - (paid + rest.sum) } : bk) : bk) ++ [.i q, .i kd, .d (lj 1 ws rest c), .d (out ++ sK q kd ws rest)]) := by
 intro rest
 induction rest with
 | nil =>
  intro done ws wd c out n paid hn e1 e2 hl hw hx p0 p1 hc cl ol; obtain ⟨n, rfl⟩ := al n (by simp at hn; omega); obtain rfl := zau e1; rw [rQ]; unfold tH; dsimp only; simp only [zaK, lj, sK, List.sum_nil, zbG] at p1 ⊢; rw [aB (by omega), aa (by omega) (by omega)]
 | cons x rest ih =>
  intro done ws wd c out n paid hn e1 e2 hl hw hx p0 p1 hc cl ol; obtain ⟨n, rfl⟩ := al n (by simp at hn; omega); cases ws with
  | nil => simp at e1
  | cons w ws =>
  simp only [zai, zaf, zbq] at hl hn e1 p1 ol; have hx0 := hx x (by simp); have hw0 := hw w (by simp); have hs0 := eh rest (fun z hz => (hx z (by simp [hz])).1); obtain ⟨v, rfl⟩ : ∃ v : Nat, w = (v : Int) := ⟨w.toNat, by omega⟩
  have hr := hc v (by omega); have gw : (wd ++ (v : Int) :: ws).getD done.length 0 = v := by rw [<- e2]; exact cm _ _ _ _
  have hset : ∀ i, i < (c.set v (ck 1 x (ae c v))).length -> - (paid + x) <= (ae (c.set v (ck 1 x (ae c v))) i).i 1 /\ (ae (c.set v (ck 1 x (ae c v))) i).i 1 <= 1152921504606846976 := by
   intro i hi; rw [zbg] at hi
   by_cases e : i = v
   . subst e; have e3 : ae (c.set i (ck 1 x (ae c i))) i = ck 1 x (ae c i) := by simp [ae, hi]
     rw [e3]; simp only [ck, za7, ez]; omega
   . have e3 : ae (c.set v (ck 1 x (ae c v))) i = ae c i := by simp [ae, zbj, Ne.symm e]
     rw [e3]; have := hc i hi; omega
  have := ih (done ++ [x]) ws (wd ++ [(v : Int)]) (c.set v (ck 1 x (ae c v))) (out ++ if 0 < x then [.r [.n q, .n kd, .n v, .n x]] else []) n (paid + x) (by omega) (by omega) (by simp [e2]) (by simp; omega) (fun z hz => by have := hw z (by simp [hz]); simpa using this) (fun z hz => hx z (by simp [hz])) (by omega) (by omega) hset (by simpa using cl) (by split <;> simp <;> omega); simp only [lj, sK, zbq, zaC]; rw [show paid + (x + rest.sum) = paid + x + rest.sum by omega]; rw [<- zaA, <- this]; rw [rQ]; unfold tH; dsimp only; have ec : done ++ [x] ++ rest = done ++ x :: rest := by simp
  have ew : wd ++ [(v : Int)] ++ ws = wd ++ (v : Int) :: ws := by simp
  rw [ec, ew]; have e5 : (ck 1 x (ae c v)) = Dat.r [.n ((ae c v).i 0), .n ((ae c v).i 1 - x), .n ((ae c v).i 2)] := by simp only [ck, za7]
  rw [e5]; simp only [lt_eq, zaC, gw, cm, zai, zaf, zaB, zaD, zas, zaa]
  by_cases h0 : 0 < x
  . rw [if_pos h0]; simp (disch := omega) only [TRa, TRi, aa, zas]
  . rw [if_neg h0]; simp (disch := omega) only [TRa, TRi, aa, zas, zaK]
def RY : Int × bk × Int × Int × List Dat × List Dat -> Bool × List Un := fun (a0, a1, a2, a3, a4, a5) => (decide (a0 <= 9223372036854775807 /\ 0 <= a1.az /\ a1.az <= 1152921504606846976 /\ a5.length <= 68719476736) && aY a4, [.i ((aw (fun _ => true) 1 a0 a4).sum)] ++ Uns.enc (({ a1 with az := a1.az - (aw (fun _ => true) 1 a0 a4).sum }) : bk) ++ [.i (a2), .i (a3), .d (bP 1 (aw (fun _ => true) 1 a0 a4) a4), .d (a5 ++ bJ a2 a3 0 (aw (fun _ => true) 1 a0 a4))])
theorem Jv (a0 : Int) (a1 : bk) (a2 : Int) (a3 : Int) (a4 : List Dat) (a5 : List Dat) (hc : (decide (a0 <= 9223372036854775807 /\ 0 <= a1.az /\ a1.az <= 1152921504606846976 /\ a5.length <= 68719476736) && aY a4) = true) : ∃ m, Oy m (a0, a1, a2, a3, a4, a5) = some ([.i ((aw (fun _ => true) 1 a0 a4).sum)] ++ Uns.enc (({ a1 with az := a1.az - (aw (fun _ => true) 1 a0 a4).sum }) : bk) ++ [.i (a2), .i (a3), .d (bP 1 (aw (fun _ => true) 1 a0 a4) a4), .d (a5 ++ bJ a2 a3 0 (aw (fun _ => true) 1 a0 a4))]) := by
 simp only [zab, zac] at hc; obtain ⟨⟨h1, h2, h3, h4⟩, h5⟩ := hc; obtain ⟨c1, c2⟩ := bO h5; obtain ⟨p1, p2, p3, p4, p5⟩ := tL (fun _ => true) (j := 1) (.inl rfl) a0 h5; refine ⟨2000, ?_⟩; unfold Oy; refine (Mt 2000 a0 h1 a1 a2 a3 a5 a4 [] 2000 [] [] (by omega) (by simpa using c1) (by simp) (by simp)).trans ?_
 simp only [zaH, zaB]; have ht := kL (a4.map (fun _ => true)); rw [za5] at ht; have e := JN 2000 a1 ⟨h2, h3⟩ a2 a3 (cC a0 (dz (fun _ => true) 1 a4)) [] (gT (fun _ => true) 0 a4) [] a4 a5 2000 0 (by omega) (by rw [p1, pw]) rfl (by simp; omega) (fun w hw => by have := o9 _ _ _ w hw; omega) (fun x hx => by have := p2 x hx; omega) (by omega) (by omega) (fun i hi => by have := cu (c2 _ (nK hi)); omega) c1 (by omega); refine e.trans ?_
 have g1 := nH (fun _ => true) 1 a4 [] (cC a0 (dz (fun _ => true) 1 a4)) p1 (fun d hd => (cu (c2 d hd)).1); have g2 := pO a2 a3 (fun _ => true) a4 0 (cC a0 (dz (fun _ => true) 1 a4)) p1; simp only [zaH, zaB, zaa] at g1 g2; rw [g1, g2, za0, p5, j5 (fun _ => true) (j := 1) (.inl rfl) a0 h5]
theorem HG : ER 136 (mkE JO.en JO.ex RY) := aq ak Ht.right (fun m => [Dh (qu m m)]) (t := Oy) (by kernel_rfl) (fun m => (aJ (M0 m m) aA)) (fun m a => by kernel_rfl) fun (a0, a1, a2, a3, a4, a5) hc => Jv a0 a1 a2 a3 a4 a5 hc
def Kb : Tb Tryz.prog LQ TE XX := Ht.add 136 _ HG
def Ps : aD := ⟨Kb.tab, 139, ⟨[.ptr 0 0 0, .int .i64], [.cells [.int .i64, .int .i64, .int .i64, .int .i64, .int .i64, .buf 1 3, .int .i64, .int .i64, .buf 2 4], .ag (sI 3), .ag (sI 4)], 0⟩, ⟨[.int .i64], [.cells [.int .i64, .int .i64, .int .i64, .int .i64, .int .i64, .buf 1 3, .int .i64, .int .i64, .buf 3 4], .ag (sI 3), .gone, .ag (sI 4)], 0⟩, []⟩
abbrev zo : Type := Int × Int × Int × bk × Int × Int × List Dat × List Dat
def tw (m : Nat) (k : zo -> Option (List Un)) : zo -> Option (List Un) := fun (a0, a1, a2, a3, a4, a5, a6, a7) =>
 bif decide (a2 < 8) then
 chk (decide ((w64 (a0 - a1)) <= 9223372036854775807 /\ 0 <= a3.az /\ a3.az <= 1152921504606846976 /\ a7.length <= 68719476736) && aY a6) <|
 k (a0, (w64 (a1 + ((aw (aI a2) 1 (w64 (a0 - a1)) a6).sum))), (w64 (a2 + 1)), ({ a3 with az := a3.az - (aw (aI a2) 1 (w64 (a0 - a1)) a6).sum }), a4, a5, (bP 1 (aw (aI a2) 1 (w64 (a0 - a1)) a6) a6), (a7 ++ bJ a4 a5 0 (aw (aI a2) 1 (w64 (a0 - a1)) a6)))
 else
 some ([.i a1] ++ Uns.enc (a3 : bk) ++ [.i a4, .i a5, .d a6, .d a7])
def qe (m : Nat) : Nat -> zo -> Option (List Un) := bp (tw m)
theorem rJ (m : Nat) (n : Nat) : qe m (n + 1) = tw m (qe m n) := rfl
def Cr (F : zo -> Option (List Un)) : aT := ⟨[.lp [0, 1, 0, 1, 1], .blk 0, .code [1, 1, 1]], ⟨frm 21 [(0, .ptr 0 0 0), (1, .int .i64), (5, .int .i64), (7, .int .i64)], [.cells [.int .i64, .int .i64, .int .i64, .int .i64, .int .i64, .buf 1 3, .int .i64, .int .i64, .buf 3 4], .ag (sI 3), .gone, .ag (sI 4)], 0⟩, onU F⟩
theorem Nn (m : Nat) : ∀ n, HO Ps (Cr (qe m n)) := ay ak Kb.right (fun k => [Cr k]) (fun k h => (aJ h aA)) fun k a => by kernel_rfl
def t139 (m : Nat) : Int × bk × Int × Int × List Dat × List Dat -> Option (List Un) := fun (a0, a1, a2, a3, a4, a5) =>
 qe m m (a0, 0, 0, a1, a2, a3, a4, a5)
theorem Qc (m : Nat) (nn q kd : Int) : ∀ (k n : Nat) (r paid : Int) (y : bk) (c out : List Dat), k < n -> r + k = 8 -> 0 <= r -> aY c = true -> 0 <= paid -> paid <= nn -> nn - paid <= y.az -> y.az <= 1152921504606846976 -> nn <= 1152921504606846976 -> out.length + 1000 * k <= 68719476736 ->
 qe m n (nn, paid, r, y, q, kd, c, out) = some ([.i (paid + (bt q kd k r (nn - paid) c).2.2)] ++ Uns.enc (({ y with az := y.az - (bt q kd k r (nn - paid) c).2.2 } : bk) : bk) ++ [.i q, .i kd, .d (bt q kd k r (nn - paid) c).1, .d (out ++ (bt q kd k r (nn - paid) c).2.1)]) := by
 intro k
 induction k with
 | zero =>
  intro n r paid y c out hn hr h0 hc p0 p1 p2 p3 p4 ho; obtain ⟨n, rfl⟩ := al n (by omega); rw [rJ]; unfold tw; dsimp only; simp only [bt, zbG, zbo, zaK]; rw [aB (by omega)]
 | succ k ih =>
  intro n r paid y c out hn hr h0 hc p0 p1 p2 p3 p4 ho; obtain ⟨n, rfl⟩ := al n (by omega); rw [rJ]; unfold tw; dsimp only; obtain ⟨l1, l2, l3⟩ := eB (aI r) (j := 1) (.inl rfl) (nn - paid) hc; obtain ⟨_, _, w0, w1⟩ := mz (aI r) (j := 1) (.inl rfl) hc; obtain ⟨g1, g2⟩ := pk (aI r) (j := 1) (.inl rfl) (nn - paid) hc; have hpl := jv q kd (aw (aI r) 1 (nn - paid) c) 0; have hcl := (bO hc).1; rw [bz (by omega), aa (n := nn - paid) (by omega) (by omega), hc, za6, aV ⟨by omega, by omega, by omega, by omega⟩]; have := ih n (r + 1) (paid + (aw (aI r) 1 (nn - paid) c).sum) { y with az := y.az - (aw (aI r) 1 (nn - paid) c).sum } (bP 1 (aw (aI r) 1 (nn - paid) c) c) (out ++ bJ q kd 0 (aw (aI r) 1 (nn - paid) c)) (by omega) (by omega) (by omega) g1 (by omega) (by omega) (by simp only; omega) (by simp only; omega) p4 (by rw [zai]; omega); rw [aa (n := r + 1) (by omega) (by omega), aa (n := paid + (aw (aI r) 1 (nn - paid) c).sum) (by omega) (by omega), this]; simp only [bt]; rw [show nn - (paid + (aw (aI r) 1 (nn - paid) c).sum) = nn - paid - (aw (aI r) 1 (nn - paid) c).sum by omega]; simp only [Int.add_assoc, zaA, Int.sub_sub]
def f139 : Int × bk × Int × Int × List Dat × List Dat -> Bool × List Un := fun (a0, a1, a2, a3, a4, a5) => (decide (0 <= a0 /\ a0 <= a1.az /\ a1.az <= 1152921504606846976 /\ a5.length <= 34359738368) && aY a4, [.i ((bt a2 a3 8 0 a0 a4).2.2)] ++ Uns.enc (({ a1 with az := a1.az - (bt a2 a3 8 0 a0 a4).2.2 }) : bk) ++ [.i (a2), .i (a3), .d ((bt a2 a3 8 0 a0 a4).1), .d (a5 ++ (bt a2 a3 8 0 a0 a4).2.1)])
theorem K1 (a0 : Int) (a1 : bk) (a2 : Int) (a3 : Int) (a4 : List Dat) (a5 : List Dat) (hc : (decide (0 <= a0 /\ a0 <= a1.az /\ a1.az <= 1152921504606846976 /\ a5.length <= 34359738368) && aY a4) = true) : ∃ m, t139 m (a0, a1, a2, a3, a4, a5) = some ([.i ((bt a2 a3 8 0 a0 a4).2.2)] ++ Uns.enc (({ a1 with az := a1.az - (bt a2 a3 8 0 a0 a4).2.2 }) : bk) ++ [.i (a2), .i (a3), .d ((bt a2 a3 8 0 a0 a4).1), .d (a5 ++ (bt a2 a3 8 0 a0 a4).2.1)]) := by
 simp only [zab, zac] at hc; obtain ⟨⟨h1, h2, h3, h4⟩, h5⟩ := hc; refine ⟨20, ?_⟩; have := Qc 20 a0 a2 a3 8 20 0 0 a1 a4 a5 (by omega) (by omega) (by omega) h5 (by omega) (by omega) (by omega) h3 (by omega) (by omega); simp only [zbo, za0] at this; exact this
theorem I7 : ER 139 (mkE Ps.en Ps.ex f139) := aq ak Kb.right (fun m => [Cr (qe m m)]) (t := t139) (by kernel_rfl) (fun m => (aJ (Nn m m) aA)) (fun m a => by kernel_rfl) fun (a0, a1, a2, a3, a4, a5) hc => K1 a0 a1 a2 a3 a4 a5 hc
def Jt : Tb Tryz.prog LQ TE XX := Kb.add 139 _ I7
def mO (d : Dat) : Bool := decide (0 <= d.i 3)
theorem Br {d : Dat} (h : mO d = true) : 0 <= d.i 3 := zak h
theorem xr : ∀ l : List Dat, (∀ d ∈ l, mO d = true) -> 0 <= af 3 l
 | [], _ => by simp [af]
 | d :: l, h => by
  have := xr l fun x hx => h x (by simp [hx])
  have := Br (h d (by simp)); simp only [af]; omega
def N54 : aD := ⟨Jt.tab, 54, ⟨[.ag (sI 4)], [], 0⟩, ⟨[.int .i64], [], 0⟩, []⟩
abbrev EW : Type := Int × List Dat × Int × Int
def zK (m : Nat) (k : EW -> Option (List Un)) : EW -> Option (List Un) := fun (a0, a1, a2, a3) =>
 bif decide (a3 < a2) then
 chk (inb a3 a1.length) <|
 chk (decide (a3.toNat < a1.length)) <|
 k ((w64 (a0 + ((ae a1 a3.toNat).i 3))), a1, a2, (w64 (a3 + 1)))
 else
 some ([.i a0])
def xj (m : Nat) : Nat -> EW -> Option (List Un) := bp (zK m)
theorem uk (m : Nat) (n : Nat) : xj m (n + 1) = zK m (xj m n) := rfl
def IN (F : EW -> Option (List Un)) : aT := ⟨[.lp [0, 1, 0, 1, 1], .blk 0, .code [1, 1, 1]], ⟨frm 18 [(3, .int .i64), (6, .ag (sI 4)), (7, .int .i64), (8, .int .i64)], [], 0⟩, onU F⟩
theorem RH (m : Nat) : ∀ n, HO N54 (IN (xj m n)) := ay ak Jt.right (fun k => [IN k]) (fun k h => (aJ h aA)) fun k a => by kernel_rfl
def t54 (m : Nat) : List Dat -> Option (List Un) := fun a0 =>
 xj m m (0, a0, (a0.length : Int), 0)
theorem P6 (m : Nat) : ∀ (rest pre : List Dat) (n : Nat) (b : Int), rest.length < n -> (pre ++ rest).length <= 1000000 -> (∀ d ∈ rest, mO d = true) -> 0 <= b -> b + af 3 rest <= 1152921504606846976 ->
 xj m n (b, pre ++ rest, ((pre ++ rest).length : Int), (pre.length : Int)) = some [.i (b + af 3 rest)] := by
 intro rest
 induction rest with
 | nil =>
  intro pre n b hn hl hg h0 h1; obtain ⟨n, rfl⟩ := al n (by simp at hn; omega); rw [uk]; unfold zK; dsimp only; simp [aB, af]
 | cons x rest ih =>
  intro pre n b hn hl hg h0 h1; obtain ⟨n, rfl⟩ := al n (by simp at hn; omega); simp only [zaf, zai] at hn hl; have hx := Br (hg x (by simp)); have hr := xr rest fun d hd => hg d (by simp [hd])
  simp only [af] at h1; rw [uk]; unfold zK; dsimp only; have := ih (pre ++ [x]) n (b + x.i 3) (by omega) (by simp; omega) (fun d hd => hg d (by simp [hd])) (by omega) (by omega); simp only [af] at this ⊢; simp (disch := omega) only [TRa, TRi, aa, LNl, LNi, zaa, ar]; simp only [LNl, LNi, zaa] at this ⊢; exact this
def f54 : List Dat -> Bool × List Un := fun a0 => (decide (a0.length <= 1000000) && (a0.all mO && decide (af 3 a0 <= 1152921504606846976)), [.i (af 3 a0)])
theorem NF (a0 : List Dat) (hc : (decide (a0.length <= 1000000) && (a0.all mO && decide (af 3 a0 <= 1152921504606846976))) = true) : ∃ m, t54 m a0 = some ([.i (af 3 a0)]) := by
 simp only [zab, zac, zam] at hc; refine ⟨a0.length + 1, ?_⟩; exact (P6 _ a0 [] (a0.length + 1) 0 (by omega) (by simpa using hc.1) hc.2.1 (by omega) (by simpa using hc.2.2)).trans (by simp only [za0])
theorem L8 : ER 54 (mkE N54.en N54.ex f54) := aq ak Jt.right (fun m => [IN (xj m m)]) (t := t54) (by kernel_rfl) (fun m => (aJ (RH m m) aA)) (fun m a => by kernel_rfl) fun a0 hc => NF a0 hc
def T54 : Tb Tryz.prog LQ TE XX := Jt.add 54 _ L8
def PL : aD := ⟨T54.tab, 103, ⟨[.ptr 0 0 0, .agg [.int .i64, .int .i64]], [.cells [.int .i64, .int .i64, .int .i64, .int .i64, .int .i64, .buf 1 3, .int .i64, .int .i64, .buf 2 4], .ag (sI 3), .ag (sI 4)], 0⟩, ⟨[], [.cells [.int .i64, .int .i64, .int .i64, .int .i64, .int .i64, .buf 1 3, .int .i64, .int .i64, .buf 3 4], .ag (sI 3), .gone, .ag (sI 4)], 0⟩, []⟩
def t103 (m : Nat) : Int × Int × bk × Int × Int × List Dat × List Dat -> Option (List Un) := fun (a0, a1, a2, a3, a4, a5, a6) =>
 bif a0 == 1 then
 lt ((if a2.az < a2.fee then a2.az else a2.fee) : Int) fun x1 =>
 lt ((if x1 < 0 then 0 else x1) : Int) fun x2 =>
 bif decide (x2 > 0) then
 chk (fits (a6.length + 1) 32) <|
 some (Uns.enc (({ a2 with az := (w64 (a2.az - x2)), fee := (w64 (a2.fee - x2)) } : bk) : bk) ++ [.i a3, .i a4, .d a5, .d (a6 ++ ([.r [.n a3, .n a4, .n (-1), .n x2]]))])
 else
 some (Uns.enc (({ a2 with az := (w64 (a2.az - x2)), fee := (w64 (a2.fee - x2)) } : bk) : bk) ++ [.i a3, .i a4, .d a5, .d a6])
 else
 bif a0 == 2 then
 lt ((if a2.az < a2.bK then a2.az else a2.bK) : Int) fun x4 =>
 lt ((if x4 < 0 then 0 else x4) : Int) fun x5 =>
 bif decide (x5 > 0) then
 chk (fits (a6.length + 1) 32) <|
 some (Uns.enc (({ a2 with az := (w64 (a2.az - x5)), bK := (w64 (a2.bK - x5)) } : bk) : bk) ++ [.i a3, .i a4, .d a5, .d (a6 ++ ([.r [.n a3, .n a4, .n (-1), .n x5]]))])
 else
 some (Uns.enc (({ a2 with az := (w64 (a2.az - x5)), bK := (w64 (a2.bK - x5)) } : bk) : bk) ++ [.i a3, .i a4, .d a5, .d a6])
 else
 bif a0 == 6 then
 lt ((if a2.az < a2.room then a2.az else a2.room) : Int) fun x7 =>
 lt ((if x7 < 0 then 0 else x7) : Int) fun x8 =>
 bif decide (x8 > 0) then
 chk (fits (a6.length + 1) 32) <|
 some (Uns.enc (({ a2 with az := (w64 (a2.az - x8)), room := (w64 (a2.room - x8)) } : bk) : bk) ++ [.i a3, .i a4, .d a5, .d (a6 ++ ([.r [.n a3, .n a4, .n (-1), .n x8]]))])
 else
 some (Uns.enc (({ a2 with az := (w64 (a2.az - x8)), room := (w64 (a2.room - x8)) } : bk) : bk) ++ [.i a3, .i a4, .d a5, .d a6])
 else
 bif a0 == 3 then
 chk (decide (a2.az <= 9223372036854775807 /\ 0 <= a2.az /\ a2.az <= 1152921504606846976 /\ a6.length <= 68719476736) && aY a5) <|
 some (Uns.enc (({ a2 with az := a2.az - (aw (aI a1) 2 a2.az a5).sum }) : bk) ++ [.i a3, .i a4, .d (bP 2 (aw (aI a1) 2 a2.az a5) a5), .d (a6 ++ bJ a3 a4 0 (aw (aI a1) 2 a2.az a5))])
 else
 bif a0 == 4 then
 lt ((if a2.az < a2.au then a2.az else a2.au) : Int) fun x12 =>
 chk (decide (0 <= x12 /\ x12 <= a2.az /\ a2.az <= 1152921504606846976 /\ a6.length <= 34359738368) && aY a5) <|
 lt (({ a2 with az := a2.az - (bt a3 a4 8 0 x12 a5).2.2 }) : bk) fun g13 =>
 chk (decide (a2.au = g13.au)) <|
 some (Uns.enc (({ g13 with au := (w64 (a2.au - ((bt a3 a4 8 0 x12 a5).2.2))) } : bk) : bk) ++ [.i a3, .i a4, .d ((bt a3 a4 8 0 x12 a5).1), .d (a6 ++ (bt a3 a4 8 0 x12 a5).2.1)])
 else
 bif a0 == 5 then
 lt ((if a2.az < a2.au then a2.az else a2.au) : Int) fun x16 =>
 chk (decide (x16 <= 9223372036854775807 /\ 0 <= a2.az /\ a2.az <= 1152921504606846976 /\ a6.length <= 68719476736) && aY a5) <|
 lt (({ a2 with az := a2.az - (aw (fun _ => true) 1 x16 a5).sum }) : bk) fun g18 =>
 chk (decide (a2.au = g18.au)) <|
 some (Uns.enc (({ g18 with au := (w64 (a2.au - ((aw (fun _ => true) 1 x16 a5).sum))) } : bk) : bk) ++ [.i a3, .i a4, .d (bP 1 (aw (fun _ => true) 1 x16 a5) a5), .d (a6 ++ bJ a3 a4 0 (aw (fun _ => true) 1 x16 a5))])
 else
 bif a0 == 7 then
 chk (decide (0 <= a2.az /\ a2.az <= a2.az /\ a2.az <= 1152921504606846976 /\ a6.length <= 34359738368) && aY a5) <|
 some (Uns.enc (({ a2 with az := a2.az - (bt a3 a4 8 0 a2.az a5).2.2 }) : bk) ++ [.i a3, .i a4, .d ((bt a3 a4 8 0 a2.az a5).1), .d (a6 ++ (bt a3 a4 8 0 a2.az a5).2.1)])
 else
 some (Uns.enc (a2 : bk) ++ [.i a3, .i a4, .d a5, .d a6])
def f103 : Int × Int × bk × Int × Int × List Dat × List Dat -> Bool × List Un := fun (a0, a1, a2, a3, a4, a5, a6) => (decide (a4 = a0 /\ a6.length <= 17179869184) && (nQ a2 && aY a5), Uns.enc (((dF a3 a0 a1 a2 a5).1) : bk) ++ [.i (a3), .i (a4), .d ((dF a3 a0 a1 a2 a5).2.1), .d (a6 ++ (dF a3 a0 a1 a2 a5).2.2)])
set_option maxHeartbeats 2000000 in
theorem LV (a0 : Int) (a1 : Int) (a2 : bk) (a3 : Int) (a4 : Int) (a5 : List Dat) (a6 : List Dat) (hc : (decide (a4 = a0 /\ a6.length <= 17179869184) && (nQ a2 && aY a5)) = true) : ∃ m, t103 m (a0, a1, a2, a3, a4, a5, a6) = some (Uns.enc (((dF a3 a0 a1 a2 a5).1) : bk) ++ [.i (a3), .i (a4), .d ((dF a3 a0 a1 a2 a5).2.1), .d (a6 ++ (dF a3 a0 a1 a2 a5).2.2)]) := by
 simp only [zab, zac] at hc; obtain ⟨⟨rfl, ho⟩, hx, hc⟩ := hc; have hx' := ti hx; have hcl := (bO hc).1; have w2 := fun sel j hj => (mz (c := a5) sel (j := j) hj hc).2.2
 have s2 := fun sel j hj n => (eB (c := a5) sel (j := j) hj n hc).2.1
 have mm : ∀ a b : Int, (if b < a then b else a) = min a b := fun a b => by omega
 have mx : ∀ a : Int, (if a < 0 then 0 else a) = max a 0 := fun a => by omega
 refine ⟨0, ?_⟩; unfold t103 dF; dsimp only; simp only [lt_eq, mm, mx]; have one : ∀ (z : Int) (u : bk) (o2 : List Dat), 0 <= z -> ∀ v : bk, u = v -> (bif decide (z > 0) then chk (fits (a6.length + 1) 32) (some (Uns.enc (u : bk) ++ [.i a3, .i a4, .d a5, .d (a6 ++ ([.r [.n a3, .n a4, .n (-1), .n z]]))])) else some (Uns.enc (u : bk) ++ [.i a3, .i a4, .d a5, .d a6])) = some (Uns.enc (v : bk) ++ [.i a3, .i a4, .d a5, .d (a6 ++ kx a3 a4 z)]) := by
  intro z u o2 hz v huv; subst huv; unfold kx
  by_cases h : z > 0
  . rw [bz h, nf (by omega) (by omega), if_pos (by omega)]
  . rw [aB h, if_neg (by omega), zaK]
 by_cases k1 : a4 = 1
 . rw [gC k1, if_pos k1]; rw [show max (min a2.fee a2.az) 0 = min a2.fee a2.az by omega]; exact one _ _ [] (by omega) _ (by rw [aa (by omega) (by omega), aa (by omega) (by omega)])
 rw [gA k1, if_neg k1]
 by_cases k2 : a4 = 2
 . rw [gC k2, if_pos k2]; rw [show max (min a2.bK a2.az) 0 = min a2.bK a2.az by omega]; exact one _ _ [] (by omega) _ (by rw [aa (by omega) (by omega), aa (by omega) (by omega)])
 rw [gA k2, if_neg k2]
 by_cases k6 : a4 = 6
 . rw [gC k6, if_pos k6]; rw [show max (min a2.room a2.az) 0 = min a2.room a2.az by omega]; exact one _ _ [] (by omega) _ (by rw [aa (by omega) (by omega), aa (by omega) (by omega)])
 rw [gA k6, if_neg k6]
 by_cases k3 : a4 = 3
 . rw [gC k3, if_pos k3, hc, za6, aV (by omega)]
 rw [gA k3, if_neg k3]
 by_cases k4 : a4 = 4
 . rw [gC k4, if_pos k4, hc, za6, aV (by omega), aV trivial]; have q := tV a3 a4 8 0 (min a2.au a2.az) a5 hc; generalize bt a3 a4 8 0 (min a2.au a2.az) a5 = y at *
   rw [aa (by omega) (by omega)]
 rw [gA k4, if_neg k4]
 by_cases k5 : a4 = 5
 . rw [gC k5, if_pos k5, hc, za6, aV (by omega), aV trivial]; have q1 := s2 (fun _ => true) 1 (.inl rfl) (min a2.au a2.az); have q2 := w2 (fun _ => true) 1 (.inl rfl); rw [aa (n := a2.au - _) (by omega) (by omega)]
 rw [gA k5, if_neg k5]
 by_cases k7 : a4 = 7
 . rw [gC k7, if_pos k7, hc, za6, aV (by omega)]
 rw [gA k7, if_neg k7, zaK]
theorem HP : ER 103 (mkE PL.en PL.ex f103) := aq ak T54.right (fun m => []) (t := t103) (by kernel_rfl) (fun m => aA) (fun m a => by kernel_rfl) fun (a0, a1, a2, a3, a4, a5, a6) hc => LV a0 a1 a2 a3 a4 a5 a6 hc
def Lf : Tb Tryz.prog LQ TE XX := T54.add 103 _ HP
def N45 : aD := ⟨Lf.tab, 45, ⟨[.int .i64, .agg [.int .i64, .int .i64, .int .i64, .int .i64, .ag (sI 3)], .ag (sI 2)], [], 0⟩, ⟨[.buf 0 4, .int .i64, .agg [.int .i64, .int .i64, .int .i64, .int .i64, .buf 1 3]], [.ag (sI 4), .ag (sI 3)], 0⟩, []⟩
abbrev EX : Type := List Dat × Int × Int × Int × Int × Int × Int × bk × Int × Int × List Dat × List Dat × List Dat
def AA (m : Nat) (k : EX -> Option (List Un)) : EX -> Option (List Un) := fun (a0, a1, a2, a3, a4, a5, a6, a7, a8, a9, a10, a11, a12) =>
 bif decide (a2 < a1) then
 chk (inb a2 a0.length) <|
 chk (decide (a2.toNat < a0.length)) <|
 lt (ae a0 a2.toNat : Dat) fun d1 =>
 chk (decide ((d1.i 0) = (d1.i 0) /\ a12.length <= 17179869184) && (nQ a7 && aY a11)) <|
 k (a0, a1, (w64 (a2 + 1)), a3, a4, a5, a6, ((dF a2 (d1.i 0) (d1.i 1) a7 a11).1), a2, (d1.i 0), a10, ((dF a2 (d1.i 0) (d1.i 1) a7 a11).2.1), (a12 ++ (dF a2 (d1.i 0) (d1.i 1) a7 a11).2.2))
 else
 some ([.i a7.az, .i a7.fee, .i a7.bK, .i a7.au, .i a7.room, .d a12, .d a11])
def wY (m : Nat) : Nat -> EX -> Option (List Un) := bp (AA m)
theorem we (m : Nat) (n : Nat) : wY m (n + 1) = AA m (wY m n) := rfl
def Iq (F : EX -> Option (List Un)) : aT := ⟨[.lp [0, 1, 0, 1, 1, 1], .blk 0, .code [1, 1, 1, 1]], ⟨frm 52 [(8, .ptr 0 0 0), (9, .ptr 1 0 0), (20, .ag (sI 2)), (21, .int .i64), (22, .int .i64)], [.cells [.int .i64, .int .i64, .int .i64, .int .i64, .buf 2 3], .cells [.int .i64, .int .i64, .int .i64, .int .i64, .int .i64, .buf 3 3, .int .i64, .int .i64, .buf 4 4], .ag (sI 3), .ag (sI 3), .ag (sI 4)], 0⟩, onU F⟩
theorem Rt (m : Nat) : ∀ n, HO N45 (Iq (wY m n)) := ay ak Lf.right (fun k => [Iq k]) (fun k h => (aJ h aA)) fun k a => by kernel_rfl
def t45 (m : Nat) : Int × Int × Int × Int × Int × List Dat × List Dat -> Option (List Un) := fun (a0, a1, a2, a3, a4, a5, a6) =>
 chk (decide (a5.length < 1000000)) <|
 wY m m (a6, (a6.length : Int), 0, 0, 0, 0, 0, (⟨a0, a1, a2, a3, a4⟩ : bk), 0, 0, [], a5, [])
theorem QC (m : Nat) (z1 z2 z3 z4 : Int) (zl : List Dat) : ∀ (rest pre : List Dat) (n : Nat) (y : bk) (q kd : Int) (c out : List Dat), rest.length < n -> (pre ++ rest).length <= 1000000 -> nQ y = true -> aY c = true -> out.length <= 8000 * pre.length ->
 wY m n (pre ++ rest, ((pre ++ rest).length : Int), (pre.length : Int), z1, z2, z3, z4, y, q, kd, zl, c, out) = some [.i (dK pre.length rest y c).1.az, .i (dK pre.length rest y c).1.fee, .i (dK pre.length rest y c).1.bK, .i (dK pre.length rest y c).1.au, .i (dK pre.length rest y c).1.room, .d (out ++ (dK pre.length rest y c).2.2), .d (dK pre.length rest y c).2.1] := by
 intro rest
 induction rest with
 | nil =>
  intro pre n y q kd c out hn hl hy hc ho; obtain ⟨n, rfl⟩ := al n (by simp at hn; omega); rw [we]; unfold AA; dsimp only; simp [aB, dK]
 | cons x rest ih =>
  intro pre n y q kd c out hn hl hy hc ho; obtain ⟨n, rfl⟩ := al n (by simp at hn; omega); simp only [zaf, zai] at hn hl; obtain ⟨s1, s2, s3, s4⟩ := vL pre.length (x.i 0) (x.i 1) hy hc; have := ih (pre ++ [x]) n _ (pre.length : Int) (x.i 0) _ (out ++ (dF pre.length (x.i 0) (x.i 1) y c).2.2) (by omega) (by simp; omega) s1 s2 (by simp; omega); simp only [dK]; rw [we]; unfold AA; dsimp only; simp only [hy, hc, zb9, za6]; simp only [zaC, ar, lt_eq]; generalize dF pre.length (x.i 0) (x.i 1) y c = u at *
  simp only [hy, hc, zb9, za6, zaW, true_and]; simp (disch := omega) only [TRa, TRi, aa, LNl, LNi, zaa, ar]; simp only [LNl, LNi, zaa] at this ⊢; exact this
def f45 : Int × Int × Int × Int × Int × List Dat × List Dat -> Bool × List Un := fun (a0, a1, a2, a3, a4, a5, a6) => (decide (a6.length <= 1000000) && (nQ ⟨a0, a1, a2, a3, a4⟩ && aY a5), [.i ((dK 0 a6 ⟨a0, a1, a2, a3, a4⟩ a5).1.az), .i ((dK 0 a6 ⟨a0, a1, a2, a3, a4⟩ a5).1.fee), .i ((dK 0 a6 ⟨a0, a1, a2, a3, a4⟩ a5).1.bK), .i ((dK 0 a6 ⟨a0, a1, a2, a3, a4⟩ a5).1.au), .i ((dK 0 a6 ⟨a0, a1, a2, a3, a4⟩ a5).1.room), .d ((dK 0 a6 ⟨a0, a1, a2, a3, a4⟩ a5).2.2), .d ((dK 0 a6 ⟨a0, a1, a2, a3, a4⟩ a5).2.1)])
theorem Oz (a0 : Int) (a1 : Int) (a2 : Int) (a3 : Int) (a4 : Int) (a5 : List Dat) (a6 : List Dat) (hc : (decide (a6.length <= 1000000) && (nQ ⟨a0, a1, a2, a3, a4⟩ && aY a5)) = true) : ∃ m, t45 m (a0, a1, a2, a3, a4, a5, a6) = some ([.i ((dK 0 a6 ⟨a0, a1, a2, a3, a4⟩ a5).1.az), .i ((dK 0 a6 ⟨a0, a1, a2, a3, a4⟩ a5).1.fee), .i ((dK 0 a6 ⟨a0, a1, a2, a3, a4⟩ a5).1.bK), .i ((dK 0 a6 ⟨a0, a1, a2, a3, a4⟩ a5).1.au), .i ((dK 0 a6 ⟨a0, a1, a2, a3, a4⟩ a5).1.room), .d ((dK 0 a6 ⟨a0, a1, a2, a3, a4⟩ a5).2.2), .d ((dK 0 a6 ⟨a0, a1, a2, a3, a4⟩ a5).2.1)]) := by
 simp only [zab, zac] at hc; obtain ⟨h1, h2, h3⟩ := hc; have hl := (bO h3).1; refine ⟨a6.length + 1, ?_⟩; unfold t45; dsimp only; rw [aV (by omega)]; exact QC _ 0 0 0 0 [] a6 [] (a6.length + 1) _ 0 0 a5 [] (by omega) (by simpa using h1) h2 h3 (by simp)
theorem LG : ER 45 (mkE N45.en N45.ex f45) := aq ak Lf.right (fun m => [Iq (wY m m)]) (t := t45) (by kernel_rfl) (fun m => (aJ (Rt m m) aA)) (fun m a => by kernel_rfl) fun (a0, a1, a2, a3, a4, a5, a6) hc => Oz a0 a1 a2 a3 a4 a5 a6 hc
def T45 : Tb Tryz.prog LQ TE XX := Lf.add 45 _ LG
theorem fg (j : Nat) : ∀ l : List Dat, (∀ d ∈ l, 0 <= d.i j) -> 0 <= af j l
 | [], _ => by simp [af]
 | d :: l, h => by
  have := h d (by simp); have := fg j l fun x hx => h x (by simp [hx])
  simp only [af]; omega
theorem wh (j : Nat) : ∀ a b : List Dat, af j (a ++ b) = af j a + af j b
 | [], b => by simp [af]
 | d :: a, b => by simp only [zaY, af, wh j a b]; omega
theorem wy (a k : Int) : ∀ (xs : List Int) (i : Int), (∀ x ∈ xs, 0 <= x) -> af 3 (bJ a k i xs) = xs.sum
 | [], i, _ => rfl
 | x :: xs, i, h => by
  have := wy a k xs (i + 1) fun y hy => h y (by simp [hy])
  have h0 := h x (by simp); simp only [bJ, wh, zbq, this]
  by_cases hx : 0 < x
  . rw [if_pos hx]; simp [af, fu]
  . rw [if_neg hx]; simp only [af]; omega
theorem DJ {c : List Dat} (sel : Dat -> Bool) {j : Nat} (hj : j = 1 \/ j = 2) (n : Int) (h : aY c = true) : ∀ x ∈ aw sel j n c, 0 <= x := fun x hx => by
 obtain ⟨l1, l2, l3⟩ := eB sel hj n h; obtain ⟨i, hi, rfl⟩ := pz hx; rw [l1] at hi; exact (l3 i hi).1
def aU (f : Dat -> Bool) : List Dat -> Int
 | [] => 0
 | d :: l => (bif f d then d.i 3 else 0) + aU f l
theorem iK (f : Dat -> Bool) : ∀ a b : List Dat, aU f (a ++ b) = aU f a + aU f b
 | [], b => by simp [aU]
 | d :: a, b => by simp only [zaY, aU, iK f a b]; omega
theorem gg (f : Dat -> Bool) : ∀ l : List Dat, (∀ d ∈ l, f d = false) -> aU f l = 0
 | [], _ => rfl
 | d :: l, h => by simp only [aU, h d (by simp), gg f l (fun x hx => h x (by simp [hx])), zap]; rfl
theorem BS (f : Dat -> Bool) : ∀ l : List Dat, (∀ d ∈ l, f d = true) -> aU f l = af 3 l
 | [], _ => rfl
 | d :: l, h => by simp only [aU, af, h d (by simp), BS f l (fun x hx => h x (by simp [hx])), zaG]
theorem qW {f g : Dat -> Bool} : ∀ l : List Dat, (∀ d ∈ l, f d = g d) -> aU f l = aU g l
 | [], _ => rfl
 | d :: l, h => by simp only [aU, h d (by simp), qW l (fun x hx => h x (by simp [hx]))]
def kF (d : Dat) : Bool := d.i 1 == 1
def kR (d : Dat) : Bool := d.i 1 == 2
def kT (d : Dat) : Bool := d.i 1 == 6
def kI (d : Dat) : Bool := d.i 1 == 3
def kB (d : Dat) : Bool := !kF d && !kR d && !kT d && !kI d
def kP (d : Dat) : Bool := kB d && d.i 1 != 7
def toI (i : Nat) (d : Dat) : Bool := kI d && d.i 2 == (i : Int)
def toB (i : Nat) (d : Dat) : Bool := kB d && d.i 2 == (i : Int)
theorem lD (a k : Int) : ∀ (xs : List Int) (i : Int), ∀ d ∈ bJ a k i xs, d.i 0 = a /\ d.i 1 = k /\ (i <= d.i 2 /\ d.i 2 < i + xs.length) /\ 1 <= d.i 3 /\ d.i 3 = xs.getD (d.i 2 - i).toNat 0
 | [], i, d, h => by simp [bJ] at h
 | x :: xs, i, d, h => by
  simp only [bJ, zbk] at h; rcases h with h | h
  . by_cases hx : 0 < x
    . rw [if_pos hx] at h; rw [zbt.1 h]; refine ⟨rfl, rfl, ?_, ?_, ?_⟩
      . simp only [hG, zaf, zas]; omega
      . simp only [fu]; omega
      . simp only [hG, fu, Int.sub_self, Int.toNat_zero, zaI]
    . rw [if_neg hx] at h; cases h
  . obtain ⟨h1, h2, h3, h4, h5⟩ := lD a k xs (i + 1) d h; simp only [zaf, zas]; refine ⟨h1, h2, by omega, h4, ?_⟩; rw [show (d.i 2 - i).toNat = (d.i 2 - (i + 1)).toNat + 1 by omega, zaw]; exact h5
theorem xR (a k : Int) : ∀ (xs : List Int) (i : Int) (j : Nat), (∀ x ∈ xs, 0 <= x) -> aU (fun d => d.i 2 == i + j) (bJ a k i xs) = xs.getD j 0
 | [], i, j, _ => by simp [bJ, aU]
 | x :: xs, i, j, h => by
  have h0 := h x (by simp); simp only [bJ, iK]; cases j with
  | zero =>
   have e : aU (fun d => d.i 2 == i + ((0 : Nat) : Int)) (bJ a k (i + 1) xs) = 0 := gg _ _ fun d hd => by
    have := lD a k xs (i + 1) d hd; simp only [beq_eq_false_iff_ne]; omega
   rw [e, zaI]
   by_cases hx : 0 < x
   . rw [if_pos hx]; simp [aU, hG, fu]
   . rw [if_neg hx]; simp only [aU]; omega
  | succ j =>
   have := xR a k xs (i + 1) j fun y hy => h y (by simp [hy])
   rw [show i + 1 + (j : Int) = i + ((j + 1 : Nat) : Int) by omega] at this; rw [this, zaw]
   by_cases hx : 0 < x
   . rw [if_pos hx]; simp only [aU, hG]; rw [show (i == i + ((j + 1 : Nat) : Int)) = false by simp only [beq_eq_false_iff_ne]; omega]; simp
   . rw [if_neg hx]; simp [aU]
structure Kept (x : bk) (c ps : List Dat) (x' : bk) (c' : List Dat) : Prop where
 az : x'.az = x.az - af 3 ps
 fee : x'.fee = x.fee - aU kF ps
 bK : x'.bK = x.bK - aU kR ps
 room : x'.room = x.room - aU kT ps
 pri : x'.au = x.au - aU kP ps
 len : c'.length = c.length
 row : ∀ i, i < c.length -> ae c' i = .r [.n ((ae c i).i 0), .n ((ae c i).i 1 - aU (toB i) ps), .n ((ae c i).i 2 - aU (toI i) ps)]
theorem Kept.refl {x : bk} {c : List Dat} (h : ∀ d ∈ c, mh 3 d = true) : Kept x c [] x c := by
 refine ⟨by simp [af], by simp [aU], by simp [aU], by simp [aU], by simp [aU], rfl, fun i hi => ?_⟩; simp only [aU, zbo]; exact CR (h _ (nK hi))
theorem Kept.trans {x x' x'' : bk} {c c' c'' ps qs : List Dat} (a : Kept x c ps x' c') (b : Kept x' c' qs x'' c'') : Kept x c (ps ++ qs) x'' c'' := by
 refine ⟨?_, ?_, ?_, ?_, ?_, b.len.trans a.len, fun i hi => ?_⟩
 . rw [b.az, a.az, wh]; omega
 . rw [b.fee, a.fee, iK]; omega
 . rw [b.bK, a.bK, iK]; omega
 . rw [b.room, a.room, iK]; omega
 . rw [b.pri, a.pri, iK]; omega
 . rw [b.row i (by rw [a.len]; exact hi), a.row i hi, iK, iK]; simp only [Gz, ez, hG]; rw [show (ae c i).i 1 - aU (toB i) ps - aU (toB i) qs = (ae c i).i 1 - (aU (toB i) ps + aU (toB i) qs) by omega, show (ae c i).i 2 - aU (toI i) ps - aU (toI i) qs = (ae c i).i 2 - (aU (toI i) ps + aU (toI i) qs) by omega]
theorem Kept.shares {c : List Dat} (sel : Dat -> Bool) (n : Int) (h : aY c = true) (x : bk) (a : Int) {j : Nat} {kd : Int} (hk : (j = 2 /\ kd = 3) \/ (j = 1 /\ (kd = 4 \/ kd = 5 \/ kd = 7))) :
 Kept x c (bJ a kd 0 (aw sel j n c)) { x with az := x.az - (aw sel j n c).sum, au := if kd = 4 \/ kd = 5 then x.au - (aw sel j n c).sum else x.au } (bP j (aw sel j n c) c) := by
 have hj : j = 1 \/ j = 2 := by omega
 obtain ⟨l1, l2, l3⟩ := eB sel hj n h; obtain ⟨h1, h2⟩ := bO h; have hm := DJ sel hj n h; have hp := lD a kd (aw sel j n c) 0; have hs := wy a kd (aw sel j n c) 0 hm; have hat := fun i => xR a kd (aw sel j n c) 0 i hm
 have kk : ∀ d ∈ bJ a kd 0 (aw sel j n c), kF d = false /\ kR d = false /\ kT d = false /\ kI d = (kd == 3) /\ kB d = !(kd == 3) := fun d hd => by
  have := (hp d hd).2.1; simp only [kB, kF, kR, kT, kI, this]; rcases hk with ⟨_, rfl⟩ | ⟨_, rfl | rfl | rfl⟩ <;> decide
 refine ⟨by rw [hs], ?_, ?_, ?_, ?_, mY j _ c l1, fun i hi => ?_⟩
 . rw [gg kF _ fun d hd => (kk d hd).1]; simp
 . rw [gg kR _ fun d hd => (kk d hd).2.1]; simp
 . rw [gg kT _ fun d hd => (kk d hd).2.2.1]; simp
 . by_cases h45 : kd = 4 \/ kd = 5
   . simp only [if_pos h45]; rw [BS kP _ fun d hd => by
      have := (kk d hd).2.2.2.2; have h6 := (hp d hd).2.1; simp only [kP, this, h6]; rcases h45 with rfl | rfl <;> rfl, hs]
   . simp only [if_neg h45]; rw [gg kP _ fun d hd => by
      have := (kk d hd).2.2.2.2; have h6 := (hp d hd).2.1; simp only [kP, this, h6]; rcases hk with ⟨_, rfl⟩ | ⟨_, rfl | rfl | rfl⟩
      . rfl
      . exact absurd (.inl rfl) h45
      . exact absurd (.inr rfl) h45
      . rfl]
     simp
 . rw [mL j _ c i l1 hi]; have e2 := hat i; simp only [za0] at e2; rcases hk with ⟨rfl, rfl⟩ | ⟨rfl, hk⟩
   . have a1 : aU (toB i) (bJ a 3 0 (aw sel 2 n c)) = 0 := gg _ _ fun d hd => by simp only [toB, (kk d hd).2.2.2.2]; rfl
     have a2 : aU (toI i) (bJ a 3 0 (aw sel 2 n c)) = (aw sel 2 n c).getD i 0 := by
      rw [<- e2]; exact qW _ fun d hd => by simp only [toI, (kk d hd).2.2.2.1]; rfl
     rw [a1, a2]; simp only [ck, show ¬ (2 : Nat) = 1 by decide, zbh, zbo]
   . have k3 : (kd == 3) = false := by rcases hk with rfl | rfl | rfl <;> rfl
     have a1 : aU (toI i) (bJ a kd 0 (aw sel 1 n c)) = 0 := gg _ _ fun d hd => by simp only [toI, (kk d hd).2.2.2.1, k3]; rfl
     have a2 : aU (toB i) (bJ a kd 0 (aw sel 1 n c)) = (aw sel 1 n c).getD i 0 := by
      rw [<- e2]; exact qW _ fun d hd => by simp only [toB, (kk d hd).2.2.2.2, k3]; rfl
     rw [a1, a2]; simp only [ck, za7, zbo]
theorem Kept.nV {a kd : Int} (hk : kd = 4 \/ kd = 7) : ∀ (k : Nat) (r n : Int) (x : bk) (c : List Dat), aY c = true ->
 Kept x c (bt a kd k r n c).2.1 { x with az := x.az - (bt a kd k r n c).2.2, au := if kd = 4 then x.au - (bt a kd k r n c).2.2 else x.au } (bt a kd k r n c).1
 | 0, r, n, x, c, h => by
  have := Kept.refl (x := x) fun d hd => (cu ((bO h).2 d hd)).1
  simp only [bt, zbo, ite_self]; exact this
 | k + 1, r, n, x, c, h => by
  obtain ⟨g1, g2⟩ := pk (aI r) (j := 1) (.inl rfl) n h; have a1 := Kept.shares (aI r) n h x a (j := 1) (kd := kd) (.inr ⟨rfl, by omega⟩); have a2 := Kept.nV (a := a) hk k (r + 1) (n - (aw (aI r) 1 n c).sum) { x with az := x.az - (aw (aI r) 1 n c).sum, au := if kd = 4 \/ kd = 5 then x.au - (aw (aI r) 1 n c).sum else x.au } _ g1; have := a1.trans a2; simp only [bt]; have e : (if kd = 4 \/ kd = 5 then x.au - (aw (aI r) 1 n c).sum else x.au) = if kd = 4 then x.au - (aw (aI r) 1 n c).sum else x.au := by
   rcases hk with rfl | rfl <;> simp
  simp only [e] at this; generalize (bt a kd k (r + 1) (n - (aw (aI r) 1 n c).sum) (bP 1 (aw (aI r) 1 n c) c)).2.2 = y at *
  by_cases h4 : kd = 4
  . simp only [if_pos h4, Int.sub_sub] at this ⊢; exact this
  . simp only [if_neg h4, Int.sub_sub] at this ⊢; exact this
def AP (n : Nat) (a kd : Int) (d : Dat) : Prop := d.i 0 = a /\ d.i 1 = kd /\ 1 <= d.i 3 /\ (-1 <= d.i 2 /\ d.i 2 < n) /\ (d.i 2 < 0 ↔ (kd = 1 \/ kd = 2 \/ kd = 6))
theorem qF {a kd : Int} {xs : List Int} {n : Nat} (hl : xs.length = n) (hk : ¬ (kd = 1 \/ kd = 2 \/ kd = 6)) : ∀ d ∈ bJ a kd 0 xs, AP n a kd d := fun d hd => by
 obtain ⟨h1, h2, h3, h4, h5⟩ := lD a kd xs 0 d hd; exact ⟨h1, h2, h4, by omega, by omega⟩
theorem ob {a kd : Int} (hk : ¬ (kd = 1 \/ kd = 2 \/ kd = 6)) : ∀ (k : Nat) (r n : Int) (c : List Dat), aY c = true -> ∀ d ∈ (bt a kd k r n c).2.1, AP c.length a kd d
 | 0, r, n, c, h, d, hd => by simp [bt] at hd
 | k + 1, r, n, c, h, d, hd => by
  obtain ⟨g1, g2⟩ := pk (aI r) (j := 1) (.inl rfl) n h; obtain ⟨l1, l2, l3⟩ := eB (aI r) (j := 1) (.inl rfl) n h; simp only [bt] at hd; rcases zbk.1 hd with hd | hd
  . exact qF l1 hk d hd
  . have := ob hk k (r + 1) _ _ g1 d hd
    rwa [g2] at this
theorem mu {x : bk} {c : List Dat} (h : aY c = true) (a kd n : Int) (h0 : 0 <= n) (hk : kd = 1 \/ kd = 2 \/ kd = 6) :
 Kept x c (kx a kd n) { x with az := x.az - n, fee := if kd = 1 then x.fee - n else x.fee, bK := if kd = 2 then x.bK - n else x.bK, room := if kd = 6 then x.room - n else x.room } c /\ ∀ d ∈ kx a kd n, AP c.length a kd d := by
 have hr : ∀ d ∈ c, mh 3 d = true := fun d hd => (cu ((bO h).2 d hd)).1
 unfold kx
 by_cases hn : 0 < n
 . rw [if_pos hn]; refine ⟨⟨by simp [af, fu], ?_, ?_, ?_, ?_, rfl, fun i hi => ?_⟩, fun d hd => ?_⟩
   . simp only [aU, kF, ez, fu]; rcases hk with rfl | rfl | rfl <;> simp
   . simp only [aU, kR, ez, fu]; rcases hk with rfl | rfl | rfl <;> simp
   . simp only [aU, kT, ez, fu]; rcases hk with rfl | rfl | rfl <;> simp
   . simp only [aU, kP, kB, kF, kR, kT, kI, ez, fu]; rcases hk with rfl | rfl | rfl <;> simp
   . have a1 : aU (toB i) [Dat.r [.n a, .n kd, .n (-1), .n n]] = 0 := by simp only [aU, toB, kB, kF, kR, kT, kI, ez, hG]; rcases hk with rfl | rfl | rfl <;> simp
     have a2 : aU (toI i) [Dat.r [.n a, .n kd, .n (-1), .n n]] = 0 := by simp only [aU, toI, kI, ez, hG]; rcases hk with rfl | rfl | rfl <;> simp
     rw [a1, a2, zbo, zbo]; exact CR (hr _ (nK hi))
   . rw [zbt.1 hd]; refine ⟨rfl, rfl, ?_, ?_, ?_⟩
     . show (1 : Int) <= n; exact hn
     . exact ⟨zb8 (-1), by show (-1 : Int) < (c.length : Int); omega⟩
     . show (-1 : Int) < 0 ↔ _; exact ⟨fun _ => hk, fun _ => by decide⟩
 . rw [if_neg hn]; obtain rfl : n = 0 := by omega
   simp only [zbo, ite_self]; exact ⟨Kept.refl hr, fun d hd => by cases hd⟩
theorem Cu (a kd rk : Int) {x : bk} {c : List Dat} (hx : nQ x = true) (h : aY c = true) : Kept x c (dF a kd rk x c).2.2 (dF a kd rk x c).1 (dF a kd rk x c).2.1 /\ ∀ d ∈ (dF a kd rk x c).2.2, AP c.length a kd d := by
 have hx' := ti hx; have s1 := fun sel j hj n => (eB (c := c) sel (j := j) hj n h).1
 unfold dF
 by_cases k1 : kd = 1
 . rw [if_pos k1]; have := mu (x := x) h a kd (min x.fee x.az) (by omega) (.inl k1); subst k1; exact this
 rw [if_neg k1]
 by_cases k2 : kd = 2
 . rw [if_pos k2]; have := mu (x := x) h a kd (min x.bK x.az) (by omega) (.inr (.inl k2)); subst k2; exact this
 rw [if_neg k2]
 by_cases k6 : kd = 6
 . rw [if_pos k6]; have := mu (x := x) h a kd (min x.room x.az) (by omega) (.inr (.inr k6)); subst k6; exact this
 rw [if_neg k6]; have hk : ¬ (kd = 1 \/ kd = 2 \/ kd = 6) := by omega
 by_cases k3 : kd = 3
 . rw [if_pos k3]; have := Kept.shares (aI rk) x.az h x a (j := 2) (kd := kd) (.inl ⟨rfl, k3⟩); rw [if_neg (by omega)] at this; exact ⟨this, qF (s1 (aI rk) 2 (.inr rfl) x.az) hk⟩
 rw [if_neg k3]
 by_cases k4 : kd = 4
 . rw [if_pos k4]; have := Kept.nV (a := a) (kd := kd) (.inl k4) 8 0 (min x.au x.az) x c h; simp only [if_pos k4] at this; have hp := ob (a := a) hk 8 0 (min x.au x.az) c h; generalize bt a kd 8 0 (min x.au x.az) c = y at *
   exact ⟨this, hp⟩
 rw [if_neg k4]
 by_cases k5 : kd = 5
 . rw [if_pos k5]; have := Kept.shares (fun _ => true) (min x.au x.az) h x a (j := 1) (kd := kd) (.inr ⟨rfl, by omega⟩); rw [if_pos (by omega)] at this; exact ⟨this, qF (s1 (fun _ => true) 1 (.inl rfl) _) hk⟩
 rw [if_neg k5]
 by_cases k7 : kd = 7
 . rw [if_pos k7]; have := Kept.nV (a := a) (kd := kd) (.inr k7) 8 0 x.az x c h; simp only [if_neg k4] at this; have hp := ob (a := a) hk 8 0 x.az c h; generalize bt a kd 8 0 x.az c = y at *
   exact ⟨this, hp⟩
 rw [if_neg k7]; exact ⟨Kept.refl fun d hd => (cu ((bO h).2 d hd)).1, fun d hd => by cases hd⟩
def IJ (n : Nat) (a : Int) (l : List Dat) (d : Dat) : Prop := (a <= d.i 0 /\ d.i 0 < a + l.length) /\ AP n (d.i 0) (ae l (d.i 0 - a).toNat |>.i 0) d
theorem yj : ∀ (l : List Dat) (a : Int) (x : bk) (c : List Dat), nQ x = true -> aY c = true -> Kept x c (dK a l x c).2.2 (dK a l x c).1 (dK a l x c).2.1 /\ (∀ d ∈ (dK a l x c).2.2, IJ c.length a l d) /\ (dK a l x c).2.2.Pairwise fun d e => d.i 0 <= e.i 0
 | [], a, x, c, hx, h => ⟨Kept.refl fun d hd => (cu ((bO h).2 d hd)).1, fun d hd => by simp [dK] at hd, List.Pairwise.nil⟩
 | s :: l, a, x, c, hx, h => by
  obtain ⟨h1, h2, h3, h4⟩ := vL a (s.i 0) (s.i 1) hx h; obtain ⟨k1, k2⟩ := Cu a (s.i 0) (s.i 1) hx h; obtain ⟨i1, i2, i3⟩ := yj l (a + 1) _ _ h1 h2; simp only [dK]; refine ⟨k1.trans i1, fun d hd => ?_, ?_⟩
  . rcases zbk.1 hd with hd | hd
    . obtain ⟨g0, g1, g2, g3, g4⟩ := k2 d hd; refine ⟨by rw [g0, zaf]; omega, ?_⟩; rw [g0, Int.sub_self]; exact ⟨g0, g1, g2, g3, g4⟩
    . obtain ⟨g0, g1⟩ := i2 d hd; rw [h3] at g1; refine ⟨by rw [zaf]; omega, ?_⟩; rw [show (d.i 0 - a).toNat = (d.i 0 - (a + 1)).toNat + 1 by omega]; exact g1
  . rw [List.pairwise_append]; refine ⟨?_, i3, fun d hd e he => ?_⟩
    . refine List.Pairwise.imp_of_mem (R := fun _ _ => True) (fun {d e} hd he _ => ?_) (List.pairwise_of_forall fun _ _ => trivial); rw [(k2 d hd).1, (k2 e he).1]; exact zb8 _
    . have := (k2 d hd).1; have := (i2 e he).1; omega
end
end Go.Proofs.YtdbkoeefnodejaaGreat
