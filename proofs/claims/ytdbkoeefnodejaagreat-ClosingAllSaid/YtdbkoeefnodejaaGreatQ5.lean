/- Part of a proof: Deal, Right, Trust, Notes, View, Same, Begins, Pool, Pro, Flow, FlowAid. Conditions: none. -/
import Derived.Test.YtdbkoeefnodejaaGreatQ4
set_option linter.unusedVariables false
set_option linter.unusedSimpArgs false
set_option linter.unnecessarySimpa false
set_option linter.unusedSectionVars false
namespace Go.Proofs.YtdbkoeefnodejaaGreat
noncomputable section
open Go Go.Proofs.YtdbkoeefnodejaaGreat.Ev
set_option maxRecDepth 20000
def QO : aF := ⟨T18.tab, 151, ⟨[.int .i64, .int .i64, .int .i64], [], 0⟩, ⟨[.bool], [], 0⟩, []⟩
def t151 (m : Nat) : Int × Int × Int -> Option (List Un) := fun (a0, a1, a2) =>
 bif decide (a0 >= a1) then
 some ([.b (decide (a0 <= a2))])
 else
 some ([.b false])
def f151 : Int × Int × Int -> Bool × List Un := fun (a0, a1, a2) => (true, [.b (decide (a1 <= a0 /\ a0 <= a2))])
theorem J2 (a0 : Int) (a1 : Int) (a2 : Int) : ∃ m, t151 m (a0, a1, a2) = some ([.b (decide (a1 <= a0 /\ a0 <= a2))]) := by
 refine ⟨0, ?_⟩; unfold t151
 by_cases h : a1 <= a0 <;> by_cases h2 : a0 <= a2 <;> simp [h, h2]
theorem IZ : ER 151 (mkE QO.en QO.ex f151) := ar ag T18.right (fun m => []) (t := t151) (by kernel_rfl) (fun m => aE) (fun m a => by kernel_rfl) fun (a0, a1, a2) hc => J2 a0 a1 a2
def KG : Tb Tryz.prog LQ TE := T18.add 151 _ IZ
def wI (a b : Int) : List Dat -> Int -> Int
 | [], _ => -1
 | d :: l, i => if a = d.i 0 /\ b = d.i 1 then i else wI a b l (i + 1)
theorem Cg (a b : Int) : ∀ (l : List Dat) (i : Int), 0 <= i -> (0 <= wI a b l i ↔ ck l a b = true)
 | [], i, h => by simp [wI, ck]
 | d :: l, i, h => by
  have := Cg a b l (i + 1) (by omega); simp only [ck, List.any_cons, Bool.or_eq_true, Bool.and_eq_true, beq_iff_eq] at this ⊢; unfold wI
  by_cases hc : a = d.i 0 /\ b = d.i 1
  · rw [if_pos hc]; exact ⟨fun _ => .inl ⟨hc.1.symm, hc.2.symm⟩, fun _ => h⟩
  · rw [if_neg hc, this]; exact ⟨.inr, fun h => h.resolve_left fun e => hc ⟨e.1.symm, e.2.symm⟩⟩
def PG : aF := ⟨KG.tab, 168, ⟨[.ae (sI 2), .agg [.int .i64, .int .i64]], [], 0⟩, ⟨[.int .i64], [], 0⟩, []⟩
abbrev yU : Type := List Dat × Int × Int × Int × Int
def tc (m : Nat) (k : yU -> Option (List Un)) : yU -> Option (List Un) := fun (a0, a1, a2, a3, a4) =>
 bif decide (a2 < a1) then
 chk (inb a2 a0.length) <|
 chk (decide (a2.toNat < a0.length)) <|
 lt (af a0 a2.toNat : Dat) fun d1 =>
 bif ((a3 == (d1.i 0)) && ((a4 == (d1.i 1)) && true)) then
 some ([.i a2])
 else
 k (a0, a1, (w64 (a2 + 1)), a3, a4)
 else
 some ([.i (-1)])
def pS (m : Nat) : Nat -> yU -> Option (List Un) := bj (tc m)
theorem qS (m : Nat) (n : Nat) : pS m (n + 1) = tc m (pS m n) := rfl
def DK (F : yU -> Option (List Un)) : aR := ⟨[.lp [0, 1, 0, 1], .blk 0, .code [1, 1]], ⟨frm 19 [(0, .ae (sI 2)), (3, .ptr 0 0 0), (7, .int .i64), (8, .int .i64)], [.cells [.int .i64, .int .i64]], 0⟩, onU F⟩
theorem P5 (m : Nat) : ∀ n, HO PG (DK (pS m n)) := au ag KG.right (fun k => [DK k]) (fun k h => (aH h aE)) fun k a => by kernel_rfl
def t168 (m : Nat) : List Dat × Int × Int -> Option (List Un) := fun (a0, a1, a2) =>
 pS m m (a0, (a0.length : Int), 0, a1, a2)
theorem Sm (m : Nat) (a b : Int) : ∀ (rest pre : List Dat) (n : Nat), rest.length < n -> (pre ++ rest).length < 1099511627776 ->
 pS m n (pre ++ rest, ((pre ++ rest).length : Int), (pre.length : Int), a, b) = some [.i (wI a b rest pre.length)] := by
 intro rest
 induction rest with
 | nil =>
  intro pre n hn hl; obtain ⟨n, rfl⟩ := al n (by simp at hn; omega); rw [qS]; unfold tc; dsimp only; simp [aw, wI]
 | cons x rest ih =>
  intro pre n hn hl; obtain ⟨n, rfl⟩ := al n (by simp at hn; omega); simp only [List.length_cons, List.length_append] at hn hl; have := ih (pre ++ [x]) n (by omega) (by simp; omega); rw [qS]; unfold tc; dsimp only; simp only [wI]
  by_cases h1 : a = x.i 0
  · by_cases h2 : b = x.i 1
    · rw [if_pos ⟨h1, h2⟩]; simp (disch := omega) only [TRa, TRi, aa, LNl, LNi, Int.cast_ofNat_Int, ao]
    · rw [if_neg (fun h => h2 h.2)]; simp (disch := omega) only [TRa, TRi, aa, LNl, LNi, Int.cast_ofNat_Int, ao]; simp only [LNl, LNi, Int.cast_ofNat_Int] at this ⊢; exact this
  · rw [if_neg (fun h => h1 h.1)]; simp (disch := omega) only [TRa, TRi, aa, LNl, LNi, Int.cast_ofNat_Int, ao]; simp only [LNl, LNi, Int.cast_ofNat_Int] at this ⊢; exact this
def f168 : List Dat × Int × Int -> Bool × List Un := fun (a0, a1, a2) => (decide (a0.length < 1099511627776), [.i (wI a1 a2 a0 0)])
theorem Mw (a0 : List Dat) (a1 : Int) (a2 : Int) (hc : (decide (a0.length < 1099511627776)) = true) : ∃ m, t168 m (a0, a1, a2) = some ([.i (wI a1 a2 a0 0)]) := by
 refine ⟨a0.length + 1, ?_⟩; exact Sm _ a1 a2 a0 [] _ (by omega) (of_decide_eq_true hc)
theorem Iu : ER 168 (mkE PG.en PG.ex f168) := ar ag KG.right (fun m => [DK (pS m m)]) (t := t168) (by kernel_rfl) (fun m => (aH (P5 m m) aE)) (fun m a => by kernel_rfl) fun (a0, a1, a2) hc => Mw a0 a1 a2 hc
def NN : Tb Tryz.prog LQ TE := KG.add 168 _ Iu
def R3 : aF := ⟨NN.tab, 152, ⟨[.ae (sI 2), .agg [.int .i64, .int .i64]], [], 0⟩, ⟨[.bool], [], 0⟩, []⟩
def t152 (m : Nat) : List Dat × Int × Int -> Option (List Un) := fun (a0, a1, a2) =>
 chk (decide (a0.length < 1099511627776)) <|
 some ([.b (decide ((wI a1 a2 a0 0) >= 0))])
def f152 : List Dat × Int × Int -> Bool × List Un := fun (a0, a1, a2) => (decide (a0.length < 1099511627776), [.b (ck a0 a1 a2)])
theorem LJ (a0 : List Dat) (a1 : Int) (a2 : Int) (hc : (decide (a0.length < 1099511627776)) = true) : ∃ m, t152 m (a0, a1, a2) = some ([.b (ck a0 a1 a2)]) := by
 refine ⟨0, ?_⟩; have e := Cg a1 a2 a0 0 (Int.le_refl 0); have h := of_decide_eq_true hc; unfold t152; simp (disch := omega) only [TRa, TRi, aa]; cases h : ck a0 a1 a2 <;> simp [h] at e ⊢ <;> omega
theorem GU : ER 152 (mkE R3.en R3.ex f152) := ar ag NN.right (fun m => []) (t := t152) (by kernel_rfl) (fun m => aE) (fun m a => by kernel_rfl) fun (a0, a1, a2) hc => LJ a0 a1 a2 hc
def Ku : Tb Tryz.prog LQ TE := NN.add 152 _ GU
theorem L6 {c y : Bool} : (bif c then some [Un.b y] else some [.b false]) = some [.b (c && y)] := by cases c <;> rfl
def kX (d : br) : Bool :=
 decide (0 <= d.b.oc /\ d.b.oc <= 100000) && (decide (0 <= d.b.ic /\ d.b.ic <= 100000) && (decide (0 <= d.b.late /\ d.b.late <= 100000) && (decide (0 <= d.b.kh /\ d.b.kh <= 100000) && (decide (0 <= d.b.clean /\ d.b.clean <= 100000) &&
 (decide (1 <= d.a.year /\ d.a.year <= 9000) && (decide (1 <= d.a.month /\ d.a.month <= 12) && (decide (0 <= d.a.basis /\ d.a.basis <= 2) && (decide (0 <= d.b.fee /\ d.b.fee <= 5000) && (decide (0 <= d.b.bs /\ d.b.bs <= 1099511627776) &&
 (decide (0 <= d.b.target /\ d.b.target <= 10000) && (decide (0 <= d.b.advance /\ d.b.advance <= 1099511627776) && decide (0 <= d.b.dV /\ d.b.dV <= 600))))))))))))
def NV : aF := ⟨Ku.tab, 117, ⟨[.agg [.int .i64, .int .i64, .int .i64, .ae (sI 2), .ae (sI 3), .int .i64, .int .i64, .int .i64, .int .i64, .int .i64, .int .i64, .int .i64, .int .i64, .int .i64, .int .i64, .ae (sI 2), .ae (sI 2), .ae (sI 2)]], [], 0⟩, ⟨[.bool], [], 0⟩, []⟩
abbrev Ah : Type := Int × Int × br × List Int
def Au (m : Nat) (k : Ah -> Option (List Un)) : Ah -> Option (List Un) := fun (a0, a1, a2, a3) =>
 bif decide (a1 < a0) then
 chk (inb a1 a3.length) <|
 chk (decide (a1.toNat < a3.length)) <|
 bif !(decide (0 <= (a3.getD a1.toNat 0) /\ (a3.getD a1.toNat 0) <= 100000)) then
 some ([.b false])
 else
 k (a0, (w64 (a1 + 1)), a2, a3)
 else
 bif (decide (1 <= a2.a.year /\ a2.a.year <= 9000)) then
 bif (decide (1 <= a2.a.month /\ a2.a.month <= 12)) then
 bif (decide (0 <= a2.a.basis /\ a2.a.basis <= 2)) then
 bif (decide (0 <= a2.b.fee /\ a2.b.fee <= 5000)) then
 bif (decide (0 <= a2.b.bs /\ a2.b.bs <= 1099511627776)) then
 bif (decide (0 <= a2.b.target /\ a2.b.target <= 10000)) then
 bif (decide (0 <= a2.b.advance /\ a2.b.advance <= 1099511627776)) then
 some ([.b (decide (0 <= a2.b.dV /\ a2.b.dV <= 600))])
 else
 some ([.b false])
 else
 some ([.b false])
 else
 some ([.b false])
 else
 some ([.b false])
 else
 some ([.b false])
 else
 some ([.b false])
 else
 some ([.b false])
def nS (m : Nat) : Nat -> Ah -> Option (List Un) := bj (Au m)
theorem BO (m : Nat) (n : Nat) : nS m (n + 1) = Au m (nS m n) := rfl
def CP (F : Ah -> Option (List Un)) : aR := ⟨[.lp [0, 1, 0, 1], .blk 0, .code [1, 1]], ⟨frm 68 [(1, .ptr 0 0 0), (20, .buf 1 1), (21, .int .i64), (22, .int .i64)], [.cells [.int .i64, .int .i64, .int .i64, .ae (sI 2), .ae (sI 3), .int .i64, .int .i64, .int .i64, .int .i64, .int .i64, .int .i64, .int .i64, .int .i64, .int .i64, .int .i64, .ae (sI 2), .ae (sI 2), .ae (sI 2)], .ints .i64], 0⟩, onU F⟩
theorem OT (m : Nat) : ∀ n, HO NV (CP (nS m n)) := au ag Ku.right (fun k => [CP k]) (fun k h => (aH h aE)) fun k a => by kernel_rfl
def t117 (m : Nat) : br -> Option (List Un) := fun a0 =>
 nS m m (5, 0, a0, ([a0.b.oc, a0.b.ic, a0.b.late, a0.b.kh, a0.b.clean] : List Int))
def f117 : br -> Bool × List Un := fun a0 => (true, [.b (kX a0)])
set_option maxHeartbeats 2000000 in
theorem Lk (a0 : br) : ∃ m, t117 m a0 = some ([.b (kX a0)]) := by
 refine ⟨6, ?_⟩; unfold t117; rw [show nS 6 6 = nS 6 (0 + 1 + 1 + 1 + 1 + 1 + 1) from rfl]; simp only [BO]; unfold Au; dsimp only; simp (disch := omega) only [TRa, TRi, aa, List.length_cons, List.length_nil, List.getD_cons_zero, List.getD_cons_succ, Int.reduceToNat, Nat.reduceAdd, Int.zero_add, Int.reduceAdd, decide_true, decide_false, Int.reduceLT]; simp only [L6]; rfl
theorem G7 : ER 117 (mkE NV.en NV.ex f117) := ar ag Ku.right (fun m => [CP (nS m m)]) (t := t117) (by kernel_rfl) (fun m => (aH (OT m m) aE)) (fun m a => by kernel_rfl) fun a0 hc => Lk a0
def La : Tb Tryz.prog LQ TE := Ku.add 117 _ G7
def gq : Int -> Int -> List Dat -> Option Int
 | _, all, [] => some all
 | last, all, d :: l => if d.i 0 <= last then none else if 0 <= d.i 1 /\ d.i 1 <= 1099511627776 - all then gq (d.i 0) (all + d.i 1) l else none
def ee (l : List Dat) : Option Int := if 1 <= l.length /\ l.length <= 64 then gq 0 0 l else none
def JT (o : Option Int) : Option (List Un) := some [.i (o.getD 0), .b o.isSome]
def Nf : aF := ⟨La.tab, 115, ⟨[.ae (sI 2)], [], 0⟩, ⟨[.int .i64, .bool], [], 0⟩, []⟩
abbrev yM : Type := Int × Int × List Dat × Int × Int
def sH (m : Nat) (k : yM -> Option (List Un)) : yM -> Option (List Un) := fun (a0, a1, a2, a3, a4) =>
 bif decide (a4 < a3) then
 chk (inb a4 a2.length) <|
 chk (decide (a4.toNat < a2.length)) <|
 lt (af a2 a4.toNat : Dat) fun d2 =>
 bif decide ((d2.i 0) <= a0) then
 some ([.i 0, .b false])
 else
 bif !(decide (0 <= (d2.i 1) /\ (d2.i 1) <= (w64 (1099511627776 - a1)))) then
 some ([.i 0, .b false])
 else
 k ((d2.i 0), (w64 (a1 + (d2.i 1))), a2, a3, (w64 (a4 + 1)))
 else
 some ([.i a1, .b true])
def qn (m : Nat) : Nat -> yM -> Option (List Un) := bj (sH m)
theorem rE (m : Nat) (n : Nat) : qn m (n + 1) = sH m (qn m n) := rfl
def Dh (F : yM -> Option (List Un)) : aR := ⟨[.lp [0, 1, 0, 1, 1, 1], .blk 0, .code [1, 1, 1, 1]], ⟨frm 38 [(4, .int .i64), (5, .int .i64), (12, .ae (sI 2)), (13, .int .i64), (14, .int .i64)], [], 0⟩, onU F⟩
theorem Ox (m : Nat) : ∀ n, HO Nf (Dh (qn m n)) := au ag La.right (fun k => [Dh k]) (fun k h => (aH h aE)) fun k a => by kernel_rfl
def t115 (m : Nat) : List Dat -> Option (List Un) := fun a0 =>
 bif !(decide (1 <= (a0.length : Int) /\ (a0.length : Int) <= 64)) then
 some ([.i 0, .b false])
 else
 qn m m (0, 0, a0, (a0.length : Int), 0)
theorem L2 (m : Nat) : ∀ (rest pre : List Dat) (n : Nat) (last all : Int), rest.length < n -> (pre ++ rest).length <= 64 -> 0 <= all -> all <= 1099511627776 ->
 qn m n (last, all, pre ++ rest, ((pre ++ rest).length : Int), (pre.length : Int)) = JT (gq last all rest) := by
 intro rest
 induction rest with
 | nil =>
  intro pre n last all hn hl h0 h1; obtain ⟨n, rfl⟩ := al n (by simp at hn; omega); rw [rE]; unfold sH; dsimp only; simp [aw, gq, JT]
 | cons x rest ih =>
  intro pre n last all hn hl h0 h1; obtain ⟨n, rfl⟩ := al n (by simp at hn; omega); simp only [List.length_cons, List.length_append] at hn hl; rw [rE]; unfold sH; dsimp only; simp only [gq]
  by_cases c1 : x.i 0 <= last
  · rw [if_pos c1]; simp (disch := omega) only [TRa, TRi, aa, LNl, LNi, Int.cast_ofNat_Int, ao]; rfl
  · rw [if_neg c1]
    by_cases c2 : 0 <= x.i 1 /\ x.i 1 <= 1099511627776 - all
    · rw [if_pos c2]; have := ih (pre ++ [x]) n (x.i 0) (all + x.i 1) (by omega) (by simp; omega) (by omega) (by omega); simp (disch := omega) only [TRa, TRi, aa, LNl, LNi, Int.cast_ofNat_Int, ao]; simp only [LNl, LNi, Int.cast_ofNat_Int] at this ⊢; exact this
    · rw [if_neg c2]; simp (disch := omega) only [TRa, TRi, aa, LNl, LNi, Int.cast_ofNat_Int, ao]; rfl
def f115 : List Dat -> Bool × List Un := fun a0 => (true, [.i ((ee a0).getD 0), .b ((ee a0).isSome)])
theorem Lv (a0 : List Dat) : ∃ m, t115 m a0 = some ([.i ((ee a0).getD 0), .b ((ee a0).isSome)]) := by
 refine ⟨65, ?_⟩; unfold t115 ee
 by_cases h : 1 <= a0.length /\ a0.length <= 64
 · rw [if_pos h]; simp (disch := omega) only [TRa, TRi, aa]; exact L2 65 a0 [] 65 0 0 (by omega) h.2 (by omega) (by omega)
 · rw [if_neg h]; simp (disch := omega) only [TRa, TRi, aa]; rfl
theorem I3 : ER 115 (mkE Nf.en Nf.ex f115) := ar ag La.right (fun m => [Dh (qn m m)]) (t := t115) (by kernel_rfl) (fun m => (aH (Ox m m) aE)) (fun m a => by kernel_rfl) fun a0 hc => Lv a0
def J4 : Tb Tryz.prog LQ TE := La.add 115 _ I3
def jw (most : Int) : Int -> List Dat -> Option Int
 | all, [] => some all
 | all, d :: l => if (0 <= d.i 0 /\ d.i 0 <= 7) /\ (1 <= d.i 1 /\ d.i 1 <= most - all) /\ (0 <= d.i 2 /\ d.i 2 <= 5000) then jw most (all + d.i 1) l else none
def gM (most : Int) (l : List Dat) : Option Int := if 1 <= l.length /\ l.length <= 8 then jw most 0 l else none
def Nz : aF := ⟨J4.tab, 116, ⟨[.ae (sI 3), .int .i64], [], 0⟩, ⟨[.int .i64, .bool], [], 0⟩, []⟩
abbrev Az : Type := Int × Int × List Dat × Int × Int
def sm (m : Nat) (k : Az -> Option (List Un)) : Az -> Option (List Un) := fun (a0, a1, a2, a3, a4) =>
 bif decide (a4 < a3) then
 chk (inb a4 a2.length) <|
 chk (decide (a4.toNat < a2.length)) <|
 lt (af a2 a4.toNat : Dat) fun d2 =>
 bif !(decide (0 <= (d2.i 0) /\ (d2.i 0) <= 7)) then
 some ([.i 0, .b false])
 else
 bif !(decide (1 <= (d2.i 1) /\ (d2.i 1) <= (w64 (a0 - a1)))) then
 some ([.i 0, .b false])
 else
 bif !(decide (0 <= (d2.i 2) /\ (d2.i 2) <= 5000)) then
 some ([.i 0, .b false])
 else
 k (a0, (w64 (a1 + (d2.i 1))), a2, a3, (w64 (a4 + 1)))
 else
 some ([.i a1, .b true])
def pJ (m : Nat) : Nat -> Az -> Option (List Un) := bj (sm m)
theorem rT (m : Nat) (n : Nat) : pJ m (n + 1) = sm m (pJ m n) := rfl
def C9 (F : Az -> Option (List Un)) : aR := ⟨[.lp [0, 1, 0, 1, 1, 1], .blk 0, .code [1, 1, 1, 1]], ⟨frm 44 [(1, .int .i64), (6, .int .i64), (13, .ae (sI 3)), (14, .int .i64), (15, .int .i64)], [], 0⟩, onU F⟩
theorem Pm (m : Nat) : ∀ n, HO Nz (C9 (pJ m n)) := au ag J4.right (fun k => [C9 k]) (fun k h => (aH h aE)) fun k a => by kernel_rfl
def t116 (m : Nat) : List Dat × Int -> Option (List Un) := fun (a0, a1) =>
 bif !(decide (1 <= (a0.length : Int) /\ (a0.length : Int) <= 8)) then
 some ([.i 0, .b false])
 else
 pJ m m (a1, 0, a0, (a0.length : Int), 0)
theorem KZ (m : Nat) (most : Int) (hm : 0 <= most /\ most <= 1099511627776) : ∀ (rest pre : List Dat) (n : Nat) (all : Int), rest.length < n -> (pre ++ rest).length <= 8 -> 0 <= all -> all <= most ->
 pJ m n (most, all, pre ++ rest, ((pre ++ rest).length : Int), (pre.length : Int)) = JT (jw most all rest) := by
 intro rest
 induction rest with
 | nil =>
  intro pre n all hn hl h0 h1; obtain ⟨n, rfl⟩ := al n (by simp at hn; omega); rw [rT]; unfold sm; dsimp only; simp [aw, jw, JT]
 | cons x rest ih =>
  intro pre n all hn hl h0 h1; obtain ⟨n, rfl⟩ := al n (by simp at hn; omega); simp only [List.length_cons, List.length_append] at hn hl; rw [rT]; unfold sm; dsimp only; simp only [jw]
  by_cases c1 : 0 <= x.i 0 /\ x.i 0 <= 7
  · by_cases c2 : 1 <= x.i 1 /\ x.i 1 <= most - all
    · by_cases c3 : 0 <= x.i 2 /\ x.i 2 <= 5000
      · rw [if_pos ⟨c1, c2, c3⟩]; have := ih (pre ++ [x]) n (all + x.i 1) (by omega) (by simp; omega) (by omega) (by omega); simp (disch := omega) only [TRa, TRi, aa, LNl, LNi, Int.cast_ofNat_Int, ao]; simp only [LNl, LNi, Int.cast_ofNat_Int] at this ⊢; exact this
      · rw [if_neg (fun h => c3 h.2.2)]; simp (disch := omega) only [TRa, TRi, aa, LNl, LNi, Int.cast_ofNat_Int, ao]; rfl
    · rw [if_neg (fun h => c2 h.2.1)]; simp (disch := omega) only [TRa, TRi, aa, LNl, LNi, Int.cast_ofNat_Int, ao]; rfl
  · rw [if_neg (fun h => c1 h.1)]; simp (disch := omega) only [TRa, TRi, aa, LNl, LNi, Int.cast_ofNat_Int, ao]; rfl
def f116 : List Dat × Int -> Bool × List Un := fun (a0, a1) => (decide (0 <= a1 /\ a1 <= 1099511627776), [.i ((gM a1 a0).getD 0), .b ((gM a1 a0).isSome)])
theorem KC (a0 : List Dat) (a1 : Int) (hc : (decide (0 <= a1 /\ a1 <= 1099511627776)) = true) : ∃ m, t116 m (a0, a1) = some ([.i ((gM a1 a0).getD 0), .b ((gM a1 a0).isSome)]) := by
 have hm := of_decide_eq_true hc; refine ⟨65, ?_⟩; unfold t116 gM
 by_cases h : 1 <= a0.length /\ a0.length <= 8
 · rw [if_pos h]; simp (disch := omega) only [TRa, TRi, aa]; exact KZ 65 a1 hm a0 [] 65 0 (by omega) h.2 (by omega) (by omega)
 · rw [if_neg h]; simp (disch := omega) only [TRa, TRi, aa]; rfl
theorem HQ : ER 116 (mkE Nz.en Nz.ex f116) := ar ag J4.right (fun m => [C9 (pJ m m)]) (t := t116) (by kernel_rfl) (fun m => (aH (Pm m m) aE)) (fun m a => by kernel_rfl) fun (a0, a1) hc => KC a0 a1 hc
def LS : Tb Tryz.prog LQ TE := J4.add 116 _ HQ
def As (d : Dat) : Bool := decide (1 <= d.i 0 /\ d.i 0 <= 7) && decide (0 <= d.i 1 /\ d.i 1 <= (if d.i 0 = 3 then 7 else 0))
def ju : List Dat -> List Dat -> Bool
 | _, [] => true
 | pre, d :: l => As d && (!ck pre (d.i 0) (d.i 1) && ju (pre ++ [d]) l)
def dh (l : List Dat) : Bool := decide (1 <= (l.length : Int) /\ (l.length : Int) <= 16) && ju [] l
def Pr : aF := ⟨LS.tab, 118, ⟨[.ae (sI 2)], [], 0⟩, ⟨[.bool], [], 0⟩, []⟩
abbrev Ak : Type := List Dat × List Dat × Int × Int
def sF (m : Nat) (k : Ak -> Option (List Un)) : Ak -> Option (List Un) := fun (a0, a1, a2, a3) =>
 bif decide (a3 < a2) then
 chk (inb a3 a1.length) <|
 chk (decide (a3.toNat < a1.length)) <|
 lt (af a1 a3.toNat : Dat) fun d2 =>
 bif (d2.i 0) == 3 then
 bif !(decide (1 <= (d2.i 0) /\ (d2.i 0) <= 7)) then
 some ([.b false])
 else
 bif !(decide (0 <= (d2.i 1) /\ (d2.i 1) <= 7)) then
 some ([.b false])
 else
 chk (decide (0 <= a3) && (true && decide (0 <= a3.toNat /\ a3.toNat <= a0.length))) <|
 chk (decide ((List.take a3.toNat a0).length < 1099511627776)) <|
 bif (ck (List.take a3.toNat a0) (d2.i 0) (d2.i 1)) then
 some ([.b false])
 else
 k (a0, a1, a2, (w64 (a3 + 1)))
 else
 bif !(decide (1 <= (d2.i 0) /\ (d2.i 0) <= 7)) then
 some ([.b false])
 else
 bif !(decide (0 <= (d2.i 1) /\ (d2.i 1) <= 0)) then
 some ([.b false])
 else
 chk (decide (0 <= a3) && (true && decide (0 <= a3.toNat /\ a3.toNat <= a0.length))) <|
 chk (decide ((List.take a3.toNat a0).length < 1099511627776)) <|
 bif (ck (List.take a3.toNat a0) (d2.i 0) (d2.i 1)) then
 some ([.b false])
 else
 k (a0, a1, a2, (w64 (a3 + 1)))
 else
 some ([.b true])
def qH (m : Nat) : Nat -> Ak -> Option (List Un) := bj (sF m)
theorem rl (m : Nat) (n : Nat) : qH m (n + 1) = sF m (qH m n) := rfl
def DO (F : Ak -> Option (List Un)) : aR := ⟨[.lp [0, 1, 0, 1, 1], .blk 0, .code [1, 1, 1]], ⟨frm 39 [(0, .ae (sI 2)), (10, .ae (sI 2)), (11, .int .i64), (12, .int .i64)], [], 0⟩, onU F⟩
theorem NQ (m : Nat) : ∀ n, HO Pr (DO (qH m n)) := au ag LS.right (fun k => [DO k]) (fun k h => (aH h aE)) fun k a => by kernel_rfl
def t118 (m : Nat) : List Dat -> Option (List Un) := fun a0 =>
 bif !(decide (1 <= (a0.length : Int) /\ (a0.length : Int) <= 16)) then
 some ([.b false])
 else
 qH m m (a0, a0, (a0.length : Int), 0)
theorem MC (m : Nat) : ∀ (rest pre : List Dat) (n : Nat), rest.length < n -> (pre ++ rest).length <= 16 ->
 qH m n (pre ++ rest, pre ++ rest, ((pre ++ rest).length : Int), (pre.length : Int)) = some [.b (ju pre rest)] := by
 intro rest
 induction rest with
 | nil =>
  intro pre n hn hl; obtain ⟨n, rfl⟩ := al n (by simp at hn; omega); rw [rl]; unfold sF; dsimp only; simp [aw, ju]
 | cons x rest ih =>
  intro pre n hn hl; obtain ⟨n, rfl⟩ := al n (by simp at hn; omega); simp only [List.length_cons, List.length_append] at hn hl; rw [rl]; unfold sF; dsimp only; have := ih (pre ++ [x]) n (by omega) (by simp; omega); simp only [ju, As]
  by_cases c1 : 1 <= x.i 0 /\ x.i 0 <= 7
  · by_cases c3 : x.i 0 = 3
    · by_cases c2 : 0 <= x.i 1 /\ x.i 1 <= 7
      · cases h : ck pre (x.i 0) (x.i 1)
        · simp (disch := omega) only [TRa, TRi, aa, LNl, LNi, Int.cast_ofNat_Int, ao, List.length_take]; simp only [List.take_left, h, cond_false, if_pos c3, decide_eq_true c1, decide_eq_true c2, Bool.true_and, Bool.not_false]
          (try simp (disch := omega) only [TRa, TRi, aa, LNl, LNi, Int.cast_ofNat_Int, ao, List.length_take])
          simp only [LNl, LNi, Int.cast_ofNat_Int] at this ⊢; exact this
        · simp (disch := omega) only [TRa, TRi, aa, LNl, LNi, Int.cast_ofNat_Int, ao, List.length_take]; simp only [List.take_left, h, cond_true, if_pos c3, decide_eq_true c1, decide_eq_true c2, Bool.true_and, Bool.not_true, Bool.false_and]
      · simp (disch := omega) only [TRa, TRi, aa, LNl, LNi, Int.cast_ofNat_Int, ao, List.length_take]; simp only [if_pos c3, decide_eq_false c2, Bool.and_false, Bool.false_and]
    · by_cases c2 : 0 <= x.i 1 /\ x.i 1 <= 0
      · cases h : ck pre (x.i 0) (x.i 1)
        · simp (disch := omega) only [TRa, TRi, aa, LNl, LNi, Int.cast_ofNat_Int, ao, List.length_take]; simp only [List.take_left, h, cond_false, if_neg c3, decide_eq_true c1, decide_eq_true c2, Bool.true_and, Bool.not_false]
          (try simp (disch := omega) only [TRa, TRi, aa, LNl, LNi, Int.cast_ofNat_Int, ao, List.length_take])
          simp only [LNl, LNi, Int.cast_ofNat_Int] at this ⊢; exact this
        · simp (disch := omega) only [TRa, TRi, aa, LNl, LNi, Int.cast_ofNat_Int, ao, List.length_take]; simp only [List.take_left, h, cond_true, if_neg c3, decide_eq_true c1, decide_eq_true c2, Bool.true_and, Bool.not_true, Bool.false_and]
      · simp (disch := omega) only [TRa, TRi, aa, LNl, LNi, Int.cast_ofNat_Int, ao, List.length_take]; simp only [if_neg c3, decide_eq_false c2, Bool.and_false, Bool.false_and]
  · by_cases c3 : x.i 0 = 3
    · omega
    · simp (disch := omega) only [TRa, TRi, aa, LNl, LNi, Int.cast_ofNat_Int, ao, List.length_take]; simp only [decide_eq_false c1, Bool.false_and]
def f118 : List Dat -> Bool × List Un := fun a0 => (true, [.b (dh a0)])
theorem JE (a0 : List Dat) : ∃ m, t118 m a0 = some ([.b (dh a0)]) := by
 refine ⟨17, ?_⟩; unfold t118 dh
 by_cases h : 1 <= (a0.length : Int) /\ (a0.length : Int) <= 16
 · rw [decide_eq_true h, Bool.true_and]; simp (disch := omega) only [TRa, TRi, aa]; exact MC 17 a0 [] 17 (by omega) (by simp; omega)
 · rw [decide_eq_false h, Bool.false_and]; simp (disch := omega) only [TRa, TRi, aa]
theorem Hb : ER 118 (mkE Pr.en Pr.ex f118) := ar ag LS.right (fun m => [DO (qH m m)]) (t := t118) (by kernel_rfl) (fun m => (aH (NQ m m) aE)) (fun m a => by kernel_rfl) fun a0 hc => JE a0
def P8 : Tb Tryz.prog LQ TE := LS.add 118 _ Hb
def bC (d : br) : Option (Int × Int) :=
 match ee d.ax with
 | none => none
 | some p => match gM p d.notes with
  | none => none
  | some n => if kX d && (dh d.s0 && (dh d.s1 && dh d.s2)) then some (p, n) else none
theorem w9 : ∀ (l : List Dat) (last all r : Int), 0 <= all -> all <= 1099511627776 -> gq last all l = some r -> all <= r /\ r <= 1099511627776
 | [], last, all, r, h0, h1, h => by simp [gq] at h; omega
 | d :: l, last, all, r, h0, h1, h => by
  unfold gq at h
  split at h
  · cases h
  · split at h
    · have := w9 l _ _ r (by omega) (by omega) h; omega
    · cases h
theorem FU {l : List Dat} {r : Int} (h : ee l = some r) : 0 <= r /\ r <= 1099511627776 := by
 unfold ee at h
 split at h
 · exact w9 l 0 0 r (by omega) (by omega) h
 · cases h
def N59 : aF := ⟨P8.tab, 59, ⟨[.agg [.int .i64, .int .i64, .int .i64, .ae (sI 2), .ae (sI 3), .int .i64, .int .i64, .int .i64, .int .i64, .int .i64, .int .i64, .int .i64, .int .i64, .int .i64, .int .i64, .ae (sI 2), .ae (sI 2), .ae (sI 2)]], [], 0⟩, ⟨[.int .i64, .int .i64, .bool], [], 0⟩, [[0, 1, 0, 1, 1, 1, 1]]⟩
def t59 (m : Nat) : br -> Option (List Un) := fun a0 =>
 chk (decide (0 <= ((ee a0.ax).getD 0) /\ ((ee a0.ax).getD 0) <= 1099511627776)) <|
 bif !((ee a0.ax).isSome) then
 some ([.i 0, .i 0, .b false])
 else
 bif !((gM ((ee a0.ax).getD 0) a0.notes).isSome) then
 some ([.i 0, .i 0, .b false])
 else
 bif !(kX a0) then
 some ([.i 0, .i 0, .b false])
 else
 bif !(dh a0.s0) then
 some ([.i 0, .i 0, .b false])
 else
 bif !(dh a0.s1) then
 some ([.i 0, .i 0, .b false])
 else
 bif !(dh a0.s2) then
 some ([.i 0, .i 0, .b false])
 else
 some ([.i ((ee a0.ax).getD 0), .i ((gM ((ee a0.ax).getD 0) a0.notes).getD 0), .b true])
def f59 : br -> Bool × List Un := fun a0 => (true, [.i (((bC a0).getD (0, 0)).1), .i (((bC a0).getD (0, 0)).2), .b ((bC a0).isSome)])
theorem OE (a0 : br) : ∃ m, t59 m a0 = some ([.i (((bC a0).getD (0, 0)).1), .i (((bC a0).getD (0, 0)).2), .b ((bC a0).isSome)]) := by
 refine ⟨0, ?_⟩; unfold t59 bC; cases hl : ee a0.ax with
 | none => simp [lt, chk]
 | some p =>
  have hb := FU hl; simp only [lt_eq, Option.getD_some, Option.isSome_some, Bool.not_true, cond_false]; rw [aG hb]; cases hn : gM p a0.notes with
  | none => simp
  | some n =>
   simp only [Option.isSome_some, Bool.not_true, cond_false, Option.getD_some]; cases kX a0 <;> cases dh a0.s0 <;> cases dh a0.s1 <;> cases dh a0.s2 <;> rfl
theorem JU : ER 59 (mkE N59.en N59.ex f59) := ar ag P8.right (fun m => []) (t := t59) (by kernel_rfl) (fun m => aE) (fun m a => by kernel_rfl) fun a0 hc => OE a0
def T59 : Tb Tryz.prog LQ TE := P8.add 59 _ JU
def N37 : aF := ⟨T59.tab, 37, ⟨[.agg [.int .i64, .int .i64, .int .i64, .ae (sI 2), .ae (sI 3), .int .i64, .int .i64, .int .i64, .int .i64, .int .i64, .int .i64, .int .i64, .int .i64, .int .i64, .int .i64, .ae (sI 2), .ae (sI 2), .ae (sI 2)]], [], 0⟩, ⟨[.bool], [], 0⟩, []⟩
def t37 (m : Nat) : br -> Option (List Un) := fun a0 =>
 some ([.b ((bC a0).isSome)])
def f37 : br -> Bool × List Un := fun a0 => (true, [.b ((bC a0).isSome)])
theorem NL (a0 : br) : ∃ m, t37 m a0 = some ([.b ((bC a0).isSome)]) := by
 exact ⟨0, rfl⟩
theorem Lr : ER 37 (mkE N37.en N37.ex f37) := ar ag T59.right (fun m => []) (t := t37) (by kernel_rfl) (fun m => aE) (fun m a => by kernel_rfl) fun a0 hc => NL a0
def T37 : Tb Tryz.prog LQ TE := T59.add 37 _ Lr
def N21 : aF := ⟨T37.tab, 21, ⟨[.agg [.int .i64, .int .i64, .int .i64, .ae (sI 2), .ae (sI 3), .int .i64, .int .i64, .int .i64, .int .i64, .int .i64, .int .i64, .int .i64, .int .i64, .int .i64, .int .i64, .ae (sI 2), .ae (sI 2), .ae (sI 2)]], [], 0⟩, ⟨[.int .i64], [], 0⟩, []⟩
def t21 (m : Nat) : br -> Option (List Un) := fun a0 =>
 some ([.i (((bC a0).getD (0, 0)).1)])
def f21 : br -> Bool × List Un := fun a0 => (true, [.i (((bC a0).getD (0, 0)).1)])
theorem O7 (a0 : br) : ∃ m, t21 m a0 = some ([.i (((bC a0).getD (0, 0)).1)]) := by
 exact ⟨0, rfl⟩
theorem Lc : ER 21 (mkE N21.en N21.ex f21) := ar ag T37.right (fun m => []) (t := t21) (by kernel_rfl) (fun m => aE) (fun m a => by kernel_rfl) fun a0 hc => O7 a0
def T21 : Tb Tryz.prog LQ TE := T37.add 21 _ Lc
def N62 : aF := ⟨T21.tab, 62, ⟨[.ae (sI 7)], [], 0⟩, ⟨[.buf 0 7], [.ae (sI 7)], 0⟩, []⟩
def t62 (m : Nat) : List Dat -> Option (List Un) := fun a0 =>
 bif decide (a0.length = 0) then
 both (
 some ([.d ([])])) (
 chk (fits (0 + a0.length) 56) <|
 some ([.d a0]))
 else
 chk (fits (0 + a0.length) 56) <|
 some ([.d a0])
def f62 : List Dat -> Bool × List Un := fun a0 => (decide (a0.length < 1000000), [.d (a0)])
theorem P0 (a0 : List Dat) (hc : (decide (a0.length < 1000000)) = true) : ∃ m, t62 m a0 = some ([.d (a0)]) := by
 have h := of_decide_eq_true hc; refine ⟨0, ?_⟩; unfold t62; cases a0 with
 | nil => simp (disch := omega) only [TRa, TRi, aa, List.length_nil, iZ, Nat.add_zero, gZ]
 | cons x l =>
  simp only [List.length_cons] at h ⊢; simp (disch := omega) only [TRa, TRi, aa]
theorem JV : ER 62 (mkE N62.en N62.ex f62) := ar ag T21.right (fun m => []) (t := t62) (by kernel_rfl) (fun m => aE) (fun m a => by kernel_rfl) fun a0 hc => P0 a0 hc
def T62 : Tb Tryz.prog LQ TE := T21.add 62 _ JV
def N89 : aF := ⟨T62.tab, 89, ⟨[.ae (sI 2)], [], 0⟩, ⟨[.buf 0 2], [.ae (sI 2)], 0⟩, []⟩
def t89 (m : Nat) : List Dat -> Option (List Un) := fun a0 =>
 bif decide (a0.length = 0) then
 both (
 some ([.d ([])])) (
 chk (fits (0 + a0.length) 16) <|
 some ([.d a0]))
 else
 chk (fits (0 + a0.length) 16) <|
 some ([.d a0])
def f89 : List Dat -> Bool × List Un := fun a0 => (decide (a0.length < 1000000), [.d (a0)])
theorem Pq (a0 : List Dat) (hc : (decide (a0.length < 1000000)) = true) : ∃ m, t89 m a0 = some ([.d (a0)]) := by
 have h := of_decide_eq_true hc; refine ⟨0, ?_⟩; unfold t89; cases a0 with
 | nil => simp (disch := omega) only [TRa, TRi, aa, List.length_nil, iZ, Nat.add_zero, gZ]
 | cons x l =>
  simp only [List.length_cons] at h ⊢; simp (disch := omega) only [TRa, TRi, aa]
theorem KH : ER 89 (mkE N89.en N89.ex f89) := ar ag T62.right (fun m => []) (t := t89) (by kernel_rfl) (fun m => aE) (fun m a => by kernel_rfl) fun a0 hc => Pq a0 hc
def T89 : Tb Tryz.prog LQ TE := T62.add 89 _ KH
def N90 : aF := ⟨T89.tab, 90, ⟨[.ae (sI 3)], [], 0⟩, ⟨[.buf 0 3], [.ae (sI 3)], 0⟩, []⟩
def t90 (m : Nat) : List Dat -> Option (List Un) := fun a0 =>
 bif decide (a0.length = 0) then
 both (
 some ([.d ([])])) (
 chk (fits (0 + a0.length) 24) <|
 some ([.d a0]))
 else
 chk (fits (0 + a0.length) 24) <|
 some ([.d a0])
def f90 : List Dat -> Bool × List Un := fun a0 => (decide (a0.length < 1000000), [.d (a0)])
theorem Pw (a0 : List Dat) (hc : (decide (a0.length < 1000000)) = true) : ∃ m, t90 m a0 = some ([.d (a0)]) := by
 have h := of_decide_eq_true hc; refine ⟨0, ?_⟩; unfold t90; cases a0 with
 | nil => simp (disch := omega) only [TRa, TRi, aa, List.length_nil, iZ, Nat.add_zero, gZ]
 | cons x l =>
  simp only [List.length_cons] at h ⊢; simp (disch := omega) only [TRa, TRi, aa]
theorem K9 : ER 90 (mkE N90.en N90.ex f90) := ar ag T89.right (fun m => []) (t := t90) (by kernel_rfl) (fun m => aE) (fun m a => by kernel_rfl) fun a0 hc => Pw a0 hc
def T90 : Tb Tryz.prog LQ TE := T89.add 90 _ K9
def N91 : aF := ⟨T90.tab, 91, ⟨[.ae (sI 2)], [], 0⟩, ⟨[.buf 0 2], [.ae (sI 2)], 0⟩, []⟩
def t91 (m : Nat) : List Dat -> Option (List Un) := fun a0 =>
 bif decide (a0.length = 0) then
 both (
 some ([.d ([])])) (
 chk (fits (0 + a0.length) 16) <|
 some ([.d a0]))
 else
 chk (fits (0 + a0.length) 16) <|
 some ([.d a0])
def f91 : List Dat -> Bool × List Un := fun a0 => (decide (a0.length < 1000000), [.d (a0)])
theorem P4 (a0 : List Dat) (hc : (decide (a0.length < 1000000)) = true) : ∃ m, t91 m a0 = some ([.d (a0)]) := by
 have h := of_decide_eq_true hc; refine ⟨0, ?_⟩; unfold t91; cases a0 with
 | nil => simp (disch := omega) only [TRa, TRi, aa, List.length_nil, iZ, Nat.add_zero, gZ]
 | cons x l =>
  simp only [List.length_cons] at h ⊢; simp (disch := omega) only [TRa, TRi, aa]
theorem Ju : ER 91 (mkE N91.en N91.ex f91) := ar ag T90.right (fun m => []) (t := t91) (by kernel_rfl) (fun m => aE) (fun m a => by kernel_rfl) fun a0 hc => P4 a0 hc
def T91 : Tb Tryz.prog LQ TE := T90.add 91 _ Ju
def RA : aF := ⟨T91.tab, 102, ⟨[.ae (sI 3)], [], 0⟩, ⟨[.buf 0 3], [.ae (sI 3)], 0⟩, []⟩
def t102 (m : Nat) : List Dat -> Option (List Un) := fun a0 =>
 bif decide (a0.length = 0) then
 both (
 some ([.d ([])])) (
 chk (fits (0 + a0.length) 24) <|
 some ([.d a0]))
 else
 chk (fits (0 + a0.length) 24) <|
 some ([.d a0])
def f102 : List Dat -> Bool × List Un := fun a0 => (decide (a0.length < 1000000), [.d (a0)])
theorem Jn (a0 : List Dat) (hc : (decide (a0.length < 1000000)) = true) : ∃ m, t102 m a0 = some ([.d (a0)]) := by
 have h := of_decide_eq_true hc; refine ⟨0, ?_⟩; unfold t102; cases a0 with
 | nil => simp (disch := omega) only [TRa, TRi, aa, List.length_nil, iZ, Nat.add_zero, gZ]
 | cons x l =>
  simp only [List.length_cons] at h ⊢; simp (disch := omega) only [TRa, TRi, aa]
theorem Hw : ER 102 (mkE RA.en RA.ex f102) := ar ag T91.right (fun m => []) (t := t102) (by kernel_rfl) (fun m => aE) (fun m a => by kernel_rfl) fun a0 hc => Jn a0 hc
def No : Tb Tryz.prog LQ TE := T91.add 102 _ Hw
def QS : aF := ⟨No.tab, 114, ⟨[.ae (sB 4)], [], 0⟩, ⟨[.buf 0 5], [.ae (sB 4)], 0⟩, []⟩
def t114 (m : Nat) : List Dat -> Option (List Un) := fun a0 =>
 bif decide (a0.length = 0) then
 both (
 some ([.d ([])])) (
 chk (fits (0 + a0.length) 40) <|
 some ([.d a0]))
 else
 chk (fits (0 + a0.length) 40) <|
 some ([.d a0])
def f114 : List Dat -> Bool × List Un := fun a0 => (decide (a0.length < 1000000), [.d (a0)])
theorem Ma (a0 : List Dat) (hc : (decide (a0.length < 1000000)) = true) : ∃ m, t114 m a0 = some ([.d (a0)]) := by
 have h := of_decide_eq_true hc; refine ⟨0, ?_⟩; unfold t114; cases a0 with
 | nil => simp (disch := omega) only [TRa, TRi, aa, List.length_nil, iZ, Nat.add_zero, gZ]
 | cons x l =>
  simp only [List.length_cons] at h ⊢; simp (disch := omega) only [TRa, TRi, aa]
theorem GO : ER 114 (mkE QS.en QS.ex f114) := ar ag No.right (fun m => []) (t := t114) (by kernel_rfl) (fun m => aE) (fun m a => by kernel_rfl) fun a0 hc => Ma a0 hc
def O3 : Tb Tryz.prog LQ TE := No.add 114 _ GO
def N38 : aF := ⟨O3.tab, 38, ⟨[.agg [.int .i64, .int .i64, .int .i64, .ae (sI 2), .ae (sI 3), .int .i64, .int .i64, .int .i64, .int .i64, .int .i64, .int .i64, .int .i64, .int .i64, .int .i64, .int .i64, .ae (sI 2), .ae (sI 2), .ae (sI 2)]], [], 0⟩, ⟨[.agg [.int .i64, .int .i64, .int .i64, .buf 0 2, .buf 1 3, .int .i64, .int .i64, .int .i64, .int .i64, .int .i64, .int .i64, .int .i64, .int .i64, .int .i64, .int .i64, .buf 2 2, .buf 3 2, .buf 4 2]], [.ae (sI 2), .ae (sI 3), .ae (sI 2), .ae (sI 2), .ae (sI 2)], 0⟩, [[0, 1, 0, 1, 1, 1]]⟩
def t38 (m : Nat) : br -> Option (List Un) := fun a0 =>
 chk (decide (a0.ax.length < 1000000)) <|
 chk (decide (a0.notes.length < 1000000)) <|
 chk (decide (a0.s0.length < 1000000)) <|
 chk (decide (a0.s1.length < 1000000)) <|
 chk (decide (a0.s2.length < 1000000)) <|
 some (Uns.enc (a0.a : an) ++ Uns.enc (a0.b : aq) ++ [.d a0.ax, .d a0.notes, .d a0.s0, .d a0.s1, .d a0.s2])
def f38 : br -> Bool × List Un := fun a0 => (decide (a0.ax.length < 1000000 /\ a0.notes.length < 1000000 /\ a0.s0.length < 1000000 /\ a0.s1.length < 1000000 /\ a0.s2.length < 1000000), Uns.enc ((a0.a) : an) ++ Uns.enc ((a0.b) : aq) ++ [.d (a0.ax), .d (a0.notes), .d (a0.s0), .d (a0.s1), .d (a0.s2)])
theorem PC (a0 : br) (hc : (decide (a0.ax.length < 1000000 /\ a0.notes.length < 1000000 /\ a0.s0.length < 1000000 /\ a0.s1.length < 1000000 /\ a0.s2.length < 1000000)) = true) : ∃ m, t38 m a0 = some (Uns.enc ((a0.a) : an) ++ Uns.enc ((a0.b) : aq) ++ [.d (a0.ax), .d (a0.notes), .d (a0.s0), .d (a0.s1), .d (a0.s2)]) := by
 obtain ⟨h1, h2, h3, h4, h5⟩ := of_decide_eq_true hc; refine ⟨0, ?_⟩; unfold t38; simp (disch := omega) only [TRa, TRi, aa]
theorem LP : ER 38 (mkE N38.en N38.ex f38) := ar ag O3.right (fun m => []) (t := t38) (by kernel_rfl) (fun m => aE) (fun m a => by kernel_rfl) fun a0 hc => PC a0 hc
def T38 : Tb Tryz.prog LQ TE := O3.add 38 _ LP
end
end Go.Proofs.YtdbkoeefnodejaaGreat
namespace Go.Proofs.YtdbkoeefnodejaaGreat
noncomputable section
open Go Go.Proofs.YtdbkoeefnodejaaGreat.Ev
set_option maxRecDepth 20000
theorem Fj : ∀ (l : List Int) (i : Nat) (last all : Int), last < 2 * (i : Int) + 1 -> i + l.length <= 40 -> 0 <= all -> all + 100000 * l.length + 50000 <= 1099511627776 ->
 gq last all (fy i l ++ [.r [.n 99, .n 50000]]) = some (all + ak 1 (fy i l ++ [.r [.n 99, .n 50000]]))
 | [], i, last, all, h1, h2, h3, h4 => by
  have e0 : (Dat.r [.n 99, .n 50000]).i 0 = 99 := rfl; have e1 : (Dat.r [.n 99, .n 50000]).i 1 = 50000 := rfl; simp only [fy, List.nil_append, gq, ak, e0, e1]; simp only [List.length_nil] at h2 h4; rw [if_neg (by omega), if_pos (by omega)]; rfl
 | x :: l, i, last, all, h1, h2, h3, h4 => by
  have hx := aS (a := x) (show (0 : Int) <= 100000 by decide); have e0 : (Co i x).i 0 = 2 * (i : Int) + 1 := rfl; have e1 : (Co i x).i 1 = within x 0 100000 := rfl; simp only [List.length_cons] at h2 h4; have := Fj l (i + 1) (2 * (i : Int) + 1) (all + within x 0 100000) (by omega) (by omega) (by omega) (by omega); simp only [fy, List.cons_append, gq, ak, e0, e1]; rw [if_neg (by omega), if_pos (by omega), this, Int.add_assoc]
theorem KT (k : bD) : ee (dZ k) = some (gJ k) := by
 have hl := lB k; have h1 : 1 <= (dZ k).length := by simp [dZ]
 have := Fj (k.ax.take 10) 0 0 0 (by decide) (by simp; omega) (by decide) (by simp; omega); unfold ee; rw [if_pos ⟨h1, by omega⟩]; simpa [dZ, jk, gJ] using this
theorem we (p q : Int) (hp : 0 <= q) : ∀ (l : List Dat) (all : Int), (∀ d ∈ l, (0 <= d.i 0 /\ d.i 0 <= 7) /\ (1 <= d.i 1 /\ d.i 1 <= q) /\ (0 <= d.i 2 /\ d.i 2 <= 5000)) -> all + l.length * q <= p -> jw p all l = some (all + ak 1 l)
 | [], all, _, _ => by simp [jw, ak]
 | d :: l, all, h, hb => by
  have hd := h d (by simp); simp only [List.length_cons, Int.natCast_add, Int.add_mul] at hb; have hl : 0 <= (l.length : Int) * q := Int.mul_nonneg (by omega) hp; have e : ((1 : Nat) : Int) * q = q := by simp
  have := we p q hp l (all + d.i 1) (fun x hx => h x (by simp [hx])) (by omega); simp only [jw, ak]; rw [if_pos ⟨hd.1, ⟨hd.2.1.1, by omega⟩, hd.2.2⟩, this, Int.add_assoc]
theorem CX (k : bD) : ∀ d ∈ gN k, (0 <= d.i 0 /\ d.i 0 <= 3) /\ (1 <= d.i 1 /\ d.i 1 <= 1 + gJ k / 6) /\ (0 <= d.i 2 /\ d.i 2 <= 1200) := by
 have hp := um k; simp only [gN, List.mem_map, List.mem_range]
 rintro d ⟨i, hi, rfl⟩
 have h1 := aS (a := bq k.nu i) (show (0 : Int) <= 3 by decide); have h2 := aS (a := bq k.notes i) (show (0 : Int) <= gJ k / 6 by omega); have h3 := aS (a := bq k.xI i) (show (0 : Int) <= 1200 by decide); simp only [D8, I8, ek, gT]; omega
theorem vK (k : bD) : 1 <= (gN k).length /\ (gN k).length <= 5 := by simp [gN]; omega
theorem Lz (k : bD) : gM (gJ k) (gN k) = some (ak 1 (gN k)) := by
 have hp := um k; have hl := vK k; unfold gM; rw [if_pos ⟨hl.1, by omega⟩]; refine (we (gJ k) (1 + gJ k / 6) (by omega) (gN k) 0 (fun d hd => ?_) ?_).trans (by rw [Int.zero_add])
 · have := CX k d hd; omega
 · have : ((gN k).length : Int) * (1 + gJ k / 6) <= 5 * (1 + gJ k / 6) := Int.mul_le_mul_of_nonneg_right (by omega) (by omega); omega
theorem O8 (k : bD) : kX (ay k) = true := by
 have h1 := aS (a := k.a.year) (show (1990 : Int) <= 2040 by decide); have h2 := aS (a := k.a.month) (show (1 : Int) <= 12 by decide); have h3 := aS (a := k.a.basis) (show (0 : Int) <= 2 by decide); have h4 := aS (a := k.b.fee) (show (0 : Int) <= 200 by decide); have h5 := aS (a := k.b.bs) (show (0 : Int) <= 5000 by decide); have h6 := aS (a := k.b.target) (show (0 : Int) <= 500 by decide); have h7 := aS (a := k.b.advance) (show (0 : Int) <= 3000 by decide); have h8 := aS (a := k.b.dV) (show (0 : Int) <= 3 by decide); have h9 := aS (a := k.b.oc) (show (0 : Int) <= 12000 by decide); have h10 := aS (a := k.b.ic) (show (0 : Int) <= 15000 by decide); have h11 := aS (a := k.b.late) (show (0 : Int) <= 5000 by decide); have h12 := aS (a := k.b.kh) (show (0 : Int) <= 5000 by decide); have h13 := aS (a := k.b.clean) (show (0 : Int) <= 3000 by decide); simp only [kX, Bool.and_eq_true, decide_eq_true_eq]; simp only [ay]; omega
theorem rF (d : Dat) : ∀ (l pre : List Dat), ju pre (l ++ [d]) = (ju pre l && (As d && !ck (pre ++ l) (d.i 0) (d.i 1)))
 | [], pre => by simp [ju]
 | x :: l, pre => by
  simp only [List.cons_append, ju, rF d l (pre ++ [x]), List.append_assoc, List.nil_append, Bool.and_assoc]
theorem xM : ∀ (xs : List Int) (acc : List Dat), ju [] acc = true -> ju [] (fx acc xs) = true
 | [], acc, h => h
 | x :: xs, acc, h => by
  simp only [fx]; refine xM xs _ ?_
  cases hs : ck acc (within x 1 7) (jf x)
  · have e0 : (Dat.r [.n (within x 1 7), .n (jf x)]).i 0 = within x 1 7 := rfl; have e1 : (Dat.r [.n (within x 1 7), .n (jf x)]).i 1 = jf x := rfl; have hx := aS (a := x) (show (1 : Int) <= 7 by decide); simp only [Bool.false_eq_true, if_false]; rw [rF, h, List.nil_append, e0, e1, hs, Bool.true_and, Bool.not_false, Bool.and_true]; simp only [As, e0, e1, Bool.and_eq_true, decide_eq_true_eq]; refine ⟨hx, ?_⟩; unfold jf
    by_cases h3 : within x 1 7 = 3
    · have := aS (a := w64 (x.tdiv 7)) (show (0 : Int) <= 3 by decide); rw [if_pos h3, if_pos h3]; omega
    · rw [if_neg h3, if_neg h3]; omega
  · simp only [if_true]; exact h
theorem k9 (l : List Int) : 1 <= (ml l).length /\ (ml l).length <= 12 := by
 unfold ml
 split
 · decide
 · have := ur (l.take 12) []; simp at this; omega
theorem qJ (l : List Int) : dh (ml l) = true := by
 have hl := k9 l; unfold dh; rw [decide_eq_true (by omega), Bool.true_and]; unfold ml
 split
 · decide
 · exact xM _ _ rfl
theorem A6 (k : bD) : bC (ay k) = some (gJ k, ak 1 (gN k)) := by
 have h1 : ee (ay k).ax = some (gJ k) := KT k; have h2 : gM (gJ k) (ay k).notes = some (ak 1 (gN k)) := Lz k; simp only [bC, h1, h2, O8, show dh (ay k).s0 = true from qJ _, show dh (ay k).s1 = true from qJ _, show dh (ay k).s2 = true from qJ _, Bool.and_self, if_true]
theorem jF (k : bD) : (ay k).ax.length < 1000000 /\ (ay k).notes.length < 1000000 /\ (ay k).s0.length < 1000000 /\ (ay k).s1.length < 1000000 /\ (ay k).s2.length < 1000000 := by
 have h1 := lB k; have h2 := vK k; have h3 := k9 k.s0; have h4 := k9 k.s1; have h5 := k9 k.s2; simp only [ay]; omega
end
end Go.Proofs.YtdbkoeefnodejaaGreat
namespace Go.Proofs.YtdbkoeefnodejaaGreat
noncomputable section
open Go Go.Proofs.YtdbkoeefnodejaaGreat.Ev
set_option maxRecDepth 20000
def N40 : aF := ⟨T38.tab, 40, ⟨[.int .i64], [], 0⟩, ⟨[.agg [.int .i64, .int .i64]], [], 0⟩, []⟩
def t40 (m : Nat) : Int -> Option (List Un) := fun a0 =>
 bif (decide ((([0, a0]).getD 0 0) < 0)) then
 some ([.i 0, .i 0])
 else
 bif (decide ((([0, a0]).getD 0 0) > 1152921504606846976)) then
 some ([.i 0, .i 0])
 else
 lt ((w64 (0 + (([0, a0]).getD 0 0))) : Int) fun x3 =>
 bif (decide ((([0, a0]).getD 1 0) < 0)) then
 some ([.i 0, .i 0])
 else
 bif (decide ((([0, a0]).getD 1 0) > (w64 (1152921504606846976 - x3)))) then
 some ([.i 0, .i 0])
 else
 some ([.i (w64 (x3 + (([0, a0]).getD 1 0))), .i 0])
def f40 : Int -> Bool × List Un := fun a0 => (decide (0 <= a0 /\ a0 <= 1152921504606846976), [.i (a0), .i (0)])
theorem N1 (a0 : Int) (hc : (decide (0 <= a0 /\ a0 <= 1152921504606846976)) = true) : ∃ m, t40 m a0 = some ([.i (a0), .i (0)]) := by
 have h := of_decide_eq_true hc; refine ⟨0, ?_⟩; unfold t40; simp only [List.getD_cons_zero, List.getD_cons_succ]; simp (disch := omega) only [TRa, TRi, aa, Int.zero_add, Int.sub_zero]
theorem Lx : ER 40 (mkE N40.en N40.ex f40) := ar ag T38.right (fun m => []) (t := t40) (by kernel_rfl) (fun m => aE) (fun m a => by kernel_rfl) fun a0 hc => N1 a0 hc
def T40 : Tb Tryz.prog LQ TE := T38.add 40 _ Lx
def N41 : aF := ⟨T40.tab, 41, ⟨[.agg [.int .i64, .int .i64, .int .i64]], [], 0⟩, ⟨[.agg [.int .i64, .int .i64, .int .i64, .int .i64, .int .i64, .int .i64, .int .i64]], [], 0⟩, []⟩
def t41 (m : Nat) : Int × Int × Int -> Option (List Un) := fun (a0, a1, a2) =>
 some ([.i a0, .i a1, .i a2, .i 0, .i 0, .i 0, .i 0])
def f41 : Int × Int × Int -> Bool × List Un := fun (a0, a1, a2) => (true, [.i (a0), .i (a1), .i (a2), .i (0), .i (0), .i (0), .i (0)])
theorem NK (a0 : Int) (a1 : Int) (a2 : Int) : ∃ m, t41 m (a0, a1, a2) = some ([.i (a0), .i (a1), .i (a2), .i (0), .i (0), .i (0), .i (0)]) := by
 exact ⟨0, rfl⟩
theorem LL : ER 41 (mkE N41.en N41.ex f41) := ar ag T40.right (fun m => []) (t := t41) (by kernel_rfl) (fun m => aE) (fun m a => by kernel_rfl) fun (a0, a1, a2) hc => NK a0 a1 a2
def T41 : Tb Tryz.prog LQ TE := T40.add 41 _ LL
def dU (d : Dat) : Dat := .r [.n (d.i 0), .n (d.i 1), .n 0, .n 0, .n (bI false)]
def N39 : aF := ⟨T41.tab, 39, ⟨[.ae (sI 2)], [], 0⟩, ⟨[.ptr 0 0 0], [.cells [.buf 1 5], .ae (sB 4)], 0⟩, []⟩
abbrev Fw : Type := List Dat × Int × Int × List Dat
def zn (m : Nat) (k : Fw -> Option (List Un)) : Fw -> Option (List Un) := fun (a0, a1, a2, a3) =>
 bif decide (a2 < a1) then
 chk (inb a2 a0.length) <|
 chk (decide (a2.toNat < a0.length)) <|
 lt (af a0 a2.toNat : Dat) fun d1 =>
 chk (fits (a3.length + 1) 40) <|
 k (a0, a1, (w64 (a2 + 1)), (a3 ++ ([.r [.n (d1.i 0), .n (d1.i 1), .n 0, .n 0, .n (bI false)]])))
 else
 some ([.d a3])
def xT (m : Nat) : Nat -> Fw -> Option (List Un) := bj (zn m)
theorem tF (m : Nat) (n : Nat) : xT m (n + 1) = zn m (xT m n) := rfl
def Ht (F : Fw -> Option (List Un)) : aR := ⟨[.lp [0, 1, 0, 1, 1], .blk 0, .code [1, 1, 1]], ⟨frm 27 [(3, .ptr 0 0 0), (8, .ae (sI 2)), (9, .int .i64), (10, .int .i64)], [.cells [.buf 1 5], .ae (sB 4)], 0⟩, onU F⟩
theorem Rj (m : Nat) : ∀ n, HO N39 (Ht (xT m n)) := au ag T41.right (fun k => [Ht k]) (fun k h => (aH h aE)) fun k a => by kernel_rfl
def t39 (m : Nat) : List Dat -> Option (List Un) := fun a0 =>
 xT m m (a0, (a0.length : Int), 0, [])
theorem G0 (m : Nat) : ∀ (rest pre : List Dat) (n : Nat), rest.length < n -> (pre ++ rest).length < 1000000 ->
 xT m n (pre ++ rest, ((pre ++ rest).length : Int), (pre.length : Int), pre.map dU) = some [.d ((pre ++ rest).map dU)] := by
 intro rest
 induction rest with
 | nil =>
  intro pre n hn hl; obtain ⟨n, rfl⟩ := al n (by simp at hn; omega); rw [tF]; unfold zn; dsimp only; simp [aw]
 | cons x rest ih =>
  intro pre n hn hl; obtain ⟨n, rfl⟩ := al n (by simp at hn; omega); simp only [List.length_cons, List.length_append] at hn hl; rw [tF]; unfold zn; dsimp only; have := ih (pre ++ [x]) n (by omega) (by simp; omega); rw [List.map_append] at this; simp (disch := omega) only [TRa, TRi, aa, LNl, LNi, Int.cast_ofNat_Int, ao]; simp only [LNl, LNi, Int.cast_ofNat_Int] at this ⊢; exact this
def f39 : List Dat -> Bool × List Un := fun a0 => (decide (a0.length < 1000000), [.d (a0.map dU)])
theorem Oi (a0 : List Dat) (hc : (decide (a0.length < 1000000)) = true) : ∃ m, t39 m a0 = some ([.d (a0.map dU)]) := by
 exact ⟨a0.length + 1, G0 _ a0 [] _ (by omega) (of_decide_eq_true hc)⟩
theorem Lq : ER 39 (mkE N39.en N39.ex f39) := ar ag T41.right (fun m => [Ht (xT m m)]) (t := t39) (by kernel_rfl) (fun m => (aH (Rj m m) aE)) (fun m a => by kernel_rfl) fun a0 hc => Oi a0 hc
def T39 : Tb Tryz.prog LQ TE := T41.add 39 _ Lq
@[ext] structure ai where
 rin : Int
 bk : Int
 out : Int
 fee : Int
 mode : Int
 bd : Int
 period : Int
 aK : Int
 aT : Int
 jl : Bool
instance : Uns ai := Uns.via (B := Int × Int × Int × Int × Int × Int × Int × Int × Int × Bool) (fun x => (x.rin, x.bk, x.out, x.fee, x.mode, x.bd, x.period, x.aK, x.aT, x.jl)) (fun x => match x with | (rin, bk, out, fee, mode, bd, period, aK, aT, jl) => ⟨rin, bk, out, fee, mode, bd, period, aK, aT, jl⟩) (fun _ => rfl)
def bw (p : Nat) : List BP := [.cells [.int .i64, .int .i64, .int .i64, .buf (p + 1) 2, .buf (p + 2) 3, .int .i64, .int .i64, .int .i64, .int .i64, .int .i64, .int .i64, .int .i64, .int .i64, .int .i64, .int .i64, .buf (p + 3) 2, .buf (p + 4) 2, .buf (p + 5) 2, .ptr (p + 6) 0 0, .buf (p + 8) 7, .int .i64, .int .i64, .int .i64, .int .i64, .int .i64, .int .i64, .int .i64, .int .i64, .int .i64, .bool], .ae (sI 2), .ae (sI 3), .ae (sI 2), .ae (sI 2), .ae (sI 2), .cells [.buf (p + 7) 5], .ae (sB 4), .ae (sI 7)]
structure ab where
 a : an
 b : aq
 n : ai
 ax : List Dat
 notes : List Dat
 s0 : List Dat
 s1 : List Dat
 s2 : List Dat
 aI : List Dat
 tr : List Dat
def oG (d : Dat) : Dat := .r [.n (d.i 0), .n (d.i 1), .n (d.i 2), .n 0, .n 0, .n 0, .n 0]
def aN (d : br) : ab := ⟨d.a, d.b, ⟨d.b.bs, 0, 0, 0, 0, 0, 0, 0, 0, false⟩, d.ax, d.notes, d.s0, d.s1, d.s2, d.ax.map dU, d.notes.map oG⟩
def bA (d : br) : ab := if (bC d).isSome then aN d else ⟨⟨0, 0, 0⟩, ⟨0, 0, 0, 0, 0, 0, 0, 0, 0, 0⟩, ⟨0, 0, 0, 0, 0, 0, 0, 0, 0, false⟩, [], [], [], [], [], [], []⟩
theorem wJ {d : br} (h : (bC d).isSome = true) : 0 <= d.b.bs /\ d.b.bs <= 1099511627776 := by
 unfold bC at h
 split at h
 · cases h
 · split at h
   · cases h
   · split at h
     · rename_i hc; simp only [Bool.and_eq_true, kX, decide_eq_true_eq] at hc; omega
     · cases h
def N11 : aF := ⟨T39.tab, 11, ⟨[.agg [.int .i64, .int .i64, .int .i64, .ae (sI 2), .ae (sI 3), .int .i64, .int .i64, .int .i64, .int .i64, .int .i64, .int .i64, .int .i64, .int .i64, .int .i64, .int .i64, .ae (sI 2), .ae (sI 2), .ae (sI 2)]], [], 0⟩, ⟨[.np 0 0 0, .int .i64], bw 0, 0⟩, []⟩
abbrev Eb : Type := List Dat × Int × Int × an × aq × ai × List Dat × List Dat × List Dat × List Dat × List Dat × List Dat × List Dat
def yu (m : Nat) (k : Eb -> Option (List Un)) : Eb -> Option (List Un) := fun (a0, a1, a2, a3, a4, a5, a6, a7, a8, a9, a10, a11, a12) =>
 bif decide (a2 < a1) then
 chk (inb a2 a0.length) <|
 chk (decide (a2.toNat < a0.length)) <|
 lt (af a0 a2.toNat : Dat) fun d1 =>
 chk (fits (a11.length + 1) 56) <|
 k (a0, a1, (w64 (a2 + 1)), a3, a4, a5, a6, a7, a8, a9, a10, (a11 ++ ([.r [.n (d1.i 0), .n (d1.i 1), .n (d1.i 2), .n 0, .n 0, .n 0, .n 0]])), a12)
 else
 some ([.i 0, .i 0] ++ Uns.enc (a3 : an) ++ Uns.enc (a4 : aq) ++ Uns.enc (a5 : ai) ++ [.d a6, .d a7, .d a8, .d a9, .d a10, .d a12, .d a11])
def wR (m : Nat) : Nat -> Eb -> Option (List Un) := bj (yu m)
theorem vD (m : Nat) (n : Nat) : wR m (n + 1) = yu m (wR m n) := rfl
def IK (F : Eb -> Option (List Un)) : aR := ⟨[.lp [0, 1, 0, 1, 1, 1], .blk 0, .code [1, 1, 1, 1]], ⟨frm 40 [(4, .ptr 0 0 0), (21, .ae (sI 3)), (22, .int .i64), (23, .int .i64)], [.cells [.int .i64, .int .i64, .int .i64, .buf 1 2, .buf 2 3, .int .i64, .int .i64, .int .i64, .int .i64, .int .i64, .int .i64, .int .i64, .int .i64, .int .i64, .int .i64, .buf 3 2, .buf 4 2, .buf 5 2, .ptr 6 0 0, .buf 7 7, .int .i64, .int .i64, .int .i64, .int .i64, .int .i64, .int .i64, .int .i64, .int .i64, .int .i64, .bool], .ae (sI 2), .ae (sI 3), .ae (sI 2), .ae (sI 2), .ae (sI 2), .cells [.buf 8 5], .ae (sI 7), .ae (sB 4)], 0⟩, onU F⟩
theorem QV (m : Nat) : ∀ n, HO N11 (IK (wR m n)) := au ag T39.right (fun k => [IK k]) (fun k h => (aH h aE)) fun k a => by kernel_rfl
def t11 (m : Nat) : br -> Option (List Un) := fun a0 =>
 bif !((bC a0).isSome) then
 some ([.i (-1), .i 2] ++ Uns.enc ((⟨0, 0, 0⟩ : an) : an) ++ Uns.enc ((⟨0, 0, 0, 0, 0, 0, 0, 0, 0, 0⟩ : aq) : aq) ++ Uns.enc ((⟨0, 0, 0, 0, 0, 0, 0, 0, 0, false⟩ : ai) : ai) ++ [.d ([]), .d ([]), .d ([]), .d ([]), .d ([]), .d ([]), .d ([])])
 else
 chk (decide (a0.ax.length < 1000000 /\ a0.notes.length < 1000000 /\ a0.s0.length < 1000000 /\ a0.s1.length < 1000000 /\ a0.s2.length < 1000000)) <|
 chk (decide (a0.ax.length < 1000000)) <|
 chk (decide (0 <= a0.b.bs /\ a0.b.bs <= 1152921504606846976)) <|
 wR m m (a0.notes, (a0.notes.length : Int), 0, a0.a, a0.b, (⟨a0.b.bs, 0, 0, 0, 0, 0, 0, 0, 0, false⟩ : ai), a0.ax, a0.notes, a0.s0, a0.s1, a0.s2, [], (a0.ax.map dU))
theorem FW (m : Nat) (a : an) (b : aq) (n0 : ai) (x1 x2 x3 x4 x5 x6 : List Dat) : ∀ (rest pre : List Dat) (n : Nat), rest.length < n -> (pre ++ rest).length < 1000000 ->
 wR m n (pre ++ rest, ((pre ++ rest).length : Int), (pre.length : Int), a, b, n0, x1, x2, x3, x4, x5, pre.map oG, x6) = some ([.i 0, .i 0] ++ Uns.enc (a : an) ++ Uns.enc (b : aq) ++ Uns.enc (n0 : ai) ++ [.d x1, .d x2, .d x3, .d x4, .d x5, .d x6, .d ((pre ++ rest).map oG)]) := by
 intro rest
 induction rest with
 | nil =>
  intro pre n hn hl; obtain ⟨n, rfl⟩ := al n (by simp at hn; omega); rw [vD]; unfold yu; dsimp only; simp [aw]
 | cons x rest ih =>
  intro pre n hn hl; obtain ⟨n, rfl⟩ := al n (by simp at hn; omega); simp only [List.length_cons, List.length_append] at hn hl; rw [vD]; unfold yu; dsimp only; have := ih (pre ++ [x]) n (by omega) (by simp; omega); rw [List.map_append] at this; simp (disch := omega) only [TRa, TRi, aa, LNl, LNi, Int.cast_ofNat_Int, ao]; simp only [LNl, LNi, Int.cast_ofNat_Int] at this ⊢; exact this
def f11 : br -> Bool × List Un := fun a0 => (decide (a0.ax.length < 1000000 /\ a0.notes.length < 1000000 /\ a0.s0.length < 1000000 /\ a0.s1.length < 1000000 /\ a0.s2.length < 1000000), [.i (((if (bC a0).isSome then 0 else -1) : Int)), .i (((if (bC a0).isSome then 0 else 2) : Int))] ++ Uns.enc (((bA a0).a) : an) ++ Uns.enc (((bA a0).b) : aq) ++ Uns.enc (((bA a0).n) : ai) ++ [.d ((bA a0).ax), .d ((bA a0).notes), .d ((bA a0).s0), .d ((bA a0).s1), .d ((bA a0).s2), .d ((bA a0).aI), .d ((bA a0).tr)])
theorem N0 (a0 : br) (hc : (decide (a0.ax.length < 1000000 /\ a0.notes.length < 1000000 /\ a0.s0.length < 1000000 /\ a0.s1.length < 1000000 /\ a0.s2.length < 1000000)) = true) : ∃ m, t11 m a0 = some ([.i (((if (bC a0).isSome then 0 else -1) : Int)), .i (((if (bC a0).isSome then 0 else 2) : Int))] ++ Uns.enc (((bA a0).a) : an) ++ Uns.enc (((bA a0).b) : aq) ++ Uns.enc (((bA a0).n) : ai) ++ [.d ((bA a0).ax), .d ((bA a0).notes), .d ((bA a0).s0), .d ((bA a0).s1), .d ((bA a0).s2), .d ((bA a0).aI), .d ((bA a0).tr)]) := by
 have h := of_decide_eq_true hc; refine ⟨a0.notes.length + 1, ?_⟩; unfold t11 bA; cases hs : (bC a0).isSome
 · rfl
 · have hr := wJ hs; simp only [Bool.not_true, cond_false, if_true]; rw [aG h, aG (by omega), aG (by omega)]; exact FW _ _ _ _ _ _ _ _ _ _ a0.notes [] _ (by omega) (by simp; omega)
theorem LH : ER 11 (mkE N11.en N11.ex f11) := ar ag T39.right (fun m => [IK (wR m m)]) (t := t11) (by kernel_rfl) (fun m => (aH (QV m m) aE)) (fun m a => by kernel_rfl) fun a0 hc => N0 a0 hc
def T11 : Tb Tryz.prog LQ TE := T39.add 11 _ LH
def N36 : aF := ⟨T11.tab, 36, ⟨[.agg [.int .i64, .int .i64]], [], 0⟩, ⟨[.int .i64], [], 0⟩, []⟩
def t36 (m : Nat) : Int × Int -> Option (List Un) := fun (a0, a1) =>
 some ([.i (w64 (a0 - a1))])
def f36 : Int × Int -> Bool × List Un := fun (a0, a1) => (true, [.i (w64 (a0 - a1))])
theorem OQ (a0 : Int) (a1 : Int) : ∃ m, t36 m (a0, a1) = some ([.i (w64 (a0 - a1))]) := by
 exact ⟨0, rfl⟩
theorem Kr : ER 36 (mkE N36.en N36.ex f36) := ar ag T11.right (fun m => []) (t := t36) (by kernel_rfl) (fun m => aE) (fun m a => by kernel_rfl) fun (a0, a1) hc => OQ a0 a1
def T36 : Tb Tryz.prog LQ TE := T11.add 36 _ Kr
def N99 : aF := ⟨T36.tab, 99, ⟨[.agg [.int .i64, .int .i64, .int .i64, .int .i64, .int .i64, .int .i64, .int .i64]], [], 0⟩, ⟨[.int .i64], [], 0⟩, []⟩
def t99 (m : Nat) : Int × Int × Int × Int × Int × Int × Int -> Option (List Un) := fun (a0, a1, a2, a3, a4, a5, a6) =>
 some ([.i (w64 ((w64 (a1 - (w64 (a3 - a4)))) - a6))])
def f99 : Int × Int × Int × Int × Int × Int × Int -> Bool × List Un := fun (a0, a1, a2, a3, a4, a5, a6) => (true, [.i (w64 (w64 (a1 - w64 (a3 - a4)) - a6))])
theorem N5 (a0 : Int) (a1 : Int) (a2 : Int) (a3 : Int) (a4 : Int) (a5 : Int) (a6 : Int) : ∃ m, t99 m (a0, a1, a2, a3, a4, a5, a6) = some ([.i (w64 (w64 (a1 - w64 (a3 - a4)) - a6))]) := by
 exact ⟨0, rfl⟩
theorem KM : ER 99 (mkE N99.en N99.ex f99) := ar ag T36.right (fun m => []) (t := t99) (by kernel_rfl) (fun m => aE) (fun m a => by kernel_rfl) fun (a0, a1, a2, a3, a4, a5, a6) hc => N5 a0 a1 a2 a3 a4 a5 a6
def T99 : Tb Tryz.prog LQ TE := T36.add 99 _ KM
def bc (d : Dat) : Int := d.i 1 - (d.i 3 - d.i 4) - d.i 6
def aO (d : Dat) : Bool := decide (0 <= d.i 1 /\ d.i 1 <= 1099511627776 /\ 0 <= d.i 3 /\ d.i 4 = 0 /\ 0 <= d.i 6 /\ d.i 3 + d.i 6 <= d.i 1 /\ 0 <= d.i 5 /\ d.i 5 <= 1125899906842624)
def mT (c : Int) (d : Dat) : Int := max (min c (bc d)) 0
def si (c : Int) (d : Dat) : Dat := .r [.n (d.i 0), .n (d.i 1), .n (d.i 2), .n (d.i 3 + mT c d), .n (d.i 4), .n (d.i 5), .n (d.i 6)]
def dM (c : Int) (d : Dat) : Dat := .r [.n (d.i 0), .n (d.i 1), .n (d.i 2), .n (d.i 3), .n (d.i 4), .n (d.i 5), .n (d.i 6 + mT c d)]
def md (c : Int) (d : Dat) : Int := max (min c (d.i 6)) 0
def fQ (c : Int) (d : Dat) : Dat := .r [.n (d.i 0), .n (d.i 1), .n (d.i 2), .n (d.i 3), .n (d.i 4), .n (d.i 5), .n (d.i 6 - md c d)]
def zN (c : Int) (d : Dat) : Dat := .r [.n (d.i 0), .n (d.i 1), .n (d.i 2), .n (d.i 3), .n (d.i 4), .n (d.i 5 + c), .n (d.i 6)]
def Qq : aF := ⟨T99.tab, 106, ⟨[.np 0 7 0, .int .i64], [.ae (sI 7)], 0⟩, ⟨[.int .i64], [.ae (sI 7)], 0⟩, []⟩
def t106 (m : Nat) : Int × Int × List Dat -> Option (List Un) := fun (a0, a1, a2) =>
 chk (decide (0 <= a0)) <|
 chk (decide (a0.toNat < a2.length)) <|
 lt (af a2 a0.toNat : Dat) fun d1 =>
 lt ((w64 (w64 ((d1.i 1) - w64 ((d1.i 3) - (d1.i 4))) - (d1.i 6))) : Int) fun x2 =>
 lt ((if x2 < a1 then x2 else a1) : Int) fun x3 =>
 lt ((if x3 < 0 then 0 else x3) : Int) fun x4 =>
 chk (decide (0 <= a0)) <|
 chk (decide (a0.toNat < a2.length)) <|
 lt (af a2 a0.toNat : Dat) fun d5 =>
 lt ((([(d5.i 3), x4]).getD 0 0) : Int) fun x6 =>
 bif decide (x6 < 0) then
 some ([.i 0, .d a2])
 else
 bif (decide (x6 > 1152921504606846976)) then
 some ([.i 0, .d a2])
 else
 lt ((([(d5.i 3), x4]).getD 1 0) : Int) fun x8 =>
 bif decide (x8 < 0) then
 some ([.i 0, .d a2])
 else
 bif decide (x8 > (w64 (1152921504606846976 - (w64 (0 + x6))))) then
 some ([.i 0, .d a2])
 else
 chk (decide (a0.toNat < a2.length)) <|
 lt (af a2 a0.toNat : Dat) fun d11 =>
 some ([.i x4, .d (List.set a2 a0.toNat (.r [.n (d11.i 0), .n (d11.i 1), .n (d11.i 2), .n (w64 ((w64 (0 + x6)) + x8)), .n (d11.i 4), .n (d11.i 5), .n (d11.i 6)]))])
def f106 : Int × Int × List Dat -> Bool × List Un := fun (a0, a1, a2) => (decide (0 <= a0 /\ a0.toNat < a2.length) && aO (af a2 a0.toNat), [.i (mT a1 (af a2 a0.toNat)), .d (a2.set a0.toNat (si a1 (af a2 a0.toNat)))])
theorem ME (a0 : Int) (a1 : Int) (a2 : List Dat) (hc : (decide (0 <= a0 /\ a0.toNat < a2.length) && aO (af a2 a0.toNat)) = true) : ∃ m, t106 m (a0, a1, a2) = some ([.i (mT a1 (af a2 a0.toNat)), .d (a2.set a0.toNat (si a1 (af a2 a0.toNat)))]) := by
 simp only [Bool.and_eq_true, decide_eq_true_eq, aO] at hc; obtain ⟨⟨h1, h2⟩, h⟩ := hc; refine ⟨0, ?_⟩; unfold t106; dsimp only; simp only [lt_eq]; generalize af a2 a0.toNat = d at *
 have hv : ∀ c, mT c d = max (min c (bc d)) 0 := fun _ => rfl
 simp only [si, dM, fQ, zN, md, hv, bc]; simp only [List.getD_cons_zero, List.getD_cons_succ, lt_eq, jB, lC]; simp (disch := omega) only [TRa, TRi, aa, Int.zero_add]
theorem G9 : ER 106 (mkE Qq.en Qq.ex f106) := ar ag T99.right (fun m => []) (t := t106) (by kernel_rfl) (fun m => aE) (fun m a => by kernel_rfl) fun (a0, a1, a2) hc => ME a0 a1 a2 hc
def NP : Tb Tryz.prog LQ TE := T99.add 106 _ G9
def R8 : aF := ⟨NP.tab, 146, ⟨[.np 0 7 0, .int .i64], [.ae (sI 7)], 0⟩, ⟨[.int .i64], [.ae (sI 7)], 0⟩, []⟩
def t146 (m : Nat) : Int × Int × List Dat -> Option (List Un) := fun (a0, a1, a2) =>
 chk (decide (0 <= a0)) <|
 chk (decide (a0.toNat < a2.length)) <|
 lt (af a2 a0.toNat : Dat) fun d1 =>
 lt ((w64 (w64 ((d1.i 1) - w64 ((d1.i 3) - (d1.i 4))) - (d1.i 6))) : Int) fun x2 =>
 lt ((if x2 < a1 then x2 else a1) : Int) fun x3 =>
 lt ((if x3 < 0 then 0 else x3) : Int) fun x4 =>
 chk (decide (0 <= a0)) <|
 chk (decide (a0.toNat < a2.length)) <|
 chk (decide (0 <= a0)) <|
 chk (decide (a0.toNat < a2.length)) <|
 lt (af a2 a0.toNat : Dat) fun d6 =>
 some ([.i x4, .d (List.set a2 a0.toNat (.r [.n (d6.i 0), .n (d6.i 1), .n (d6.i 2), .n (d6.i 3), .n (d6.i 4), .n (d6.i 5), .n (w64 (((af a2 a0.toNat).i 6) + x4))]))])
def f146 : Int × Int × List Dat -> Bool × List Un := fun (a0, a1, a2) => (decide (0 <= a0 /\ a0.toNat < a2.length) && aO (af a2 a0.toNat), [.i (mT a1 (af a2 a0.toNat)), .d (a2.set a0.toNat (dM a1 (af a2 a0.toNat)))])
theorem LB (a0 : Int) (a1 : Int) (a2 : List Dat) (hc : (decide (0 <= a0 /\ a0.toNat < a2.length) && aO (af a2 a0.toNat)) = true) : ∃ m, t146 m (a0, a1, a2) = some ([.i (mT a1 (af a2 a0.toNat)), .d (a2.set a0.toNat (dM a1 (af a2 a0.toNat)))]) := by
 simp only [Bool.and_eq_true, decide_eq_true_eq, aO] at hc; obtain ⟨⟨h1, h2⟩, h⟩ := hc; refine ⟨0, ?_⟩; unfold t146; dsimp only; simp only [lt_eq]; generalize af a2 a0.toNat = d at *
 have hv : ∀ c, mT c d = max (min c (bc d)) 0 := fun _ => rfl
 simp only [si, dM, fQ, zN, md, hv, bc]; simp only [List.getD_cons_zero, List.getD_cons_succ, lt_eq, jB, lC]; simp (disch := omega) only [TRa, TRi, aa, Int.zero_add]
theorem HD : ER 146 (mkE R8.en R8.ex f146) := ar ag NP.right (fun m => []) (t := t146) (by kernel_rfl) (fun m => aE) (fun m a => by kernel_rfl) fun (a0, a1, a2) hc => LB a0 a1 a2 hc
def Nr : Tb Tryz.prog LQ TE := NP.add 146 _ HD
def RB : aF := ⟨Nr.tab, 148, ⟨[.np 0 7 0, .int .i64], [.ae (sI 7)], 0⟩, ⟨[.int .i64], [.ae (sI 7)], 0⟩, []⟩
def t148 (m : Nat) : Int × Int × List Dat -> Option (List Un) := fun (a0, a1, a2) =>
 chk (decide (0 <= a0)) <|
 chk (decide (a0.toNat < a2.length)) <|
 lt (af a2 a0.toNat : Dat) fun d1 =>
 lt ((if (d1.i 6) < a1 then (d1.i 6) else a1) : Int) fun x2 =>
 lt ((if x2 < 0 then 0 else x2) : Int) fun x3 =>
 chk (decide (0 <= a0)) <|
 chk (decide (a0.toNat < a2.length)) <|
 chk (decide (0 <= a0)) <|
 chk (decide (a0.toNat < a2.length)) <|
 lt (af a2 a0.toNat : Dat) fun d5 =>
 some ([.i x3, .d (List.set a2 a0.toNat (.r [.n (d5.i 0), .n (d5.i 1), .n (d5.i 2), .n (d5.i 3), .n (d5.i 4), .n (d5.i 5), .n (w64 (((af a2 a0.toNat).i 6) - x3))]))])
def f148 : Int × Int × List Dat -> Bool × List Un := fun (a0, a1, a2) => (decide (0 <= a0 /\ a0.toNat < a2.length) && aO (af a2 a0.toNat), [.i (md a1 (af a2 a0.toNat)), .d (a2.set a0.toNat (fQ a1 (af a2 a0.toNat)))])
theorem KP (a0 : Int) (a1 : Int) (a2 : List Dat) (hc : (decide (0 <= a0 /\ a0.toNat < a2.length) && aO (af a2 a0.toNat)) = true) : ∃ m, t148 m (a0, a1, a2) = some ([.i (md a1 (af a2 a0.toNat)), .d (a2.set a0.toNat (fQ a1 (af a2 a0.toNat)))]) := by
 simp only [Bool.and_eq_true, decide_eq_true_eq, aO] at hc; obtain ⟨⟨h1, h2⟩, h⟩ := hc; refine ⟨0, ?_⟩; unfold t148; dsimp only; simp only [lt_eq]; generalize af a2 a0.toNat = d at *
 have hv : ∀ c, mT c d = max (min c (bc d)) 0 := fun _ => rfl
 simp only [si, dM, fQ, zN, md, hv, bc]; simp only [List.getD_cons_zero, List.getD_cons_succ, lt_eq, jB, lC]; simp (disch := omega) only [TRa, TRi, aa, Int.zero_add]
theorem H6 : ER 148 (mkE RB.en RB.ex f148) := ar ag Nr.right (fun m => []) (t := t148) (by kernel_rfl) (fun m => aE) (fun m a => by kernel_rfl) fun (a0, a1, a2) hc => KP a0 a1 a2 hc
def P6 : Tb Tryz.prog LQ TE := Nr.add 148 _ H6
def RV : aF := ⟨P6.tab, 100, ⟨[.np 0 7 0, .int .i64], [.ae (sI 7)], 0⟩, ⟨[.bool], [.ae (sI 7)], 0⟩, []⟩
def t100 (m : Nat) : Int × Int × List Dat -> Option (List Un) := fun (a0, a1, a2) =>
 chk (decide (0 <= a0)) <|
 chk (decide (a0.toNat < a2.length)) <|
 lt (af a2 a0.toNat : Dat) fun d1 =>
 lt ((([(d1.i 5), a1]).getD 0 0) : Int) fun x2 =>
 bif decide (x2 < 0) then
 some ([.b false, .d a2])
 else
 bif (decide (x2 > 1152921504606846976)) then
 some ([.b false, .d a2])
 else
 lt ((([(d1.i 5), a1]).getD 1 0) : Int) fun x4 =>
 bif decide (x4 < 0) then
 some ([.b false, .d a2])
 else
 bif decide (x4 > (w64 (1152921504606846976 - (w64 (0 + x2))))) then
 some ([.b false, .d a2])
 else
 chk (decide (0 <= a0)) <|
 chk (decide (a0.toNat < a2.length)) <|
 lt (af a2 a0.toNat : Dat) fun d7 =>
 some ([.b true, .d (List.set a2 a0.toNat (.r [.n (d7.i 0), .n (d7.i 1), .n (d7.i 2), .n (d7.i 3), .n (d7.i 4), .n (w64 ((w64 (0 + x2)) + x4)), .n (d7.i 6)]))])
def f100 : Int × Int × List Dat -> Bool × List Un := fun (a0, a1, a2) => (decide (0 <= a1 /\ a1 <= 1125899906842624) && (decide (0 <= a0 /\ a0.toNat < a2.length) && aO (af a2 a0.toNat)), [.b (true), .d (a2.set a0.toNat (zN a1 (af a2 a0.toNat)))])
theorem Mu (a0 : Int) (a1 : Int) (a2 : List Dat) (hc : (decide (0 <= a1 /\ a1 <= 1125899906842624) && (decide (0 <= a0 /\ a0.toNat < a2.length) && aO (af a2 a0.toNat))) = true) : ∃ m, t100 m (a0, a1, a2) = some ([.b (true), .d (a2.set a0.toNat (zN a1 (af a2 a0.toNat)))]) := by
 simp only [Bool.and_eq_true, decide_eq_true_eq, aO] at hc; obtain ⟨h0, ⟨h1, h2⟩, h⟩ := hc; refine ⟨0, ?_⟩; unfold t100; dsimp only; simp only [lt_eq]; generalize af a2 a0.toNat = d at *
 have hv : ∀ c, mT c d = max (min c (bc d)) 0 := fun _ => rfl
 simp only [si, dM, fQ, zN, md, hv, bc]; simp only [List.getD_cons_zero, List.getD_cons_succ, lt_eq, jB, lC]; simp (disch := omega) only [TRa, TRi, aa, Int.zero_add]
theorem GI : ER 100 (mkE RV.en RV.ex f100) := ar ag P6.right (fun m => []) (t := t100) (by kernel_rfl) (fun m => aE) (fun m a => by kernel_rfl) fun (a0, a1, a2) hc => Mu a0 a1 a2 hc
def MO : Tb Tryz.prog LQ TE := P6.add 100 _ GI
def aW (f : Dat -> Int) : List Dat -> Int
 | [] => 0
 | d :: l => f d + aW f l
theorem bY {d : Dat} (h : aO d = true) : 0 <= d.i 1 /\ d.i 1 <= 1099511627776 /\ 0 <= d.i 3 /\ d.i 4 = 0 /\ 0 <= d.i 6 /\ d.i 3 + d.i 6 <= d.i 1 /\ 0 <= d.i 5 /\ d.i 5 <= 1125899906842624 := of_decide_eq_true h
def N60 : aF := ⟨MO.tab, 60, ⟨[.ae (sI 7)], [], 0⟩, ⟨[.int .i64, .int .i64, .int .i64], [], 0⟩, []⟩
abbrev EA : Type := Int × Int × Int × List Dat × Int × Int
def AE (m : Nat) (k : EA -> Option (List Un)) : EA -> Option (List Un) := fun (a0, a1, a2, a3, a4, a5) =>
 bif decide (a5 < a4) then
 chk (inb a5 a3.length) <|
 chk (decide (a5.toNat < a3.length)) <|
 lt (af a3 a5.toNat : Dat) fun d1 =>
 k ((w64 (a0 + (w64 (w64 ((d1.i 1) - w64 ((d1.i 3) - (d1.i 4))) - (d1.i 6))))), (w64 (a1 + (d1.i 5))), (w64 (a2 + (d1.i 6))), a3, a4, (w64 (a5 + 1)))
 else
 some ([.i a0, .i a1, .i a2])
def yf (m : Nat) : Nat -> EA -> Option (List Un) := bj (AE m)
theorem vV (m : Nat) (n : Nat) : yf m (n + 1) = AE m (yf m n) := rfl
def HF (F : EA -> Option (List Un)) : aR := ⟨[.lp [0, 1, 0, 1], .blk 0, .code [1, 1]], ⟨frm 29 [(2, .int .i64), (3, .int .i64), (4, .int .i64), (7, .ae (sI 7)), (8, .int .i64), (9, .int .i64)], [], 0⟩, onU F⟩
theorem Ro (m : Nat) : ∀ n, HO N60 (HF (yf m n)) := au ag MO.right (fun k => [HF k]) (fun k h => (aH h aE)) fun k a => by kernel_rfl
def t60 (m : Nat) : List Dat -> Option (List Un) := fun a0 =>
 yf m m (0, 0, 0, a0, (a0.length : Int), 0)
theorem HX (m : Nat) : ∀ (rest pre : List Dat) (n : Nat) (b s t : Int), rest.length < n -> (pre ++ rest).length <= 1000 -> (∀ d ∈ rest, aO d = true) -> 0 <= b -> b <= 1099511627776 * pre.length -> 0 <= s -> s <= 1125899906842624 * pre.length -> 0 <= t -> t <= 1099511627776 * pre.length ->
 yf m n (b, s, t, pre ++ rest, ((pre ++ rest).length : Int), (pre.length : Int)) = some [.i (b + aW bc rest), .i (s + ak 5 rest), .i (t + ak 6 rest)] := by
 intro rest
 induction rest with
 | nil =>
  intro pre n b s t hn hl hg b0 b1 s0 s1 t0 t1; obtain ⟨n, rfl⟩ := al n (by simp at hn; omega); rw [vV]; unfold AE; dsimp only; simp [aw, aW, ak]
 | cons x rest ih =>
  intro pre n b s t hn hl hg b0 b1 s0 s1 t0 t1; obtain ⟨n, rfl⟩ := al n (by simp at hn; omega); simp only [List.length_cons, List.length_append] at hn hl; have hx := bY (hg x (by simp)); rw [vV]; unfold AE; dsimp only; have := ih (pre ++ [x]) n (b + bc x) (s + x.i 5) (t + x.i 6) (by omega) (by simp; omega) (fun d hd => hg d (by simp [hd])) (by unfold bc; omega) (by simp [bc]; omega) (by omega) (by simp; omega) (by omega) (by simp; omega); simp only [aW, ak, bc] at this ⊢; simp (disch := omega) only [TRa, TRi, aa, LNl, LNi, Int.cast_ofNat_Int, ao]; simp only [LNl, LNi, Int.cast_ofNat_Int] at this ⊢; exact this
def f60 : List Dat -> Bool × List Un := fun a0 => (decide (a0.length <= 1000) && a0.all aO, [.i (aW bc a0), .i (ak 5 a0), .i (ak 6 a0)])
theorem Oq (a0 : List Dat) (hc : (decide (a0.length <= 1000) && a0.all aO) = true) : ∃ m, t60 m a0 = some ([.i (aW bc a0), .i (ak 5 a0), .i (ak 6 a0)]) := by
 simp only [Bool.and_eq_true, decide_eq_true_eq, List.all_eq_true] at hc; refine ⟨a0.length + 1, ?_⟩; exact (HX (a0.length + 1) a0 [] (a0.length + 1) 0 0 0 (by omega) (by simpa using hc.1) hc.2 (by omega) (by simp) (by omega) (by simp) (by omega) (by simp)).trans (by simp only [Int.zero_add])
theorem L8 : ER 60 (mkE N60.en N60.ex f60) := ar ag MO.right (fun m => [HF (yf m m)]) (t := t60) (by kernel_rfl) (fun m => (aH (Ro m m) aE)) (fun m a => by kernel_rfl) fun a0 hc => Oq a0 hc
def T60 : Tb Tryz.prog LQ TE := MO.add 60 _ L8
def unD (d : Dat) : Int := d.i 1 - (d.i 3 - d.i 4)
def N23 : aF := ⟨T60.tab, 23, ⟨[.np 0 0 0], bw 0, 9⟩, ⟨[.int .i64, .int .i64, .int .i64, .int .i64], bw 0, 9⟩, []⟩
abbrev Fy : Type := Int × Int × Int × Int × Int × Int × an × aq × ai × List Dat × List Dat × List Dat × List Dat × List Dat × List Dat × List Dat
def zw (m : Nat) (k : Fy -> Option (List Un)) : Fy -> Option (List Un) := fun (a0, a1, a2, a3, a4, a5, a6, a7, a8, a9, a10, a11, a12, a13, a14, a15) =>
 bif decide (a5 < a4) then
 chk (inb a5 a15.length) <|
 chk (decide (a5.toNat < a15.length)) <|
 lt (af a15 a5.toNat : Dat) fun d1 =>
 k (a0, a1, a2, (w64 (a3 + (w64 ((d1.i 1) - (w64 ((d1.i 3) - (d1.i 4))))))), a4, (w64 (a5 + 1)), a6, a7, a8, a9, a10, a11, a12, a13, a14, a15)
 else
 some ([.i a0, .i a1, .i a2, .i a3] ++ Uns.enc (a6 : an) ++ Uns.enc (a7 : aq) ++ Uns.enc (a8 : ai) ++ [.d a9, .d a10, .d a11, .d a12, .d a13, .d a14, .d a15])
def xy (m : Nat) : Nat -> Fy -> Option (List Un) := bj (zw m)
theorem tC (m : Nat) (n : Nat) : xy m (n + 1) = zw m (xy m n) := rfl
def Hc (F : Fy -> Option (List Un)) : aR := ⟨[.lp [0, 1, 0, 1, 1], .blk 0, .code [1, 1, 1]], ⟨frm 40 [(2, .int .i64), (3, .int .i64), (4, .int .i64), (5, .int .i64), (20, .buf 8 7), (21, .int .i64), (22, .int .i64)], bw 0, 9⟩, onU F⟩
theorem RM (m : Nat) : ∀ n, HO N23 (Hc (xy m n)) := au ag T60.right (fun k => [Hc k]) (fun k h => (aH h aE)) fun k a => by kernel_rfl
def t23 (m : Nat) : Int × an × aq × ai × List Dat × List Dat × List Dat × List Dat × List Dat × List Dat × List Dat -> Option (List Un) := fun (a0, a1, a2, a3, a4, a5, a6, a7, a8, a9, a10) =>
 chk (decide (0 <= a0)) <|
 chk (decide (a10.length <= 1000) && a10.all aO) <|
 chk (decide (0 <= a0)) <|
 xy m m ((aW bc a10), (ak 5 a10), (ak 6 a10), 0, (a10.length : Int), 0, a1, a2, a3, a4, a5, a6, a7, a8, a9, a10)
theorem FJ (m : Nat) (b s t : Int) (xa : an) (xb : aq) (xn : ai) (x1 x2 x3 x4 x5 x6 : List Dat) : ∀ (rest pre : List Dat) (n : Nat) (u : Int), rest.length < n -> (pre ++ rest).length <= 1000 -> (∀ d ∈ rest, aO d = true) -> 0 <= u -> u <= 1099511627776 * pre.length ->
 xy m n (b, s, t, u, ((pre ++ rest).length : Int), (pre.length : Int), xa, xb, xn, x1, x2, x3, x4, x5, x6, pre ++ rest) = some ([.i b, .i s, .i t, .i (u + aW unD rest)] ++ Uns.enc xa ++ Uns.enc xb ++ Uns.enc xn ++ [.d x1, .d x2, .d x3, .d x4, .d x5, .d x6, .d (pre ++ rest)]) := by
 intro rest
 induction rest with
 | nil =>
  intro pre n u hn hl hg u0 u1; obtain ⟨n, rfl⟩ := al n (by simp at hn; omega); rw [tC]; unfold zw; dsimp only; simp [aw, aW]
 | cons x rest ih =>
  intro pre n u hn hl hg u0 u1; obtain ⟨n, rfl⟩ := al n (by simp at hn; omega); simp only [List.length_cons, List.length_append] at hn hl; have hx := bY (hg x (by simp)); rw [tC]; unfold zw; dsimp only; have := ih (pre ++ [x]) n (u + unD x) (by omega) (by simp; omega) (fun d hd => hg d (by simp [hd])) (by unfold unD; omega) (by simp [unD]; omega); simp only [aW, unD] at this ⊢; simp (disch := omega) only [TRa, TRi, aa, LNl, LNi, Int.cast_ofNat_Int, ao]; simp only [LNl, LNi, Int.cast_ofNat_Int] at this ⊢; exact this
def f23 : Int × an × aq × ai × List Dat × List Dat × List Dat × List Dat × List Dat × List Dat × List Dat -> Bool × List Un := fun (a0, a1, a2, a3, a4, a5, a6, a7, a8, a9, a10) => (decide (0 <= a0) && (decide (a10.length <= 1000) && a10.all aO), [.i (aW bc a10), .i (ak 5 a10), .i (ak 6 a10), .i (aW unD a10)] ++ Uns.enc ((a1) : an) ++ Uns.enc ((a2) : aq) ++ Uns.enc ((a3) : ai) ++ [.d (a4), .d (a5), .d (a6), .d (a7), .d (a8), .d (a9), .d (a10)])
theorem PE (a0 : Int) (a1 : an) (a2 : aq) (a3 : ai) (a4 : List Dat) (a5 : List Dat) (a6 : List Dat) (a7 : List Dat) (a8 : List Dat) (a9 : List Dat) (a10 : List Dat) (hc : (decide (0 <= a0) && (decide (a10.length <= 1000) && a10.all aO)) = true) : ∃ m, t23 m (a0, a1, a2, a3, a4, a5, a6, a7, a8, a9, a10) = some ([.i (aW bc a10), .i (ak 5 a10), .i (ak 6 a10), .i (aW unD a10)] ++ Uns.enc ((a1) : an) ++ Uns.enc ((a2) : aq) ++ Uns.enc ((a3) : ai) ++ [.d (a4), .d (a5), .d (a6), .d (a7), .d (a8), .d (a9), .d (a10)]) := by
 have hc' := hc; simp only [Bool.and_eq_true, decide_eq_true_eq, List.all_eq_true] at hc'; refine ⟨a10.length + 1, ?_⟩; unfold t23; dsimp only; rw [(Bool.and_eq_true_iff.1 hc).2, iI]; simp (disch := omega) only [aG]; exact (FJ (a10.length + 1) _ _ _ _ _ _ _ _ _ _ _ _ a10 [] (a10.length + 1) 0 (by omega) (by simpa using hc'.2.1) hc'.2.2 (by omega) (by simp)).trans (by simp only [Int.zero_add, List.nil_append])
theorem KE : ER 23 (mkE N23.en N23.ex f23) := ar ag T60.right (fun m => [Hc (xy m m)]) (t := t23) (by kernel_rfl) (fun m => (aH (RM m m) aE)) (fun m a => by kernel_rfl) fun (a0, a1, a2, a3, a4, a5, a6, a7, a8, a9, a10) hc => PE a0 a1 a2 a3 a4 a5 a6 a7 a8 a9 a10 hc
def T23 : Tb Tryz.prog LQ TE := T60.add 23 _ KE
end
end Go.Proofs.YtdbkoeefnodejaaGreat
namespace Go.Proofs.YtdbkoeefnodejaaGreat
noncomputable section
open Go Go.Proofs.YtdbkoeefnodejaaGreat.Ev
set_option maxRecDepth 20000
theorem F4 {d : Dat} (c : Int) (h : aO d = true) : aO (si c d) = true := by
 have := bY h; refine decide_eq_true ?_
 simp only [si, mT, bc, ek, fh, uS, ot, nG]; omega
theorem Cd {d : Dat} (c : Int) (h : aO d = true) : aO (dM c d) = true := by
 have := bY h; refine decide_eq_true ?_
 simp only [dM, mT, bc, ek, fh, uS, ot, nG]; omega
theorem Dx {d : Dat} (c : Int) (h : aO d = true) : aO (fQ c d) = true := by
 have := bY h; refine decide_eq_true ?_
 simp only [fQ, md, ek, fh, uS, ot, nG]; omega
theorem w8 (f : Dat -> Int) (x : Dat) : ∀ l : List Dat, aW f (l ++ [x]) = aW f l + f x
 | [] => by simp [aW]
 | d :: l => by simp only [List.cons_append, aW, w8 f x l]; omega
theorem gn : ∀ l : List Dat, (∀ d ∈ l, aO d = true) -> (0 <= aW bc l /\ aW bc l <= 1099511627776 * l.length) /\ (0 <= ak 5 l /\ ak 5 l <= 1125899906842624 * l.length) /\ (0 <= ak 6 l /\ ak 6 l <= 1099511627776 * l.length) /\ (0 <= aW unD l /\ aW unD l <= 1099511627776 * l.length) /\ aW unD l = aW bc l + ak 6 l
 | [], _ => by simp [aW, ak]
 | d :: l, h => by
  have h1 := bY (h d (by simp)); have h2 := gn l fun x hx => h x (by simp [hx])
  simp only [aW, ak, List.length_cons, Int.natCast_add, bc, unD] at h2 ⊢; omega
theorem Bt (f : Dat -> Int) (y : Dat) : ∀ (l : List Dat) (j : Nat), j < l.length -> aW f (l.set j y) = aW f l - f (af l j) + f y
 | [], j, h => by simp at h
 | d :: l, 0, h => by simp only [List.set_cons_zero, aW, af, List.getD_cons_zero]; omega
 | d :: l, j + 1, h => by
  have := Bt f y l j (by simpa using h); simp only [af] at this; simp only [List.set_cons_succ, aW, af, List.getD_cons_succ, this]; omega
theorem Ft {p : Dat -> Prop} {l : List Dat} {j : Nat} {y : Dat} (h : ∀ d ∈ l, p d) (hy : p y) : ∀ d ∈ l.set j y, p d := fun d hd => by
 rcases List.mem_or_eq_of_mem_set hd with h1 | rfl
 · exact h d h1
 · exact hy
theorem oL {l : List Dat} {j : Nat} (h : j < l.length) : af l j ∈ l := by rw [fp h]; exact List.getElem_mem h
end
end Go.Proofs.YtdbkoeefnodejaaGreat
namespace Go.Proofs.YtdbkoeefnodejaaGreat
noncomputable section
open Go Go.Proofs.YtdbkoeefnodejaaGreat.Ev
set_option maxRecDepth 20000
def Rz : aF := ⟨T23.tab, 109, ⟨[.agg [.bool, .bool, .bool, .bool]], [], 0⟩, ⟨[.bool], [], 0⟩, []⟩
def t109 (m : Nat) : Bool × Bool × Bool × Bool -> Option (List Un) := fun (a0, a1, a2, a3) =>
 bif !a0 then
 some ([.b true])
 else
 bif !a2 then
 some ([.b true])
 else
 some ([.b !a3])
def f109 : Bool × Bool × Bool × Bool -> Bool × List Un := fun (a0, a1, a2, a3) => (true, [.b (!a0 || (!a2 || !a3))])
theorem Mq (a0 : Bool) (a1 : Bool) (a2 : Bool) (a3 : Bool) : ∃ m, t109 m (a0, a1, a2, a3) = some ([.b (!a0 || (!a2 || !a3))]) := by
 refine ⟨0, ?_⟩; unfold t109; cases a0 <;> cases a2 <;> cases a3 <;> rfl
theorem Ie : ER 109 (mkE Rz.en Rz.ex f109) := ar ag T23.right (fun m => []) (t := t109) (by kernel_rfl) (fun m => aE) (fun m a => by kernel_rfl) fun (a0, a1, a2, a3) hc => Mq a0 a1 a2 a3
def OG : Tb Tryz.prog LQ TE := T23.add 109 _ Ie
def cO (mode bd dV : Int) (oc ic late kh : Bool) : Int × Int :=
 if mode = 2 \/ ic = false then (2, 0)
 else if oc = false \/ late = false \/ kh = false then (1, 0)
 else if mode ≠ 1 \/ dV <= bd \/ bd + 1 = dV then (0, 0)
 else (1, bd + 1)
def N50 : aF := ⟨OG.tab, 50, ⟨[.agg [.int .i64, .int .i64], .int .i64, .agg [.bool, .bool, .bool, .bool]], [], 0⟩, ⟨[.agg [.int .i64, .int .i64]], [], 0⟩, []⟩
def t50 (m : Nat) : Int × Int × Int × Bool × Bool × Bool × Bool -> Option (List Un) := fun (a0, a1, a2, a3, a4, a5, a6) =>
 bif a0 == 2 then
 some ([.i 2, .i 0])
 else
 bif !a4 then
 some ([.i 2, .i 0])
 else
 bif (!a3 || (!a5 || !a6)) then
 some ([.i 1, .i 0])
 else
 bif a0 != 1 then
 some ([.i 0, .i 0])
 else
 bif decide (a1 >= a2) then
 some ([.i 0, .i 0])
 else
 bif (w64 (a1 + 1)) == a2 then
 some ([.i 0, .i 0])
 else
 some ([.i 1, .i (w64 (a1 + 1))])
def f50 : Int × Int × Int × Bool × Bool × Bool × Bool -> Bool × List Un := fun (a0, a1, a2, a3, a4, a5, a6) => (decide (0 <= a1 /\ a1 <= 1000000), [.i ((cO a0 a1 a2 a3 a4 a5 a6).1), .i ((cO a0 a1 a2 a3 a4 a5 a6).2)])
theorem Pu (a0 : Int) (a1 : Int) (a2 : Int) (a3 : Bool) (a4 : Bool) (a5 : Bool) (a6 : Bool) (hc : (decide (0 <= a1 /\ a1 <= 1000000)) = true) : ∃ m, t50 m (a0, a1, a2, a3, a4, a5, a6) = some ([.i ((cO a0 a1 a2 a3 a4 a5 a6).1), .i ((cO a0 a1 a2 a3 a4 a5 a6).2)]) := by
 have h := of_decide_eq_true hc; refine ⟨0, ?_⟩; unfold t50 cO
 by_cases h1 : a0 = 2
 · simp (disch := omega) only [TRa, TRi, aa]; simp [h1]
 · cases a4
   · simp (disch := omega) only [TRa, TRi, aa]; simp
   · cases a3 <;> cases a5 <;> cases a6 <;> simp [h1, eM] <;> by_cases h2 : a0 = 1 <;> by_cases h3 : a2 <= a1 <;> by_cases h4 : a1 + 1 = a2 <;> simp (disch := omega) only [TRa, TRi, aa] <;> simp [h2, h3, h4]
theorem Lf : ER 50 (mkE N50.en N50.ex f50) := ar ag OG.right (fun m => []) (t := t50) (by kernel_rfl) (fun m => aE) (fun m a => by kernel_rfl) fun (a0, a1, a2, a3, a4, a5, a6) hc => Pu a0 a1 a2 a3 a4 a5 a6 hc
def T50 : Tb Tryz.prog LQ TE := OG.add 50 _ Lf
def dk (n : Int) : Int := if n < 1 then 0 else if n < 3 then 1 else if n < 6 then 2 else 3
def RK : aF := ⟨T50.tab, 150, ⟨[.int .i64], [], 0⟩, ⟨[.int .i64], [], 0⟩, []⟩
def t150 (m : Nat) : Int -> Option (List Un) := fun a0 =>
 bif decide (a0 < 1) then
 some ([.i 0])
 else
 bif decide (a0 < 3) then
 some ([.i 1])
 else
 bif decide (a0 < 6) then
 some ([.i 2])
 else
 some ([.i 3])
def f150 : Int -> Bool × List Un := fun a0 => (true, [.i (dk a0)])
theorem J8 (a0 : Int) : ∃ m, t150 m a0 = some ([.i (dk a0)]) := by
 refine ⟨0, ?_⟩; unfold t150 dk
 by_cases h1 : a0 < 1 <;> by_cases h2 : a0 < 3 <;> by_cases h3 : a0 < 6 <;> simp [h1, h2, h3]
theorem HB : ER 150 (mkE RK.en RK.ex f150) := ar ag T50.right (fun m => []) (t := t150) (by kernel_rfl) (fun m => aE) (fun m a => by kernel_rfl) fun a0 hc => J8 a0
def Mi : Tb Tryz.prog LQ TE := T50.add 150 _ HB
def cU (d : Dat) : Bool := decide (0 <= d.i 1 /\ d.i 1 <= 1099511627776)
def cp (j : Int) (l : List Dat) : Int := aW (fun d => if dk (d.i 3) = j then d.i 1 else 0) l
theorem F0 (n : Int) : dk n = 0 \/ dk n = 1 \/ dk n = 2 \/ dk n = 3 := by
 unfold dk
 split
 · exact .inl rfl
 · split
   · exact .inr (.inl rfl)
   · split
     · exact .inr (.inr (.inl rfl))
     · exact .inr (.inr (.inr rfl))
theorem pq {d : Dat} (h : cU d = true) : 0 <= d.i 1 /\ d.i 1 <= 1099511627776 := of_decide_eq_true h
def Pl : aF := ⟨Mi.tab, 112, ⟨[.ae (sB 4)], [], 0⟩, ⟨[.agg [.int .i64, .int .i64, .int .i64, .int .i64]], [], 0⟩, []⟩
abbrev zr : Type := List Dat × Int × Int × Int × Int × Int × Int × Int × Int × Int × Int
def sA (m : Nat) (k : zr -> Option (List Un)) : zr -> Option (List Un) := fun (a0, a1, a2, a3, a4, a5, a6, a7, a8, a9, a10) =>
 bif decide (a2 < a1) then
 chk (inb a2 a0.length) <|
 chk (decide (a2.toNat < a0.length)) <|
 lt (af a0 a2.toNat : Dat) fun d1 =>
 chk (inb (dk (d1.i 3)) 4) <|
 chk (decide ((dk (d1.i 3)).toNat < 4)) <|
 lt ((List.getD [a7, a8, a9, a10] ((dk (d1.i 3)).toNat) 0) : Int) fun x2 =>
 chk (inb (dk (d1.i 3)) 4) <|
 chk (decide ((dk (d1.i 3)).toNat < 4)) <|
 k (a0, a1, (w64 (a2 + 1)), a3, a4, a5, a6, (bif decide ((dk (d1.i 3)).toNat = 0) then (w64 (x2 + (d1.i 1))) else a7), (bif decide ((dk (d1.i 3)).toNat = 1) then (w64 (x2 + (d1.i 1))) else a8), (bif decide ((dk (d1.i 3)).toNat = 2) then (w64 (x2 + (d1.i 1))) else a9), (bif decide ((dk (d1.i 3)).toNat = 3) then (w64 (x2 + (d1.i 1))) else a10))
 else
 some ([.i a7, .i a8, .i a9, .i a10])
def pU (m : Nat) : Nat -> zr -> Option (List Un) := bj (sA m)
theorem rO (m : Nat) (n : Nat) : pU m (n + 1) = sA m (pU m n) := rfl
def DZ (F : zr -> Option (List Un)) : aR := ⟨[.lp [0, 1, 0, 1, 1], .blk 0, .code [1, 1, 1]], ⟨frm 24 [(2, .ptr 0 0 0), (3, .ptr 1 0 0), (6, .ae (sB 4)), (7, .int .i64), (8, .int .i64)], [.cells [.int .i64, .int .i64, .int .i64, .int .i64], .cells [.int .i64, .int .i64, .int .i64, .int .i64]], 0⟩, onU F⟩
theorem NR (m : Nat) : ∀ n, HO Pl (DZ (pU m n)) := au ag Mi.right (fun k => [DZ k]) (fun k h => (aH h aE)) fun k a => by kernel_rfl
def t112 (m : Nat) : List Dat -> Option (List Un) := fun a0 =>
 pU m m (a0, (a0.length : Int), 0, 0, 0, 0, 0, 0, 0, 0, 0)
set_option maxHeartbeats 2000000 in
theorem LF (m : Nat) (z0 z1 z2 z3 : Int) : ∀ (rest pre : List Dat) (n : Nat) (b0 b1 b2 b3 : Int), rest.length < n -> (pre ++ rest).length <= 1000 -> (∀ d ∈ rest, cU d = true) -> (0 <= b0 /\ b0 <= 1099511627776 * pre.length) -> (0 <= b1 /\ b1 <= 1099511627776 * pre.length) -> (0 <= b2 /\ b2 <= 1099511627776 * pre.length) -> (0 <= b3 /\ b3 <= 1099511627776 * pre.length) ->
 pU m n (pre ++ rest, ((pre ++ rest).length : Int), (pre.length : Int), z0, z1, z2, z3, b0, b1, b2, b3) = some [.i (b0 + cp 0 rest), .i (b1 + cp 1 rest), .i (b2 + cp 2 rest), .i (b3 + cp 3 rest)] := by
 intro rest
 induction rest with
 | nil =>
  intro pre n b0 b1 b2 b3 hn hl hg h0 h1 h2 h3; obtain ⟨n, rfl⟩ := al n (by simp at hn; omega); rw [rO]; unfold sA; dsimp only; simp [aw, aW, cp]
 | cons x rest ih =>
  intro pre n b0 b1 b2 b3 hn hl hg h0 h1 h2 h3; obtain ⟨n, rfl⟩ := al n (by simp at hn; omega); simp only [List.length_cons, List.length_append] at hn hl; have hx := pq (hg x (by simp)); have ih' := fun b0 b1 b2 b3 => ih (pre ++ [x]) n b0 b1 b2 b3 (by omega) (by simp; omega) (fun d hd => hg d (by simp [hd]))
  rw [rO]; unfold sA; dsimp only; simp only [cp, aW] at ih' ⊢; rcases F0 (x.i 3) with hb | hb | hb | hb
  · have := ih' (b0 + x.i 1) b1 b2 b3 (by simp; omega) (by simp; omega) (by simp; omega) (by simp; omega); simp (disch := omega) only [TRa, TRi, aa, LNl, LNi, Int.cast_ofNat_Int, ao, hb, Int.reduceToNat, List.getD_cons_zero, List.getD_cons_succ, if_true, Int.reduceEq, if_false]; simp only [Nat.reduceEqDiff, decide_true, decide_false, cond_true, cond_false, reduceCtorEq, Nat.zero_ne_one, Nat.one_ne_zero, if_true, if_false, Int.reduceEq, Int.zero_add]; simp only [LNl, LNi, Int.cast_ofNat_Int] at this ⊢; exact this
  · have := ih' b0 (b1 + x.i 1) b2 b3 (by simp; omega) (by simp; omega) (by simp; omega) (by simp; omega); simp (disch := omega) only [TRa, TRi, aa, LNl, LNi, Int.cast_ofNat_Int, ao, hb, Int.reduceToNat, List.getD_cons_zero, List.getD_cons_succ, if_true, Int.reduceEq, if_false]; simp only [Nat.reduceEqDiff, decide_true, decide_false, cond_true, cond_false, reduceCtorEq, Nat.zero_ne_one, Nat.one_ne_zero, if_true, if_false, Int.reduceEq, Int.zero_add]; simp only [LNl, LNi, Int.cast_ofNat_Int] at this ⊢; exact this
  · have := ih' b0 b1 (b2 + x.i 1) b3 (by simp; omega) (by simp; omega) (by simp; omega) (by simp; omega); simp (disch := omega) only [TRa, TRi, aa, LNl, LNi, Int.cast_ofNat_Int, ao, hb, Int.reduceToNat, List.getD_cons_zero, List.getD_cons_succ, if_true, Int.reduceEq, if_false]; simp only [Nat.reduceEqDiff, decide_true, decide_false, cond_true, cond_false, reduceCtorEq, Nat.zero_ne_one, Nat.one_ne_zero, if_true, if_false, Int.reduceEq, Int.zero_add]; simp only [LNl, LNi, Int.cast_ofNat_Int] at this ⊢; exact this
  · have := ih' b0 b1 b2 (b3 + x.i 1) (by simp; omega) (by simp; omega) (by simp; omega) (by simp; omega); simp (disch := omega) only [TRa, TRi, aa, LNl, LNi, Int.cast_ofNat_Int, ao, hb, Int.reduceToNat, List.getD_cons_zero, List.getD_cons_succ, if_true, Int.reduceEq, if_false]; simp only [Nat.reduceEqDiff, decide_true, decide_false, cond_true, cond_false, reduceCtorEq, Nat.zero_ne_one, Nat.one_ne_zero, if_true, if_false, Int.reduceEq, Int.zero_add]; simp only [LNl, LNi, Int.cast_ofNat_Int] at this ⊢; exact this
def f112 : List Dat -> Bool × List Un := fun a0 => (decide (a0.length <= 1000) && a0.all cU, [.i (cp 0 a0), .i (cp 1 a0), .i (cp 2 a0), .i (cp 3 a0)])
theorem JR (a0 : List Dat) (hc : (decide (a0.length <= 1000) && a0.all cU) = true) : ∃ m, t112 m a0 = some ([.i (cp 0 a0), .i (cp 1 a0), .i (cp 2 a0), .i (cp 3 a0)]) := by
 simp only [Bool.and_eq_true, decide_eq_true_eq, List.all_eq_true] at hc; refine ⟨a0.length + 1, ?_⟩; exact (LF (a0.length + 1) _ _ _ _ a0 [] (a0.length + 1) 0 0 0 0 (by omega) (by simpa using hc.1) hc.2 (by simp) (by simp) (by simp) (by simp)).trans (by simp only [Int.zero_add])
theorem IN : ER 112 (mkE Pl.en Pl.ex f112) := ar ag Mi.right (fun m => [DZ (pU m m)]) (t := t112) (by kernel_rfl) (fun m => (aH (NR m m) aE)) (fun m a => by kernel_rfl) fun a0 hc => JR a0 hc
def L1 : Tb Tryz.prog LQ TE := Mi.add 112 _ IN
def A2 (a b c d k : Int) : Int := (if k <= 0 then a else 0) + (if k <= 1 then b else 0) + (if k <= 2 then c else 0) + (if k <= 3 then d else 0)
def NA : aF := ⟨L1.tab, 113, ⟨[.agg [.int .i64, .int .i64, .int .i64, .int .i64], .int .i64], [], 0⟩, ⟨[.int .i64], [], 0⟩, []⟩
abbrev Am : Type := Int × Int × Int × Int × Int × Int
def lA (m : Nat) (k : Am -> Option (List Un)) : Am -> Option (List Un) := fun (a0, a1, a2, a3, a4, a5) =>
 bif decide (a1 < 4) then
 chk (inb a1 4) <|
 chk (decide (a1.toNat < 4)) <|
 k ((w64 (a0 + (List.getD [a2, a3, a4, a5] a1.toNat 0))), (w64 (a1 + 1)), a2, a3, a4, a5)
 else
 some ([.i a0])
def eu (m : Nat) : Nat -> Am -> Option (List Un) := bj (lA m)
theorem ik (m : Nat) (n : Nat) : eu m (n + 1) = lA m (eu m n) := rfl
def Dw (F : Am -> Option (List Un)) : aR := ⟨[.lp [0, 1, 0, 1, 1], .blk 0, .code [1, 1, 1]], ⟨frm 19 [(2, .ptr 0 0 0), (5, .int .i64), (6, .int .i64)], [.cells [.int .i64, .int .i64, .int .i64, .int .i64]], 0⟩, onU F⟩
theorem OP (m : Nat) : ∀ n, HO NA (Dw (eu m n)) := au ag L1.right (fun k => [Dw k]) (fun k h => (aH h aE)) fun k a => by kernel_rfl
def t113 (m : Nat) : Int × Int × Int × Int × Int -> Option (List Un) := fun (a0, a1, a2, a3, a4) =>
 eu m m (0, (if a4 < 0 then 0 else a4), a0, a1, a2, a3)
def f113 : Int × Int × Int × Int × Int -> Bool × List Un := fun (a0, a1, a2, a3, a4) => (decide (0 <= a0 /\ a0 <= 1152921504606846976 /\ 0 <= a1 /\ a1 <= 1152921504606846976 /\ 0 <= a2 /\ a2 <= 1152921504606846976 /\ 0 <= a3 /\ a3 <= 1152921504606846976), [.i (A2 a0 a1 a2 a3 a4)])
theorem KW (a0 : Int) (a1 : Int) (a2 : Int) (a3 : Int) (a4 : Int) (hc : (decide (0 <= a0 /\ a0 <= 1152921504606846976 /\ 0 <= a1 /\ a1 <= 1152921504606846976 /\ 0 <= a2 /\ a2 <= 1152921504606846976 /\ 0 <= a3 /\ a3 <= 1152921504606846976)) = true) : ∃ m, t113 m (a0, a1, a2, a3, a4) = some ([.i (A2 a0 a1 a2 a3 a4)]) := by
 have h := of_decide_eq_true hc; refine ⟨6, ?_⟩; unfold t113 A2; dsimp only; have f0 : ∀ (n : Nat) (i s : Int), 4 <= i -> eu 6 (n + 1) (s, i, a0, a1, a2, a3) = some [.i s] := by
  intro n i s hi; rw [ik]; unfold lA; dsimp only; rw [aw (by omega)]
 have f3 : ∀ (n : Nat) (s : Int), 0 <= s -> s <= 3458764513820540928 -> eu 6 (n + 2) (s, 3, a0, a1, a2, a3) = some [.i (s + a3)] := by
  intro n s h1 h2; rw [ik]; unfold lA; dsimp only; simp (disch := omega) only [ba, cy, aG, Int.reduceToNat, List.getD_cons_zero, List.getD_cons_succ, aa, Int.reduceAdd, f0]
 have f2 : ∀ (n : Nat) (s : Int), 0 <= s -> s <= 2305843009213693952 -> eu 6 (n + 3) (s, 2, a0, a1, a2, a3) = some [.i (s + a2 + a3)] := by
  intro n s h1 h2; rw [ik]; unfold lA; dsimp only; simp (disch := omega) only [ba, cy, aG, Int.reduceToNat, List.getD_cons_zero, List.getD_cons_succ, aa, Int.reduceAdd, f3]
 have f1 : ∀ (n : Nat) (s : Int), 0 <= s -> s <= 1152921504606846976 -> eu 6 (n + 4) (s, 1, a0, a1, a2, a3) = some [.i (s + a1 + a2 + a3)] := by
  intro n s h1 h2; rw [ik]; unfold lA; dsimp only; simp (disch := omega) only [ba, cy, aG, Int.reduceToNat, List.getD_cons_zero, List.getD_cons_succ, aa, Int.reduceAdd, f2]
 by_cases k0 : a4 <= 0
 · rw [show (if a4 < 0 then 0 else a4) = (0 : Int) by split <;> omega, show eu 6 6 = eu 6 (5 + 1) from rfl, ik]; unfold lA; dsimp only; simp (disch := omega) only [ba, cy, aG, Int.reduceToNat, List.getD_cons_zero, List.getD_cons_succ, aa, Int.reduceAdd, Int.zero_add]; rw [show eu 6 5 = eu 6 (1 + 4) from rfl, f1 _ _ (by omega) (by omega), if_pos k0, if_pos (by omega), if_pos (by omega), if_pos (by omega)]
 · rw [if_neg (show ¬ a4 < 0 by omega), if_neg k0]
   by_cases k1 : a4 = 1
   · subst k1; rw [show eu 6 6 = eu 6 (2 + 4) from rfl, f1 _ _ (by omega) (by omega)]; simp
   · by_cases k2 : a4 = 2
     · subst k2; rw [show eu 6 6 = eu 6 (3 + 3) from rfl, f2 _ _ (by omega) (by omega)]; simp
     · by_cases k3 : a4 = 3
       · subst k3; rw [show eu 6 6 = eu 6 (4 + 2) from rfl, f3 _ _ (by omega) (by omega)]; simp
       · rw [f0 _ _ _ (by omega), if_neg (by omega), if_neg (by omega), if_neg (by omega)]; simp
theorem HT : ER 113 (mkE NA.en NA.ex f113) := ar ag L1.right (fun m => [Dw (eu m m)]) (t := t113) (by kernel_rfl) (fun m => (aH (OP m m) aE)) (fun m a => by kernel_rfl) fun (a0, a1, a2, a3, a4) hc => KW a0 a1 a2 a3 a4 hc
def LW : Tb Tryz.prog LQ TE := L1.add 113 _ HT
theorem QX (a : List Dat) : (af [.r [.r a]] 0).d 0 = a := rfl
def N19 : aF := ⟨LW.tab, 19, ⟨[.dpt [.ae (sB 4)]], [], 0⟩, ⟨[.int .i64], [], 0⟩, []⟩
abbrev E0 : Type := Int × List Dat × Int × Int
def zv (m : Nat) (k : E0 -> Option (List Un)) : E0 -> Option (List Un) := fun (a0, a1, a2, a3) =>
 bif decide (a3 < a2) then
 chk (inb a3 a1.length) <|
 chk (decide (a3.toNat < a1.length)) <|
 k ((w64 (a0 + ((af a1 a3.toNat).i 1))), a1, a2, (w64 (a3 + 1)))
 else
 some ([.i a0])
def xV (m : Nat) : Nat -> E0 -> Option (List Un) := bj (zv m)
theorem uq (m : Nat) (n : Nat) : xV m (n + 1) = zv m (xV m n) := rfl
def IA (F : E0 -> Option (List Un)) : aR := ⟨[.lp [0, 1, 0, 1, 1], .blk 0, .code [1, 1, 1]], ⟨frm 22 [(3, .int .i64), (9, .ae (sB 4)), (10, .int .i64), (11, .int .i64)], [], 0⟩, onU F⟩
theorem Qt (m : Nat) : ∀ n, HO N19 (IA (xV m n)) := au ag LW.right (fun k => [IA k]) (fun k h => (aH h aE)) fun k a => by kernel_rfl
def t19 (m : Nat) : List Dat -> Option (List Un) := fun a0 =>
 chk (decide (0 < a0.length)) <|
 xV m m (0, ((af a0 0).d 0), (((af a0 0).d 0).length : Int), 0)
theorem IT (m : Nat) : ∀ (rest pre : List Dat) (n : Nat) (b : Int), rest.length < n -> (pre ++ rest).length <= 1000 -> (∀ d ∈ rest, cU d = true) -> 0 <= b -> b <= 1099511627776 * pre.length ->
 xV m n (b, pre ++ rest, ((pre ++ rest).length : Int), (pre.length : Int)) = some [.i (b + ak 1 rest)] := by
 intro rest
 induction rest with
 | nil =>
  intro pre n b hn hl hg h0 h1; obtain ⟨n, rfl⟩ := al n (by simp at hn; omega); rw [uq]; unfold zv; dsimp only; simp [aw, ak]
 | cons x rest ih =>
  intro pre n b hn hl hg h0 h1; obtain ⟨n, rfl⟩ := al n (by simp at hn; omega); simp only [List.length_cons, List.length_append] at hn hl; have hx := pq (hg x (by simp)); rw [uq]; unfold zv; dsimp only; have := ih (pre ++ [x]) n (b + x.i 1) (by omega) (by simp; omega) (fun d hd => hg d (by simp [hd])) (by omega) (by simp; omega); simp only [ak] at this ⊢; simp (disch := omega) only [TRa, TRi, aa, LNl, LNi, Int.cast_ofNat_Int, ao]; simp only [LNl, LNi, Int.cast_ofNat_Int] at this ⊢; exact this
def f19 : List Dat -> Bool × List Un := fun a0 => (decide (0 < a0.length) && (decide (((af a0 0).d 0).length <= 1000) && ((af a0 0).d 0).all cU), [.i (ak 1 ((af a0 0).d 0))])
theorem PB (a0 : List Dat) (hc : (decide (0 < a0.length) && (decide (((af a0 0).d 0).length <= 1000) && ((af a0 0).d 0).all cU)) = true) : ∃ m, t19 m a0 = some ([.i (ak 1 ((af a0 0).d 0))]) := by
 simp only [Bool.and_eq_true, decide_eq_true_eq, List.all_eq_true] at hc; refine ⟨((af a0 0).d 0).length + 1, ?_⟩; unfold t19; rw [aG hc.1]; exact (IT _ ((af a0 0).d 0) [] (((af a0 0).d 0).length + 1) 0 (by omega) (by simpa using hc.2.1) hc.2.2 (by omega) (by simp)).trans (by simp only [Int.zero_add])
theorem Mm : ER 19 (mkE N19.en N19.ex f19) := ar ag LW.right (fun m => [IA (xV m m)]) (t := t19) (by kernel_rfl) (fun m => (aH (Qt m m) aE)) (fun m a => by kernel_rfl) fun a0 hc => PB a0 hc
def T19 : Tb Tryz.prog LQ TE := LW.add 19 _ Mm
def N57 : aF := ⟨T19.tab, 57, ⟨[.dpt [.ae (sB 4)]], [], 0⟩, ⟨[.buf 0 5], [.ae (sB 4)], 0⟩, []⟩
def t57 (m : Nat) : List Dat -> Option (List Un) := fun a0 =>
 chk (decide (0 < a0.length)) <|
 chk (decide (((af a0 0).d 0).length < 1000000)) <|
 some ([.d ((af a0 0).d 0)])
def f57 : List Dat -> Bool × List Un := fun a0 => (decide (0 < a0.length) && decide (((af a0 0).d 0).length < 1000000), [.d ((af a0 0).d 0)])
theorem Nh (a0 : List Dat) (hc : (decide (0 < a0.length) && decide (((af a0 0).d 0).length < 1000000)) = true) : ∃ m, t57 m a0 = some ([.d ((af a0 0).d 0)]) := by
 simp only [Bool.and_eq_true, decide_eq_true_eq] at hc; refine ⟨0, ?_⟩; unfold t57; rw [aG hc.1, aG hc.2]
theorem KR : ER 57 (mkE N57.en N57.ex f57) := ar ag T19.right (fun m => []) (t := t57) (by kernel_rfl) (fun m => aE) (fun m a => by kernel_rfl) fun a0 hc => Nh a0 hc
def T57 : Tb Tryz.prog LQ TE := T19.add 57 _ KR
theorem mf (j : Int) : ∀ (l : List Dat), (∀ d ∈ l, cU d = true) -> 0 <= cp j l /\ cp j l <= 1099511627776 * l.length
 | [], _ => by simp [cp, aW]
 | x :: l, h => by
  have h1 := pq (h x (by simp)); have h2 := mf j l fun d hd => h d (by simp [hd])
  simp only [cp, aW, List.length_cons, Int.natCast_add, Int.cast_ofNat_Int] at h2 ⊢
  split <;> omega
def N52 : aF := ⟨T57.tab, 52, ⟨[.np 0 0 0, .int .i64, .int .i64], bw 0, 9⟩, ⟨[.agg [.int .i64, .int .i64, .int .i64, .int .i64, .int .i64, .int .i64, .int .i64]], bw 0, 9⟩, []⟩
def t52 (m : Nat) : Int × Int × Int × an × aq × ai × List Dat × List Dat × List Dat × List Dat × List Dat × List Dat × List Dat -> Option (List Un) := fun (a0, a1, a2, a3, a4, a5, a6, a7, a8, a9, a10, a11, a12) =>
 chk (decide (0 <= a0) && (decide (a12.length <= 1000) && a12.all aO)) <|
 chk (decide (0 <= a0)) <|
 chk (decide (0 < ([.r [.r a11]] : List Dat).length) && (decide (((af ([.r [.r a11]] : List Dat) 0).d 0).length <= 1000) && ((af ([.r [.r a11]] : List Dat) 0).d 0).all cU)) <|
 chk (decide (0 <= a0)) <|
 chk (decide (0 <= a0)) <|
 chk (decide (0 < ([.r [.r a11]] : List Dat).length) && decide (((af ([.r [.r a11]] : List Dat) 0).d 0).length < 1000000)) <|
 lt (((af ([.r [.r a11]] : List Dat) 0).d 0) : List Dat) fun l5 =>
 chk (decide (l5.length <= 1000) && l5.all cU) <|
 chk (decide (0 <= (cp 0 l5) /\ (cp 0 l5) <= 1152921504606846976 /\ 0 <= (cp 1 l5) /\ (cp 1 l5) <= 1152921504606846976 /\ 0 <= (cp 2 l5) /\ (cp 2 l5) <= 1152921504606846976 /\ 0 <= (cp 3 l5) /\ (cp 3 l5) <= 1152921504606846976)) <|
 chk (decide (0 <= a0)) <|
 chk (decide (0 <= a0)) <|
 some ([.i (ak 1 ((af ([.r [.r a11]] : List Dat) 0).d 0)), .i (((bC (⟨a3, a6, a7, a4, a8, a9, a10⟩ : br)).getD (0, 0)).1), .i (aW bc a12), .i (if 1099511627776 < a1 then 1099511627776 else a1), .i (if 1099511627776 < a2 then 1099511627776 else a2), .i (A2 (cp 0 l5) (cp 1 l5) (cp 2 l5) (cp 3 l5) 2), .i (w64 (a5.aK - a5.aT))] ++ Uns.enc (a3 : an) ++ Uns.enc (a4 : aq) ++ Uns.enc (a5 : ai) ++ [.d a6, .d a7, .d a8, .d a9, .d a10, .d a11, .d a12])
def f52 : Int × Int × Int × an × aq × ai × List Dat × List Dat × List Dat × List Dat × List Dat × List Dat × List Dat -> Bool × List Un := fun (a0, a1, a2, a3, a4, a5, a6, a7, a8, a9, a10, a11, a12) => (decide (0 <= a0) && ((decide (a11.length <= 1000) && a11.all cU) && (decide (a12.length <= 1000) && a12.all aO)), [.i (ak 1 a11), .i (((bC (⟨a3, a6, a7, a4, a8, a9, a10⟩ : br)).getD (0, 0)).1), .i (aW bc a12), .i (min a1 1099511627776), .i (min a2 1099511627776), .i (cp 2 a11 + cp 3 a11), .i (w64 (a5.aK - a5.aT))] ++ Uns.enc ((a3) : an) ++ Uns.enc ((a4) : aq) ++ Uns.enc ((a5) : ai) ++ [.d (a6), .d (a7), .d (a8), .d (a9), .d (a10), .d (a11), .d (a12)])
theorem Ph (a0 : Int) (a1 : Int) (a2 : Int) (a3 : an) (a4 : aq) (a5 : ai) (a6 : List Dat) (a7 : List Dat) (a8 : List Dat) (a9 : List Dat) (a10 : List Dat) (a11 : List Dat) (a12 : List Dat) (hc : (decide (0 <= a0) && ((decide (a11.length <= 1000) && a11.all cU) && (decide (a12.length <= 1000) && a12.all aO))) = true) : ∃ m, t52 m (a0, a1, a2, a3, a4, a5, a6, a7, a8, a9, a10, a11, a12) = some ([.i (ak 1 a11), .i (((bC (⟨a3, a6, a7, a4, a8, a9, a10⟩ : br)).getD (0, 0)).1), .i (aW bc a12), .i (min a1 1099511627776), .i (min a2 1099511627776), .i (cp 2 a11 + cp 3 a11), .i (w64 (a5.aK - a5.aT))] ++ Uns.enc ((a3) : an) ++ Uns.enc ((a4) : aq) ++ Uns.enc ((a5) : ai) ++ [.d (a6), .d (a7), .d (a8), .d (a9), .d (a10), .d (a11), .d (a12)]) := by
 have hc' := hc; simp only [Bool.and_eq_true, decide_eq_true_eq, List.all_eq_true] at hc'; obtain ⟨h0, ⟨h1, h2⟩, h3, h4⟩ := hc'; have q1 : (decide (a11.length <= 1000) && a11.all cU) = true := (Bool.and_eq_true_iff.1 (Bool.and_eq_true_iff.1 hc).2).1; have q2 : (decide (a12.length <= 1000) && a12.all aO) = true := (Bool.and_eq_true_iff.1 (Bool.and_eq_true_iff.1 hc).2).2; have l0 := mf 0 a11 h2; have l1 := mf 1 a11 h2; have l2 := mf 2 a11 h2; have l3 := mf 3 a11 h2; refine ⟨0, ?_⟩; unfold t52; dsimp only [lt, QX, List.length_cons, List.length_nil]; simp only [decide_eq_true h0, q1, q2, Bool.and_self, iI, show decide (0 < 0 + 1) = true from rfl, decide_eq_true (show a11.length < 1000000 by omega)]; rw [aG (by omega)]; simp only [jB, A2, Int.reduceLE, if_true, if_false, Int.zero_add, Bool.true_and]; exact bp (by rw [Bool.and_eq_true]; exact ⟨@decide_eq_true _ _ h1, List.all_eq_true.2 h2⟩) (bp (@decide_eq_true _ _ (by omega)) rfl)
theorem LZ : ER 52 (mkE N52.en N52.ex f52) := ar ag T57.right (fun m => []) (t := t52) (by kernel_rfl) (fun m => aE) (fun m a => by kernel_rfl) fun (a0, a1, a2, a3, a4, a5, a6, a7, a8, a9, a10, a11, a12) hc => Ph a0 a1 a2 a3 a4 a5 a6 a7 a8 a9 a10 a11 a12 hc
def T52 : Tb Tryz.prog LQ TE := T57.add 52 _ LZ
end
end Go.Proofs.YtdbkoeefnodejaaGreat
namespace Go.Proofs.YtdbkoeefnodejaaGreat
noncomputable section
open Go Go.Proofs.YtdbkoeefnodejaaGreat.Ev
set_option maxRecDepth 20000
theorem qL (pre pre' : List Dat) (x : Dat) (rest : List Dat) (h : pre'.length = pre.length) : af (pre' ++ x :: rest) pre.length = x := by rw [<- h]; exact ao pre' x rest
def rG : Nat -> Nat -> Dat -> Dat -> Bool
 | _, 0, _, _ => true
 | j, n + 1, x, y => x.i j == y.i j && rG (j + 1) n x y
def gF (n : Nat) : List Dat -> List Dat -> Bool
 | [], [] => true
 | x :: a, y :: b => rG 0 n x y && gF n a b
 | _, _ => false
def qa : Nat -> Nat -> Dat -> Dat -> Bool
 | j, 0, x, y => x.b j == y.b j
 | j, n + 1, x, y => x.i j == y.i j && qa (j + 1) n x y
def mS (n : Nat) : List Dat -> List Dat -> Bool
 | [], [] => true
 | x :: a, y :: b => qa 0 n x y && mS n a b
 | _, _ => false
def iP : List Int -> List Int -> Bool
 | [], [] => true
 | x :: a, y :: b => x == y && iP a b
 | _, _ => false
theorem tH (x : Dat) : ∀ (n j : Nat), rG j n x x = true
 | 0, j => rfl
 | n + 1, j => by simp [rG, tH x n]
theorem tT (n : Nat) : ∀ (l : List Dat), gF n l l = true
 | [] => rfl
 | x :: l => by simp [gF, tH, tT n l]
theorem tG : ∀ (l : List Int), iP l l = true
 | [] => rfl
 | x :: l => by simp [iP, tG l]
theorem qd (n : Nat) : ∀ (a b : List Dat), a.length ≠ b.length -> gF n a b = false
 | [], [], h => absurd rfl h
 | [], _ :: _, _ => rfl
 | _ :: _, [], _ => rfl
 | x :: a, y :: b, h => by simp [gF, qd n a b (by simpa using h)]
theorem vI (n : Nat) : ∀ (a b : List Dat), a.length ≠ b.length -> mS n a b = false
 | [], [], h => absurd rfl h
 | [], _ :: _, _ => rfl
 | _ :: _, [], _ => rfl
 | x :: a, y :: b, h => by simp [mS, vI n a b (by simpa using h)]
theorem ye : ∀ (a b : List Int), a.length ≠ b.length -> iP a b = false
 | [], [], h => absurd rfl h
 | [], _ :: _, _ => rfl
 | _ :: _, [], _ => rfl
 | x :: a, y :: b, h => by simp [iP, ye a b (by simpa using h)]
def N15 : aF := ⟨T52.tab, 15, ⟨[.ae (sI 3), .ae (sI 3)], [], 0⟩, ⟨[.bool], [], 0⟩, []⟩
abbrev Fl : Type := List Dat × List Dat × Int
def zE (m : Nat) (k : Fl -> Option (List Un)) : Fl -> Option (List Un) := fun (a0, a1, a2) =>
 bif (decide (a2 < (a0.length : Int))) then
 chk (inb a2 a0.length) <|
 chk (decide (a2.toNat < a0.length)) <|
 lt (af a0 a2.toNat : Dat) fun d3 =>
 chk (inb a2 a1.length) <|
 chk (decide (a2.toNat < a1.length)) <|
 lt (af a1 a2.toNat : Dat) fun d4 =>
 bif (!(((d3.i 0) == (d4.i 0)) && (((d3.i 1) == (d4.i 1)) && (((d3.i 2) == (d4.i 2)) && true)))) then
 some ([.b false])
 else
 k (a0, a1, (w64 (a2 + 1)))
 else
 some ([.b true])
def ym (m : Nat) : Nat -> Fl -> Option (List Un) := bj (zE m)
theorem uu (m : Nat) (n : Nat) : ym m (n + 1) = zE m (ym m n) := rfl
def IH (F : Fl -> Option (List Un)) : aR := ⟨[.lp [0, 1, 0, 1, 1], .blk 0, .code [1, 1, 1]], ⟨frm 26 [(0, .ae (sI 3)), (1, .ae (sI 3)), (5, .int .i64)], [], 0⟩, onU F⟩
theorem Rn (m : Nat) : ∀ n, HO N15 (IH (ym m n)) := au ag T52.right (fun k => [IH k]) (fun k h => (aH h aE)) fun k a => by kernel_rfl
def t15 (m : Nat) : List Dat × List Dat -> Option (List Un) := fun (a0, a1) =>
 bif ((a0.length : Int) != (a1.length : Int)) then
 some ([.b false])
 else
 ym m m (a0, a1, 0)
theorem K3 (m : Nat) : ∀ (rest rest' pre pre' : List Dat) (n : Nat), rest.length < n -> pre'.length = pre.length -> rest'.length = rest.length -> (pre ++ rest).length < 1099511627776 ->
 ym m n (pre ++ rest, pre' ++ rest', (pre.length : Int)) = some [.b (gF 3 rest rest')] := by
 intro rest
 induction rest with
 | nil =>
  intro rest' pre pre' n hn hp hr hl; obtain ⟨n, rfl⟩ := al n (by simp at hn; omega); obtain rfl : rest' = [] := List.eq_nil_of_length_eq_zero (by simpa using hr); rw [uu]; unfold zE; dsimp only; simp [aw, gF]
 | cons x rest ih =>
  intro rest' pre pre' n hn hp hr hl; obtain ⟨n, rfl⟩ := al n (by simp at hn; omega); obtain ⟨y, rest', rfl⟩ : ∃ y l, rest' = y :: l := by cases rest' with | nil => simp at hr | cons y l => exact ⟨y, l, rfl⟩
  simp only [List.length_cons, List.length_append] at hn hl hr; have := ih rest' (pre ++ [x]) (pre' ++ [y]) n (by omega) (by simp [hp]) (by omega) (by simp; omega); rw [uu]; unfold zE; dsimp only; simp only [gF, rG, qa, Nat.reduceAdd]; simp (disch := omega) only [TRa, TRi, aa, LNl, LNi, Int.cast_ofNat_Int, ao, qL _ _ _ _ hp]; simp only [LNl, LNi, Int.cast_ofNat_Int] at this ⊢
  (try simp only [bne, cond_not])
  cases (x.i 0 == y.i 0) <;> cases (x.i 1 == y.i 1) <;> cases (x.i 2 == y.i 2)
  all_goals (first | exact this | rfl)
def f15 : List Dat × List Dat -> Bool × List Un := fun (a0, a1) => (decide (a0.length < 1099511627776), [.b (gF 3 a0 a1)])
theorem OR (a0 : List Dat) (a1 : List Dat) (hc : (decide (a0.length < 1099511627776)) = true) : ∃ m, t15 m (a0, a1) = some ([.b (gF 3 a0 a1)]) := by
 have hs := of_decide_eq_true hc; refine ⟨a0.length + 1, ?_⟩; unfold t15; dsimp only
 by_cases h : a0.length = a1.length
 · rw [bN (by omega)]; exact K3 _ a0 a1 [] [] _ (by omega) rfl h.symm (by simpa using hs)
 · rw [jO (by omega), qd _ _ _ h]
theorem JP : ER 15 (mkE N15.en N15.ex f15) := ar ag T52.right (fun m => [IH (ym m m)]) (t := t15) (by kernel_rfl) (fun m => (aH (Rn m m) aE)) (fun m a => by kernel_rfl) fun (a0, a1) hc => OR a0 a1 hc
def T15 : Tb Tryz.prog LQ TE := T52.add 15 _ JP
def N84 : aF := ⟨T15.tab, 84, ⟨[.ae (sB 6), .ae (sB 6)], [], 0⟩, ⟨[.bool], [], 0⟩, []⟩
abbrev Fu : Type := List Dat × List Dat × Int
def zL (m : Nat) (k : Fu -> Option (List Un)) : Fu -> Option (List Un) := fun (a0, a1, a2) =>
 bif (decide (a2 < (a0.length : Int))) then
 chk (inb a2 a0.length) <|
 chk (decide (a2.toNat < a0.length)) <|
 lt (af a0 a2.toNat : Dat) fun d3 =>
 chk (inb a2 a1.length) <|
 chk (decide (a2.toNat < a1.length)) <|
 lt (af a1 a2.toNat : Dat) fun d4 =>
 bif (!(((d3.i 0) == (d4.i 0)) && (((d3.i 1) == (d4.i 1)) && (((d3.i 2) == (d4.i 2)) && (((d3.i 3) == (d4.i 3)) && (((d3.i 4) == (d4.i 4)) && (((d3.i 5) == (d4.i 5)) && (((d3.b 6) == (d4.b 6)) && true)))))))) then
 some ([.b false])
 else
 k (a0, a1, (w64 (a2 + 1)))
 else
 some ([.b true])
def xL (m : Nat) : Nat -> Fu -> Option (List Un) := bj (zL m)
theorem uH (m : Nat) (n : Nat) : xL m (n + 1) = zL m (xL m n) := rfl
def Ig (F : Fu -> Option (List Un)) : aR := ⟨[.lp [0, 1, 0, 1, 1], .blk 0, .code [1, 1, 1]], ⟨frm 26 [(0, .ae (sB 6)), (1, .ae (sB 6)), (5, .int .i64)], [], 0⟩, onU F⟩
theorem Re (m : Nat) : ∀ n, HO N84 (Ig (xL m n)) := au ag T15.right (fun k => [Ig k]) (fun k h => (aH h aE)) fun k a => by kernel_rfl
def t84 (m : Nat) : List Dat × List Dat -> Option (List Un) := fun (a0, a1) =>
 bif ((a0.length : Int) != (a1.length : Int)) then
 some ([.b false])
 else
 xL m m (a0, a1, 0)
theorem Mo (m : Nat) : ∀ (rest rest' pre pre' : List Dat) (n : Nat), rest.length < n -> pre'.length = pre.length -> rest'.length = rest.length -> (pre ++ rest).length < 1099511627776 ->
 xL m n (pre ++ rest, pre' ++ rest', (pre.length : Int)) = some [.b (mS 6 rest rest')] := by
 intro rest
 induction rest with
 | nil =>
  intro rest' pre pre' n hn hp hr hl; obtain ⟨n, rfl⟩ := al n (by simp at hn; omega); obtain rfl : rest' = [] := List.eq_nil_of_length_eq_zero (by simpa using hr); rw [uH]; unfold zL; dsimp only; simp [aw, mS]
 | cons x rest ih =>
  intro rest' pre pre' n hn hp hr hl; obtain ⟨n, rfl⟩ := al n (by simp at hn; omega); obtain ⟨y, rest', rfl⟩ : ∃ y l, rest' = y :: l := by cases rest' with | nil => simp at hr | cons y l => exact ⟨y, l, rfl⟩
  simp only [List.length_cons, List.length_append] at hn hl hr; have := ih rest' (pre ++ [x]) (pre' ++ [y]) n (by omega) (by simp [hp]) (by omega) (by simp; omega); rw [uH]; unfold zL; dsimp only; simp only [mS, rG, qa, Nat.reduceAdd]; simp (disch := omega) only [TRa, TRi, aa, LNl, LNi, Int.cast_ofNat_Int, ao, qL _ _ _ _ hp]; simp only [LNl, LNi, Int.cast_ofNat_Int] at this ⊢
  (try simp only [bne, cond_not])
  cases (x.i 0 == y.i 0) <;> cases (x.i 1 == y.i 1) <;> cases (x.i 2 == y.i 2) <;> cases (x.i 3 == y.i 3) <;> cases (x.i 4 == y.i 4) <;> cases (x.i 5 == y.i 5) <;> cases (x.b 6 == y.b 6)
  all_goals (first | exact this | rfl)
def f84 : List Dat × List Dat -> Bool × List Un := fun (a0, a1) => (decide (a0.length < 1099511627776), [.b (mS 6 a0 a1)])
theorem PR (a0 : List Dat) (a1 : List Dat) (hc : (decide (a0.length < 1099511627776)) = true) : ∃ m, t84 m (a0, a1) = some ([.b (mS 6 a0 a1)]) := by
 have hs := of_decide_eq_true hc; refine ⟨a0.length + 1, ?_⟩; unfold t84; dsimp only
 by_cases h : a0.length = a1.length
 · rw [bN (by omega)]; exact Mo _ a0 a1 [] [] _ (by omega) rfl h.symm (by simpa using hs)
 · rw [jO (by omega), vI _ _ _ h]
theorem Me : ER 84 (mkE N84.en N84.ex f84) := ar ag T15.right (fun m => [Ig (xL m m)]) (t := t84) (by kernel_rfl) (fun m => (aH (Re m m) aE)) (fun m a => by kernel_rfl) fun (a0, a1) hc => PR a0 a1 hc
def T84 : Tb Tryz.prog LQ TE := T15.add 84 _ Me
def N14 : aF := ⟨T84.tab, 14, ⟨[.ae (sI 4), .ae (sI 4)], [], 0⟩, ⟨[.bool], [], 0⟩, []⟩
abbrev EO : Type := List Dat × List Dat × Int
def zQ (m : Nat) (k : EO -> Option (List Un)) : EO -> Option (List Un) := fun (a0, a1, a2) =>
 bif (decide (a2 < (a0.length : Int))) then
 chk (inb a2 a0.length) <|
 chk (decide (a2.toNat < a0.length)) <|
 lt (af a0 a2.toNat : Dat) fun d3 =>
 chk (inb a2 a1.length) <|
 chk (decide (a2.toNat < a1.length)) <|
 lt (af a1 a2.toNat : Dat) fun d4 =>
 bif (!(((d3.i 0) == (d4.i 0)) && (((d3.i 1) == (d4.i 1)) && (((d3.i 2) == (d4.i 2)) && (((d3.i 3) == (d4.i 3)) && true))))) then
 some ([.b false])
 else
 k (a0, a1, (w64 (a2 + 1)))
 else
 some ([.b true])
def wU (m : Nat) : Nat -> EO -> Option (List Un) := bj (zQ m)
theorem uy (m : Nat) (n : Nat) : wU m (n + 1) = zQ m (wU m n) := rfl
def G3 (F : EO -> Option (List Un)) : aR := ⟨[.lp [0, 1, 0, 1, 1], .blk 0, .code [1, 1, 1]], ⟨frm 26 [(0, .ae (sI 4)), (1, .ae (sI 4)), (5, .int .i64)], [], 0⟩, onU F⟩
theorem RZ (m : Nat) : ∀ n, HO N14 (G3 (wU m n)) := au ag T84.right (fun k => [G3 k]) (fun k h => (aH h aE)) fun k a => by kernel_rfl
def t14 (m : Nat) : List Dat × List Dat -> Option (List Un) := fun (a0, a1) =>
 bif ((a0.length : Int) != (a1.length : Int)) then
 some ([.b false])
 else
 wU m m (a0, a1, 0)
theorem MG (m : Nat) : ∀ (rest rest' pre pre' : List Dat) (n : Nat), rest.length < n -> pre'.length = pre.length -> rest'.length = rest.length -> (pre ++ rest).length < 1099511627776 ->
 wU m n (pre ++ rest, pre' ++ rest', (pre.length : Int)) = some [.b (gF 4 rest rest')] := by
 intro rest
 induction rest with
 | nil =>
  intro rest' pre pre' n hn hp hr hl; obtain ⟨n, rfl⟩ := al n (by simp at hn; omega); obtain rfl : rest' = [] := List.eq_nil_of_length_eq_zero (by simpa using hr); rw [uy]; unfold zQ; dsimp only; simp [aw, gF]
 | cons x rest ih =>
  intro rest' pre pre' n hn hp hr hl; obtain ⟨n, rfl⟩ := al n (by simp at hn; omega); obtain ⟨y, rest', rfl⟩ : ∃ y l, rest' = y :: l := by cases rest' with | nil => simp at hr | cons y l => exact ⟨y, l, rfl⟩
  simp only [List.length_cons, List.length_append] at hn hl hr; have := ih rest' (pre ++ [x]) (pre' ++ [y]) n (by omega) (by simp [hp]) (by omega) (by simp; omega); rw [uy]; unfold zQ; dsimp only; simp only [gF, rG, qa, Nat.reduceAdd]; simp (disch := omega) only [TRa, TRi, aa, LNl, LNi, Int.cast_ofNat_Int, ao, qL _ _ _ _ hp]; simp only [LNl, LNi, Int.cast_ofNat_Int] at this ⊢
  (try simp only [bne, cond_not])
  cases (x.i 0 == y.i 0) <;> cases (x.i 1 == y.i 1) <;> cases (x.i 2 == y.i 2) <;> cases (x.i 3 == y.i 3)
  all_goals (first | exact this | rfl)
def f14 : List Dat × List Dat -> Bool × List Un := fun (a0, a1) => (decide (a0.length < 1099511627776), [.b (gF 4 a0 a1)])
theorem NC (a0 : List Dat) (a1 : List Dat) (hc : (decide (a0.length < 1099511627776)) = true) : ∃ m, t14 m (a0, a1) = some ([.b (gF 4 a0 a1)]) := by
 have hs := of_decide_eq_true hc; refine ⟨a0.length + 1, ?_⟩; unfold t14; dsimp only
 by_cases h : a0.length = a1.length
 · rw [bN (by omega)]; exact MG _ a0 a1 [] [] _ (by omega) rfl h.symm (by simpa using hs)
 · rw [jO (by omega), qd _ _ _ h]
theorem Mt : ER 14 (mkE N14.en N14.ex f14) := ar ag T84.right (fun m => [G3 (wU m m)]) (t := t14) (by kernel_rfl) (fun m => (aH (RZ m m) aE)) (fun m a => by kernel_rfl) fun (a0, a1) hc => NC a0 a1 hc
def T14 : Tb Tryz.prog LQ TE := T84.add 14 _ Mt
def N27 : aF := ⟨T14.tab, 27, ⟨[.ints .i64, .ints .i64], [], 0⟩, ⟨[.bool], [], 0⟩, []⟩
abbrev Ey : Type := List Int × List Int × Int
def yP (m : Nat) (k : Ey -> Option (List Un)) : Ey -> Option (List Un) := fun (a0, a1, a2) =>
 bif (decide (a2 < (a0.length : Int))) then
 chk (inb a2 a0.length) <|
 chk (decide (a2.toNat < a0.length)) <|
 chk (inb a2 a1.length) <|
 chk (decide (a2.toNat < a1.length)) <|
 bif ((a0.getD a2.toNat 0) != (a1.getD a2.toNat 0)) then
 some ([.b false])
 else
 k (a0, a1, (w64 (a2 + 1)))
 else
 some ([.b true])
def wL (m : Nat) : Nat -> Ey -> Option (List Un) := bj (yP m)
theorem vO (m : Nat) (n : Nat) : wL m (n + 1) = yP m (wL m n) := rfl
def G1 (F : Ey -> Option (List Un)) : aR := ⟨[.lp [0, 1, 0, 1, 1], .blk 0, .code [1, 1, 1]], ⟨frm 26 [(0, .ints .i64), (1, .ints .i64), (5, .int .i64)], [], 0⟩, onU F⟩
theorem QA (m : Nat) : ∀ n, HO N27 (G1 (wL m n)) := au ag T14.right (fun k => [G1 k]) (fun k h => (aH h aE)) fun k a => by kernel_rfl
def t27 (m : Nat) : List Int × List Int -> Option (List Un) := fun (a0, a1) =>
 bif ((a0.length : Int) != (a1.length : Int)) then
 some ([.b false])
 else
 wL m m (a0, a1, 0)
theorem Kz (m : Nat) : ∀ (rest rest' pre pre' : List Int) (n : Nat), rest.length < n -> pre'.length = pre.length -> rest'.length = rest.length -> (pre ++ rest).length < 1099511627776 ->
 wL m n (pre ++ rest, pre' ++ rest', (pre.length : Int)) = some [.b (iP rest rest')] := by
 intro rest
 induction rest with
 | nil =>
  intro rest' pre pre' n hn hp hr hl; obtain ⟨n, rfl⟩ := al n (by simp at hn; omega); obtain rfl : rest' = [] := List.eq_nil_of_length_eq_zero (by simpa using hr); rw [vO]; unfold yP; dsimp only; simp [aw, iP]
 | cons x rest ih =>
  intro rest' pre pre' n hn hp hr hl; obtain ⟨n, rfl⟩ := al n (by simp at hn; omega); obtain ⟨y, rest', rfl⟩ : ∃ y l, rest' = y :: l := by cases rest' with | nil => simp at hr | cons y l => exact ⟨y, l, rfl⟩
  simp only [List.length_cons, List.length_append] at hn hl hr; have := ih rest' (pre ++ [x]) (pre' ++ [y]) n (by omega) (by simp [hp]) (by omega) (by simp; omega); rw [vO]; unfold yP; dsimp only; simp only [iP, rG, qa, Nat.reduceAdd]; simp (disch := omega) only [TRa, TRi, aa, LNl, LNi, Int.cast_ofNat_Int, cr, wW _ _ _ _ _ hp]; simp only [LNl, LNi, Int.cast_ofNat_Int] at this ⊢
  (try simp only [bne, cond_not])
  cases (x == y)
  all_goals (first | exact this | rfl)
def f27 : List Int × List Int -> Bool × List Un := fun (a0, a1) => (decide (a0.length < 1099511627776), [.b (iP a0 a1)])
theorem NI (a0 : List Int) (a1 : List Int) (hc : (decide (a0.length < 1099511627776)) = true) : ∃ m, t27 m (a0, a1) = some ([.b (iP a0 a1)]) := by
 have hs := of_decide_eq_true hc; refine ⟨a0.length + 1, ?_⟩; unfold t27; dsimp only
 by_cases h : a0.length = a1.length
 · rw [bN (by omega)]; exact Kz _ a0 a1 [] [] _ (by omega) rfl h.symm (by simpa using hs)
 · rw [jO (by omega), ye _ _ h]
theorem Jx : ER 27 (mkE N27.en N27.ex f27) := ar ag T14.right (fun m => [G1 (wL m m)]) (t := t27) (by kernel_rfl) (fun m => (aH (QA m m) aE)) (fun m a => by kernel_rfl) fun (a0, a1) hc => NI a0 a1 hc
def T27 : Tb Tryz.prog LQ TE := T14.add 27 _ Jx
end
end Go.Proofs.YtdbkoeefnodejaaGreat
namespace Go.Proofs.YtdbkoeefnodejaaGreat
noncomputable section
open Go Go.Proofs.YtdbkoeefnodejaaGreat.Ev
set_option maxRecDepth 20000
def N63 : aF := ⟨T27.tab, 63, ⟨[.bool], [], 0⟩, ⟨[.int .i64], [], 0⟩, []⟩
def t63 (m : Nat) : Bool -> Option (List Un) := fun a0 =>
 bif a0 then
 some ([.i 1])
 else
 some ([.i 0])
def f63 : Bool -> Bool × List Un := fun a0 => (true, [.i (bI a0)])
theorem PD (a0 : Bool) : ∃ m, t63 m a0 = some ([.i (bI a0)]) := by
 refine ⟨0, ?_⟩; unfold t63; cases a0 <;> rfl
theorem Mc : ER 63 (mkE N63.en N63.ex f63) := ar ag T27.right (fun m => []) (t := t63) (by kernel_rfl) (fun m => aE) (fun m a => by kernel_rfl) fun a0 hc => PD a0
def T63 : Tb Tryz.prog LQ TE := T27.add 63 _ Mc
def N64 : aF := ⟨T63.tab, 64, ⟨[.agg [.int .i64, .int .i64]], [], 0⟩, ⟨[.int .i64], [], 0⟩, []⟩
def t64 (m : Nat) : Int × Int -> Option (List Un) := fun (a0, a1) =>
 some ([.i a0])
def f64 : Int × Int -> Bool × List Un := fun (a0, a1) => (true, [.i (a0)])
theorem PJ (a0 : Int) (a1 : Int) : ∃ m, t64 m (a0, a1) = some ([.i (a0)]) := by
 exact ⟨0, rfl⟩
theorem Jw : ER 64 (mkE N64.en N64.ex f64) := ar ag T63.right (fun m => []) (t := t64) (by kernel_rfl) (fun m => aE) (fun m a => by kernel_rfl) fun (a0, a1) hc => PJ a0 a1
def T64 : Tb Tryz.prog LQ TE := T63.add 64 _ Jw
def N65 : aF := ⟨T64.tab, 65, ⟨[.agg [.int .i64, .int .i64]], [], 0⟩, ⟨[.int .i64], [], 0⟩, []⟩
def t65 (m : Nat) : Int × Int -> Option (List Un) := fun (a0, a1) =>
 some ([.i a1])
def f65 : Int × Int -> Bool × List Un := fun (a0, a1) => (true, [.i (a1)])
theorem OA (a0 : Int) (a1 : Int) : ∃ m, t65 m (a0, a1) = some ([.i (a1)]) := by
 exact ⟨0, rfl⟩
theorem KY : ER 65 (mkE N65.en N65.ex f65) := ar ag T64.right (fun m => []) (t := t65) (by kernel_rfl) (fun m => aE) (fun m a => by kernel_rfl) fun (a0, a1) hc => OA a0 a1
def T65 : Tb Tryz.prog LQ TE := T64.add 65 _ KY
def tR (d : Dat) : List Int := [d.i 0, d.i 1, d.i 2, d.i 3, bI (d.b 4)]
def rf (d : Dat) : List Int := [w64 (d.i 3 - d.i 4), d.i 5, d.i 6]
def cA (n : ai) (aI notes : List Dat) : List Int := [n.period, n.mode, n.bd, n.out, n.fee, n.aK, n.aT, bI n.jl, n.rin, n.bk] ++ aI.flatMap tR ++ notes.flatMap rf
def N26 : aF := ⟨T65.tab, 26, ⟨[.np 0 0 0], bw 0, 9⟩, ⟨[.buf 9 1], bw 0 ++ [.ints .i64], 9⟩, []⟩
abbrev EL : Type := Int × Int × an × aq × ai × List Dat × List Dat × List Dat × List Dat × List Dat × List Dat × List Dat × List Int
abbrev Er : Type := Int × Int × Int × an × aq × ai × List Dat × List Dat × List Dat × List Dat × List Dat × List Dat × List Dat × List Int × List Dat
def AG (m : Nat) (k : EL -> Option (List Un)) : EL -> Option (List Un) := fun (a0, a1, a2, a3, a4, a5, a6, a7, a8, a9, a10, a11, a12) =>
 bif decide (a1 < a0) then
 chk (inb a1 a11.length) <|
 chk (decide (a1.toNat < a11.length)) <|
 lt (af a11 a1.toNat : Dat) fun d4 =>
 chk (fits (a12.length + 3) 8) <|
 k (a0, (w64 (a1 + 1)), a2, a3, a4, a5, a6, a7, a8, a9, a10, a11, (a12 ++ ([(w64 ((d4.i 3) - (d4.i 4))), (d4.i 5), (d4.i 6)])))
 else
 some (Uns.enc (a2 : an) ++ Uns.enc (a3 : aq) ++ Uns.enc (a4 : ai) ++ [.d a5, .d a6, .d a7, .d a8, .d a9, .d a10, .d a11, .l a12])
def xA (m : Nat) : Nat -> EL -> Option (List Un) := bj (AG m)
theorem vC (m : Nat) (n : Nat) : xA m (n + 1) = AG m (xA m n) := rfl
def Jm (F : EL -> Option (List Un)) : aR := ⟨[.lp [0, 1, 0, 1, 1, 1], .blk 2, .code [1, 1, 1, 1]], ⟨frm 102 [(3, .buf 9 1), (84, .buf 8 7), (85, .int .i64), (86, .int .i64)], bw 0 ++ [.ints .i64], 9⟩, onU F⟩
def zR (m : Nat) (k : Er -> Option (List Un)) : Er -> Option (List Un) := fun (a0, a1, a2, a3, a4, a5, a6, a7, a8, a9, a10, a11, a12, a13, a14) =>
 bif decide (a2 < a1) then
 chk (inb a2 a14.length) <|
 chk (decide (a2.toNat < a14.length)) <|
 lt (af a14 a2.toNat : Dat) fun d2 =>
 chk (fits (a13.length + 5) 8) <|
 k (a0, a1, (w64 (a2 + 1)), a3, a4, a5, a6, a7, a8, a9, a10, a11, a12, (a13 ++ ([(d2.i 0), (d2.i 1), (d2.i 2), (d2.i 3), (bI (d2.b 4))])), a14)
 else
 chk (decide (0 <= a0)) <|
 xA m m ((a12.length : Int), 0, a3, a4, a5, a6, a7, a8, a9, a10, a11, a12, a13)
def yi (m : Nat) : Nat -> Er -> Option (List Un) := bj (zR m)
theorem vk (m : Nat) (n : Nat) : yi m (n + 1) = zR m (yi m n) := rfl
def Ho (F : Er -> Option (List Un)) : aR := ⟨[.lp [0, 1, 0, 1, 1], .blk 0, .code [1, 1, 1]], ⟨frm 102 [(0, .np 0 0 0), (3, .buf 9 1), (58, .buf 10 5), (59, .int .i64), (60, .int .i64)], bw 0 ++ [.ints .i64, .ae (sB 4)], 9⟩, onU F⟩
theorem QB (m : Nat) : ∀ n, HO N26 (Jm (xA m n)) := au ag T65.right (fun k => [Jm k]) (fun k h => (aH h aE)) fun k a => by kernel_rfl
theorem RN (m : Nat) : ∀ n, HO N26 (Ho (yi m n)) := au ag T65.right (fun k => [Ho k, Jm (xA m m)]) (fun k h => (aH h (aH (QB m m) aE))) fun k a => by kernel_rfl
def t26 (m : Nat) : Int × an × aq × ai × List Dat × List Dat × List Dat × List Dat × List Dat × List Dat × List Dat -> Option (List Un) := fun (a0, a1, a2, a3, a4, a5, a6, a7, a8, a9, a10) =>
 chk (decide (0 <= a0)) <|
 chk (decide (0 <= a0)) <|
 chk (decide (0 <= a0)) <|
 chk (decide (0 <= a0)) <|
 chk (decide (0 <= a0)) <|
 chk (decide (0 <= a0)) <|
 chk (decide (0 <= a0)) <|
 chk (decide (0 <= a0)) <|
 chk (decide (0 <= a0)) <|
 chk (decide (0 <= a0)) <|
 chk (decide (0 <= a0)) <|
 chk (decide (0 < ([.r [.r a9]] : List Dat).length) && decide (((af ([.r [.r a9]] : List Dat) 0).d 0).length < 1000000)) <|
 lt (((af ([.r [.r a9]] : List Dat) 0).d 0) : List Dat) fun l1 =>
 yi m m (a0, (l1.length : Int), 0, a1, a2, a3, a4, a5, a6, a7, a8, a9, a10, ([a3.period, a3.mode, a3.bd, a3.out, a3.fee, a3.aK, a3.aT, (bI a3.jl), a3.rin, a3.bk] : List Int), l1)
section
variable (m : Nat) (xa : an) (xb : aq) (xn : ai) (x1 x2 x3 x4 x5 x6 : List Dat)
theorem Nw : ∀ (rest pre : List Dat) (n : Nat) (acc : List Int), rest.length < n -> (pre ++ rest).length < 1000000 -> acc.length <= 6000000 + 3 * pre.length ->
 xA m n (((pre ++ rest).length : Int), (pre.length : Int), xa, xb, xn, x1, x2, x3, x4, x5, x6, pre ++ rest, acc) = some (Uns.enc xa ++ Uns.enc xb ++ Uns.enc xn ++ [.d x1, .d x2, .d x3, .d x4, .d x5, .d x6, .d (pre ++ rest), .l (acc ++ rest.flatMap rf)]) := by
 intro rest
 induction rest with
 | nil =>
  intro pre n acc hn hl ha; obtain ⟨n, rfl⟩ := al n (by simp at hn; omega); rw [vC]; unfold AG; dsimp only; simp [aw]
 | cons x rest ih =>
  intro pre n acc hn hl ha; obtain ⟨n, rfl⟩ := al n (by simp at hn; omega); simp only [List.length_cons, List.length_append] at hn hl; rw [vC]; unfold AG; dsimp only; have := ih (pre ++ [x]) n (acc ++ rf x) (by omega) (by simp; omega) (by simp [rf]; omega); simp only [List.flatMap_cons, rf] at this ⊢; simp (disch := omega) only [TRa, TRi, aa, LNl, LNi, Int.cast_ofNat_Int, ao]; simp only [LNl, LNi, Int.cast_ofNat_Int] at this ⊢; exact this
theorem Ob (p0 : Int) (hp : 0 <= p0) (notes : List Dat) (hnl : notes.length < 1000000) (hm : notes.length < m) : ∀ (rest pre : List Dat) (n : Nat) (acc : List Int), rest.length < n -> (pre ++ rest).length < 1000000 -> acc.length <= 10 + 5 * pre.length ->
 yi m n (p0, ((pre ++ rest).length : Int), (pre.length : Int), xa, xb, xn, x1, x2, x3, x4, x5, x6, notes, acc, pre ++ rest) = some (Uns.enc xa ++ Uns.enc xb ++ Uns.enc xn ++ [.d x1, .d x2, .d x3, .d x4, .d x5, .d x6, .d notes, .l (acc ++ rest.flatMap tR ++ notes.flatMap rf)]) := by
 intro rest
 induction rest with
 | nil =>
  intro pre n acc hn hl ha; obtain ⟨n, rfl⟩ := al n (by simp at hn; omega); simp only [List.append_nil] at hl; rw [vk]; unfold zR; dsimp only; simp only [List.append_nil, List.flatMap_nil]; rw [aw (by omega), aG hp]; exact Nw m xa xb xn x1 x2 x3 x4 x5 x6 notes [] m acc hm (by simpa using hnl) (by simp; omega)
 | cons x rest ih =>
  intro pre n acc hn hl ha; obtain ⟨n, rfl⟩ := al n (by simp at hn; omega); simp only [List.length_cons, List.length_append] at hn hl; rw [vk]; unfold zR; dsimp only; have := ih (pre ++ [x]) n (acc ++ tR x) (by omega) (by simp; omega) (by simp [tR]; omega); simp only [List.flatMap_cons, tR] at this ⊢; simp (disch := omega) only [TRa, TRi, aa, LNl, LNi, Int.cast_ofNat_Int, ao]; simp only [LNl, LNi, Int.cast_ofNat_Int] at this ⊢; exact this
end
def f26 : Int × an × aq × ai × List Dat × List Dat × List Dat × List Dat × List Dat × List Dat × List Dat -> Bool × List Un := fun (a0, a1, a2, a3, a4, a5, a6, a7, a8, a9, a10) => (decide (0 <= a0) && decide (a9.length < 1000000 /\ a10.length < 1000000), Uns.enc ((a1) : an) ++ Uns.enc ((a2) : aq) ++ Uns.enc ((a3) : ai) ++ [.d (a4), .d (a5), .d (a6), .d (a7), .d (a8), .d (a9), .d (a10), .l (cA a3 a9 a10)])
theorem Np (a0 : Int) (a1 : an) (a2 : aq) (a3 : ai) (a4 : List Dat) (a5 : List Dat) (a6 : List Dat) (a7 : List Dat) (a8 : List Dat) (a9 : List Dat) (a10 : List Dat) (hc : (decide (0 <= a0) && decide (a9.length < 1000000 /\ a10.length < 1000000)) = true) : ∃ m, t26 m (a0, a1, a2, a3, a4, a5, a6, a7, a8, a9, a10) = some (Uns.enc ((a1) : an) ++ Uns.enc ((a2) : aq) ++ Uns.enc ((a3) : ai) ++ [.d (a4), .d (a5), .d (a6), .d (a7), .d (a8), .d (a9), .d (a10), .l (cA a3 a9 a10)]) := by
 simp only [Bool.and_eq_true, decide_eq_true_eq] at hc; obtain ⟨h0, h1, h2⟩ := hc; refine ⟨a9.length + a10.length + 1, ?_⟩; unfold t26; dsimp only [lt, QX, List.length_cons, List.length_nil]; simp only [aG h0]; refine (bp ?_ (Ob _ a1 a2 a3 a4 a5 a6 a7 a8 a9 a0 h0 a10 h2 (by omega) a9 [] _ _ (by omega) (by simpa using h1) (by simp))).trans ?_
 · rw [Bool.and_eq_true]; exact ⟨@decide_eq_true _ _ (by omega), @decide_eq_true _ _ h1⟩
 · rfl
theorem Kv : ER 26 (mkE N26.en N26.ex f26) := ar ag T65.right (fun m => [Ho (yi m m)]) (t := t26) (by kernel_rfl) (fun m => (aH (RN m m) aE)) (fun m a => by kernel_rfl) fun (a0, a1, a2, a3, a4, a5, a6, a7, a8, a9, a10) hc => Np a0 a1 a2 a3 a4 a5 a6 a7 a8 a9 a10 hc
def T26 : Tb Tryz.prog LQ TE := T65.add 26 _ Kv
end
end Go.Proofs.YtdbkoeefnodejaaGreat
namespace Go.Proofs.YtdbkoeefnodejaaGreat
noncomputable section
open Go Go.Proofs.YtdbkoeefnodejaaGreat.Ev
set_option maxRecDepth 20000
def fV (p q r s l : Int) : Bool := decide (0 <= p) && (decide (p <= 1099511627776) && (decide (0 <= q) && (decide (q <= 1099511627776) && (decide (0 <= r) && (decide (r <= 1099511627776) && (decide (0 <= s) && (decide (s <= 1099511627776) && (decide (0 <= l) && decide (l <= 12)))))))))
theorem H5 {α : Type} {x : Int} {a b : α} : (bif decide (x < 0) then a else b) = bif decide (0 <= x) then b else a := by
 by_cases h : x < 0
 · rw [decide_eq_true h, decide_eq_false (show ¬ 0 <= x by omega)]; rfl
 · rw [decide_eq_false h, decide_eq_true (show 0 <= x by omega)]; rfl
theorem JA {α : Type} {x y : Int} {a b : α} : (bif decide (x > y) then a else b) = bif decide (x <= y) then b else a := by
 by_cases h : x > y
 · rw [decide_eq_true h, decide_eq_false (show ¬ x <= y by omega)]; rfl
 · rw [decide_eq_false h, decide_eq_true (show x <= y by omega)]; rfl
theorem LC {c y : Bool} : (bif c then some [Un.b y] else some [Un.b false]) = some [.b (c && y)] := by cases c <;> rfl
def Qi : aF := ⟨T26.tab, 129, ⟨[.agg [.int .i64, .int .i64, .int .i64, .int .i64, .int .i64, .int .i64, .bool]], [], 0⟩, ⟨[.bool], [], 0⟩, [[0, 1, 0, 1]]⟩
def t129 (m : Nat) : Int × Int × Int × Int × Int × Int × Bool -> Option (List Un) := fun (a0, a1, a2, a3, a4, a5, a6) =>
 lt ((([a1, a2, a3, a4]).getD 0 0) : Int) fun x1 =>
 bif decide (x1 < 0) then
 some ([.b false])
 else
 bif (decide (x1 > 1099511627776)) then
 some ([.b false])
 else
 lt ((([a1, a2, a3, a4]).getD 1 0) : Int) fun x3 =>
 bif decide (x3 < 0) then
 some ([.b false])
 else
 bif (decide (x3 > 1099511627776)) then
 some ([.b false])
 else
 lt ((([a1, a2, a3, a4]).getD 2 0) : Int) fun x5 =>
 bif decide (x5 < 0) then
 some ([.b false])
 else
 bif (decide (x5 > 1099511627776)) then
 some ([.b false])
 else
 lt ((([a1, a2, a3, a4]).getD 3 0) : Int) fun x7 =>
 bif decide (x7 < 0) then
 some ([.b false])
 else
 bif (decide (x7 > 1099511627776)) then
 some ([.b false])
 else
 bif decide (a5 >= 0) then
 some ([.b (decide (a5 <= 12))])
 else
 some ([.b false])
def f129 : Int × Int × Int × Int × Int × Int × Bool -> Bool × List Un := fun (a0, a1, a2, a3, a4, a5, a6) => (true, [.b (fV a1 a2 a3 a4 a5)])
theorem Kf (a0 : Int) (a1 : Int) (a2 : Int) (a3 : Int) (a4 : Int) (a5 : Int) (a6 : Bool) : ∃ m, t129 m (a0, a1, a2, a3, a4, a5, a6) = some ([.b (fV a1 a2 a3 a4 a5)]) := by
 refine ⟨0, ?_⟩; unfold t129 fV; simp only [lt_eq, List.getD_cons_zero, List.getD_cons_succ, H5, JA]; simp only [ge_iff_le, LC]
theorem HK : ER 129 (mkE Qi.en Qi.ex f129) := ar ag T26.right (fun m => []) (t := t129) (by kernel_rfl) (fun m => aE) (fun m a => by kernel_rfl) fun (a0, a1, a2, a3, a4, a5, a6) hc => Kf a0 a1 a2 a3 a4 a5 a6
def MH : Tb Tryz.prog LQ TE := T26.add 129 _ HK
def ir : Int -> List Dat -> Bool
 | _, [] => true
 | last, d :: l => if d.i 0 <= last then false else if fV (d.i 1) (d.i 2) (d.i 3) (d.i 4) (d.i 5) then ir (d.i 0) l else false
def lQ (l : List Dat) : Bool := decide (l.length <= 64) && ir 0 l
def N93 : aF := ⟨MH.tab, 93, ⟨[.ae (sB 6)], [], 0⟩, ⟨[.bool], [], 0⟩, []⟩
abbrev Fv : Type := Int × List Dat × Int × Int
def zj (m : Nat) (k : Fv -> Option (List Un)) : Fv -> Option (List Un) := fun (a0, a1, a2, a3) =>
 bif decide (a3 < a2) then
 chk (inb a3 a1.length) <|
 chk (decide (a3.toNat < a1.length)) <|
 lt (af a1 a3.toNat : Dat) fun d2 =>
 bif decide ((d2.i 0) <= a0) then
 some ([.b false])
 else
 bif !(fV (d2.i 1) (d2.i 2) (d2.i 3) (d2.i 4) (d2.i 5)) then
 some ([.b false])
 else
 k ((d2.i 0), a1, a2, (w64 (a3 + 1)))
 else
 some ([.b true])
def xh (m : Nat) : Nat -> Fv -> Option (List Un) := bj (zj m)
theorem uJ (m : Nat) (n : Nat) : xh m (n + 1) = zj m (xh m n) := rfl
def Hr (F : Fv -> Option (List Un)) : aR := ⟨[.lp [0, 1, 0, 1, 1, 1], .blk 0, .code [1, 1, 1, 1]], ⟨frm 27 [(3, .int .i64), (9, .ae (sB 6)), (10, .int .i64), (11, .int .i64)], [], 0⟩, onU F⟩
theorem Rg (m : Nat) : ∀ n, HO N93 (Hr (xh m n)) := au ag MH.right (fun k => [Hr k]) (fun k h => (aH h aE)) fun k a => by kernel_rfl
def t93 (m : Nat) : List Dat -> Option (List Un) := fun a0 =>
 bif (decide ((a0.length : Int) > 64)) then
 some ([.b false])
 else
 xh m m (0, a0, (a0.length : Int), 0)
theorem Rc (m : Nat) : ∀ (rest pre : List Dat) (n : Nat) (last : Int), rest.length < n -> (pre ++ rest).length <= 64 ->
 xh m n (last, pre ++ rest, ((pre ++ rest).length : Int), (pre.length : Int)) = some [.b (ir last rest)] := by
 intro rest
 induction rest with
 | nil =>
  intro pre n last hn hl; obtain ⟨n, rfl⟩ := al n (by simp at hn; omega); rw [uJ]; unfold zj; dsimp only; simp [aw, ir]
 | cons x rest ih =>
  intro pre n last hn hl; obtain ⟨n, rfl⟩ := al n (by simp at hn; omega); simp only [List.length_cons, List.length_append] at hn hl; have := ih (pre ++ [x]) n (x.i 0) (by omega) (by simp; omega); rw [uJ]; unfold zj; dsimp only; simp only [LNl, LNi, Int.cast_ofNat_Int] at this ⊢; unfold ir
  by_cases h1 : x.i 0 <= last
  · simp (disch := omega) only [TRa, TRi, aa, LNl, LNi, Int.cast_ofNat_Int, ao]; rw [if_pos h1]
  · rw [if_neg h1]
    by_cases h2 : fV (x.i 1) (x.i 2) (x.i 3) (x.i 4) (x.i 5) = true
    · rw [if_pos h2]; simp (disch := omega) only [TRa, TRi, aa, LNl, LNi, Int.cast_ofNat_Int, ao, h2]; exact this
    · rw [if_neg h2]; have h2 : fV (x.i 1) (x.i 2) (x.i 3) (x.i 4) (x.i 5) = false := by simpa using h2
      simp (disch := omega) only [TRa, TRi, aa, LNl, LNi, Int.cast_ofNat_Int, ao, h2]
def f93 : List Dat -> Bool × List Un := fun a0 => (true, [.b (lQ a0)])
theorem PT (a0 : List Dat) : ∃ m, t93 m a0 = some ([.b (lQ a0)]) := by
 unfold lQ
 by_cases h : a0.length <= 64
 · refine ⟨a0.length + 1, ?_⟩; have := Rc (a0.length + 1) a0 [] (a0.length + 1) 0 (by omega) (by simpa using h); unfold t93; rw [aw (by omega), decide_eq_true h, Bool.true_and]; exact this
 · refine ⟨0, ?_⟩; unfold t93; rw [ba (by omega), decide_eq_false h]; rfl
theorem KS : ER 93 (mkE N93.en N93.ex f93) := ar ag MH.right (fun m => [Hr (xh m m)]) (t := t93) (by kernel_rfl) (fun m => (aH (Rg m m) aE)) (fun m a => by kernel_rfl) fun a0 hc => PT a0
def T93 : Tb Tryz.prog LQ TE := MH.add 93 _ KS
def qp (bal lost : Int) (jl : Bool) (pr pp it rc lt : Int) (df : Bool) : Bool :=
 bif jl then (pr == 0) && ((pp == 0) && ((it == 0) && ((lt == 0) && (!df && decide (rc <= lost)))))
 else bif decide (w64 (w64 (bal - pr) - pp) < 0) then false
 else bif df then (bif decide (rc <= w64 (lost + w64 (w64 (bal - pr) - pp))) then true else rc == 0) else rc == 0
theorem Gc {c x y : Bool} : (bif c then some [Un.b x] else some [Un.b y]) = some [.b (bif c then x else y)] := by cases c <;> rfl
def N95 : aF := ⟨T93.tab, 95, ⟨[.agg [.int .i64, .int .i64, .int .i64, .int .i64, .bool], .agg [.int .i64, .int .i64, .int .i64, .int .i64, .int .i64, .int .i64, .bool]], [], 0⟩, ⟨[.bool], [], 0⟩, []⟩
def t95 (m : Nat) : Int × Int × Int × Int × Bool × Int × Int × Int × Int × Int × Int × Bool -> Option (List Un) := fun (a0, a1, a2, a3, a4, a5, a6, a7, a8, a9, a10, a11) =>
 bif a4 then
 bif a6 == 0 then
 bif a7 == 0 then
 bif a8 == 0 then
 bif a10 == 0 then
 bif !a11 then
 some ([.b (decide (a9 <= a2))])
 else
 some ([.b false])
 else
 some ([.b false])
 else
 some ([.b false])
 else
 some ([.b false])
 else
 some ([.b false])
 else
 lt ((w64 ((w64 (a1 - a6)) - a7)) : Int) fun x1 =>
 bif decide (x1 < 0) then
 some ([.b false])
 else
 bif a11 then
 bif (decide (a9 <= (w64 (a2 + x1)))) then
 some ([.b true])
 else
 some ([.b (a9 == 0)])
 else
 some ([.b (a9 == 0)])
def f95 : Int × Int × Int × Int × Bool × Int × Int × Int × Int × Int × Int × Bool -> Bool × List Un := fun (a0, a1, a2, a3, a4, a5, a6, a7, a8, a9, a10, a11) => (true, [.b (qp a1 a2 a4 a6 a7 a8 a9 a10 a11)])
theorem Ou (a0 : Int) (a1 : Int) (a2 : Int) (a3 : Int) (a4 : Bool) (a5 : Int) (a6 : Int) (a7 : Int) (a8 : Int) (a9 : Int) (a10 : Int) (a11 : Bool) : ∃ m, t95 m (a0, a1, a2, a3, a4, a5, a6, a7, a8, a9, a10, a11) = some ([.b (qp a1 a2 a4 a6 a7 a8 a9 a10 a11)]) := by
 refine ⟨0, ?_⟩; unfold t95 qp; simp only [lt_eq, Gc]; cases a4 <;> simp only [cond_true, cond_false]
 cases (a6 == 0) <;> cases (a7 == 0) <;> cases (a8 == 0) <;> cases (a10 == 0) <;> cases a11 <;> rfl
theorem Jq : ER 95 (mkE N95.en N95.ex f95) := ar ag T93.right (fun m => []) (t := t95) (by kernel_rfl) (fun m => aE) (fun m a => by kernel_rfl) fun (a0, a1, a2, a3, a4, a5, a6, a7, a8, a9, a10, a11) hc => Ou a0 a1 a2 a3 a4 a5 a6 a7 a8 a9 a10 a11
def T95 : Tb Tryz.prog LQ TE := T93.add 95 _ Jq
def tK (bal pr pp : Int) (df : Bool) : Int := bif df then 0 else w64 (bal - w64 (pr + pp))
def fj (bal pr pp : Int) (df : Bool) : Int := bif df then w64 (bal - w64 (pr + pp)) else 0
def nH (bal lost pr pp rc : Int) (df : Bool) : Int := bif df then w64 (w64 (lost + w64 (bal - w64 (pr + pp))) - rc) else w64 (lost - rc)
def nI (bal : Int) (jl : Bool) (pr pp lt : Int) (df : Bool) : Int := bif df then 0 else bif jl then 0 else bif w64 (bal - w64 (pr + pp)) == 0 then 0 else lt
def N96 : aF := ⟨T95.tab, 96, ⟨[.agg [.int .i64, .int .i64, .int .i64, .int .i64, .bool], .agg [.int .i64, .int .i64, .int .i64, .int .i64, .int .i64, .int .i64, .bool]], [], 0⟩, ⟨[.agg [.int .i64, .int .i64, .int .i64, .int .i64, .bool], .agg [.int .i64, .int .i64, .int .i64, .int .i64]], [], 0⟩, []⟩
def t96 (m : Nat) : Int × Int × Int × Int × Bool × Int × Int × Int × Int × Int × Int × Bool -> Option (List Un) := fun (a0, a1, a2, a3, a4, a5, a6, a7, a8, a9, a10, a11) =>
 lt ((w64 (a1 - (w64 (a6 + a7)))) : Int) fun x1 =>
 bif a11 then
 some ([.i a0, .i 0, .i (w64 ((w64 (a2 + x1)) - a9)), .i 0, .b true, .i (w64 (a6 + a7)), .i a8, .i x1, .i a9])
 else
 bif a4 then
 some ([.i a0, .i x1, .i (w64 (a2 - a9)), .i 0, .b a4, .i (w64 (a6 + a7)), .i a8, .i 0, .i a9])
 else
 bif x1 == 0 then
 some ([.i a0, .i x1, .i (w64 (a2 - a9)), .i 0, .b a4, .i (w64 (a6 + a7)), .i a8, .i 0, .i a9])
 else
 some ([.i a0, .i x1, .i (w64 (a2 - a9)), .i a10, .b a4, .i (w64 (a6 + a7)), .i a8, .i 0, .i a9])
def f96 : Int × Int × Int × Int × Bool × Int × Int × Int × Int × Int × Int × Bool -> Bool × List Un := fun (a0, a1, a2, a3, a4, a5, a6, a7, a8, a9, a10, a11) => (true, [.i (a0), .i (tK a1 a6 a7 a11), .i (nH a1 a2 a6 a7 a9 a11), .i (nI a1 a4 a6 a7 a10 a11), .b ((a11 || a4)), .i (w64 (a6 + a7)), .i (a8), .i (fj a1 a6 a7 a11), .i (a9)])
theorem OB (a0 : Int) (a1 : Int) (a2 : Int) (a3 : Int) (a4 : Bool) (a5 : Int) (a6 : Int) (a7 : Int) (a8 : Int) (a9 : Int) (a10 : Int) (a11 : Bool) : ∃ m, t96 m (a0, a1, a2, a3, a4, a5, a6, a7, a8, a9, a10, a11) = some ([.i (a0), .i (tK a1 a6 a7 a11), .i (nH a1 a2 a6 a7 a9 a11), .i (nI a1 a4 a6 a7 a10 a11), .b ((a11 || a4)), .i (w64 (a6 + a7)), .i (a8), .i (fj a1 a6 a7 a11), .i (a9)]) := by
 refine ⟨0, ?_⟩; unfold t96 tK nH nI fj; simp only [lt_eq]; cases a11 <;> cases a4 <;> simp only [cond_true, cond_false, Bool.or_true, Bool.or_false] <;> first | rfl | (cases (w64 (a1 - w64 (a6 + a7)) == 0) <;> rfl)
theorem Kw : ER 96 (mkE N96.en N96.ex f96) := ar ag T95.right (fun m => []) (t := t96) (by kernel_rfl) (fun m => aE) (fun m a => by kernel_rfl) fun (a0, a1, a2, a3, a4, a5, a6, a7, a8, a9, a10, a11) hc => OB a0 a1 a2 a3 a4 a5 a6 a7 a8 a9 a10 a11
def T96 : Tb Tryz.prog LQ TE := T95.add 96 _ Kw
def eO (id : Int) : Int -> List Dat -> Int
 | _, [] => -1
 | i, d :: l => if d.i 0 = id then i else eO id (i + 1) l
def OY : aF := ⟨T96.tab, 130, ⟨[.ae (sB 4), .fn 131 [] [.ptr 0 0 0]], [.cells [.int .i64]], 1⟩, ⟨[.int .i64], [.cells [.int .i64]], 1⟩, []⟩
abbrev AA : Type := List Dat × Int × Int × Int
def sE (m : Nat) (k : AA -> Option (List Un)) : AA -> Option (List Un) := fun (a0, a1, a2, a3) =>
 bif decide (a2 < a1) then
 chk (inb a2 a0.length) <|
 chk (decide (a2.toNat < a0.length)) <|
 bif ((af a0 a2.toNat).i 0) == a3 then
 some ([.i a2, .i a3])
 else
 k (a0, a1, (w64 (a2 + 1)), a3)
 else
 some ([.i (-1), .i a3])
def pV (m : Nat) : Nat -> AA -> Option (List Un) := bj (sE m)
theorem rC (m : Nat) (n : Nat) : pV m (n + 1) = sE m (pV m n) := rfl
def CU (F : AA -> Option (List Un)) : aR := ⟨[.lp [0, 1, 0, 1], .blk 0, .code [1, 1]], ⟨frm 19 [(0, .ae (sB 4)), (1, .fn 131 [] [.ptr 0 0 0]), (7, .int .i64), (8, .int .i64)], [.cells [.int .i64]], 1⟩, onU F⟩
theorem P3 (m : Nat) : ∀ n, HO OY (CU (pV m n)) := au ag T96.right (fun k => [CU k]) (fun k h => (aH h aE)) fun k a => by kernel_rfl
def t130 (m : Nat) : List Dat × Int -> Option (List Un) := fun (a0, a1) =>
 pV m m (a0, (a0.length : Int), 0, a1)
theorem R9 (m : Nat) (id : Int) : ∀ (rest pre : List Dat) (n : Nat), rest.length < n -> (pre ++ rest).length < 1000000 ->
 pV m n (pre ++ rest, ((pre ++ rest).length : Int), (pre.length : Int), id) = some [.i (eO id pre.length rest), .i id] := by
 intro rest
 induction rest with
 | nil =>
  intro pre n hn hl; obtain ⟨n, rfl⟩ := al n (by simp at hn; omega); rw [rC]; unfold sE; dsimp only; simp [aw, eO]
 | cons x rest ih =>
  intro pre n hn hl; obtain ⟨n, rfl⟩ := al n (by simp at hn; omega); simp only [List.length_cons, List.length_append] at hn hl; have := ih (pre ++ [x]) n (by omega) (by simp; omega); rw [rC]; unfold sE; dsimp only; simp only [LNl, LNi, Int.cast_ofNat_Int] at this ⊢; unfold eO
  by_cases h1 : x.i 0 = id
  · simp (disch := omega) only [TRa, TRi, aa, LNl, LNi, Int.cast_ofNat_Int, ao]; rw [if_pos h1]
  · rw [if_neg h1]; simp (disch := omega) only [TRa, TRi, aa, LNl, LNi, Int.cast_ofNat_Int, ao]; exact this
def f130 : List Dat × Int -> Bool × List Un := fun (a0, a1) => (decide (a0.length < 1000000), [.i (eO a1 0 a0), .i (a1)])
theorem Li (a0 : List Dat) (a1 : Int) (hc : (decide (a0.length < 1000000)) = true) : ∃ m, t130 m (a0, a1) = some ([.i (eO a1 0 a0), .i (a1)]) := by
 have h := of_decide_eq_true hc; exact ⟨a0.length + 1, R9 _ a1 a0 [] _ (by omega) (by simpa using h)⟩
theorem Iw : ER 130 (mkE OY.en OY.ex f130) := ar ag T96.right (fun m => [CU (pV m m)]) (t := t130) (by kernel_rfl) (fun m => (aH (P3 m m) aE)) (fun m a => by kernel_rfl) fun (a0, a1) hc => Li a0 a1 hc
def Kc : Tb Tryz.prog LQ TE := T96.add 130 _ Iw
def ke (x d : Dat) : Dat := .r [.n (x.i 0), .n (tK (x.i 1) (d.i 1) (d.i 2) (d.b 6)), .n (nH (x.i 1) (x.i 2) (d.i 1) (d.i 2) (d.i 4) (d.b 6)), .n (nI (x.i 1) (x.b 4) (d.i 1) (d.i 2) (d.i 5) (d.b 6)), .n (bI (d.b 6 || x.b 4))]
structure II where
 p : Int
 q : Int
 l : Int
 r : Int
 e : Int
 aI : List Dat
def wy (x d : Dat) : Bool := qp (x.i 1) (x.i 2) (x.b 4) (d.i 1) (d.i 2) (d.i 3) (d.i 4) (d.i 5) (d.b 6)
def eh : List Dat -> Int -> Int -> Int -> Int -> List Dat -> Option II
 | l, p, q, s, r, [] => some ⟨p, q, s, r, 0, l⟩
 | l, p, q, s, r, d :: t => if eO (d.i 0) 0 l < 0 then none else
  if wy (af l (eO (d.i 0) 0 l).toNat) d = true then
   eh (l.set (eO (d.i 0) 0 l).toNat (ke (af l (eO (d.i 0) 0 l).toNat) d)) (w64 (p + w64 (d.i 1 + d.i 2))) (w64 (q + d.i 3)) (w64 (s + fj ((af l (eO (d.i 0) 0 l).toNat).i 1) (d.i 1) (d.i 2) (d.b 6))) (w64 (r + d.i 4)) t
  else none
def aB (lines l : List Dat) : II := if lQ lines = true then (eh l 0 0 0 0 lines).getD ⟨0, 0, 0, 0, 3, l⟩ else ⟨0, 0, 0, 0, 3, l⟩
theorem yt (id : Int) : ∀ (l : List Dat) (i : Int), eO id i l = -1 \/ (i <= eO id i l /\ eO id i l < i + l.length)
 | [], i => .inl rfl
 | d :: l, i => by
  unfold eO
  by_cases h : d.i 0 = id
  · rw [if_pos h]; exact .inr ⟨by omega, by simp; omega⟩
  · rw [if_neg h]; rcases yt id l (i + 1) with h | ⟨h1, h2⟩
    · exact .inl h
    · refine .inr ⟨by omega, ?_⟩; simp only [List.length_cons]; omega
def N42 : aF := ⟨Kc.tab, 42, ⟨[.ptr 0 0 0, .ae (sB 6)], [.cells [.buf 1 5], .ae (sB 4)], 0⟩, ⟨[.agg [.int .i64, .int .i64, .int .i64, .int .i64], .int .i64], [.cells [.buf 2 5], .gone, .ae (sB 4)], 0⟩, []⟩
abbrev EC : Type := List Dat × Int × Int × Int × Int × Int × Int × Int × Int × Int × Int × List Dat × List Dat
def yJ (m : Nat) (k : EC -> Option (List Un)) : EC -> Option (List Un) := fun (a0, a1, a2, a3, a4, a5, a6, a7, a8, a9, a10, a11, a12) =>
 bif decide (a2 < a1) then
 chk (inb a2 a0.length) <|
 chk (decide (a2.toNat < a0.length)) <|
 lt (af a0 a2.toNat : Dat) fun d1 =>
 chk (decide (a12.length < 1000000)) <|
 bif (decide ((eO (d1.i 0) 0 a12) < 0)) then
 some ([.i 0, .i 0, .i 0, .i 0, .i 3, .d a11])
 else
 chk (inb (eO (d1.i 0) 0 a12) a12.length) <|
 chk (decide ((eO (d1.i 0) 0 a12).toNat < a12.length)) <|
 lt (af a12 ((eO (d1.i 0) 0 a12).toNat) : Dat) fun d3 =>
 bif !(qp (d3.i 1) (d3.i 2) (d3.b 4) (d1.i 1) (d1.i 2) (d1.i 3) (d1.i 4) (d1.i 5) (d1.b 6)) then
 some ([.i 0, .i 0, .i 0, .i 0, .i 3, .d a11])
 else
 chk (inb (eO (d1.i 0) 0 a12) a12.length) <|
 chk (decide ((eO (d1.i 0) 0 a12).toNat < a12.length)) <|
 lt (af a12 ((eO (d1.i 0) 0 a12).toNat) : Dat) fun d5 =>
 chk (inb (eO (d1.i 0) 0 a12) a12.length) <|
 chk (decide ((eO (d1.i 0) 0 a12).toNat < a12.length)) <|
 k (a0, a1, (w64 (a2 + 1)), a3, a4, a5, a6, (w64 (a7 + (w64 ((d1.i 1) + (d1.i 2))))), (w64 (a8 + (d1.i 3))), (w64 (a9 + (fj (d5.i 1) (d1.i 1) (d1.i 2) (d1.b 6)))), (w64 (a10 + (d1.i 4))), a11, (List.set a12 ((eO (d1.i 0) 0 a12).toNat) (.r [.n (d5.i 0), .n (tK (d5.i 1) (d1.i 1) (d1.i 2) (d1.b 6)), .n (nH (d5.i 1) (d5.i 2) (d1.i 1) (d1.i 2) (d1.i 4) (d1.b 6)), .n (nI (d5.i 1) (d5.b 4) (d1.i 1) (d1.i 2) (d1.i 5) (d1.b 6)), .n (bI ((d1.b 6) || (d5.b 4)))])))
 else
 some ([.i a7, .i a8, .i a9, .i a10, .i 0, .d a12])
def xf (m : Nat) : Nat -> EC -> Option (List Un) := bj (yJ m)
theorem tq (m : Nat) (n : Nat) : xf m (n + 1) = yJ m (xf m n) := rfl
def H4 (F : EC -> Option (List Un)) : aR := ⟨[.lp [0, 1, 0, 1, 1, 1, 1], .blk 0, .code [1, 1, 1, 1, 1]], ⟨frm 89 [(0, .ptr 0 0 0), (4, .ptr 2 0 0), (6, .ptr 3 0 0), (7, .ptr 4 0 0), (18, .ae (sB 6)), (19, .int .i64), (20, .int .i64)], [.cells [.buf 5 5], .gone, .cells [.int .i64, .int .i64, .int .i64, .int .i64], .cells [.buf 6 5], .cells [.int .i64, .int .i64, .int .i64, .int .i64], .ae (sB 4), .ae (sB 4)], 0⟩, onU F⟩
theorem Qo (m : Nat) : ∀ n, HO N42 (H4 (xf m n)) := au ag Kc.right (fun k => [H4 k]) (fun k h => (aH h aE)) fun k a => by kernel_rfl
def t42 (m : Nat) : List Dat × List Dat -> Option (List Un) := fun (a0, a1) =>
 bif !(lQ a0) then
 some ([.i 0, .i 0, .i 0, .i 0, .i 3, .d a1])
 else
 chk (decide (a1.length < 1000000)) <|
 xf m m (a0, (a0.length : Int), 0, 0, 0, 0, 0, 0, 0, 0, 0, a1, a1)
def GC (l0 : List Dat) (o : Option II) : List Un := match o with | some x => [.i x.p, .i x.q, .i x.l, .i x.r, .i x.e, .d x.aI] | none => [.i 0, .i 0, .i 0, .i 0, .i 3, .d l0]
theorem NJ (m : Nat) (l0 : List Dat) : ∀ (rest pre : List Dat) (n : Nat) (p q s r : Int) (l : List Dat), rest.length < n -> (pre ++ rest).length <= 64 -> l.length < 1000000 ->
 xf m n (pre ++ rest, ((pre ++ rest).length : Int), (pre.length : Int), 0, 0, 0, 0, p, q, s, r, l0, l) = some (GC l0 (eh l p q s r rest)) := by
 intro rest
 induction rest with
 | nil =>
  intro pre n p q s r l hn hl hll; obtain ⟨n, rfl⟩ := al n (by simp at hn; omega); rw [tq]; unfold yJ; dsimp only; simp [aw, eh, GC]
 | cons x rest ih =>
  intro pre n p q s r l hn hl hll; obtain ⟨n, rfl⟩ := al n (by simp at hn; omega); simp only [List.length_cons, List.length_append] at hn hl; rw [tq]; unfold yJ; dsimp only; simp (disch := omega) only [TRa, TRi, aa, LNl, LNi, Int.cast_ofNat_Int, ao]; unfold eh; rcases yt (x.i 0) l 0 with h1 | ⟨h1, h2⟩
  · rw [ba (by omega), if_pos (by omega)]; rfl
  · rw [aw (by omega), if_neg (by omega)]; simp (disch := omega) only [TRa, TRi, aa, LNl, LNi, Int.cast_ofNat_Int, ao]
    by_cases h3 : wy (af l (eO (x.i 0) 0 l).toNat) x = true
    · rw [if_pos h3]; have h4 := h3; unfold wy at h4; rw [h4]; have := ih (pre ++ [x]) n (w64 (p + w64 (x.i 1 + x.i 2))) (w64 (q + x.i 3)) (w64 (s + fj ((af l (eO (x.i 0) 0 l).toNat).i 1) (x.i 1) (x.i 2) (x.b 6))) (w64 (r + x.i 4)) (l.set (eO (x.i 0) 0 l).toNat (ke (af l (eO (x.i 0) 0 l).toNat) x)) (by omega) (by simp; omega) (by simpa using hll)
      try simp (disch := omega) only [TRa, TRi, aa, LNl, LNi, Int.cast_ofNat_Int, ao]
      simp only [LNl, LNi, Int.cast_ofNat_Int] at this ⊢; exact this
    · rw [if_neg h3]; have h4 := h3; unfold wy at h4; rw [show qp _ _ _ _ _ _ _ _ _ = false from Bool.eq_false_iff.2 h4]; rfl
def f42 : List Dat × List Dat -> Bool × List Un := fun (a0, a1) => (decide (a1.length < 1000000), [.i ((aB a0 a1).p), .i ((aB a0 a1).q), .i ((aB a0 a1).l), .i ((aB a0 a1).r), .i ((aB a0 a1).e), .d ((aB a0 a1).aI)])
theorem Pj (a0 : List Dat) (a1 : List Dat) (hc : (decide (a1.length < 1000000)) = true) : ∃ m, t42 m (a0, a1) = some ([.i ((aB a0 a1).p), .i ((aB a0 a1).q), .i ((aB a0 a1).l), .i ((aB a0 a1).r), .i ((aB a0 a1).e), .d ((aB a0 a1).aI)]) := by
 have h := of_decide_eq_true hc; unfold aB; cases ht : lQ a0 with
 | false =>
  refine ⟨0, ?_⟩; unfold t42; dsimp only; rw [ht]; rfl
 | true =>
  have hl : a0.length <= 64 := by
   simp only [lQ, Bool.and_eq_true, decide_eq_true_eq] at ht; exact ht.1
  refine ⟨a0.length + 1, ?_⟩; have := NJ (a0.length + 1) a1 a0 [] (a0.length + 1) 0 0 0 0 a1 (by omega) (by simpa using hl) h; unfold t42; dsimp only; rw [ht]; simp only [Bool.not_true, cond_false, if_true]; rw [aG h]; refine this.trans ?_
  cases eh a1 0 0 0 0 a0 <;> rfl
theorem Mz : ER 42 (mkE N42.en N42.ex f42) := ar ag Kc.right (fun m => [H4 (xf m m)]) (t := t42) (by kernel_rfl) (fun m => (aH (Qo m m) aE)) (fun m a => by kernel_rfl) fun (a0, a1) hc => Pj a0 a1 hc
def T42 : Tb Tryz.prog LQ TE := Kc.add 42 _ Mz
def jW (p q r s t u : List Int) (i : Int) (x : Dat) : Dat :=
 let y := within (bq p i) 0 (x.i 1 / 4)
 let z := if within (bq q i) 0 (2 * (x.i 1 - y)) > x.i 1 - y then 0 else within (bq q i) 0 (2 * (x.i 1 - y))
 let w := within (bq t i) 0 24
 .r [.n (x.i 0), .n y, .n z, .n (within (bq r i) 0 (1 + x.i 1 / 50)), .n (if w64 ((BitVec.ofInt 64 (bq u i) &&& BitVec.ofInt 64 7).toNat) = 7 then within (bq s i) 0 (x.i 1 - y - z) else 0), .n (if 0 < w - 12 then w - 12 else 0), .n (bI (decide (w64 ((BitVec.ofInt 64 (bq u i) &&& BitVec.ofInt 64 7).toNat) = 7)))]
def jX (s lost : List Int) (i : Int) (x : Dat) : Dat :=
 .r [.n (x.i 0), .n 0, .n 0, .n 0, .n (if i < (lost.length : Int) /\ 0 < lost.getD i.toNat 0 then within (bq s i) 0 (lost.getD i.toNat 0) else 0), .n 0, .n (bI false)]
def ofL (p q r s t u lost : List Int) : Int -> List Dat -> List Dat
 | _, [] => []
 | i, x :: l => (if w64 ((BitVec.ofInt 64 (bq t i) &&& BitVec.ofInt 64 15).toNat) = 15 then [] else if 0 < x.i 1 then [jW p q r s t u i x] else [jX s lost i x]) ++ ofL p q r s t u lost (i + 1) l
theorem Ec (p q r s t u lost : List Int) : ∀ (l : List Dat) (i : Int), (ofL p q r s t u lost i l).length <= l.length
 | [], _ => Nat.le_refl _
 | x :: l, i => by
  have := Ec p q r s t u lost l (i + 1); unfold ofL
  split
  · simp; omega
  · split <;> (simp; omega)
def N58 : aF := ⟨T42.tab, 58, ⟨[.agg [.ints .i64, .ints .i64, .ints .i64, .ints .i64, .ints .i64, .ints .i64], .ae (sI 2), .ints .i64], [], 0⟩, ⟨[.buf 0 7], [.ae (sB 6)], 0⟩, []⟩
abbrev Fx : Type := List Int × List Dat × Int × Int × List Int × List Int × List Int × List Int × List Int × List Int × List Dat
def yQ (m : Nat) (k : Fx -> Option (List Un)) : Fx -> Option (List Un) := fun (a0, a1, a2, a3, a4, a5, a6, a7, a8, a9, a10) =>
 bif decide (a3 < a2) then
 chk (inb a3 a1.length) <|
 chk (decide (a3.toNat < a1.length)) <|
 lt (af a1 a3.toNat : Dat) fun d1 =>
 chk (decide (0 <= a3)) <|
 bif (w64 ((BitVec.ofInt 64 (bq a8 a3) &&& BitVec.ofInt 64 15).toNat)) == 15 then
 k (a0, a1, a2, (w64 (a3 + 1)), a4, a5, a6, a7, a8, a9, a10)
 else
 bif decide ((d1.i 1) > 0) then
 chk (decide (0 <= a3)) <|
 bif decide (-2305843009213693952 <= 0 /\ 0 <= (w64 ((d1.i 1).tdiv 4)) /\ (w64 ((d1.i 1).tdiv 4)) <= 2305843009213693952) then
 lt ((within (bq a4 a3) 0 (w64 ((d1.i 1).tdiv 4))) : Int) fun x3 =>
 chk (decide (0 <= a3)) <|
 lt ((w64 (2 * (w64 ((d1.i 1) - x3)))) : Int) fun x4 =>
 bif decide (-2305843009213693952 <= 0 /\ 0 <= x4 /\ x4 <= 2305843009213693952) then
 lt ((within (bq a5 a3) 0 x4) : Int) fun x5 =>
 bif (decide (x5 > (w64 ((d1.i 1) - x3)))) then
 chk (decide (0 <= a3)) <|
 lt ((w64 ((d1.i 1).tdiv 50)) : Int) fun x7 =>
 bif decide (-2305843009213693952 <= 0 /\ 0 <= (w64 (1 + x7)) /\ (w64 (1 + x7)) <= 2305843009213693952) then
 lt ((within (bq a6 a3) 0 (w64 (1 + x7))) : Int) fun x8 =>
 chk (decide (0 <= a3)) <|
 lt ((within (bq a8 a3) 0 24) : Int) fun x9 =>
 lt ((if 0 < (w64 (x9 - 12)) then (w64 (x9 - 12)) else 0) : Int) fun x10 =>
 chk (decide (0 <= a3)) <|
 bif (w64 ((BitVec.ofInt 64 (bq a9 a3) &&& BitVec.ofInt 64 7).toNat)) == 7 then
 chk (decide (0 <= a3)) <|
 lt ((w64 ((w64 ((d1.i 1) - x3)) - 0)) : Int) fun x12 =>
 bif decide (-2305843009213693952 <= 0 /\ 0 <= x12 /\ x12 <= 2305843009213693952) then
 chk (fits (a10.length + 1) 56) <|
 k (a0, a1, a2, (w64 (a3 + 1)), a4, a5, a6, a7, a8, a9, (a10 ++ ([.r [.n (d1.i 0), .n x3, .n 0, .n x8, .n (within (bq a7 a3) 0 x12), .n x10, .n (bI true)]])))
 else
 none
 else
 chk (fits (a10.length + 1) 56) <|
 k (a0, a1, a2, (w64 (a3 + 1)), a4, a5, a6, a7, a8, a9, (a10 ++ ([.r [.n (d1.i 0), .n x3, .n 0, .n x8, .n 0, .n x10, .n (bI false)]])))
 else
 none
 else
 chk (decide (0 <= a3)) <|
 lt ((w64 ((d1.i 1).tdiv 50)) : Int) fun x16 =>
 bif decide (-2305843009213693952 <= 0 /\ 0 <= (w64 (1 + x16)) /\ (w64 (1 + x16)) <= 2305843009213693952) then
 lt ((within (bq a6 a3) 0 (w64 (1 + x16))) : Int) fun x17 =>
 chk (decide (0 <= a3)) <|
 lt ((within (bq a8 a3) 0 24) : Int) fun x18 =>
 lt ((if 0 < (w64 (x18 - 12)) then (w64 (x18 - 12)) else 0) : Int) fun x19 =>
 chk (decide (0 <= a3)) <|
 bif (w64 ((BitVec.ofInt 64 (bq a9 a3) &&& BitVec.ofInt 64 7).toNat)) == 7 then
 chk (decide (0 <= a3)) <|
 lt ((w64 ((w64 ((d1.i 1) - x3)) - x5)) : Int) fun x21 =>
 bif decide (-2305843009213693952 <= 0 /\ 0 <= x21 /\ x21 <= 2305843009213693952) then
 chk (fits (a10.length + 1) 56) <|
 k (a0, a1, a2, (w64 (a3 + 1)), a4, a5, a6, a7, a8, a9, (a10 ++ ([.r [.n (d1.i 0), .n x3, .n x5, .n x17, .n (within (bq a7 a3) 0 x21), .n x19, .n (bI true)]])))
 else
 none
 else
 chk (fits (a10.length + 1) 56) <|
 k (a0, a1, a2, (w64 (a3 + 1)), a4, a5, a6, a7, a8, a9, (a10 ++ ([.r [.n (d1.i 0), .n x3, .n x5, .n x17, .n 0, .n x19, .n (bI false)]])))
 else
 none
 else
 none
 else
 none
 else
 bif (decide (a3 < (a0.length : Int))) then
 chk (inb a3 a0.length) <|
 chk (decide (a3.toNat < a0.length)) <|
 bif (decide ((a0.getD a3.toNat 0) > 0)) then
 chk (decide (0 <= a3)) <|
 chk (inb a3 a0.length) <|
 chk (decide (a3.toNat < a0.length)) <|
 bif decide (-2305843009213693952 <= 0 /\ 0 <= (a0.getD a3.toNat 0) /\ (a0.getD a3.toNat 0) <= 2305843009213693952) then
 chk (fits (a10.length + 1) 56) <|
 k (a0, a1, a2, (w64 (a3 + 1)), a4, a5, a6, a7, a8, a9, (a10 ++ ([.r [.n (d1.i 0), .n 0, .n 0, .n 0, .n (within (bq a7 a3) 0 (a0.getD a3.toNat 0)), .n 0, .n (bI false)]])))
 else
 none
 else
 chk (fits (a10.length + 1) 56) <|
 k (a0, a1, a2, (w64 (a3 + 1)), a4, a5, a6, a7, a8, a9, (a10 ++ ([.r [.n (d1.i 0), .n 0, .n 0, .n 0, .n 0, .n 0, .n (bI false)]])))
 else
 chk (fits (a10.length + 1) 56) <|
 k (a0, a1, a2, (w64 (a3 + 1)), a4, a5, a6, a7, a8, a9, (a10 ++ ([.r [.n (d1.i 0), .n 0, .n 0, .n 0, .n 0, .n 0, .n (bI false)]])))
 else
 some ([.d a10])
def vH (m : Nat) : Nat -> Fx -> Option (List Un) := bj (yQ m)
theorem uW (m : Nat) (n : Nat) : vH m (n + 1) = yQ m (vH m n) := rfl
def Ja (F : Fx -> Option (List Un)) : aR := ⟨[.lp [0, 1, 0, 1, 1], .blk 0, .code [1, 1, 1]], ⟨frm 126 [(2, .ints .i64), (3, .ptr 0 0 0), (7, .buf 1 7), (11, .ae (sI 2)), (12, .int .i64), (13, .int .i64)], [.cells [.ints .i64, .ints .i64, .ints .i64, .ints .i64, .ints .i64, .ints .i64], .ae (sB 6)], 0⟩, onU F⟩
theorem R5 (m : Nat) : ∀ n, HO N58 (Ja (vH m n)) := au ag T42.right (fun k => [Ja k]) (fun k h => (aH h aE)) fun k a => by kernel_rfl
def t58 (m : Nat) : List Int × List Int × List Int × List Int × List Int × List Int × List Dat × List Int -> Option (List Un) := fun (a0, a1, a2, a3, a4, a5, a6, a7) =>
 vH m m (a7, a6, (a6.length : Int), 0, a0, a1, a2, a3, a4, a5, [])
set_option maxHeartbeats 4000000 in
theorem Sl (m : Nat) (p q r s t u lost : List Int) (hlost : ∀ y ∈ lost, y <= 2305843009213693952) : ∀ (rest pre acc : List Dat) (n : Nat), rest.length < n -> (pre ++ rest).length < 1000000 -> acc.length <= pre.length -> (∀ d ∈ rest, d.i 1 <= 1152921504606846976) ->
 vH m n (lost, pre ++ rest, ((pre ++ rest).length : Int), (pre.length : Int), p, q, r, s, t, u, acc) = some [.d (acc ++ ofL p q r s t u lost pre.length rest)] := by
 intro rest
 induction rest with
 | nil =>
  intro pre acc n hn hl ha hb; obtain ⟨n, rfl⟩ := al n (by simp at hn; omega); rw [uW]; unfold yQ; dsimp only; simp [aw, ofL]
 | cons x rest ih =>
  intro pre acc n hn hl ha hb; obtain ⟨n, rfl⟩ := al n (by simp at hn; omega); simp only [List.length_cons, List.length_append] at hn hl; have hx := hb x (by simp); have K : ∀ out : List Dat, out.length <= acc.length + 1 -> vH m n (lost, pre ++ x :: rest, (pre.length : Int) + ((rest.length : Int) + 1), (pre.length : Int) + 1, p, q, r, s, t, u, out) = some [.d (out ++ ofL p q r s t u lost ((pre.length : Int) + 1) rest)] := by
   intro out ho; have := ih (pre ++ [x]) out n (by omega) (by simp; omega) (by simp; omega) (fun d hd => hb d (by simp [hd])); simp only [LNl, LNi, Int.cast_ofNat_Int] at this ⊢; exact this
  rw [uW]; unfold yQ; dsimp only; unfold ofL; generalize hi : (pre.length : Int) = i at K ⊢; have hi0 : 0 <= i /\ i < 1000000 := by omega
  by_cases h15 : w64 ((BitVec.ofInt 64 (bq t i) &&& BitVec.ofInt 64 15).toNat) = 15
  · rw [if_pos h15]; subst hi; simp (disch := omega) only [TRa, TRi, aa, LNl, LNi, Int.cast_ofNat_Int, ao]; rw [K _ (by omega)]
  · rw [if_neg h15]
    by_cases hx0 : 0 < x.i 1
    · rw [if_pos hx0]; have e4 : (x.i 1).tdiv 4 = x.i 1 / 4 := Int.tdiv_eq_ediv_of_nonneg (by omega); have e50 : (x.i 1).tdiv 50 = x.i 1 / 50 := Int.tdiv_eq_ediv_of_nonneg (by omega); have k1 : 0 <= within (bq p i) 0 (x.i 1 / 4) /\ within (bq p i) 0 (x.i 1 / 4) <= x.i 1 / 4 := aS (by omega); have k2 : 0 <= within (bq t i) 0 24 /\ within (bq t i) 0 24 <= 24 := aS (by omega); unfold jW; dsimp only; subst hi; have k3 : 0 <= within (bq q (pre.length : Int)) 0 (2 * (x.i 1 - within (bq p (pre.length : Int)) 0 (x.i 1 / 4))) := (aS (by omega)).1
      by_cases hq : within (bq q (pre.length : Int)) 0 (2 * (x.i 1 - within (bq p (pre.length : Int)) 0 (x.i 1 / 4))) > x.i 1 - within (bq p (pre.length : Int)) 0 (x.i 1 / 4) <;>
       by_cases h7 : w64 ((BitVec.ofInt 64 (bq u (pre.length : Int)) &&& BitVec.ofInt 64 7).toNat) = 7
      · rw [if_pos hq, if_pos h7, decide_eq_true h7]; simp (disch := omega) only [TRa, TRi, aa, LNl, LNi, Int.cast_ofNat_Int, ao, e4, e50]; rw [K _ (by simp)]; simp
      · rw [if_pos hq, if_neg h7, decide_eq_false h7]; simp (disch := omega) only [TRa, TRi, aa, LNl, LNi, Int.cast_ofNat_Int, ao, e4, e50]; rw [K _ (by simp)]; simp
      · rw [if_neg hq, if_pos h7, decide_eq_true h7]; simp (disch := omega) only [TRa, TRi, aa, LNl, LNi, Int.cast_ofNat_Int, ao, e4, e50]; rw [K _ (by simp)]; simp
      · rw [if_neg hq, if_neg h7, decide_eq_false h7]; simp (disch := omega) only [TRa, TRi, aa, LNl, LNi, Int.cast_ofNat_Int, ao, e4, e50]; rw [K _ (by simp)]; simp
    · rw [if_neg hx0]; unfold jX; subst hi
      by_cases hlt : (pre.length : Int) < (lost.length : Int)
      · by_cases hp : 0 < lost.getD pre.length 0
        · have hle : lost.getD pre.length 0 <= 2305843009213693952 := by
           rw [List.getD_eq_getElem?_getD, List.getElem?_eq_getElem (by omega)]; exact hlost _ (List.getElem_mem _)
          rw [if_pos ⟨hlt, by simpa using hp⟩]; simp (disch := omega) only [TRa, TRi, aa, LNl, LNi, Int.cast_ofNat_Int, ao]; rw [K _ (by simp)]; simp
        · rw [if_neg (fun h => hp (by simpa using h.2))]; simp (disch := omega) only [TRa, TRi, aa, LNl, LNi, Int.cast_ofNat_Int, ao]; rw [K _ (by simp)]; simp
      · rw [if_neg (fun h => hlt h.1)]; simp (disch := omega) only [TRa, TRi, aa, LNl, LNi, Int.cast_ofNat_Int, ao]; rw [K _ (by simp)]; simp
def f58 : List Int × List Int × List Int × List Int × List Int × List Int × List Dat × List Int -> Bool × List Un := fun (a0, a1, a2, a3, a4, a5, a6, a7) => (decide (a6.length < 1000000) && (a6.all (fun d => decide (d.i 1 <= 1152921504606846976)) && a7.all fun y => decide (y <= 2305843009213693952)), [.d (ofL a0 a1 a2 a3 a4 a5 a7 0 a6)])
theorem P2 (a0 : List Int) (a1 : List Int) (a2 : List Int) (a3 : List Int) (a4 : List Int) (a5 : List Int) (a6 : List Dat) (a7 : List Int) (hc : (decide (a6.length < 1000000) && (a6.all (fun d => decide (d.i 1 <= 1152921504606846976)) && a7.all fun y => decide (y <= 2305843009213693952))) = true) : ∃ m, t58 m (a0, a1, a2, a3, a4, a5, a6, a7) = some ([.d (ofL a0 a1 a2 a3 a4 a5 a7 0 a6)]) := by
 simp only [Bool.and_eq_true, decide_eq_true_eq, List.all_eq_true] at hc; exact ⟨a6.length + 1, Sl _ _ _ _ _ _ _ _ (fun y hy => hc.2.2 y hy) a6 [] [] _ (by omega) (by simpa using hc.1) (by simp) (fun d hd => hc.2.1 d hd)⟩
theorem Lw : ER 58 (mkE N58.en N58.ex f58) := ar ag T42.right (fun m => [Ja (vH m m)]) (t := t58) (by kernel_rfl) (fun m => (aH (R5 m m) aE)) (fun m a => by kernel_rfl) fun (a0, a1, a2, a3, a4, a5, a6, a7) hc => P2 a0 a1 a2 a3 a4 a5 a6 a7 hc
def T58 : Tb Tryz.prog LQ TE := T42.add 58 _ Lw
def N25 : aF := ⟨T58.tab, 25, ⟨[.np 0 0 0], bw 0, 9⟩, ⟨[.ptr 9 0 0], bw 0 ++ bw 9, 9⟩, []⟩
def t25 (m : Nat) : Int × an × aq × ai × List Dat × List Dat × List Dat × List Dat × List Dat × List Dat × List Dat -> Option (List Un) := fun (a0, a1, a2, a3, a4, a5, a6, a7, a8, a9, a10) =>
 chk (decide (0 <= a0)) <|
 chk (decide (0 <= a0)) <|
 chk (decide ((⟨a1, a4, a5, a2, a6, a7, a8⟩ : br).ax.length < 1000000 /\ (⟨a1, a4, a5, a2, a6, a7, a8⟩ : br).notes.length < 1000000 /\ (⟨a1, a4, a5, a2, a6, a7, a8⟩ : br).s0.length < 1000000 /\ (⟨a1, a4, a5, a2, a6, a7, a8⟩ : br).s1.length < 1000000 /\ (⟨a1, a4, a5, a2, a6, a7, a8⟩ : br).s2.length < 1000000)) <|
 chk (decide (0 <= a0)) <|
 chk (decide (a9.length < 1000000)) <|
 chk (decide (0 <= a0)) <|
 chk (decide (a10.length < 1000000)) <|
 some (Uns.enc (a1 : an) ++ Uns.enc (a2 : aq) ++ Uns.enc (a3 : ai) ++ [.d a4, .d a5, .d a6, .d a7, .d a8, .d a9, .d a10] ++ Uns.enc (((⟨a1, a4, a5, a2, a6, a7, a8⟩ : br).a) : an) ++ Uns.enc (((⟨a1, a4, a5, a2, a6, a7, a8⟩ : br).b) : aq) ++ Uns.enc (a3 : ai) ++ [.d ((⟨a1, a4, a5, a2, a6, a7, a8⟩ : br).ax), .d ((⟨a1, a4, a5, a2, a6, a7, a8⟩ : br).notes), .d ((⟨a1, a4, a5, a2, a6, a7, a8⟩ : br).s0), .d ((⟨a1, a4, a5, a2, a6, a7, a8⟩ : br).s1), .d ((⟨a1, a4, a5, a2, a6, a7, a8⟩ : br).s2), .d a9, .d a10])
def f25 : Int × an × aq × ai × List Dat × List Dat × List Dat × List Dat × List Dat × List Dat × List Dat -> Bool × List Un := fun (a0, a1, a2, a3, a4, a5, a6, a7, a8, a9, a10) => (decide (0 <= a0) && decide (a4.length < 1000000 /\ a5.length < 1000000 /\ a6.length < 1000000 /\ a7.length < 1000000 /\ a8.length < 1000000 /\ a9.length < 1000000 /\ a10.length < 1000000), Uns.enc ((a1) : an) ++ Uns.enc ((a2) : aq) ++ Uns.enc ((a3) : ai) ++ [.d (a4), .d (a5), .d (a6), .d (a7), .d (a8), .d (a9), .d (a10)] ++ Uns.enc ((a1) : an) ++ Uns.enc ((a2) : aq) ++ Uns.enc ((a3) : ai) ++ [.d (a4), .d (a5), .d (a6), .d (a7), .d (a8), .d (a9), .d (a10)])
theorem NY (a0 : Int) (a1 : an) (a2 : aq) (a3 : ai) (a4 : List Dat) (a5 : List Dat) (a6 : List Dat) (a7 : List Dat) (a8 : List Dat) (a9 : List Dat) (a10 : List Dat) (hc : (decide (0 <= a0) && decide (a4.length < 1000000 /\ a5.length < 1000000 /\ a6.length < 1000000 /\ a7.length < 1000000 /\ a8.length < 1000000 /\ a9.length < 1000000 /\ a10.length < 1000000)) = true) : ∃ m, t25 m (a0, a1, a2, a3, a4, a5, a6, a7, a8, a9, a10) = some (Uns.enc ((a1) : an) ++ Uns.enc ((a2) : aq) ++ Uns.enc ((a3) : ai) ++ [.d (a4), .d (a5), .d (a6), .d (a7), .d (a8), .d (a9), .d (a10)] ++ Uns.enc ((a1) : an) ++ Uns.enc ((a2) : aq) ++ Uns.enc ((a3) : ai) ++ [.d (a4), .d (a5), .d (a6), .d (a7), .d (a8), .d (a9), .d (a10)]) := by
 simp only [Bool.and_eq_true, decide_eq_true_eq] at hc; obtain ⟨h0, h1, h2, h3, h4, h5, h6, h7⟩ := hc; refine ⟨0, ?_⟩; unfold t25; dsimp only; simp (disch := omega) only [lt_eq, aG, iI]
theorem ML : ER 25 (mkE N25.en N25.ex f25) := ar ag T58.right (fun m => []) (t := t25) (by kernel_rfl) (fun m => aE) (fun m a => by kernel_rfl) fun (a0, a1, a2, a3, a4, a5, a6, a7, a8, a9, a10) hc => NY a0 a1 a2 a3 a4 a5 a6 a7 a8 a9 a10 hc
def T25 : Tb Tryz.prog LQ TE := T58.add 25 _ ML
def N92 : aF := ⟨T25.tab, 92, ⟨[.np 0 0 20, .int .i64], bw 0, 0⟩, ⟨[.bool], bw 0, 0⟩, []⟩
def t92 (m : Nat) : Int × Int × an × aq × ai × List Dat × List Dat × List Dat × List Dat × List Dat × List Dat × List Dat -> Option (List Un) := fun (a0, a1, a2, a3, a4, a5, a6, a7, a8, a9, a10, a11) =>
 chk (decide (0 <= a0)) <|
 lt ((([a4.rin, a1]).getD 0 0) : Int) fun x1 =>
 bif decide (x1 < 0) then
 some ([.b false] ++ Uns.enc (a2 : an) ++ Uns.enc (a3 : aq) ++ Uns.enc (a4 : ai) ++ [.d a5, .d a6, .d a7, .d a8, .d a9, .d a10, .d a11])
 else
 bif (decide (x1 > 1152921504606846976)) then
 some ([.b false] ++ Uns.enc (a2 : an) ++ Uns.enc (a3 : aq) ++ Uns.enc (a4 : ai) ++ [.d a5, .d a6, .d a7, .d a8, .d a9, .d a10, .d a11])
 else
 lt ((([a4.rin, a1]).getD 1 0) : Int) fun x3 =>
 bif decide (x3 < 0) then
 some ([.b false] ++ Uns.enc (a2 : an) ++ Uns.enc (a3 : aq) ++ Uns.enc (a4 : ai) ++ [.d a5, .d a6, .d a7, .d a8, .d a9, .d a10, .d a11])
 else
 bif decide (x3 > (w64 (1152921504606846976 - (w64 (0 + x1))))) then
 some ([.b false] ++ Uns.enc (a2 : an) ++ Uns.enc (a3 : aq) ++ Uns.enc (a4 : ai) ++ [.d a5, .d a6, .d a7, .d a8, .d a9, .d a10, .d a11])
 else
 chk (decide (0 <= a0)) <|
 some ([.b true] ++ Uns.enc (a2 : an) ++ Uns.enc (a3 : aq) ++ Uns.enc (({ a4 with rin := (w64 ((w64 (0 + x1)) + x3)) } : ai) : ai) ++ [.d a5, .d a6, .d a7, .d a8, .d a9, .d a10, .d a11])
def f92 : Int × Int × an × aq × ai × List Dat × List Dat × List Dat × List Dat × List Dat × List Dat × List Dat -> Bool × List Un := fun (a0, a1, a2, a3, a4, a5, a6, a7, a8, a9, a10, a11) => (decide (0 <= a0) && decide ((0 : Int) <= a4.rin /\ (0 : Int) <= a1 /\ a4.rin + a1 <= (1152921504606846976 : Int)), [.b (true)] ++ Uns.enc ((a2) : an) ++ Uns.enc ((a3) : aq) ++ Uns.enc (({ a4 with rin := a4.rin + a1 }) : ai) ++ [.d (a5), .d (a6), .d (a7), .d (a8), .d (a9), .d (a10), .d (a11)])
theorem OI (a0 : Int) (a1 : Int) (a2 : an) (a3 : aq) (a4 : ai) (a5 : List Dat) (a6 : List Dat) (a7 : List Dat) (a8 : List Dat) (a9 : List Dat) (a10 : List Dat) (a11 : List Dat) (hc : (decide (0 <= a0) && decide ((0 : Int) <= a4.rin /\ (0 : Int) <= a1 /\ a4.rin + a1 <= (1152921504606846976 : Int))) = true) : ∃ m, t92 m (a0, a1, a2, a3, a4, a5, a6, a7, a8, a9, a10, a11) = some ([.b (true)] ++ Uns.enc ((a2) : an) ++ Uns.enc ((a3) : aq) ++ Uns.enc (({ a4 with rin := a4.rin + a1 }) : ai) ++ [.d (a5), .d (a6), .d (a7), .d (a8), .d (a9), .d (a10), .d (a11)]) := by
 simp only [Bool.and_eq_true, decide_eq_true_eq] at hc; obtain ⟨h0, h1, h2, h3⟩ := hc; refine ⟨0, ?_⟩; unfold t92; dsimp only; simp only [lt_eq, List.getD_cons_zero, List.getD_cons_succ]; simp (disch := omega) only [TRa, TRi, aa, Int.zero_add]
theorem LD : ER 92 (mkE N92.en N92.ex f92) := ar ag T25.right (fun m => []) (t := t92) (by kernel_rfl) (fun m => aE) (fun m a => by kernel_rfl) fun (a0, a1, a2, a3, a4, a5, a6, a7, a8, a9, a10, a11) hc => OI a0 a1 a2 a3 a4 a5 a6 a7 a8 a9 a10 a11 hc
def T92 : Tb Tryz.prog LQ TE := T25.add 92 _ LD
end
end Go.Proofs.YtdbkoeefnodejaaGreat
namespace Go.Proofs.YtdbkoeefnodejaaGreat
noncomputable section
open Go Go.Proofs.YtdbkoeefnodejaaGreat.Ev
set_option maxRecDepth 20000
def oy : List Int -> Int -> Int × Bool
 | [], s => (s, true)
 | x :: l, s => bif (decide (x < 0) || decide (x > 1152921504606846976 - s)) then (0, false) else oy l (s + x)
def gU (l : List Int) : Int := (oy l 0).1
def kG (l : List Int) : Bool := (oy l 0).2
def pM (l : List Int) : Bool := l.all fun x => decide (0 <= x /\ x <= 1152921504606846976)
theorem EX : ∀ (l : List Int) (s b : Int), 0 <= s -> 0 <= b -> (∀ x ∈ l, 0 <= x /\ x <= b) -> s + l.length * b <= 1152921504606846976 -> oy l s = (s + l.sum, true)
 | [], s, b, _, _, _, _ => by simp [oy]
 | x :: l, s, b, h1, h2, h3, h4 => by
  have hx := h3 x (by simp); have hm : 0 <= (l.length : Int) * b := Int.mul_nonneg (by omega) h2; have e : ((x :: l).length : Int) * b = l.length * b + b := by rw [List.length_cons, Int.natCast_add, Int.add_mul]; simp
  rw [e] at h4; have := EX l (s + x) b (by omega) h2 (fun y hy => h3 y (by simp [hy])) (by omega); simp only [oy]; rw [show (decide (x < 0) || decide (x > 1152921504606846976 - s)) = false by simp; omega, cond_false, this, List.sum_cons]
  congr 1
  omega
theorem qG : ∀ (l : List Int) (b : Int), 0 <= b -> (∀ x ∈ l, 0 <= x /\ x <= b) -> 0 <= l.sum /\ l.sum <= l.length * b
 | [], b, _, _ => by simp
 | x :: l, b, h2, h3 => by
  have hx := h3 x (by simp); have e : ((x :: l).length : Int) * b = l.length * b + b := by rw [List.length_cons, Int.natCast_add, Int.add_mul]; simp
  have := qG l b h2 (fun y hy => h3 y (by simp [hy])); rw [e, List.sum_cons]; omega
theorem sQ {l : List Int} {b : Int} (h2 : 0 <= b) (h3 : ∀ x ∈ l, 0 <= x /\ x <= b) (h4 : l.length * b <= 1152921504606846976) : gU l = l.sum /\ kG l = true := by
 have := EX l 0 b (by omega) h2 h3 (by omega); unfold gU kG; rw [this]; simp
def bG (n s : Int) (l : List Int) : List Int := l.map fun c => n * c / s
def iL (n s : Int) (l : List Int) : List Int := l.map fun c => n * c % s
theorem tx {l : List Int} : pM l = true ↔ ∀ x ∈ l, 0 <= x /\ x <= 1152921504606846976 := by simp [pM]
def jC (l : List Int) : List Int -> Nat -> Nat -> Nat
 | [], _, b => b
 | x :: r, i, b => jC l r (i + 1) (bif decide (x > l.getD b 0) then i else b)
def dC (l : List Int) : Nat := jC l l 0 0
def gK (z : Int) : Nat -> List Int -> List Int -> List Int
 | 0, o, _ => o
 | k + 1, o, l => gK z k (o.set (dC l) (o.getD (dC l) 0 + 1)) (l.set (dC l) z)
def cC (n : Int) (l : List Int) : List Int :=
 bif !(kG l) then List.replicate l.length 0 else
 bif decide (max n 0 >= gU l) then l else
 gK 0 (max n 0 - (bG (max n 0) (gU l) l).sum).toNat (bG (max n 0) (gU l) l) (iL (max n 0) (gU l) l)
theorem Bi (l : List Int) : ∀ (r : List Int) (i b : Nat), b < l.length -> i + r.length <= l.length -> jC l r i b < l.length
 | [], _, b, h, _ => h
 | x :: r, i, b, h, h2 => by
  simp only [List.length_cons] at h2; unfold jC; refine Bi l r (i + 1) _ ?_ (by omega); cases decide (x > l.getD b 0)
  · exact h
  · show i < l.length; omega
theorem kL {l : List Int} (h : l ≠ []) : dC l < l.length := Bi l l 0 0 (List.length_pos_iff.2 h) (by simp)
theorem BR : ∀ (l : List Int) (s : Int), 0 <= s -> s <= 1152921504606846976 -> (oy l s).2 = true -> (∀ x ∈ l, 0 <= x /\ x <= 1152921504606846976) /\ (oy l s).1 = s + l.sum /\ s + l.sum <= 1152921504606846976
 | [], s, h1, h2, _ => by simp [oy, h2]
 | x :: l, s, h1, h2, h3 => by
  simp only [oy] at h3 ⊢
  by_cases hx : x < 0 \/ x > 1152921504606846976 - s
  · rw [show (decide (x < 0) || decide (x > 1152921504606846976 - s)) = true by simpa using hx] at h3; cases h3
  · rw [show (decide (x < 0) || decide (x > 1152921504606846976 - s)) = false by simp; omega] at h3 ⊢; simp only [cond_false] at h3 ⊢; obtain ⟨a, b, c⟩ := BR l (s + x) (by omega) (by omega) h3; refine ⟨fun y hy => ?_, by rw [b, List.sum_cons]; omega, by rw [List.sum_cons]; omega⟩; rcases List.mem_cons.1 hy with rfl | hy
    · omega
    · exact a y hy
theorem kC {l : List Int} (h : kG l = true) : (∀ x ∈ l, 0 <= x /\ x <= 1152921504606846976) /\ gU l = l.sum /\ l.sum <= 1152921504606846976 := by
 obtain ⟨a, b, c⟩ := BR l 0 (by omega) (by omega) h; exact ⟨a, by unfold gU; omega, by omega⟩
theorem ev : ∀ (l : List Int), (∀ x ∈ l, 0 <= x) -> 0 <= l.sum
 | [], _ => by simp
 | x :: l, h => by
  have := h x (by simp); have := ev l (fun y hy => h y (by simp [hy])); rw [List.sum_cons]; omega
theorem uw {f g : Int -> Int} : ∀ (l : List Int), (∀ x ∈ l, f x <= g x) -> (l.map f).sum <= (l.map g).sum
 | [], _ => by simp
 | x :: l, h => by
  have := h x (by simp); have := uw l (fun y hy => h y (by simp [hy])); simp only [List.map_cons, List.sum_cons]; omega
theorem AH {n s : Int} {l : List Int} (h1 : 0 <= n) (h2 : n < s) (hb : ∀ x ∈ l, 0 <= x /\ x <= 1152921504606846976) : (∀ y ∈ bG n s l, 0 <= y /\ y <= 1152921504606846976) /\ 0 <= (bG n s l).sum /\ (bG n s l).sum <= l.sum := by
 have e : ∀ x ∈ l, 0 <= n * x / s /\ n * x / s <= x := fun x hx => by
  have hx := hb x hx; refine ⟨Int.ediv_nonneg (Int.mul_nonneg h1 hx.1) (by omega), ?_⟩; have : n * x <= s * x := Int.mul_le_mul_of_nonneg_right (by omega) hx.1; exact Int.ediv_le_of_le_mul (by omega) (by rw [Int.mul_comm x s]; exact this)
 have a : ∀ y ∈ bG n s l, 0 <= y /\ y <= 1152921504606846976 := by
  intro y hy; obtain ⟨x, hx, rfl⟩ := List.mem_map.1 hy; have := e x hx; have := hb x hx; omega
 refine ⟨a, ev _ (fun y hy => (a y hy).1), ?_⟩; have := uw (f := fun c => n * c / s) (g := id) l (fun x hx => (e x hx).2); simpa [bG] using this
theorem jg {l : List Int} {i : Nat} (h : i < l.length) : l.getD i 0 ∈ l := by
 rw [List.getD_eq_getElem?_getD, List.getElem?_eq_getElem h]; exact List.getElem_mem h
theorem xR (z : Int) : ∀ (k : Nat) (o l : List Int), (gK z k o l).length = o.length
 | 0, _, _ => rfl
 | k + 1, o, l => by simp [gK, xR z k]
theorem uX (n : Int) (l : List Int) : (cC n l).length = l.length := by
 unfold cC; cases kG l
 · simp
 · cases decide (max n 0 >= gU l)
   · simp [xR, bG]
   · simp
theorem sK : ∀ (l : List Int) (b : Nat) (v : Int), b < l.length -> (l.set b v).sum = l.sum - l.getD b 0 + v
 | [], b, v, h => by simp at h
 | x :: l, 0, v, _ => by simp; omega
 | x :: l, b + 1, v, h => by
  have := sK l b v (by simpa using h); simp only [List.set_cons_succ, List.sum_cons, List.getD_cons_succ]; omega
theorem ij (l : List Int) (b i : Nat) (v : Int) (h : b < l.length) : (l.set b v).getD i 0 = if i = b then v else l.getD i 0 := by
 simp only [List.getD_eq_getElem?_getD, List.getElem?_set]
 by_cases e : b = i
 · subst e; simp [h]
 · rw [if_neg e, if_neg (Ne.symm e)]
theorem qh (l : List Int) : ∀ (r pre : List Int) (b : Nat), l = pre ++ r -> b < l.length -> (∀ j, j < pre.length -> l.getD j 0 <= l.getD b 0) -> (∀ j, j < b -> l.getD j 0 < l.getD b 0) -> b <= pre.length ->
 (∀ j, j < l.length -> l.getD j 0 <= l.getD (jC l r pre.length b) 0) /\ ∀ j, j < jC l r pre.length b -> l.getD j 0 < l.getD (jC l r pre.length b) 0
 | [], pre, b, he, hb, h1, h2, _ => by
  have : pre.length = l.length := by rw [he]; simp
  exact ⟨fun j hj => h1 j (by omega), h2⟩
 | x :: r, pre, b, he, hb, h1, h2, h3 => by
  have hg : l.getD pre.length 0 = x := by rw [he]; simp
  have hl : l.length = pre.length + (r.length + 1) := by rw [he]; simp
  have hp : (pre ++ [x]).length = pre.length + 1 := by simp
  simp only [jC]; rw [<- hp]
  by_cases hx : x > l.getD b 0
  · rw [show decide (x > l.getD b 0) = true from decide_eq_true hx, cond_true]; refine qh l r (pre ++ [x]) pre.length (by rw [he]; simp) (by omega) (fun j hj => ?_) (fun j hj => ?_) (by omega)
    · rw [hp] at hj
      by_cases e : j = pre.length
      · subst e; omega
      · have := h1 j (by omega); omega
    · have := h1 j hj; omega
  · rw [show decide (x > l.getD b 0) = false from decide_eq_false hx, cond_false]; refine qh l r (pre ++ [x]) b (by rw [he]; simp) hb (fun j hj => ?_) h2 (by omega); rw [hp] at hj
    by_cases e : j = pre.length
    · subst e; omega
    · exact h1 j (by omega)
theorem lx {l : List Int} (h : l ≠ []) : (∀ j, j < l.length -> l.getD j 0 <= l.getD (dC l) 0) /\ ∀ j, j < dC l -> l.getD j 0 < l.getD (dC l) 0 :=
 qh l l [] 0 rfl (List.length_pos_iff.2 h) (fun j hj => by simp at hj) (fun j hj => by omega) (by simp)
theorem mn : ∀ (l : List Int), (∀ x ∈ l, x <= 0) -> l.sum <= 0
 | [], _ => by simp
 | x :: l, h => by
  have := h x (by simp); have := mn l (fun y hy => h y (by simp [hy])); rw [List.sum_cons]; omega
theorem pk {l : List Int} {x : Int} (h : x ∈ l) : ∃ j, j < l.length /\ l.getD j 0 = x := by
 obtain ⟨j, hj, rfl⟩ := List.getElem_of_mem h; exact ⟨j, hj, by rw [List.getD_eq_getElem?_getD, List.getElem?_eq_getElem hj]; rfl⟩
theorem xP {s : Int} (hs : 0 < s) : ∀ (k : Nat) (o l : List Int), o.length = l.length -> (∀ x ∈ l, 0 <= x /\ x < s) -> s * (k : Int) <= l.sum ->
 (gK 0 k o l).sum = o.sum + k /\ (∀ i, i < l.length -> (gK 0 k o l).getD i 0 = o.getD i 0 \/ ((gK 0 k o l).getD i 0 = o.getD i 0 + 1 /\ 0 < l.getD i 0)) /\
 ∀ i j, i < j -> j < l.length -> l.getD j 0 <= l.getD i 0 -> (gK 0 k o l).getD j 0 - o.getD j 0 <= (gK 0 k o l).getD i 0 - o.getD i 0
 | 0, o, l, hl, hb, hk => by simp [gK]
 | k + 1, o, l, hl, hb, hk => by
  have e1 : s * ((k + 1 : Nat) : Int) = s * k + s := by rw [Int.natCast_add, Int.mul_add]; simp
  rw [e1] at hk; have hk0 : 0 <= s * (k : Int) := Int.mul_nonneg (by omega) (by omega); have hne : l ≠ [] := by rintro rfl; simp at hk; omega
  have hB := kL hne; obtain ⟨hm, hf⟩ := lx hne; have hpos : 0 < l.getD (dC l) 0 := by
   rcases Int.lt_or_le 0 (l.getD (dC l) 0) with h | h
   · exact h
   · have := mn l (fun x hx => by
      obtain ⟨j, hj, rfl⟩ := pk hx; have := hm j hj; omega)
     omega
  have hmem := hb _ (jg hB); simp only [gK]; generalize hbb : dC l = b at *
  have hs' := sK l b 0 hB; have ho' := sK o b (o.getD b 0 + 1) (by omega); obtain ⟨g1, g2, g3⟩ := xP hs k (o.set b (o.getD b 0 + 1)) (l.set b 0) (by simp [hl]) (fun x hx => by
   rcases List.mem_or_eq_of_mem_set hx with h | h
   · exact hb x h
   · omega) (by omega)
  generalize gK 0 k (o.set b (o.getD b 0 + 1)) (l.set b 0) = y at *
  simp only [List.length_set] at g2 g3; refine ⟨by rw [g1, ho']; simp only [Int.natCast_add]; omega, fun i hi => ?_, fun i j hij hj hle => ?_⟩
  · have := g2 i hi; rw [ij _ _ _ _ (by omega), ij _ _ _ _ hB] at this
    by_cases e : i = b
    · subst e; simp only [↓reduceIte] at this; right; omega
    · simpa [e] using this
  · have a1 := g2 i (by omega); have a2 := g2 j hj; have a3 := g3 i j hij hj; rw [ij _ _ _ _ (by omega), ij _ _ _ _ hB] at a1 a2; rw [ij _ _ _ _ hB, ij _ _ _ _ hB, ij _ _ _ _ (by omega), ij _ _ _ _ (by omega)] at a3
    by_cases ei : i = b
    · subst ei; have ne : ¬ j = i := by omega
      simp only [↓reduceIte, ne] at a1 a2 a3; omega
    · by_cases ej : j = b
      · subst ej; have := hf i hij; omega
      · simp only [ei, ej, if_false] at a1 a2 a3; exact a3 hle
theorem tA (a s : Int) : ∀ l : List Int, s * (bG a s l).sum + (iL a s l).sum = a * l.sum
 | [] => by simp [bG, iL]
 | x :: l => by
  have := tA a s l; have e := Int.mul_ediv_add_emod (a * x) s; show s * (a * x / s + (bG a s l).sum) + (a * x % s + (iL a s l).sum) = a * (x + l.sum)
  rw [Int.mul_add, Int.mul_add]; omega
theorem xu (f : Int -> Int) {l : List Int} {b : Nat} (h : b < l.length) : (l.map f).getD b 0 = f (l.getD b 0) := by
 simp [List.getD_eq_getElem?_getD, List.getElem?_eq_getElem h]
theorem Gj {a : Int} {l : List Int} (ha : 0 <= a) (hok : kG l = true) (hlt : a < l.sum) : (cC a l).sum = a /\
 (∀ i, i < l.length -> (cC a l).getD i 0 = a * l.getD i 0 / l.sum \/ ((cC a l).getD i 0 = a * l.getD i 0 / l.sum + 1 /\ 0 < a * l.getD i 0 % l.sum)) /\
 ∀ i j, i < j -> j < l.length -> a * l.getD j 0 % l.sum <= a * l.getD i 0 % l.sum -> (cC a l).getD j 0 - a * l.getD j 0 / l.sum <= (cC a l).getD i 0 - a * l.getD i 0 / l.sum := by
 obtain ⟨hb, hs, hs2⟩ := kC hok; have hr : ∀ x ∈ iL a l.sum l, 0 <= x /\ x < l.sum := by
  intro y hy; obtain ⟨x, hx, rfl⟩ := List.mem_map.1 hy; exact ⟨Int.emod_nonneg _ (by omega), Int.emod_lt_of_pos _ (by omega)⟩
 have hsum := tA a l.sum l; have hr0 := ev _ (fun x hx => (hr x hx).1); have hk : 0 <= a - (bG a l.sum l).sum := by
  have : l.sum * (bG a l.sum l).sum <= l.sum * a := by rw [Int.mul_comm l.sum a]; omega
  have := Int.le_of_mul_le_mul_left this (by omega); omega
 have he : cC a l = gK 0 (a - (bG a l.sum l).sum).toNat (bG a l.sum l) (iL a l.sum l) := by
  unfold cC; rw [hok, hs, show max a 0 = a by omega, show decide (a >= l.sum) = false from decide_eq_false (by omega)]; rfl
 have hl1 : (bG a l.sum l).length = l.length := by simp [bG]
 have hl2 : (iL a l.sum l).length = l.length := by simp [iL]
 have d := xP (s := l.sum) (by omega) (a - (bG a l.sum l).sum).toNat (bG a l.sum l) (iL a l.sum l) (by omega) hr (by
  rw [Int.toNat_of_nonneg hk, Int.mul_sub, Int.mul_comm l.sum a]; omega)
 rw [<- he, hl2] at d; obtain ⟨d1, d2, d3⟩ := d; have ef : ∀ i, i < l.length -> (bG a l.sum l).getD i 0 = a * l.getD i 0 / l.sum := fun i hi => xu _ hi
 have er : ∀ i, i < l.length -> (iL a l.sum l).getD i 0 = a * l.getD i 0 % l.sum := fun i hi => xu _ hi
 refine ⟨by rw [d1, Int.toNat_of_nonneg hk]; omega, fun i hi => ?_, fun i j hij hj hle => ?_⟩
 · have := d2 i hi
   rwa [ef i hi, er i hi] at this
 · have := d3 i j hij hj (by rw [er i (by omega), er j hj]; exact hle)
   rwa [ef i (by omega), ef j hj] at this
theorem FY {a : Int} {l : List Int} (hok : kG l = true) (hge : l.sum <= max a 0) : cC a l = l := by
 obtain ⟨hb, hs, hs2⟩ := kC hok; unfold cC; rw [hok, hs, show decide (max a 0 >= l.sum) = true from decide_eq_true hge]; rfl
theorem LM {a x s : Int} (ha : 0 <= a) (hlt : a < s) (hx : 0 <= x) : 0 <= a * x / s /\ a * x / s <= x /\ (0 < a * x % s -> a * x / s + 1 <= x) := by
 have e := Int.mul_ediv_add_emod (a * x) s; have hm : a * x <= (s - 1) * x := Int.mul_le_mul_of_nonneg_right (by omega) hx; have hsx : (s - 1) * x = s * x - x := by rw [Int.sub_mul, Int.one_mul]
 refine ⟨Int.ediv_nonneg (Int.mul_nonneg ha hx) (by omega), Int.ediv_le_of_le_mul (by omega) (by rw [Int.mul_comm x s]; omega), fun h => ?_⟩; have : s * (a * x / s) < s * x := by omega
 have := Int.lt_of_mul_lt_mul_left this (by omega); omega
theorem Cr {a : Int} {l : List Int} (ha : 0 <= a) (hok : kG l = true) : (cC a l).sum = min a l.sum /\ ∀ i, i < l.length -> 0 <= (cC a l).getD i 0 /\ (cC a l).getD i 0 <= l.getD i 0 := by
 obtain ⟨hb, hs, hs2⟩ := kC hok
 by_cases h : l.sum <= a
 · rw [FY hok (by omega)]; exact ⟨by omega, fun i hi => ⟨(hb _ (jg hi)).1, Int.le_refl _⟩⟩
 · obtain ⟨h1, h2, _⟩ := Gj ha hok (by omega); refine ⟨by omega, fun i hi => ?_⟩; have hx := hb _ (jg hi); have := LM (a := a) (s := l.sum) ha (by omega) hx.1; rcases h2 i hi with h | ⟨h, h'⟩ <;> omega
def bE : List Bool -> List Int -> List Int
 | [], _ => []
 | false :: ms, l => 0 :: bE ms l
 | true :: ms, l => l.headD 0 :: bE ms l.tail
def iV : List Bool -> Nat -> Nat
 | [], _ => 0
 | false :: ms, i => iV ms i + 1
 | true :: _, 0 => 0
 | true :: ms, i + 1 => iV ms i + 1
def bF : List Bool -> Nat
 | [] => 0
 | false :: ms => bF ms
 | true :: ms => bF ms + 1
theorem ka : ∀ (ms : List Bool) (l : List Int), (bE ms l).length = ms.length
 | [], _ => rfl
 | false :: ms, l => by simp [bE, ka ms l]
 | true :: ms, l => by simp [bE, ka ms l.tail]
theorem sU : ∀ (ms : List Bool) (i : Nat), i < bF ms -> iV ms i < ms.length
 | [], i, h => by simp [bF] at h
 | false :: ms, i, h => by have := sU ms i h; simp [iV]; omega
 | true :: ms, 0, _ => by simp [iV]
 | true :: ms, i + 1, h => by have := sU ms i (by simpa [bF] using h); simp [iV]; omega
theorem qe : ∀ (ms : List Bool) (i j : Nat), i < j -> j < bF ms -> iV ms i < iV ms j
 | [], i, j, _, h => by simp [bF] at h
 | false :: ms, i, j, h, h2 => by have := qe ms i j h h2; simp [iV]; omega
 | true :: ms, 0, j + 1, _, _ => by simp [iV]
 | true :: ms, i + 1, j + 1, h, h2 => by have := qe ms i j (by omega) (by simpa [bF] using h2); simp [iV]; omega
theorem gL : ∀ (ms : List Bool) (l : List Int) (i : Nat), l.length = bF ms -> i < bF ms -> (bE ms l).getD (iV ms i) 0 = l.getD i 0
 | [], l, i, _, h => by simp [bF] at h
 | false :: ms, l, i, h, h2 => by simp only [bE, iV, List.getD_cons_succ]; exact gL ms l i h h2
 | true :: ms, [], i, h, _ => by simp [bF] at h
 | true :: ms, x :: l, 0, h, _ => by simp [bE, iV]
 | true :: ms, x :: l, i + 1, h, h2 => by
  simp only [bE, iV, List.getD_cons_succ, List.tail_cons]; exact gL ms l i (by simpa [bF] using h) (by simpa [bF] using h2)
theorem oI : ∀ (ms : List Bool) (l : List Int) (i : Nat) (v : Int), l.length = bF ms -> i < bF ms -> (bE ms l).set (iV ms i) v = bE ms (l.set i v)
 | [], l, i, v, _, h => by simp [bF] at h
 | false :: ms, l, i, v, h, h2 => by simp only [bE, iV, List.set_cons_succ]; rw [oI ms l i v h h2]
 | true :: ms, [], i, v, h, _ => by simp [bF] at h
 | true :: ms, x :: l, 0, v, h, _ => by simp [bE, iV]
 | true :: ms, x :: l, i + 1, v, h, h2 => by
  simp only [bE, iV, List.set_cons_succ, List.tail_cons, List.headD_cons]; rw [oI ms l i v (by simpa [bF] using h) (by simpa [bF] using h2)]
theorem sY : ∀ (ms : List Bool) (p : Nat), p < ms.length -> (∃ i, i < bF ms /\ p = iV ms i) \/ ∀ l, (bE ms l).getD p 0 = 0
 | [], p, h => by simp at h
 | false :: ms, 0, _ => .inr fun l => by simp [bE]
 | true :: ms, 0, _ => .inl ⟨0, by simp [bF], by simp [iV]⟩
 | false :: ms, p + 1, h => by
  rcases sY ms p (by simpa using h) with ⟨i, h1, h2⟩ | h2
  · exact .inl ⟨i, h1, by simp [iV, h2]⟩
  · exact .inr fun l => by simp only [bE, List.getD_cons_succ]; exact h2 l
 | true :: ms, p + 1, h => by
  rcases sY ms p (by simpa using h) with ⟨i, h1, h2⟩ | h2
  · exact .inl ⟨i + 1, by simp [bF, h1], by simp [iV, h2]⟩
  · exact .inr fun l => by simp only [bE, List.getD_cons_succ]; exact h2 _
theorem AP {l : List Int} {b : Nat} (hb : b < l.length) (h1 : ∀ j, j < l.length -> l.getD j 0 <= l.getD b 0) (h2 : ∀ j, j < b -> l.getD j 0 < l.getD b 0) : dC l = b := by
 have hne : l ≠ [] := by rintro rfl; simp at hb
 obtain ⟨m1, m2⟩ := lx hne; have hB := kL hne; rcases Nat.lt_trichotomy (dC l) b with h | h | h
 · have := h2 _ h; have := m1 b hb; omega
 · exact h
 · have := m2 _ h; have := h1 _ hB; omega
theorem BC (ms : List Bool) (l : List Int) (hl : l.length = bF ms) (hp : 0 < l.getD (dC l) 0) : dC (bE ms l) = iV ms (dC l) := by
 have hne : l ≠ [] := by rintro rfl; simp at hp
 obtain ⟨m1, m2⟩ := lx hne; have hB := kL hne; rw [hl] at hB; refine AP (by rw [ka]; exact sU ms _ hB) (fun j hj => ?_) (fun j hj => ?_)
 · rw [gL ms l _ hl hB]; rw [ka] at hj; rcases sY ms j hj with ⟨i, h1, rfl⟩ | h2
   · rw [gL ms l i hl h1]; exact m1 i (by omega)
   · rw [h2]; omega
 · rw [gL ms l _ hl hB]; have hj2 : j < ms.length := Nat.lt_trans hj (sU ms _ hB); rcases sY ms j hj2 with ⟨i, h1, rfl⟩ | h2
   · rw [gL ms l i hl h1]; refine m2 i ?_
     rcases Nat.lt_trichotomy i (dC l) with h | h | h
     · exact h
     · subst h; omega
     · have := qe ms _ _ h h1; omega
   · rw [h2]; exact hp
theorem w7 {s : Int} (hs : 0 < s) (ms : List Bool) : ∀ (k : Nat) (o l : List Int), o.length = bF ms -> l.length = bF ms -> (∀ x ∈ l, 0 <= x /\ x < s) -> s * (k : Int) <= l.sum ->
 gK 0 k (bE ms o) (bE ms l) = bE ms (gK 0 k o l)
 | 0, o, l, _, _, _, _ => rfl
 | k + 1, o, l, ho, hl, hb, hk => by
  have e1 : s * ((k + 1 : Nat) : Int) = s * k + s := by rw [Int.natCast_add, Int.mul_add]; simp
  rw [e1] at hk; have hk0 : 0 <= s * (k : Int) := Int.mul_nonneg (by omega) (by omega); have hne : l ≠ [] := by rintro rfl; simp at hk; omega
  have hB := kL hne; obtain ⟨hm, hf⟩ := lx hne; have hpos : 0 < l.getD (dC l) 0 := by
   rcases Int.lt_or_le 0 (l.getD (dC l) 0) with h | h
   · exact h
   · have := mn l (fun x hx => by
      obtain ⟨j, hj, rfl⟩ := pk hx; have := hm j hj; omega)
     omega
  have hmem := hb _ (jg hB); have hs' := sK l (dC l) 0 hB; simp only [gK]; rw [BC ms l hl hpos, gL ms o _ ho (by omega), oI ms o _ _ ho (by omega), oI ms l _ _ hl (by omega)]; refine w7 hs ms k _ _ (by simpa using ho) (by simpa using hl) (fun x hx => ?_) (by omega); rcases List.mem_or_eq_of_mem_set hx with h | h
  · exact hb x h
  · omega
theorem o8 (f : Int -> Int) (h0 : f 0 = 0) : ∀ (ms : List Bool) (l : List Int), (bE ms l).map f = bE ms (l.map f)
 | [], _ => rfl
 | false :: ms, l => by simp [bE, h0, o8 f h0 ms l]
 | true :: ms, l => by
  simp only [bE, List.map_cons, o8 f h0 ms l.tail]; cases l with
  | nil => simp [h0]
  | cons x l => simp
theorem mr : ∀ (ms : List Bool) (l : List Int), l.length = bF ms -> (bE ms l).sum = l.sum
 | [], l, h => by rw [List.eq_nil_of_length_eq_zero h]; rfl
 | false :: ms, l, h => by simp [bE, mr ms l h]
 | true :: ms, [], h => by simp [bF] at h
 | true :: ms, x :: l, h => by simp [bE, mr ms l (by simpa [bF] using h)]
theorem tL : ∀ (ms : List Bool) (l : List Int) (y : Int), y ∈ bE ms l -> y = 0 \/ y ∈ l
 | [], _, y, h => by simp [bE] at h
 | false :: ms, l, y, h => by
  simp only [bE, List.mem_cons] at h; rcases h with h | h
  · exact .inl h
  · exact tL ms l y h
 | true :: ms, l, y, h => by
  simp only [bE, List.mem_cons] at h; rcases h with h | h
  · cases l with
    | nil => exact .inl (by simpa using h)
    | cons x l => exact .inr (by simp at h; simp [h])
  · rcases tL ms l.tail y h with h | h
    · exact .inl h
    · exact .inr (List.mem_of_mem_tail h)
theorem Gk (ms : List Bool) (n : Int) (l : List Int) (hl : l.length = bF ms) (b : Int) (hb0 : 0 <= b) (hb : ∀ x ∈ l, 0 <= x /\ x <= b) (h4 : ms.length * b <= 1152921504606846976) :
 cC n (bE ms l) = bE ms (cC n l) := by
 have hlm : bF ms <= ms.length := by
  clear hl h4
  induction ms with
  | nil => simp [bF]
  | cons c ms ih => cases c <;> simp [bF] <;> omega
 have hlb : (l.length : Int) * b <= ms.length * b := Int.mul_le_mul_of_nonneg_right (by omega) hb0; obtain ⟨s1, o1⟩ := sQ hb0 hb (by omega); have hb2 : ∀ x ∈ bE ms l, 0 <= x /\ x <= b := fun x hx => by
  rcases tL ms l x hx with h | h
  · omega
  · exact hb x h
 obtain ⟨s2, o2⟩ := sQ hb0 hb2 (by rw [ka]; exact h4); rw [mr ms l hl] at s2; obtain ⟨hB, _, hs2⟩ := kC o1; have h0 := ev l (fun x hx => (hb x hx).1); unfold cC; rw [o1, o2, s1, s2]; simp only [Bool.not_true, cond_false]
 by_cases h : max n 0 >= l.sum
 · rw [decide_eq_true h, cond_true, cond_true]
 · rw [decide_eq_false h, cond_false, cond_false]; have ef : bG (max n 0) l.sum (bE ms l) = bE ms (bG (max n 0) l.sum l) := o8 (fun c => max n 0 * c / l.sum) (by simp) ms l; have er : iL (max n 0) l.sum (bE ms l) = bE ms (iL (max n 0) l.sum l) := o8 (fun c => max n 0 * c % l.sum) (by simp) ms l; have lf : (bG (max n 0) l.sum l).length = bF ms := by simpa [bG] using hl
   have lr : (iL (max n 0) l.sum l).length = bF ms := by simpa [iL] using hl
   rw [ef, er, mr ms _ lf]; have hr : ∀ x ∈ iL (max n 0) l.sum l, 0 <= x /\ x < l.sum := by
    intro y hy; obtain ⟨x, hx, rfl⟩ := List.mem_map.1 hy; exact ⟨Int.emod_nonneg _ (by omega), Int.emod_lt_of_pos _ (by omega)⟩
   have hsum := tA (max n 0) l.sum l; have hr0 := ev _ (fun x hx => (hr x hx).1); have hk : 0 <= max n 0 - (bG (max n 0) l.sum l).sum := by
    have : l.sum * (bG (max n 0) l.sum l).sum <= l.sum * max n 0 := by rw [Int.mul_comm l.sum (max n 0)]; omega
    have := Int.le_of_mul_le_mul_left this (by omega); omega
   exact w7 (s := l.sum) (by omega) ms _ _ _ lf lr hr (by rw [Int.toNat_of_nonneg hk, Int.mul_sub, Int.mul_comm l.sum (max n 0)]; omega)
theorem PW {n c p : Int} (h1 : 0 <= n) (h2 : n < p) (h3 : p <= 1152921504606846976) (h4 : 0 <= c) (h5 : c <= 1152921504606846976) : mdV n c p 0 = n * c / p /\ ow n c p 0 = true /\ 0 <= n * c / p /\ n * c / p <= c := by
 have h : n * c / p <= c := by
  have : n * c <= p * c := Int.mul_le_mul_of_nonneg_right (by omega) h4; exact Int.ediv_le_of_le_mul (by omega) (by rw [Int.mul_comm c p]; exact this)
 have ok : ow n c p 0 = true := by rw [Ff h1 (by omega) h4 h5 (by omega) h3 (by omega) (by omega), Nx]; simp; omega
 exact ⟨by unfold mdV; rw [ok, Nx]; rfl, ok, Int.ediv_nonneg (Int.mul_nonneg h1 h4) (by omega), h⟩
theorem J9 {n c s q : Int} (hq : q = n * c / s) (h1 : 0 <= n) (h2 : 0 < s) (h3 : s <= 1152921504606846976) (h4 : 0 <= c) :
 oT (oT (oT n * oT c) - oT (oT q * oT s)) = n * c % s := by
 show IntKind.u64.wrap (IntKind.u64.wrap (IntKind.u64.wrap n * IntKind.u64.wrap c) - IntKind.u64.wrap (IntKind.u64.wrap q * IntKind.u64.wrap s)) = n * c % s; simp only [mL]; rw [<- Int.mul_emod, <- Int.mul_emod, <- Int.sub_emod]; have e := Int.mul_ediv_add_emod (n * c) s; have a := Int.emod_nonneg (n * c) (show s ≠ 0 by omega); have b := Int.emod_lt_of_pos (n * c) h2; rw [<- hq] at e; rw [show n * c - q * s = n * c % s by rw [Int.mul_comm q s]; omega]; exact Int.emod_eq_of_lt a (by omega)
theorem Ba {α : Type} (pre done : List α) (x y : α) (rest : List α) (h : done.length = pre.length) : List.set (done ++ x :: rest) pre.length y = done ++ y :: rest := by rw [<- h]; simp
def NF : aF := ⟨T92.tab, 128, ⟨[.ints .i64], [], 0⟩, ⟨[.int .i64, .bool], [], 0⟩, []⟩
abbrev zp : Type := Int × List Int × Int × Int
def sy (m : Nat) (k : zp -> Option (List Un)) : zp -> Option (List Un) := fun (a0, a1, a2, a3) =>
 bif decide (a3 < a2) then
 chk (inb a3 a1.length) <|
 chk (decide (a3.toNat < a1.length)) <|
 bif (decide ((a1.getD a3.toNat 0) < 0)) then
 some ([.i 0, .b false])
 else
 bif (decide ((a1.getD a3.toNat 0) > (w64 (1152921504606846976 - a0)))) then
 some ([.i 0, .b false])
 else
 k ((w64 (a0 + (a1.getD a3.toNat 0))), a1, a2, (w64 (a3 + 1)))
 else
 some ([.i a0, .b true])
def qw (m : Nat) : Nat -> zp -> Option (List Un) := bj (sy m)
theorem rV (m : Nat) (n : Nat) : qw m (n + 1) = sy m (qw m n) := rfl
def Dy (F : zp -> Option (List Un)) : aR := ⟨[.lp [0, 1, 0, 1, 1], .blk 0, .code [1, 1, 1]], ⟨frm 26 [(4, .int .i64), (7, .ints .i64), (8, .int .i64), (9, .int .i64)], [], 0⟩, onU F⟩
theorem OK (m : Nat) : ∀ n, HO NF (Dy (qw m n)) := au ag T92.right (fun k => [Dy k]) (fun k h => (aH h aE)) fun k a => by kernel_rfl
def t128 (m : Nat) : List Int -> Option (List Un) := fun a0 =>
 qw m m (0, a0, (a0.length : Int), 0)
theorem Lm (m : Nat) : ∀ (rest pre : List Int) (s : Int) (n : Nat), rest.length < n -> 0 <= s -> s <= 1152921504606846976 -> (pre ++ rest).length < 1099511627776 ->
 qw m n (s, pre ++ rest, ((pre ++ rest).length : Int), (pre.length : Int)) = some [.i (oy rest s).1, .b (oy rest s).2] := by
 intro rest
 induction rest with
 | nil =>
  intro pre s n hn h1 h2 h3; obtain ⟨n, rfl⟩ := al n (by simp at hn; omega); rw [rV]; unfold sy; dsimp only; simp [aw, oy]
 | cons x rest ih =>
  intro pre s n hn h1 h2 h3; obtain ⟨n, rfl⟩ := al n (by simp at hn; omega); simp only [List.length_append, List.length_cons] at h3 hn; rw [rV]; unfold sy; dsimp only; simp only [oy]
  by_cases c1 : x < 0
  · rw [decide_eq_true c1, Bool.true_or, cond_true]; simp (disch := omega) only [TRa, TRi, aa, LNl, LNi, Int.cast_ofNat_Int, cr]
  · by_cases c2 : x > 1152921504606846976 - s
    · rw [decide_eq_true c2, Bool.or_true, cond_true]; simp (disch := omega) only [TRa, TRi, aa, LNl, LNi, Int.cast_ofNat_Int, cr]
    · rw [decide_eq_false c1, decide_eq_false c2, Bool.false_or, cond_false]; have := ih (pre ++ [x]) (s + x) n (by omega) (by omega) (by omega) (by simp; omega); simp (disch := omega) only [TRa, TRi, aa, LNl, LNi, Int.cast_ofNat_Int, cr]; simp only [LNl, LNi, Int.cast_ofNat_Int] at this ⊢; exact this
def f128 : List Int -> Bool × List Un := fun a0 => (decide (a0.length < 1099511627776), [.i (gU a0), .b (kG a0)])
theorem Kx (a0 : List Int) (hc : (decide (a0.length < 1099511627776)) = true) : ∃ m, t128 m a0 = some ([.i (gU a0), .b (kG a0)]) := by
 exact ⟨a0.length + 1, Lm _ a0 [] 0 _ (by omega) (by omega) (by omega) (by simpa using of_decide_eq_true hc)⟩
theorem GJ : ER 128 (mkE NF.en NF.ex f128) := ar ag T92.right (fun m => [Dy (qw m m)]) (t := t128) (by kernel_rfl) (fun m => (aH (OK m m) aE)) (fun m a => by kernel_rfl) fun a0 hc => Kx a0 hc
def LA : Tb Tryz.prog LQ TE := T92.add 128 _ GJ
def OM : aF := ⟨LA.tab, 172, ⟨[.int .i64, .int .i64, .ints .i64], [], 0⟩, ⟨[.buf 0 1, .buf 1 1], [.ints .i64, .ints .u64], 0⟩, []⟩
abbrev yH : Type := Int × Int × List Int × Int × Int × List Int × List Int
def sC (m : Nat) (k : yH -> Option (List Un)) : yH -> Option (List Un) := fun (a0, a1, a2, a3, a4, a5, a6) =>
 bif decide (a4 < a3) then
 chk (inb a4 a2.length) <|
 chk (decide (a4.toNat < a2.length)) <|
 chk (inb a4 a5.length) <|
 chk (decide (a4.toNat < a5.length)) <|
 lt ((List.set a5 a4.toNat (mdV a0 (a2.getD a4.toNat 0) a1 0)) : List Int) fun l5 =>
 chk (inb a4 l5.length) <|
 chk (decide (a4.toNat < l5.length)) <|
 chk (inb a4 a6.length) <|
 chk (decide (a4.toNat < a6.length)) <|
 k (a0, a1, a2, a3, (w64 (a4 + 1)), l5, (List.set a6 a4.toNat (oT ((oT ((oT a0) * (oT (a2.getD a4.toNat 0)))) - (oT ((oT (l5.getD a4.toNat 0)) * (oT a1)))))))
 else
 some ([.l a5, .l a6])
def qk (m : Nat) : Nat -> yH -> Option (List Un) := bj (sC m)
theorem qZ (m : Nat) (n : Nat) : qk m (n + 1) = sC m (qk m n) := rfl
def DH (F : yH -> Option (List Un)) : aR := ⟨[.lp [0, 1, 0, 1, 1], .blk 0, .code [1, 1, 1]], ⟨frm 55 [(0, .int .i64), (1, .int .i64), (8, .buf 0 1), (9, .buf 1 1), (18, .ints .i64), (19, .int .i64), (20, .int .i64)], [.ints .i64, .ints .u64], 0⟩, onU F⟩
theorem ON (m : Nat) : ∀ n, HO OM (DH (qk m n)) := au ag LA.right (fun k => [DH k]) (fun k h => (aH h aE)) fun k a => by kernel_rfl
def t172 (m : Nat) : Int × Int × List Int -> Option (List Un) := fun (a0, a1, a2) =>
 chk (jJ (a2.length : Int) 8) <|
 chk (jJ (a2.length : Int) 8) <|
 qk m m (a0, a1, a2, (a2.length : Int), 0, (List.replicate a2.length 0), (List.replicate a2.length 0))
theorem Px (m : Nat) (a s : Int) (h1 : 0 <= a) (h2 : a < s) (h3 : s <= 1152921504606846976) : ∀ (rest pre d1 d2 : List Int) (n : Nat), rest.length < n -> d1.length = pre.length -> d2.length = pre.length -> (∀ x ∈ rest, 0 <= x /\ x <= 1152921504606846976) -> (pre ++ rest).length < 1099511627776 ->
 qk m n (a, s, pre ++ rest, ((pre ++ rest).length : Int), (pre.length : Int), d1 ++ List.replicate rest.length 0, d2 ++ List.replicate rest.length 0) = some [.l (d1 ++ bG a s rest), .l (d2 ++ iL a s rest)] := by
 intro rest
 induction rest with
 | nil =>
  intro pre d1 d2 n hn p1 p2 hb h4; obtain ⟨n, rfl⟩ := al n (by simp at hn; omega); rw [qZ]; unfold sC; dsimp only; simp [aw, bG, iL]
 | cons x rest ih =>
  intro pre d1 d2 n hn p1 p2 hb h4; obtain ⟨n, rfl⟩ := al n (by simp at hn; omega); simp only [List.length_append, List.length_cons] at h4 hn; rw [qZ]; unfold sC; dsimp only; simp only [List.length_cons, List.replicate_succ]; have hx := hb x (by simp); obtain ⟨e1, _, _, _⟩ := PW h1 h2 h3 hx.1 hx.2; have := ih (pre ++ [x]) (d1 ++ [a * x / s]) (d2 ++ [a * x % s]) n (by omega) (by simp; omega) (by simp; omega) (fun y hy => hb y (by simp [hy])) (by simp; omega); have le := J9 (n := a) (c := x) (s := s) rfl h1 (by omega) h3 hx.1; simp (disch := omega) only [TRa, TRi, aa, LNl, LNi, Int.cast_ofNat_Int, cr, e1, Ba _ _ _ _ _ p1, wW _ _ _ _ _ p1, Ba _ _ _ _ _ p2]; rw [le]; simp only [LNl, LNi, Int.cast_ofNat_Int] at this ⊢; refine this.trans ?_
  simp [bG, iL]
def f172 : Int × Int × List Int -> Bool × List Un := fun (a0, a1, a2) => (decide (0 <= a0 /\ a0 < a1 /\ a1 <= 1152921504606846976 /\ a2.length < 1099511627776) && pM a2, [.l (bG a0 a1 a2), .l (iL a0 a1 a2)])
theorem Mv (a0 : Int) (a1 : Int) (a2 : List Int) (hc : (decide (0 <= a0 /\ a0 < a1 /\ a1 <= 1152921504606846976 /\ a2.length < 1099511627776) && pM a2) = true) : ∃ m, t172 m (a0, a1, a2) = some ([.l (bG a0 a1 a2), .l (iL a0 a1 a2)]) := by
 simp only [Bool.and_eq_true, decide_eq_true_eq, tx] at hc; obtain ⟨⟨h1, h2, h3, h4⟩, hb⟩ := hc; refine ⟨a2.length + 1, ?_⟩; unfold t172; simp (disch := omega) only [TRa, TRi, aa]; exact Px (a2.length + 1) a0 a1 h1 h2 h3 a2 [] [] [] (a2.length + 1) (by omega) rfl rfl hb (by simpa using h4)
theorem HN : ER 172 (mkE OM.en OM.ex f172) := ar ag LA.right (fun m => [DH (qk m m)]) (t := t172) (by kernel_rfl) (fun m => (aH (ON m m) aE)) (fun m a => by kernel_rfl) fun (a0, a1, a2) hc => Mv a0 a1 a2 hc
def Ge : Tb Tryz.prog LQ TE := LA.add 172 _ HN
def FK : aF := ⟨Ge.tab, 166, ⟨[.int .i64, .ints .i64], [], 0⟩, ⟨[.buf 0 1], [.ints .i64], 0⟩, []⟩
abbrev Ax : Type := Int × Int × Int × Int × List Int × List Int
abbrev ly : Type := Int × List Int × List Int
abbrev zU : Type := Int × Int × Int × List Int × List Int
def sn (m : Nat) (k1 : ly -> Option (List Un)) (k : Ax -> Option (List Un)) : Ax -> Option (List Un) := fun (a0, a1, a2, a3, a4, a5) =>
 bif decide (a3 < a2) then
 chk (inb a3 a5.length) <|
 chk (decide (a3.toNat < a5.length)) <|
 chk (inb a1 a5.length) <|
 chk (decide (a1.toNat < a5.length)) <|
 bif (decide ((a5.getD a3.toNat 0) > (a5.getD a1.toNat 0))) then
 k (a0, a3, a2, (w64 (a3 + 1)), a4, a5)
 else
 k (a0, a1, a2, (w64 (a3 + 1)), a4, a5)
 else
 chk (inb a1 a4.length) <|
 chk (decide (a1.toNat < a4.length)) <|
 chk (inb a1 a4.length) <|
 chk (decide (a1.toNat < a4.length)) <|
 chk (inb a1 a5.length) <|
 chk (decide (a1.toNat < a5.length)) <|
 k1 ((w64 (a0 - 1)), (List.set a4 a1.toNat (w64 ((a4.getD a1.toNat 0) + 1))), (List.set a5 a1.toNat 0))
def pP (m : Nat) (k1 : ly -> Option (List Un)) : Nat -> Ax -> Option (List Un) := bj (sn m k1)
theorem se (m : Nat) (k1 : ly -> Option (List Un)) (n : Nat) : pP m k1 (n + 1) = sn m k1 (pP m k1 n) := rfl
def D1 (F : Ax -> Option (List Un)) : aR := ⟨[.lp [0, 1, 0, 1, 0, 0, 1, 0, 0, 0, 1, 1, 1, 1, 1, 1, 1, 1], .blk 4, .code [1, 1, 0, 0, 1, 0, 0, 0, 1, 1, 1, 1, 1, 1, 1, 1], .blk 3, .code [1, 1, 0, 0, 0, 1, 1, 1, 1, 1, 1, 1, 1], .lp [0, 0, 1, 1, 1, 1, 1, 1, 1, 1], .blk 2, .code [1, 1, 1, 1, 1, 1, 1, 1, 1]], ⟨frm 80 [(7, .buf 0 1), (8, .buf 1 1), (9, .int .i64), (12, .int .i64), (55, .int .i64), (56, .int .i64)], [.ints .i64, .ints .u64], 0⟩, onU F⟩
def sP (m : Nat) (k : ly -> Option (List Un)) : ly -> Option (List Un) := fun (a0, a1, a2) =>
 bif decide (a0 > 0) then
 pP m k m (a0, 0, (a2.length : Int), 0, a1, a2)
 else
 some ([.l a1])
def mD (m : Nat) : Nat -> ly -> Option (List Un) := bj (sP m)
theorem rX (m : Nat) (n : Nat) : mD m (n + 1) = sP m (mD m n) := rfl
def yZ (F : ly -> Option (List Un)) : aR := ⟨[.lp [0, 0, 1, 1, 1, 1, 1, 1, 1, 1], .blk 2, .code [1, 1, 1, 1, 1, 1, 1, 1, 1]], ⟨frm 80 [(7, .buf 0 1), (8, .buf 1 1), (9, .int .i64)], [.ints .i64, .ints .u64], 0⟩, onU F⟩
def ti (m : Nat) (k : zU -> Option (List Un)) : zU -> Option (List Un) := fun (a0, a1, a2, a3, a4) =>
 bif decide (a2 < a1) then
 chk (inb a2 a3.length) <|
 chk (decide (a2.toNat < a3.length)) <|
 k ((w64 (a0 - (a3.getD a2.toNat 0))), a1, (w64 (a2 + 1)), a3, a4)
 else
 mD m m (a0, a3, a4)
def qi (m : Nat) : Nat -> zU -> Option (List Un) := bj (ti m)
theorem rn (m : Nat) (n : Nat) : qi m (n + 1) = ti m (qi m n) := rfl
def DC (F : zU -> Option (List Un)) : aR := ⟨[.lp [0, 1, 0, 1, 1, 1, 1, 1, 1, 1], .blk 0, .code [1, 1, 1, 1, 1, 1, 1, 1]], ⟨frm 80 [(7, .buf 0 1), (8, .buf 1 1), (9, .int .i64), (40, .buf 0 1), (41, .int .i64), (42, .int .i64)], [.ints .i64, .ints .u64], 0⟩, onU F⟩
theorem PQ (m : Nat) (k1 : ly -> Option (List Un)) (h1 : HO FK (yZ k1)) : ∀ n, HO FK (D1 (pP m k1 n)) := au ag Ge.right (fun k => [yZ k1, D1 k]) (fun k h => (aH h1 (aH h aE))) fun k a => by kernel_rfl
theorem Nm (m : Nat) : ∀ n, HO FK (yZ (mD m n)) := au ag Ge.right (fun k => [D1 (pP m (k) m)]) (fun k h => (aH (PQ m _ h m) aE)) fun k a => by kernel_rfl
theorem PO (m : Nat) : ∀ n, HO FK (DC (qi m n)) := au ag Ge.right (fun k => [DC k, yZ (mD m m)]) (fun k h => (aH h (aH (Nm m m) aE))) fun k a => by kernel_rfl
def t166 (m : Nat) : Int × List Int -> Option (List Un) := fun (a0, a1) =>
 chk (decide (a1.length < 1099511627776)) <|
 bif !(kG a1) then
 chk (jJ (a1.length : Int) 8) <|
 some ([.l (List.replicate a1.length 0)])
 else
 lt ((if a0 < 0 then 0 else a0) : Int) fun x2 =>
 bif decide (x2 >= (gU a1)) then
 chk (fits (0 + a1.length) 8) <|
 some ([.l a1])
 else
 chk (decide (0 <= x2 /\ x2 < (gU a1) /\ (gU a1) <= 1152921504606846976 /\ a1.length < 1099511627776) && pM a1) <|
 lt ((bG x2 (gU a1) a1) : List Int) fun l3 =>
 qi m m (x2, (l3.length : Int), 0, l3, (iL x2 (gU a1) a1))
theorem IQ (m : Nat) (k1 : ly -> Option (List Un)) (left : Int) (out lost : List Int) (h1 : 0 < left) (h2 : left < 4611686018427387904) (hl : out.length = lost.length) (hs : lost.length < 1099511627776)
 (hb : ∀ x ∈ out, 0 <= x /\ x < 4611686018427387904) : ∀ (rest pre : List Int) (b n : Nat), rest.length < n -> lost = pre ++ rest -> b < lost.length ->
 pP m k1 n (left, (b : Int), (lost.length : Int), (pre.length : Int), out, lost) =
  k1 (left - 1, out.set (jC lost rest pre.length b) (out.getD (jC lost rest pre.length b) 0 + 1), lost.set (jC lost rest pre.length b) 0) := by
 intro rest
 induction rest with
 | nil =>
  intro pre b n hn he hlt; obtain ⟨n, rfl⟩ := al n (by simp at hn; omega); have hp : pre.length = lost.length := by rw [he]; simp
  have hm := hb _ (jg (l := out) (i := b) (by omega)); rw [se]; unfold sn; dsimp only; simp only [jC, Int.toNat_natCast]; simp (disch := omega) only [TRa, TRi, aa]
 | cons x rest ih =>
  intro pre b n hn he hlt; obtain ⟨n, rfl⟩ := al n (by simp at hn; omega); have hp : lost.length = pre.length + (rest.length + 1) := by rw [he]; simp
  have hg : lost.getD pre.length 0 = x := by rw [he]; simp
  rw [se]; unfold sn; dsimp only; simp only [jC, Int.toNat_natCast, hg]; have i1 := ih (pre ++ [x]) pre.length n (by simp at hn; omega) (by rw [he]; simp) (by omega); have i2 := ih (pre ++ [x]) b n (by simp at hn; omega) (by rw [he]; simp) hlt; simp only [List.length_append, List.length_cons, List.length_nil, Int.natCast_add, Nat.zero_add, Int.cast_ofNat_Int] at i1 i2
  by_cases c : x > lost.getD b 0
  · simp (disch := omega) only [TRa, TRi, aa]; exact i1
  · simp (disch := omega) only [TRa, TRi, aa]; exact i2
theorem HI (m : Nat) : ∀ (k : Nat) (left : Int) (out lost : List Int) (n : Nat), left.toNat = k -> k < n -> left < 4611686018427387904 -> out.length = lost.length -> lost.length < 1099511627776 -> lost.length < m -> lost ≠ [] -> (∀ x ∈ out, 0 <= x /\ x + left < 4611686018427387904) ->
 mD m n (left, out, lost) = some [.l (gK 0 k out lost)] := by
 intro k
 induction k with
 | zero =>
  intro left out lost n hk hn h2 hl hs hm hne hb; obtain ⟨n, rfl⟩ := al n (by omega); rw [rX]; unfold sP; dsimp only; simp only [gK]; rw [aw (by omega)]
 | succ k ih =>
  intro left out lost n hk hn h2 hl hs hm hne hb; obtain ⟨n, rfl⟩ := al n (by omega); rw [rX]; unfold sP; dsimp only; have hB := kL hne; rw [ba (by omega)]; have := IQ m (mD m n) left out lost (by omega) h2 hl hs (fun x hx => by have := hb x hx; omega) lost [] 0 m hm rfl (List.length_pos_iff.2 hne); simp only [List.length_nil, Int.natCast_zero] at this; refine this.trans ?_
  have hq := hb _ (jg (l := out) (i := dC lost) (by omega)); rw [show jC lost lost 0 0 = dC lost from rfl]; refine ih _ _ _ _ (by omega) (by omega) (by omega) (by simp [hl]) (by simpa using hs) (by simpa using hm) (by intro h; simp at h; exact hne h) (fun x hx => ?_); rcases List.mem_or_eq_of_mem_set hx with h | h
  · have := hb x h; omega
  · omega
theorem RF (m : Nat) (lost : List Int) : ∀ (rest pre : List Int) (left : Int) (n : Nat), rest.length < n -> (∀ x ∈ rest, 0 <= x /\ x <= 1152921504606846976) -> -1152921504606846976 <= left - rest.sum -> left <= 1152921504606846976 -> (pre ++ rest).length < 1099511627776 ->
 qi m n (left, ((pre ++ rest).length : Int), (pre.length : Int), pre ++ rest, lost) = mD m m (left - rest.sum, pre ++ rest, lost) := by
 intro rest
 induction rest with
 | nil =>
  intro pre left n hn hb h1 h2 h3; obtain ⟨n, rfl⟩ := al n (by simp at hn; omega); rw [rn]; unfold ti; dsimp only; simp [aw]
 | cons x rest ih =>
  intro pre left n hn hb h1 h2 h3; obtain ⟨n, rfl⟩ := al n (by simp at hn; omega); simp only [List.length_append, List.length_cons] at h3 hn; have hx := hb x (by simp); have hs := ev rest (fun y hy => (hb y (by simp [hy])).1); rw [List.sum_cons] at h1 ⊢; rw [rn]; unfold ti; dsimp only; have := ih (pre ++ [x]) (left - x) n (by omega) (fun y hy => hb y (by simp [hy])) (by omega) (by omega) (by simp; omega); rw [show left - (x + rest.sum) = left - x - rest.sum by omega]; simp (disch := omega) only [TRa, TRi, aa, LNl, LNi, Int.cast_ofNat_Int, cr]; simp only [LNl, LNi, Int.cast_ofNat_Int] at this ⊢; exact this
def f166 : Int × List Int -> Bool × List Un := fun (a0, a1) => (decide (a0 <= 9223372036854775807 /\ a1.length < 1099511627776), [.l (cC a0 a1)])
theorem JS (a0 : Int) (a1 : List Int) (hc : (decide (a0 <= 9223372036854775807 /\ a1.length < 1099511627776)) = true) : ∃ m, t166 m (a0, a1) = some ([.l (cC a0 a1)]) := by
 obtain ⟨h1, h2⟩ := of_decide_eq_true hc; clear hc; refine ⟨1152921504606846976 + a1.length + 2, ?_⟩; unfold t166 cC; dsimp only; rw [aG h2]; cases hok : kG a1 with
 | false =>
  simp only [Bool.not_false, cond_true]; simp (disch := omega) only [TRa, TRi, aa]
 | true =>
  simp only [Bool.not_true, cond_false]; obtain ⟨hb, hs, hs2⟩ := kC hok; simp only [lt_eq]; rw [lC a0 0]; generalize hn : max a0 0 = a; have ha : 0 <= a := by omega
  have hr : pM a1 = true := tx.2 hb
  by_cases hge : a >= gU a1
  · simp only [show decide (a >= gU a1) = true by simpa using hge, cond_true]; simp (disch := omega) only [TRa, TRi, aa, Nat.zero_add]
  · simp only [show decide (a >= gU a1) = false by simpa using hge, cond_false]; obtain ⟨f1, f2, f3⟩ := AH (l := a1) ha (show a < gU a1 by omega) hb; have hlf : (bG a (gU a1) a1).length = a1.length := by simp [bG]
    have hlr : (iL a (gU a1) a1).length = a1.length := by simp [iL]
    have hne : a1 ≠ [] := by rintro rfl; simp at hs; omega
    have e1 := RF (1152921504606846976 + a1.length + 2) (iL a (gU a1) a1) (bG a (gU a1) a1) [] a (1152921504606846976 + a1.length + 2) (by omega) f1 (by omega) (by omega) (by simp; omega); have e2 := HI (1152921504606846976 + a1.length + 2) _ (a - (bG a (gU a1) a1).sum) (bG a (gU a1) a1) (iL a (gU a1) a1) (1152921504606846976 + a1.length + 2) rfl (by omega) (by omega) (by omega) (by omega) (by omega)
     (by intro h; have := congrArg List.length h; rw [hlr] at this; exact hne (List.eq_nil_of_length_eq_zero this)) (fun x hx => by have := f1 x hx; omega)
    rw [hr, Bool.and_true]; simp (disch := omega) only [aG]; exact e1.trans e2
theorem IV : ER 166 (mkE FK.en FK.ex f166) := ar ag Ge.right (fun m => [DC (qi m m)]) (t := t166) (by kernel_rfl) (fun m => (aH (PO m m) aE)) (fun m a => by kernel_rfl) fun (a0, a1) hc => JS a0 a1 hc
def I9 : Tb Tryz.prog LQ TE := Ge.add 166 _ IV
end
end Go.Proofs.YtdbkoeefnodejaaGreat
namespace Go.Proofs.YtdbkoeefnodejaaGreat
noncomputable section
open Go Go.Proofs.YtdbkoeefnodejaaGreat.Ev
set_option maxRecDepth 20000
@[ext] structure bm where
 aA : Int
 fee : Int
 bM : Int
 av : Int
 room : Int
instance : Uns bm := Uns.via (B := Int × Int × Int × Int × Int) (fun x => (x.aA, x.fee, x.bM, x.av, x.room)) (fun x => match x with | (aA, fee, bM, av, room) => ⟨aA, fee, bM, av, room⟩) (fun _ => rfl)
def isN : Dat -> Bool
 | .n _ => true
 | .r _ => false
def lK (k : Nat) : Dat -> Bool
 | .r l => l.length == k && l.all isN
 | .n _ => false
theorem Dk : ∀ {d : Dat}, isN d = true -> d = .n d.int
 | .n _, _ => rfl
 | .r _, h => by cases h
theorem Cy {d : Dat} (h : lK 3 d = true) : d = .r [.n (d.i 0), .n (d.i 1), .n (d.i 2)] := by
 match d, h with
 | .r [a, b, c], h =>
  simp [lK] at h; obtain ⟨h1, h2, h3⟩ := h; show Dat.r [a, b, c] = .r [.n a.int, .n b.int, .n c.int]; rw [<- Dk h1, <- Dk h2, <- Dk h3]
 | .r [], h => simp [lK] at h
 | .r [a], h => simp [lK] at h
 | .r [a, b], h => simp [lK] at h
 | .r (a :: b :: c :: d :: l), h => simp [lK] at h
def jQ (d : Dat) : Bool := lK 3 d && decide (0 <= d.i 1 /\ d.i 1 <= 1125899906842624 /\ 0 <= d.i 2 /\ d.i 2 <= 1125899906842624)
theorem cv {d : Dat} (h : jQ d = true) : lK 3 d = true /\ 0 <= d.i 1 /\ d.i 1 <= 1125899906842624 /\ 0 <= d.i 2 /\ d.i 2 <= 1125899906842624 := by
 simp only [jQ, Bool.and_eq_true, decide_eq_true_eq] at h; exact h
def aV (c : List Dat) : Bool := decide (c.length <= 1000) && c.all jQ
theorem bP {c : List Dat} (h : aV c = true) : c.length <= 1000 /\ ∀ d ∈ c, jQ d = true := by
 simp only [aV, Bool.and_eq_true, decide_eq_true_eq, List.all_eq_true] at h; exact h
theorem vG {c : List Dat} (h1 : c.length <= 1000) (h2 : ∀ d ∈ c, jQ d = true) : aV c = true := by
 simp only [aV, Bool.and_eq_true, decide_eq_true_eq, List.all_eq_true]; exact ⟨h1, h2⟩
def cn (j : Nat) (x : Int) (d : Dat) : Dat := if j = 1 then .r [.n (d.i 0), .n (d.i 1 - x), .n (d.i 2)] else .r [.n (d.i 0), .n (d.i 1), .n (d.i 2 - x)]
def bQ (j : Nat) : List Int -> List Dat -> List Dat
 | x :: xs, d :: c => cn j x d :: bQ j xs c
 | _, _ => []
def bL (at_ kind : Int) : Int -> List Int -> List Dat
 | _, [] => []
 | i, x :: xs => (if 0 < x then [.r [.n at_, .n kind, .n i, .n x]] else []) ++ bL at_ kind (i + 1) xs
def jZ (at_ kind n : Int) : List Dat := if 0 < n then [.r [.n at_, .n kind, .n (-1), .n n]] else []
def az (sel : Dat -> Bool) (j : Nat) (n : Int) (c : List Dat) : List Int := cC n (c.map fun d => bif sel d then d.i j else 0)
def aM (r : Int) (d : Dat) : Bool := d.i 0 == r
def bx (at_ kind : Int) : Nat -> Int -> Int -> List Dat -> List Dat × List Dat × Int
 | 0, _, _, c => (c, [], 0)
 | k + 1, r, n, c =>
  ((bx at_ kind k (r + 1) (n - (az (aM r) 1 n c).sum) (bQ 1 (az (aM r) 1 n c) c)).1,
   bL at_ kind 0 (az (aM r) 1 n c) ++ (bx at_ kind k (r + 1) (n - (az (aM r) 1 n c).sum) (bQ 1 (az (aM r) 1 n c) c)).2.1,
   (az (aM r) 1 n c).sum + (bx at_ kind k (r + 1) (n - (az (aM r) 1 n c).sum) (bQ 1 (az (aM r) 1 n c) c)).2.2)
def dw (at_ kind rank : Int) (x : bm) (c : List Dat) : bm × List Dat × List Dat :=
 if kind = 1 then ({ x with aA := x.aA - min x.fee x.aA, fee := x.fee - min x.fee x.aA }, c, jZ at_ kind (min x.fee x.aA))
 else if kind = 2 then ({ x with aA := x.aA - min x.bM x.aA, bM := x.bM - min x.bM x.aA }, c, jZ at_ kind (min x.bM x.aA))
 else if kind = 6 then ({ x with aA := x.aA - min x.room x.aA, room := x.room - min x.room x.aA }, c, jZ at_ kind (min x.room x.aA))
 else if kind = 3 then ({ x with aA := x.aA - (az (aM rank) 2 x.aA c).sum }, bQ 2 (az (aM rank) 2 x.aA c) c, bL at_ kind 0 (az (aM rank) 2 x.aA c))
 else if kind = 4 then ({ x with aA := x.aA - (bx at_ kind 8 0 (min x.av x.aA) c).2.2, av := x.av - (bx at_ kind 8 0 (min x.av x.aA) c).2.2 }, (bx at_ kind 8 0 (min x.av x.aA) c).1, (bx at_ kind 8 0 (min x.av x.aA) c).2.1)
 else if kind = 5 then ({ x with aA := x.aA - (az (fun _ => true) 1 (min x.av x.aA) c).sum, av := x.av - (az (fun _ => true) 1 (min x.av x.aA) c).sum }, bQ 1 (az (fun _ => true) 1 (min x.av x.aA) c) c, bL at_ kind 0 (az (fun _ => true) 1 (min x.av x.aA) c))
 else if kind = 7 then ({ x with aA := x.aA - (bx at_ kind 8 0 x.aA c).2.2 }, (bx at_ kind 8 0 x.aA c).1, (bx at_ kind 8 0 x.aA c).2.1)
 else (x, c, [])
def dI : Int -> List Dat -> bm -> List Dat -> bm × List Dat × List Dat
 | _, [], x, c => (x, c, [])
 | at_, s :: l, x, c => ((dI (at_ + 1) l (dw at_ (s.i 0) (s.i 1) x c).1 (dw at_ (s.i 0) (s.i 1) x c).2.1).1, (dI (at_ + 1) l (dw at_ (s.i 0) (s.i 1) x c).1 (dw at_ (s.i 0) (s.i 1) x c).2.1).2.1, (dw at_ (s.i 0) (s.i 1) x c).2.2 ++ (dI (at_ + 1) l (dw at_ (s.i 0) (s.i 1) x c).1 (dw at_ (s.i 0) (s.i 1) x c).2.1).2.2)
def ns (x : bm) : Bool := decide ((0 <= x.aA /\ x.aA <= 1152921504606846976) /\ (0 <= x.fee /\ x.fee <= 1152921504606846976) /\ (0 <= x.bM /\ x.bM <= 1152921504606846976) /\ (0 <= x.av /\ x.av <= 1152921504606846976) /\ (0 <= x.room /\ x.room <= 1152921504606846976))
theorem px {x : bm} (h : ns x = true) : (0 <= x.aA /\ x.aA <= 1152921504606846976) /\ (0 <= x.fee /\ x.fee <= 1152921504606846976) /\ (0 <= x.bM /\ x.bM <= 1152921504606846976) /\ (0 <= x.av /\ x.av <= 1152921504606846976) /\ (0 <= x.room /\ x.room <= 1152921504606846976) := of_decide_eq_true h
def Ep (sel : Dat -> Bool) (j : Nat) (c : List Dat) : Int := (c.map fun d => bif sel d then d.i j else 0).sum
theorem lV {c : List Dat} (sel : Dat -> Bool) {j : Nat} (hj : j = 1 \/ j = 2) (h : aV c = true) : (∀ x ∈ (c.map fun d => bif sel d then d.i j else 0), 0 <= x /\ x <= 1125899906842624) /\ kG (c.map fun d => bif sel d then d.i j else 0) = true /\ 0 <= Ep sel j c /\ Ep sel j c <= 1125899906842624 * c.length := by
 obtain ⟨h1, h2⟩ := bP h; have hb : ∀ x ∈ (c.map fun d => bif sel d then d.i j else 0), 0 <= x /\ x <= 1125899906842624 := by
  intro x hx; obtain ⟨d, hd, rfl⟩ := List.mem_map.1 hx; have := cv (h2 d hd); cases sel d
  · simp only [cond_false]; omega
  · rcases hj with rfl | rfl <;> simp only [cond_true] <;> omega
 have hl : (c.map fun d => bif sel d then d.i j else 0).length = c.length := by simp
 have hm : ((c.map fun d => bif sel d then d.i j else 0).length : Int) * 1125899906842624 <= 1152921504606846976 := by rw [hl]; omega
 have hs := qG _ 1125899906842624 (by decide) hb; rw [hl] at hs; exact ⟨hb, (sQ (by decide) hb hm).2, hs.1, by unfold Ep; omega⟩
theorem Bq {n : Int} {l : List Int} (h : n <= 0) : cC n l = cC 0 l := by
 unfold cC; rw [show max n 0 = max 0 0 by omega]
theorem dX {c : List Dat} (sel : Dat -> Bool) {j : Nat} (hj : j = 1 \/ j = 2) (n : Int) (h : aV c = true) : (az sel j n c).length = c.length /\ (az sel j n c).sum = min (max n 0) (Ep sel j c) /\ ∀ i, i < c.length -> 0 <= (az sel j n c).getD i 0 /\ (az sel j n c).getD i 0 <= bif sel (af c i) then (af c i).i j else 0 := by
 obtain ⟨hb, ho, hw0, hw1⟩ := lV sel hj h; have e : az sel j n c = cC (max n 0) (c.map fun d => bif sel d then d.i j else 0) := by
  by_cases hn : 0 <= n
  · rw [show max n 0 = n by omega]; rfl
  · rw [show max n 0 = 0 by omega]; exact Bq (by omega)
 rw [e]; obtain ⟨h1, h2⟩ := Cr (a := max n 0) (by omega) ho; refine ⟨by rw [uX]; simp, h1, fun i hi => ?_⟩; have := h2 i (by simpa using hi)
 rwa [show (c.map fun d => bif sel d then d.i j else 0).getD i 0 = bif sel (af c i) then (af c i).i j else 0 by simp [List.getD_eq_getElem?_getD, hi, af]] at this
theorem lS (j : Nat) : ∀ (xs : List Int) (c : List Dat), xs.length = c.length -> (bQ j xs c).length = c.length
 | [], [], _ => rfl
 | x :: xs, d :: c, h => by simp [bQ, lS j xs c (by simpa using h)]
 | [], _ :: _, h => by simp at h
 | _ :: _, [], h => by simp at h
theorem mw (j : Nat) : ∀ (xs : List Int) (c : List Dat) (i : Nat), xs.length = c.length -> i < c.length -> af (bQ j xs c) i = cn j (xs.getD i 0) (af c i)
 | [], [], i, _, h => by simp at h
 | x :: xs, d :: c, 0, _, _ => rfl
 | x :: xs, d :: c, i + 1, h, hi => mw j xs c i (by simpa using h) (by simpa using hi)
 | [], _ :: _, _, h, _ => by simp at h
 | _ :: _, [], _, h, _ => by simp at h
theorem l7 {l : List Dat} {d : Dat} (h : d ∈ l) : ∃ i, i < l.length /\ af l i = d := by
 obtain ⟨i, hi, rfl⟩ := List.getElem_of_mem h; exact ⟨i, hi, fp hi⟩
theorem m8 {l : List Dat} {i : Nat} (h : i < l.length) : af l i ∈ l := by rw [fp h]; exact List.getElem_mem h
theorem A7 {d : Dat} {j : Nat} {x : Int} (hj : j = 1 \/ j = 2) (h : jQ d = true) (h0 : 0 <= x) (h1 : x <= d.i j) : jQ (cn j x d) = true := by
 have := cv h; rcases hj with rfl | rfl
 · simp only [cn, if_true, jQ, Bool.and_eq_true, decide_eq_true_eq, ek, gT]; exact ⟨rfl, by omega⟩
 · simp only [cn, show ¬ (2 : Nat) = 1 by decide, if_false, jQ, Bool.and_eq_true, decide_eq_true_eq, ek, gT]; exact ⟨rfl, by omega⟩
theorem oU {c : List Dat} (sel : Dat -> Bool) {j : Nat} (hj : j = 1 \/ j = 2) (n : Int) (h : aV c = true) : aV (bQ j (az sel j n c) c) = true /\ (bQ j (az sel j n c) c).length = c.length := by
 obtain ⟨l1, l2, l3⟩ := dX sel hj n h; obtain ⟨h1, h2⟩ := bP h; have hl := lS j _ c l1; refine ⟨vG (by omega) fun d hd => ?_, hl⟩; obtain ⟨i, hi, rfl⟩ := l7 hd; rw [hl] at hi; rw [mw j _ c i l1 hi]; have := l3 i hi; have hg := h2 _ (m8 hi); refine A7 hj hg this.1 ?_
 have h4 := cv hg; cases hs : sel (af c i) <;> rw [hs] at this
 · rcases hj with rfl | rfl <;> simp only [cond_false] at this <;> omega
 · exact this.2
theorem jo (a k : Int) : ∀ (xs : List Int) (i : Int), (bL a k i xs).length <= xs.length
 | [], i => by simp [bL]
 | x :: xs, i => by
  have := jo a k xs (i + 1); simp only [bL, List.length_append, List.length_cons]
  split <;> simp <;> omega
theorem Df (a k n : Int) : (jZ a k n).length <= 1 := by unfold jZ; split <;> simp
theorem uP (a kd : Int) : ∀ (k : Nat) (r n : Int) (c : List Dat), aV c = true -> aV (bx a kd k r n c).1 = true /\ (bx a kd k r n c).1.length = c.length /\ (bx a kd k r n c).2.1.length <= k * c.length /\ 0 <= (bx a kd k r n c).2.2 /\ (bx a kd k r n c).2.2 <= max n 0
 | 0, r, n, c, h => ⟨h, rfl, by simp [bx], by simp [bx], by simp only [bx]; omega⟩
 | k + 1, r, n, c, h => by
  obtain ⟨g1, g2⟩ := oU (aM r) (j := 1) (.inl rfl) n h; obtain ⟨l1, l2, l3⟩ := dX (aM r) (j := 1) (.inl rfl) n h; obtain ⟨_, _, w0, w1⟩ := lV (aM r) (j := 1) (.inl rfl) h; obtain ⟨i1, i2, i3, i4, i5⟩ := uP a kd k (r + 1) (n - (az (aM r) 1 n c).sum) _ g1; have hp := jo a kd (az (aM r) 1 n c) 0; simp only [bx]; refine ⟨i1, by omega, ?_, by omega, by omega⟩; rw [List.length_append, Nat.add_mul]; rw [g2] at i3; omega
theorem tI (a kd rk : Int) {x : bm} {c : List Dat} (hx : ns x = true) (h : aV c = true) : ns (dw a kd rk x c).1 = true /\ aV (dw a kd rk x c).2.1 = true /\ (dw a kd rk x c).2.1.length = c.length /\ (dw a kd rk x c).2.2.length <= 8000 := by
 have hx' := px hx; have hc := (bP h).1; have p1 := Df a kd; have s2 := fun sel j hj n => dX (c := c) sel (j := j) hj n h
 have w2 := fun sel j hj => (lV (c := c) sel (j := j) hj h).2.2
 have g2 := fun sel j hj n => oU (c := c) sel (j := j) hj n h
 have r2 := fun n => uP a kd 8 0 n c h
 unfold dw
 by_cases k1 : kd = 1
 · rw [if_pos k1]; exact ⟨decide_eq_true (by simp only; omega), h, rfl, by have := p1 (min x.fee x.aA); simp only; omega⟩
 rw [if_neg k1]
 by_cases k1 : kd = 2
 · rw [if_pos k1]; exact ⟨decide_eq_true (by simp only; omega), h, rfl, by have := p1 (min x.bM x.aA); simp only; omega⟩
 rw [if_neg k1]
 by_cases k1 : kd = 6
 · rw [if_pos k1]; exact ⟨decide_eq_true (by simp only; omega), h, rfl, by have := p1 (min x.room x.aA); simp only; omega⟩
 rw [if_neg k1]
 by_cases k1 : kd = 3
 · rw [if_pos k1]; have q1 := s2 (aM rk) 2 (.inr rfl) x.aA; have q2 := w2 (aM rk) 2 (.inr rfl); have q3 := g2 (aM rk) 2 (.inr rfl) x.aA; have q4 := jo a kd (az (aM rk) 2 x.aA c) 0; exact ⟨decide_eq_true (by simp only; omega), q3.1, q3.2, by simp only; omega⟩
 rw [if_neg k1]
 by_cases k1 : kd = 4
 · rw [if_pos k1]; have q := r2 (min x.av x.aA); generalize bx a kd 8 0 (min x.av x.aA) c = y at *
   exact ⟨decide_eq_true (by simp only; omega), q.1, q.2.1, by simp only; omega⟩
 rw [if_neg k1]
 by_cases k1 : kd = 5
 · rw [if_pos k1]; have q1 := s2 (fun _ => true) 1 (.inl rfl) (min x.av x.aA); have q2 := w2 (fun _ => true) 1 (.inl rfl); have q3 := g2 (fun _ => true) 1 (.inl rfl) (min x.av x.aA); have q4 := jo a kd (az (fun _ => true) 1 (min x.av x.aA) c) 0; exact ⟨decide_eq_true (by simp only; omega), q3.1, q3.2, by simp only; omega⟩
 rw [if_neg k1]
 by_cases k1 : kd = 7
 · rw [if_pos k1]; have q := r2 x.aA; generalize bx a kd 8 0 x.aA c = y at *
   exact ⟨decide_eq_true (by simp only; omega), q.1, q.2.1, by simp only; omega⟩
 rw [if_neg k1]; exact ⟨hx, h, rfl, by simp⟩
theorem ET : ∀ (l : List Dat) (a : Int) (x : bm) (c : List Dat), ns x = true -> aV c = true -> ns (dI a l x c).1 = true /\ aV (dI a l x c).2.1 = true /\ (dI a l x c).2.1.length = c.length /\ (dI a l x c).2.2.length <= 8000 * l.length
 | [], a, x, c, hx, h => ⟨hx, h, rfl, by simp [dI]⟩
 | s :: l, a, x, c, hx, h => by
  obtain ⟨h1, h2, h3, h4⟩ := tI a (s.i 0) (s.i 1) hx h; obtain ⟨i1, i2, i3, i4⟩ := ET l (a + 1) _ _ h1 h2; simp only [dI, List.length_append, List.length_cons]; exact ⟨i1, i2, by omega, by omega⟩
def gB (sel : Dat -> Bool) : Int -> List Dat -> List Int
 | _, [] => []
 | i, d :: c => bif sel d then i :: gB sel (i + 1) c else gB sel (i + 1) c
def dt (sel : Dat -> Bool) (j : Nat) : List Dat -> List Int
 | [] => []
 | d :: c => bif sel d then d.i j :: dt sel j c else dt sel j c
def kD (j : Nat) : List Int -> List Int -> List Dat -> List Dat
 | w :: ws, x :: xs, c => kD j ws xs (c.set w.toNat (cn j x (af c w.toNat)))
 | _, _, c => c
def sg (at_ kind : Int) : List Int -> List Int -> List Dat
 | w :: ws, x :: xs => (if 0 < x then [.r [.n at_, .n kind, .n w, .n x]] else []) ++ sg at_ kind ws xs
 | _, _ => []
theorem FE {j : Nat} {d : Dat} (h : lK 3 d = true) : cn j 0 d = d := by
 have e := Cy h; unfold cn; rw [Int.sub_zero, Int.sub_zero, <- e]
 split <;> rfl
theorem mX (sel : Dat -> Bool) (j : Nat) : ∀ (rest pre : List Dat) (xs : List Int), xs.length = bF (rest.map sel) -> (∀ d ∈ rest, lK 3 d = true) ->
 kD j (gB sel pre.length rest) xs (pre ++ rest) = pre ++ bQ j (bE (rest.map sel) xs) rest
 | [], pre, xs, h, _ => by rw [List.eq_nil_of_length_eq_zero h]; simp [gB, kD, bQ, bE]
 | d :: rest, pre, xs, h, hr => by
  have ih := fun xs h y => mX sel j rest (pre ++ [y]) xs h (fun z hz => hr z (by simp [hz]))
  simp only [List.length_append, List.length_cons, List.length_nil, List.append_assoc, List.cons_append, List.nil_append, Int.natCast_add, Int.cast_ofNat_Int, Nat.zero_add] at ih; simp only [List.map_cons] at h; cases hs : sel d
  · rw [hs] at h; simp only [gB, hs, cond_false, List.map_cons, bE, bQ]; rw [FE (hr d (by simp)), <- ih xs h d]
  · rw [hs] at h; cases xs with
    | nil => simp [bF] at h
    | cons x xs =>
     simp only [gB, hs, cond_true, List.map_cons, bE, bQ, kD, Int.toNat_natCast, tf, ao, List.headD_cons, List.tail_cons]; exact ih xs (by simpa [bF] using h) _
theorem oK (a k : Int) (sel : Dat -> Bool) : ∀ (rest : List Dat) (i : Int) (xs : List Int), xs.length = bF (rest.map sel) -> sg a k (gB sel i rest) xs = bL a k i (bE (rest.map sel) xs)
 | [], i, xs, h => by rw [List.eq_nil_of_length_eq_zero h]; rfl
 | d :: rest, i, xs, h => by
  have ih := fun xs h => oK a k sel rest (i + 1) xs h
  simp only [List.map_cons] at h; cases hs : sel d
  · rw [hs] at h; simp only [gB, hs, cond_false, List.map_cons, bE, bL]; rw [ih xs h]; rfl
  · rw [hs] at h; cases xs with
    | nil => simp [bF] at h
    | cons x xs =>
     simp only [gB, hs, cond_true, List.map_cons, bE, bL, sg, List.headD_cons, List.tail_cons]; rw [ih xs (by simpa [bF] using h)]
theorem xw (sel : Dat -> Bool) (j : Nat) : ∀ c : List Dat, (c.map fun d => bif sel d then d.i j else 0) = bE (c.map sel) (dt sel j c)
 | [] => rfl
 | d :: c => by
  have := xw sel j c; simp only [List.map_cons, dt]; cases hs : sel d <;> simp [bE, this]
theorem tJ (sel : Dat -> Bool) (j : Nat) : ∀ c : List Dat, (dt sel j c).length = bF (c.map sel)
 | [] => rfl
 | d :: c => by
  have := tJ sel j c; cases hs : sel d <;> simp [dt, hs, bF, this]
theorem pd (sel : Dat -> Bool) : ∀ (c : List Dat) (i : Int), (gB sel i c).length = bF (c.map sel)
 | [], _ => rfl
 | d :: c, i => by
  have := pd sel c (i + 1); cases hs : sel d <;> simp [gB, hs, bF, this]
theorem j8 : ∀ ms : List Bool, bF ms <= ms.length
 | [] => Nat.le_refl _
 | false :: ms => by have := j8 ms; simp [bF]; omega
 | true :: ms => by have := j8 ms; simp [bF]; omega
theorem oV (sel : Dat -> Bool) : ∀ (c : List Dat) (i : Int), ∀ w ∈ gB sel i c, i <= w /\ w < i + c.length
 | [], i, w, h => by simp [gB] at h
 | d :: c, i, w, h => by
  have ih := oV sel c (i + 1) w; simp only [List.length_cons, Int.natCast_add]; cases hs : sel d <;> simp only [gB, hs, cond_false, cond_true, List.mem_cons] at h
  · have := ih h; omega
  · rcases h with h | h
    · omega
    · have := ih h; omega
theorem pc (sel : Dat -> Bool) (j : Nat) : ∀ c : List Dat, ∀ x ∈ dt sel j c, ∃ d ∈ c, x = d.i j
 | [], x, h => by simp [dt] at h
 | d :: c, x, h => by
  cases hs : sel d <;> simp only [dt, hs, cond_false, cond_true, List.mem_cons] at h
  · obtain ⟨e, h1, h2⟩ := pc sel j c x h; exact ⟨e, by simp [h1], h2⟩
  · rcases h with h | h
    · exact ⟨d, by simp, h⟩
    · obtain ⟨e, h1, h2⟩ := pc sel j c x h; exact ⟨e, by simp [h1], h2⟩
theorem jN (sel : Dat -> Bool) {j : Nat} (hj : j = 1 \/ j = 2) (n : Int) {c : List Dat} (h : aV c = true) : az sel j n c = bE (c.map sel) (cC n (dt sel j c)) := by
 obtain ⟨h1, h2⟩ := bP h; unfold az; rw [xw]; refine Gk (c.map sel) n (dt sel j c) (tJ sel j c) 1125899906842624 (by decide) (fun x hx => ?_) (by simp; omega); obtain ⟨d, hd, rfl⟩ := pc sel j c x hx; have := cv (h2 d hd); rcases hj with rfl | rfl <;> omega
theorem wq (sel : Dat -> Bool) {j : Nat} (hj : j = 1 \/ j = 2) (n : Int) {c : List Dat} (h : aV c = true) : (cC n (dt sel j c)).length = bF (c.map sel) /\ (∀ x ∈ cC n (dt sel j c), 0 <= x /\ x <= 1125899906842624) /\ 0 <= (cC n (dt sel j c)).sum /\ (cC n (dt sel j c)).sum <= 1125899906842624000 /\ (cC n (dt sel j c)).sum = (az sel j n c).sum := by
 obtain ⟨h1, h2⟩ := bP h; have hb : ∀ x ∈ dt sel j c, 0 <= x /\ x <= 1125899906842624 := fun x hx => by
  obtain ⟨d, hd, rfl⟩ := pc sel j c x hx; have := cv (h2 d hd); rcases hj with rfl | rfl <;> omega
 have hl := tJ sel j c; have ht := j8 (c.map sel); rw [List.length_map] at ht; have hok := (sQ (l := dt sel j c) (b := 1125899906842624) (by decide) hb (by omega)).2; have e : cC n (dt sel j c) = cC (max n 0) (dt sel j c) := by
  by_cases hn : 0 <= n
  · rw [show max n 0 = n by omega]
  · rw [show max n 0 = 0 by omega]; exact Bq (by omega)
 obtain ⟨p1, p2⟩ := Cr (a := max n 0) (by omega) hok; have hm : ∀ x ∈ cC n (dt sel j c), 0 <= x /\ x <= 1125899906842624 := by
  intro x hx; obtain ⟨i, hi, rfl⟩ := pk hx; rw [uX] at hi; rw [e]; have := p2 i hi; have := hb _ (jg hi); omega
 have hlen : (cC n (dt sel j c)).length = bF (c.map sel) := by rw [uX, hl]
 have hs := qG _ _ (by decide) hm; rw [hlen] at hs; refine ⟨hlen, hm, hs.1, by omega, ?_⟩; rw [jN sel hj n h, mr _ _ hlen]
def JM : aF := ⟨I9.tab, 136, ⟨[.ptr 0 0 0, .int .i64, .fn 167 [] [.ptr 3 0 0], .fn 138 [] []], [.cells [.int .i64, .int .i64, .int .i64, .int .i64, .int .i64, .buf 1 3, .int .i64, .int .i64, .buf 2 4], .ae (sI 3), .ae (sI 4), .cells [.int .i64]], 0⟩, ⟨[.int .i64], [.cells [.int .i64, .int .i64, .int .i64, .int .i64, .int .i64, .buf 1 3, .int .i64, .int .i64, .buf 4 4], .ae (sI 3), .gone, .gone, .ae (sI 4)], 0⟩, []⟩
abbrev yI : Type := Int × Int × Int × bm × Int × Int × List Dat × List Int × List Int × List Dat
abbrev AD : Type := Int × Int × Int × bm × Int × Int × List Dat × Int × List Int × List Int × List Dat
def s8 (m : Nat) (k : yI -> Option (List Un)) : yI -> Option (List Un) := fun (a0, a1, a2, a3, a4, a5, a6, a7, a8, a9) =>
 bif decide (a2 < a1) then
 chk (inb a2 a8.length) <|
 chk (decide (a2.toNat < a8.length)) <|
 chk (inb a2 a7.length) <|
 chk (decide (a2.toNat < a7.length)) <|
 chk (inb (a7.getD a2.toNat 0) a6.length) <|
 chk (decide ((a7.getD a2.toNat 0).toNat < a6.length)) <|
 chk (decide ((a7.getD a2.toNat 0).toNat < a6.length)) <|
 lt (af a6 ((a7.getD a2.toNat 0).toNat) : Dat) fun d4 =>
 lt ((List.set a6 ((a7.getD a2.toNat 0).toNat) (.r [.n (d4.i 0), .n (d4.i 1), .n (w64 (((af a6 ((a7.getD a2.toNat 0).toNat)).i 2) - (a8.getD a2.toNat 0)))])) : List Dat) fun l5 =>
 lt ((w64 (a0 + (a8.getD a2.toNat 0))) : Int) fun x6 =>
 chk (inb a2 a7.length) <|
 chk (decide (a2.toNat < a7.length)) <|
 bif (decide ((a8.getD a2.toNat 0) > 0)) then
 chk (fits (a9.length + 1) 32) <|
 k (x6, a1, (w64 (a2 + 1)), a3, a4, a5, l5, a7, a8, (a9 ++ ([.r [.n a4, .n a5, .n (a7.getD a2.toNat 0), .n (a8.getD a2.toNat 0)]])))
 else
 k (x6, a1, (w64 (a2 + 1)), a3, a4, a5, l5, a7, a8, a9)
 else
 some ([.i a0] ++ Uns.enc (({ a3 with aA := (w64 (a3.aA - a0)) } : bm) : bm) ++ [.i a4, .i a5, .d a6, .d a9])
def nX (m : Nat) : Nat -> yI -> Option (List Un) := bj (s8 m)
theorem qV (m : Nat) (n : Nat) : nX m (n + 1) = s8 m (nX m n) := rfl
def C0 (F : yI -> Option (List Un)) : aR := ⟨[.lp [0, 1, 0, 1, 1, 1, 1], .blk 2, .code [1, 1, 1, 1, 1]], ⟨frm 88 [(0, .ptr 0 0 0), (3, .fn 138 [] []), (9, .buf 4 1), (13, .int .i64), (44, .buf 5 1), (45, .int .i64), (46, .int .i64)], [.cells [.int .i64, .int .i64, .int .i64, .int .i64, .int .i64, .buf 1 3, .int .i64, .int .i64, .buf 6 4], .ae (sI 3), .gone, .gone, .ints .i64, .ints .i64, .ae (sI 4)], 0⟩, onU F⟩
def tn (m : Nat) (k : AD -> Option (List Un)) : AD -> Option (List Un) := fun (a0, a1, a2, a3, a4, a5, a6, a7, a8, a9, a10) =>
 bif decide (a2 < a1) then
 chk (inb a2 a6.length) <|
 chk (decide (a2.toNat < a6.length)) <|
 lt (af a6 a2.toNat : Dat) fun d1 =>
 bif (d1.i 0) == a7 then
 chk (fits (a8.length + 1) 8) <|
 chk (fits (a9.length + 1) 8) <|
 k (a0, a1, (w64 (a2 + 1)), a3, a4, a5, a6, a7, (a8 ++ ([a2])), (a9 ++ ([(d1.i 2)])), a10)
 else
 k (a0, a1, (w64 (a2 + 1)), a3, a4, a5, a6, a7, a8, a9, a10)
 else
 chk (decide (a0 <= 9223372036854775807 /\ a9.length < 1099511627776)) <|
 nX m m (0, ((cC a0 a9).length : Int), 0, a3, a4, a5, a6, a8, (cC a0 a9), a10)
def ql (m : Nat) : Nat -> AD -> Option (List Un) := bj (tn m)
theorem rK (m : Nat) (n : Nat) : ql m (n + 1) = tn m (ql m n) := rfl
def Cx (F : AD -> Option (List Un)) : aR := ⟨[.lp [0, 1, 0, 1, 1], .blk 0, .code [1, 1, 1]], ⟨frm 88 [(0, .ptr 0 0 0), (1, .int .i64), (2, .fn 167 [] [.ptr 4 0 0]), (3, .fn 138 [] []), (9, .buf 5 1), (10, .buf 6 1), (20, .buf 1 3), (21, .int .i64), (22, .int .i64)], [.cells [.int .i64, .int .i64, .int .i64, .int .i64, .int .i64, .buf 1 3, .int .i64, .int .i64, .buf 7 4], .ae (sI 3), .gone, .gone, .cells [.int .i64], .ints .i64, .ints .i64, .ae (sI 4)], 0⟩, onU F⟩
theorem M6 (m : Nat) : ∀ n, HO JM (C0 (nX m n)) := au ag I9.right (fun k => [C0 k]) (fun k h => (aH h aE)) fun k a => by kernel_rfl
theorem Nt (m : Nat) : ∀ n, HO JM (Cx (ql m n)) := au ag I9.right (fun k => [Cx k, C0 (nX m m)]) (fun k h => (aH h (aH (M6 m m) aE))) fun k a => by kernel_rfl
def OO (m : Nat) : Int × bm × Int × Int × List Dat × List Dat × Int -> Option (List Un) := fun (a0, a1, a2, a3, a4, a5, a6) =>
 ql m m (a0, (a4.length : Int), 0, a1, a2, a3, a4, a6, [], [], a5)
theorem Ke (m : Nat) (nn : Int) (hnn : nn <= 9223372036854775807) (y : bm) (q kd : Int) (rk : Int) (out : List Dat) : ∀ (rest pre : List Dat) (n : Nat) (who what : List Int), rest.length < n -> (pre ++ rest).length <= 1000 -> who.length <= pre.length -> what.length <= pre.length ->
 ql m n (nn, ((pre ++ rest).length : Int), (pre.length : Int), y, q, kd, pre ++ rest, rk, who, what, out) =
  nX m m (0, ((cC nn (what ++ dt (aM rk) 2 rest)).length : Int), 0, y, q, kd, pre ++ rest, who ++ gB (aM rk) pre.length rest, cC nn (what ++ dt (aM rk) 2 rest), out) := by
 intro rest
 induction rest with
 | nil =>
  intro pre n who what hn hl h1 h2; obtain ⟨n, rfl⟩ := al n (by simp at hn; omega); rw [rK]; unfold tn; dsimp only; simp only [List.append_nil, gB, dt] at hl ⊢; rw [aw (by omega), aG ⟨hnn, by omega⟩]
 | cons x rest ih =>
  intro pre n who what hn hl h1 h2; obtain ⟨n, rfl⟩ := al n (by simp at hn; omega); simp only [List.length_append, List.length_cons] at hl hn; rw [rK]; unfold tn; dsimp only; simp only [lt_eq]
  by_cases hs : x.i 0 = rk
  · have := ih (pre ++ [x]) n (who ++ [(pre.length : Int)]) (what ++ [x.i 2]) (by omega) (by simp; omega) (by simp; omega) (by simp; omega); simp only [gB, dt, aM, yh hs, cond_true] at this ⊢; simp (disch := omega) only [TRa, TRi, aa, LNl, LNi, Int.cast_ofNat_Int, ao, cr]; simp only [LNl, LNi, Int.cast_ofNat_Int] at this ⊢; exact this
  · have := ih (pre ++ [x]) n who what (by omega) (by simp; omega) (by simp; omega) (by simp; omega); simp only [gB, dt, aM, jL hs, cond_false] at this ⊢; simp (disch := omega) only [TRa, TRi, aa, LNl, LNi, Int.cast_ofNat_Int, ao, cr]; simp only [LNl, LNi, Int.cast_ofNat_Int] at this ⊢; exact this
theorem J3 (m : Nat) (y : bm) (hy : 0 <= y.aA /\ y.aA <= 1152921504606846976) (q kd : Int) : ∀ (rest done ws wd : List Int) (c out : List Dat) (n : Nat) (paid : Int), rest.length < n -> ws.length = rest.length -> wd.length = done.length -> (done ++ rest).length <= 1000 -> (∀ w ∈ ws, 0 <= w /\ w < c.length) -> (∀ x ∈ rest, 0 <= x /\ x <= 1152921504606846976) -> 0 <= paid -> paid + rest.sum <= 1152921504606846976 -> (∀ i, i < c.length -> - paid <= (af c i).i 2 /\ (af c i).i 2 <= 1152921504606846976) -> c.length <= 1000 -> out.length + rest.length <= 137438953472 ->
 nX m n (paid, ((done ++ rest).length : Int), (done.length : Int), y, q, kd, c, wd ++ ws, done ++ rest, out) =
  some ([.i (paid + rest.sum)] ++ Uns.enc (({ y with aA := y.aA - (paid + rest.sum) } : bm) : bm) ++ [.i q, .i kd, .d (kD 2 ws rest c), .d (out ++ sg q kd ws rest)]) := by
 intro rest
 induction rest with
 | nil =>
  intro done ws wd c out n paid hn e1 e2 hl hw hx p0 p1 hc cl ol; obtain ⟨n, rfl⟩ := al n (by simp at hn; omega); obtain rfl := List.eq_nil_of_length_eq_zero e1; rw [qV]; unfold s8; dsimp only; simp only [List.append_nil, kD, sg, List.sum_nil, Int.add_zero] at p1 ⊢; rw [aw (by omega), aa (by omega) (by omega)]
 | cons x rest ih =>
  intro done ws wd c out n paid hn e1 e2 hl hw hx p0 p1 hc cl ol; obtain ⟨n, rfl⟩ := al n (by simp at hn; omega); cases ws with
  | nil => simp at e1
  | cons w ws =>
  simp only [List.length_append, List.length_cons, List.sum_cons] at hl hn e1 p1 ol; have hx0 := hx x (by simp); have hw0 := hw w (by simp); have hs0 := ev rest (fun z hz => (hx z (by simp [hz])).1); obtain ⟨v, rfl⟩ : ∃ v : Nat, w = (v : Int) := ⟨w.toNat, by omega⟩
  have hr := hc v (by omega); have gw : (wd ++ (v : Int) :: ws).getD done.length 0 = v := by rw [<- e2]; exact cr _ _ _ _
  have hset : ∀ i, i < (c.set v (cn 2 x (af c v))).length -> - (paid + x) <= (af (c.set v (cn 2 x (af c v))) i).i 2 /\ (af (c.set v (cn 2 x (af c v))) i).i 2 <= 1152921504606846976 := by
   intro i hi; rw [List.length_set] at hi
   by_cases e : i = v
   · subst e; have e3 : af (c.set i (cn 2 x (af c i))) i = cn 2 x (af c i) := by simp [af, hi]
     rw [e3]; simp only [cn, show ¬ (2 : Nat) = 1 by decide, if_false, gT]; omega
   · have e3 : af (c.set v (cn 2 x (af c v))) i = af c i := by simp [af, List.getElem?_set, Ne.symm e]
     rw [e3]; have := hc i hi; omega
  have := ih (done ++ [x]) ws (wd ++ [(v : Int)]) (c.set v (cn 2 x (af c v))) (out ++ if 0 < x then [.r [.n q, .n kd, .n v, .n x]] else []) n (paid + x) (by omega) (by omega) (by simp [e2]) (by simp; omega) (fun z hz => by have := hw z (by simp [hz]); simpa using this) (fun z hz => hx z (by simp [hz])) (by omega) (by omega) hset (by simpa using cl) (by split <;> simp <;> omega); simp only [kD, sg, List.sum_cons, Int.toNat_natCast]; rw [show paid + (x + rest.sum) = paid + x + rest.sum by omega]; rw [<- List.append_assoc, <- this]; rw [qV]; unfold s8; dsimp only; have ec : done ++ [x] ++ rest = done ++ x :: rest := by simp
  have ew : wd ++ [(v : Int)] ++ ws = wd ++ (v : Int) :: ws := by simp
  rw [ec, ew]; have e5 : (cn 2 x (af c v)) = Dat.r [.n ((af c v).i 0), .n ((af c v).i 1), .n ((af c v).i 2 - x)] := by simp only [cn, show ¬ (2 : Nat) = 1 by decide, if_false]
  rw [e5]; simp only [lt_eq, Int.toNat_natCast, gw, cr, List.length_append, List.length_cons, List.length_nil, Nat.zero_add, Int.natCast_add, Int.cast_ofNat_Int]
  by_cases h0 : 0 < x
  · rw [if_pos h0]; simp (disch := omega) only [TRa, TRi, aa, Int.natCast_add]
  · rw [if_neg h0]; simp (disch := omega) only [TRa, TRi, aa, Int.natCast_add, List.append_nil]
def Sg : Int × bm × Int × Int × List Dat × List Dat × Int -> Bool × List Un := fun (a0, a1, a2, a3, a4, a5, a6) => (decide (a0 <= 9223372036854775807 /\ 0 <= a1.aA /\ a1.aA <= 1152921504606846976 /\ a5.length <= 68719476736) && aV a4, [.i ((az (aM a6) 2 a0 a4).sum)] ++ Uns.enc (({ a1 with aA := a1.aA - (az (aM a6) 2 a0 a4).sum }) : bm) ++ [.i (a2), .i (a3), .d (bQ 2 (az (aM a6) 2 a0 a4) a4), .d (a5 ++ bL a2 a3 0 (az (aM a6) 2 a0 a4))])
theorem MF (a0 : Int) (a1 : bm) (a2 : Int) (a3 : Int) (a4 : List Dat) (a5 : List Dat) (a6 : Int) (hc : (decide (a0 <= 9223372036854775807 /\ 0 <= a1.aA /\ a1.aA <= 1152921504606846976 /\ a5.length <= 68719476736) && aV a4) = true) : ∃ m, OO m (a0, a1, a2, a3, a4, a5, a6) = some ([.i ((az (aM a6) 2 a0 a4).sum)] ++ Uns.enc (({ a1 with aA := a1.aA - (az (aM a6) 2 a0 a4).sum }) : bm) ++ [.i (a2), .i (a3), .d (bQ 2 (az (aM a6) 2 a0 a4) a4), .d (a5 ++ bL a2 a3 0 (az (aM a6) 2 a0 a4))]) := by
 simp only [Bool.and_eq_true, decide_eq_true_eq] at hc; obtain ⟨⟨h1, h2, h3, h4⟩, h5⟩ := hc; obtain ⟨c1, c2⟩ := bP h5; obtain ⟨p1, p2, p3, p4, p5⟩ := wq (aM a6) (j := 2) (.inr rfl) a0 h5; refine ⟨2000, ?_⟩; unfold OO; refine (Ke 2000 a0 h1 a1 a2 a3 a6 a5 a4 [] 2000 [] [] (by omega) (by simpa using c1) (by simp) (by simp)).trans ?_
 simp only [List.nil_append, List.length_nil]; have ht := j8 (a4.map (aM a6)); rw [List.length_map] at ht; have e := J3 2000 a1 ⟨h2, h3⟩ a2 a3 (cC a0 (dt (aM a6) 2 a4)) [] (gB (aM a6) 0 a4) [] a4 a5 2000 0 (by omega) (by rw [p1, pd]) rfl (by simp; omega) (fun w hw => by have := oV _ _ _ w hw; omega) (fun x hx => by have := p2 x hx; omega) (by omega) (by omega) (fun i hi => by have := cv (c2 _ (m8 hi)); omega) c1 (by omega); refine e.trans ?_
 have g1 := mX (aM a6) 2 a4 [] (cC a0 (dt (aM a6) 2 a4)) p1 (fun d hd => (cv (c2 d hd)).1); have g2 := oK a2 a3 (aM a6) a4 0 (cC a0 (dt (aM a6) 2 a4)) p1; simp only [List.nil_append, List.length_nil, Int.cast_ofNat_Int] at g1 g2; rw [g1, g2, Int.zero_add, p5, jN (aM a6) (j := 2) (.inr rfl) a0 h5]
theorem Hy : ER 136 (mkE JM.en JM.ex Sg) := ar ag I9.right (fun m => [Cx (ql m m)]) (t := OO) (by kernel_rfl) (fun m => (aH (Nt m m) aE)) (fun m a => by kernel_rfl) fun (a0, a1, a2, a3, a4, a5, a6) hc => MF a0 a1 a2 a3 a4 a5 a6 hc
def G8 : Tb Tryz.prog LQ TE := I9.add 136 _ Hy
def MB : aF := ⟨G8.tab, 136, ⟨[.ptr 0 0 0, .int .i64, .fn 167 [] [.ptr 3 0 0], .fn 141 [] []], [.cells [.int .i64, .int .i64, .int .i64, .int .i64, .int .i64, .buf 1 3, .int .i64, .int .i64, .buf 2 4], .ae (sI 3), .ae (sI 4), .cells [.int .i64]], 0⟩, ⟨[.int .i64], [.cells [.int .i64, .int .i64, .int .i64, .int .i64, .int .i64, .buf 1 3, .int .i64, .int .i64, .buf 4 4], .ae (sI 3), .gone, .gone, .ae (sI 4)], 0⟩, []⟩
abbrev zC : Type := Int × Int × Int × bm × Int × Int × List Dat × List Int × List Int × List Dat
abbrev Ar : Type := Int × Int × Int × bm × Int × Int × List Dat × Int × List Int × List Int × List Dat
def sL (m : Nat) (k : zC -> Option (List Un)) : zC -> Option (List Un) := fun (a0, a1, a2, a3, a4, a5, a6, a7, a8, a9) =>
 bif decide (a2 < a1) then
 chk (inb a2 a8.length) <|
 chk (decide (a2.toNat < a8.length)) <|
 chk (inb a2 a7.length) <|
 chk (decide (a2.toNat < a7.length)) <|
 chk (inb (a7.getD a2.toNat 0) a6.length) <|
 chk (decide ((a7.getD a2.toNat 0).toNat < a6.length)) <|
 chk (decide ((a7.getD a2.toNat 0).toNat < a6.length)) <|
 lt (af a6 ((a7.getD a2.toNat 0).toNat) : Dat) fun d4 =>
 lt ((List.set a6 ((a7.getD a2.toNat 0).toNat) (.r [.n (d4.i 0), .n (w64 (((af a6 ((a7.getD a2.toNat 0).toNat)).i 1) - (a8.getD a2.toNat 0))), .n (d4.i 2)])) : List Dat) fun l5 =>
 lt ((w64 (a0 + (a8.getD a2.toNat 0))) : Int) fun x6 =>
 chk (inb a2 a7.length) <|
 chk (decide (a2.toNat < a7.length)) <|
 bif (decide ((a8.getD a2.toNat 0) > 0)) then
 chk (fits (a9.length + 1) 32) <|
 k (x6, a1, (w64 (a2 + 1)), a3, a4, a5, l5, a7, a8, (a9 ++ ([.r [.n a4, .n a5, .n (a7.getD a2.toNat 0), .n (a8.getD a2.toNat 0)]])))
 else
 k (x6, a1, (w64 (a2 + 1)), a3, a4, a5, l5, a7, a8, a9)
 else
 some ([.i a0] ++ Uns.enc (({ a3 with aA := (w64 (a3.aA - a0)) } : bm) : bm) ++ [.i a4, .i a5, .d a6, .d a9])
def oh (m : Nat) : Nat -> zC -> Option (List Un) := bj (sL m)
theorem rj (m : Nat) (n : Nat) : oh m (n + 1) = sL m (oh m n) := rfl
def Dt (F : zC -> Option (List Un)) : aR := ⟨[.lp [0, 1, 0, 1, 1, 1, 1], .blk 2, .code [1, 1, 1, 1, 1]], ⟨frm 88 [(0, .ptr 0 0 0), (3, .fn 141 [] []), (9, .buf 4 1), (13, .int .i64), (44, .buf 5 1), (45, .int .i64), (46, .int .i64)], [.cells [.int .i64, .int .i64, .int .i64, .int .i64, .int .i64, .buf 1 3, .int .i64, .int .i64, .buf 6 4], .ae (sI 3), .gone, .gone, .ints .i64, .ints .i64, .ae (sI 4)], 0⟩, onU F⟩
def sx (m : Nat) (k : Ar -> Option (List Un)) : Ar -> Option (List Un) := fun (a0, a1, a2, a3, a4, a5, a6, a7, a8, a9, a10) =>
 bif decide (a2 < a1) then
 chk (inb a2 a6.length) <|
 chk (decide (a2.toNat < a6.length)) <|
 lt (af a6 a2.toNat : Dat) fun d1 =>
 bif (d1.i 0) == a7 then
 chk (fits (a8.length + 1) 8) <|
 chk (fits (a9.length + 1) 8) <|
 k (a0, a1, (w64 (a2 + 1)), a3, a4, a5, a6, a7, (a8 ++ ([a2])), (a9 ++ ([(d1.i 1)])), a10)
 else
 k (a0, a1, (w64 (a2 + 1)), a3, a4, a5, a6, a7, a8, a9, a10)
 else
 chk (decide (a0 <= 9223372036854775807 /\ a9.length < 1099511627776)) <|
 oh m m (0, ((cC a0 a9).length : Int), 0, a3, a4, a5, a6, a8, (cC a0 a9), a10)
def qC (m : Nat) : Nat -> Ar -> Option (List Un) := bj (sx m)
theorem rH (m : Nat) (n : Nat) : qC m (n + 1) = sx m (qC m n) := rfl
def DA (F : Ar -> Option (List Un)) : aR := ⟨[.lp [0, 1, 0, 1, 1], .blk 0, .code [1, 1, 1]], ⟨frm 88 [(0, .ptr 0 0 0), (1, .int .i64), (2, .fn 167 [] [.ptr 4 0 0]), (3, .fn 141 [] []), (9, .buf 5 1), (10, .buf 6 1), (20, .buf 1 3), (21, .int .i64), (22, .int .i64)], [.cells [.int .i64, .int .i64, .int .i64, .int .i64, .int .i64, .buf 1 3, .int .i64, .int .i64, .buf 7 4], .ae (sI 3), .gone, .gone, .cells [.int .i64], .ints .i64, .ints .i64, .ae (sI 4)], 0⟩, onU F⟩
theorem PK (m : Nat) : ∀ n, HO MB (Dt (oh m n)) := au ag G8.right (fun k => [Dt k]) (fun k h => (aH h aE)) fun k a => by kernel_rfl
theorem OL (m : Nat) : ∀ n, HO MB (DA (qC m n)) := au ag G8.right (fun k => [DA k, Dt (oh m m)]) (fun k h => (aH h (aH (PK m m) aE))) fun k a => by kernel_rfl
def On (m : Nat) : Int × bm × Int × Int × List Dat × List Dat × Int -> Option (List Un) := fun (a0, a1, a2, a3, a4, a5, a6) =>
 qC m m (a0, (a4.length : Int), 0, a1, a2, a3, a4, a6, [], [], a5)
theorem JQ (m : Nat) (nn : Int) (hnn : nn <= 9223372036854775807) (y : bm) (q kd : Int) (rk : Int) (out : List Dat) : ∀ (rest pre : List Dat) (n : Nat) (who what : List Int), rest.length < n -> (pre ++ rest).length <= 1000 -> who.length <= pre.length -> what.length <= pre.length ->
 qC m n (nn, ((pre ++ rest).length : Int), (pre.length : Int), y, q, kd, pre ++ rest, rk, who, what, out) =
  oh m m (0, ((cC nn (what ++ dt (aM rk) 1 rest)).length : Int), 0, y, q, kd, pre ++ rest, who ++ gB (aM rk) pre.length rest, cC nn (what ++ dt (aM rk) 1 rest), out) := by
 intro rest
 induction rest with
 | nil =>
  intro pre n who what hn hl h1 h2; obtain ⟨n, rfl⟩ := al n (by simp at hn; omega); rw [rH]; unfold sx; dsimp only; simp only [List.append_nil, gB, dt] at hl ⊢; rw [aw (by omega), aG ⟨hnn, by omega⟩]
 | cons x rest ih =>
  intro pre n who what hn hl h1 h2; obtain ⟨n, rfl⟩ := al n (by simp at hn; omega); simp only [List.length_append, List.length_cons] at hl hn; rw [rH]; unfold sx; dsimp only; simp only [lt_eq]
  by_cases hs : x.i 0 = rk
  · have := ih (pre ++ [x]) n (who ++ [(pre.length : Int)]) (what ++ [x.i 1]) (by omega) (by simp; omega) (by simp; omega) (by simp; omega); simp only [gB, dt, aM, yh hs, cond_true] at this ⊢; simp (disch := omega) only [TRa, TRi, aa, LNl, LNi, Int.cast_ofNat_Int, ao, cr]; simp only [LNl, LNi, Int.cast_ofNat_Int] at this ⊢; exact this
  · have := ih (pre ++ [x]) n who what (by omega) (by simp; omega) (by simp; omega) (by simp; omega); simp only [gB, dt, aM, jL hs, cond_false] at this ⊢; simp (disch := omega) only [TRa, TRi, aa, LNl, LNi, Int.cast_ofNat_Int, ao, cr]; simp only [LNl, LNi, Int.cast_ofNat_Int] at this ⊢; exact this
theorem MN (m : Nat) (y : bm) (hy : 0 <= y.aA /\ y.aA <= 1152921504606846976) (q kd : Int) : ∀ (rest done ws wd : List Int) (c out : List Dat) (n : Nat) (paid : Int), rest.length < n -> ws.length = rest.length -> wd.length = done.length -> (done ++ rest).length <= 1000 -> (∀ w ∈ ws, 0 <= w /\ w < c.length) -> (∀ x ∈ rest, 0 <= x /\ x <= 1152921504606846976) -> 0 <= paid -> paid + rest.sum <= 1152921504606846976 -> (∀ i, i < c.length -> - paid <= (af c i).i 1 /\ (af c i).i 1 <= 1152921504606846976) -> c.length <= 1000 -> out.length + rest.length <= 137438953472 ->
 oh m n (paid, ((done ++ rest).length : Int), (done.length : Int), y, q, kd, c, wd ++ ws, done ++ rest, out) =
  some ([.i (paid + rest.sum)] ++ Uns.enc (({ y with aA := y.aA - (paid + rest.sum) } : bm) : bm) ++ [.i q, .i kd, .d (kD 1 ws rest c), .d (out ++ sg q kd ws rest)]) := by
 intro rest
 induction rest with
 | nil =>
  intro done ws wd c out n paid hn e1 e2 hl hw hx p0 p1 hc cl ol; obtain ⟨n, rfl⟩ := al n (by simp at hn; omega); obtain rfl := List.eq_nil_of_length_eq_zero e1; rw [rj]; unfold sL; dsimp only; simp only [List.append_nil, kD, sg, List.sum_nil, Int.add_zero] at p1 ⊢; rw [aw (by omega), aa (by omega) (by omega)]
 | cons x rest ih =>
  intro done ws wd c out n paid hn e1 e2 hl hw hx p0 p1 hc cl ol; obtain ⟨n, rfl⟩ := al n (by simp at hn; omega); cases ws with
  | nil => simp at e1
  | cons w ws =>
  simp only [List.length_append, List.length_cons, List.sum_cons] at hl hn e1 p1 ol; have hx0 := hx x (by simp); have hw0 := hw w (by simp); have hs0 := ev rest (fun z hz => (hx z (by simp [hz])).1); obtain ⟨v, rfl⟩ : ∃ v : Nat, w = (v : Int) := ⟨w.toNat, by omega⟩
  have hr := hc v (by omega); have gw : (wd ++ (v : Int) :: ws).getD done.length 0 = v := by rw [<- e2]; exact cr _ _ _ _
  have hset : ∀ i, i < (c.set v (cn 1 x (af c v))).length -> - (paid + x) <= (af (c.set v (cn 1 x (af c v))) i).i 1 /\ (af (c.set v (cn 1 x (af c v))) i).i 1 <= 1152921504606846976 := by
   intro i hi; rw [List.length_set] at hi
   by_cases e : i = v
   · subst e; have e3 : af (c.set i (cn 1 x (af c i))) i = cn 1 x (af c i) := by simp [af, hi]
     rw [e3]; simp only [cn, if_true, ek]; omega
   · have e3 : af (c.set v (cn 1 x (af c v))) i = af c i := by simp [af, List.getElem?_set, Ne.symm e]
     rw [e3]; have := hc i hi; omega
  have := ih (done ++ [x]) ws (wd ++ [(v : Int)]) (c.set v (cn 1 x (af c v))) (out ++ if 0 < x then [.r [.n q, .n kd, .n v, .n x]] else []) n (paid + x) (by omega) (by omega) (by simp [e2]) (by simp; omega) (fun z hz => by have := hw z (by simp [hz]); simpa using this) (fun z hz => hx z (by simp [hz])) (by omega) (by omega) hset (by simpa using cl) (by split <;> simp <;> omega); simp only [kD, sg, List.sum_cons, Int.toNat_natCast]; rw [show paid + (x + rest.sum) = paid + x + rest.sum by omega]; rw [<- List.append_assoc, <- this]; rw [rj]; unfold sL; dsimp only; have ec : done ++ [x] ++ rest = done ++ x :: rest := by simp
  have ew : wd ++ [(v : Int)] ++ ws = wd ++ (v : Int) :: ws := by simp
  rw [ec, ew]; have e5 : (cn 1 x (af c v)) = Dat.r [.n ((af c v).i 0), .n ((af c v).i 1 - x), .n ((af c v).i 2)] := by simp only [cn, if_true]
  rw [e5]; simp only [lt_eq, Int.toNat_natCast, gw, cr, List.length_append, List.length_cons, List.length_nil, Nat.zero_add, Int.natCast_add, Int.cast_ofNat_Int]
  by_cases h0 : 0 < x
  · rw [if_pos h0]; simp (disch := omega) only [TRa, TRi, aa, Int.natCast_add]
  · rw [if_neg h0]; simp (disch := omega) only [TRa, TRi, aa, Int.natCast_add, List.append_nil]
def Sx : Int × bm × Int × Int × List Dat × List Dat × Int -> Bool × List Un := fun (a0, a1, a2, a3, a4, a5, a6) => (decide (a0 <= 9223372036854775807 /\ 0 <= a1.aA /\ a1.aA <= 1152921504606846976 /\ a5.length <= 68719476736) && aV a4, [.i ((az (aM a6) 1 a0 a4).sum)] ++ Uns.enc (({ a1 with aA := a1.aA - (az (aM a6) 1 a0 a4).sum }) : bm) ++ [.i (a2), .i (a3), .d (bQ 1 (az (aM a6) 1 a0 a4) a4), .d (a5 ++ bL a2 a3 0 (az (aM a6) 1 a0 a4))])
theorem JD (a0 : Int) (a1 : bm) (a2 : Int) (a3 : Int) (a4 : List Dat) (a5 : List Dat) (a6 : Int) (hc : (decide (a0 <= 9223372036854775807 /\ 0 <= a1.aA /\ a1.aA <= 1152921504606846976 /\ a5.length <= 68719476736) && aV a4) = true) : ∃ m, On m (a0, a1, a2, a3, a4, a5, a6) = some ([.i ((az (aM a6) 1 a0 a4).sum)] ++ Uns.enc (({ a1 with aA := a1.aA - (az (aM a6) 1 a0 a4).sum }) : bm) ++ [.i (a2), .i (a3), .d (bQ 1 (az (aM a6) 1 a0 a4) a4), .d (a5 ++ bL a2 a3 0 (az (aM a6) 1 a0 a4))]) := by
 simp only [Bool.and_eq_true, decide_eq_true_eq] at hc; obtain ⟨⟨h1, h2, h3, h4⟩, h5⟩ := hc; obtain ⟨c1, c2⟩ := bP h5; obtain ⟨p1, p2, p3, p4, p5⟩ := wq (aM a6) (j := 1) (.inl rfl) a0 h5; refine ⟨2000, ?_⟩; unfold On; refine (JQ 2000 a0 h1 a1 a2 a3 a6 a5 a4 [] 2000 [] [] (by omega) (by simpa using c1) (by simp) (by simp)).trans ?_
 simp only [List.nil_append, List.length_nil]; have ht := j8 (a4.map (aM a6)); rw [List.length_map] at ht; have e := MN 2000 a1 ⟨h2, h3⟩ a2 a3 (cC a0 (dt (aM a6) 1 a4)) [] (gB (aM a6) 0 a4) [] a4 a5 2000 0 (by omega) (by rw [p1, pd]) rfl (by simp; omega) (fun w hw => by have := oV _ _ _ w hw; omega) (fun x hx => by have := p2 x hx; omega) (by omega) (by omega) (fun i hi => by have := cv (c2 _ (m8 hi)); omega) c1 (by omega); refine e.trans ?_
 have g1 := mX (aM a6) 1 a4 [] (cC a0 (dt (aM a6) 1 a4)) p1 (fun d hd => (cv (c2 d hd)).1); have g2 := oK a2 a3 (aM a6) a4 0 (cC a0 (dt (aM a6) 1 a4)) p1; simp only [List.nil_append, List.length_nil, Int.cast_ofNat_Int] at g1 g2; rw [g1, g2, Int.zero_add, p5, jN (aM a6) (j := 1) (.inl rfl) a0 h5]
theorem HA : ER 136 (mkE MB.en MB.ex Sx) := ar ag G8.right (fun m => [DA (qC m m)]) (t := On) (by kernel_rfl) (fun m => (aH (OL m m) aE)) (fun m a => by kernel_rfl) fun (a0, a1, a2, a3, a4, a5, a6) hc => JD a0 a1 a2 a3 a4 a5 a6 hc
def HR : Tb Tryz.prog LQ TE := G8.add 136 _ HA
def Mr : aF := ⟨HR.tab, 136, ⟨[.ptr 0 0 0, .int .i64, .fn 140 [] [], .fn 141 [] []], [.cells [.int .i64, .int .i64, .int .i64, .int .i64, .int .i64, .buf 1 3, .int .i64, .int .i64, .buf 2 4], .ae (sI 3), .ae (sI 4)], 0⟩, ⟨[.int .i64], [.cells [.int .i64, .int .i64, .int .i64, .int .i64, .int .i64, .buf 1 3, .int .i64, .int .i64, .buf 3 4], .ae (sI 3), .gone, .ae (sI 4)], 0⟩, []⟩
abbrev AB : Type := Int × Int × Int × bm × Int × Int × List Dat × List Int × List Int × List Dat
abbrev zJ : Type := Int × Int × Int × bm × Int × Int × List Dat × List Int × List Int × List Dat
def s9 (m : Nat) (k : AB -> Option (List Un)) : AB -> Option (List Un) := fun (a0, a1, a2, a3, a4, a5, a6, a7, a8, a9) =>
 bif decide (a2 < a1) then
 chk (inb a2 a8.length) <|
 chk (decide (a2.toNat < a8.length)) <|
 chk (inb a2 a7.length) <|
 chk (decide (a2.toNat < a7.length)) <|
 chk (inb (a7.getD a2.toNat 0) a6.length) <|
 chk (decide ((a7.getD a2.toNat 0).toNat < a6.length)) <|
 chk (decide ((a7.getD a2.toNat 0).toNat < a6.length)) <|
 lt (af a6 ((a7.getD a2.toNat 0).toNat) : Dat) fun d4 =>
 lt ((List.set a6 ((a7.getD a2.toNat 0).toNat) (.r [.n (d4.i 0), .n (w64 (((af a6 ((a7.getD a2.toNat 0).toNat)).i 1) - (a8.getD a2.toNat 0))), .n (d4.i 2)])) : List Dat) fun l5 =>
 lt ((w64 (a0 + (a8.getD a2.toNat 0))) : Int) fun x6 =>
 chk (inb a2 a7.length) <|
 chk (decide (a2.toNat < a7.length)) <|
 bif (decide ((a8.getD a2.toNat 0) > 0)) then
 chk (fits (a9.length + 1) 32) <|
 k (x6, a1, (w64 (a2 + 1)), a3, a4, a5, l5, a7, a8, (a9 ++ ([.r [.n a4, .n a5, .n (a7.getD a2.toNat 0), .n (a8.getD a2.toNat 0)]])))
 else
 k (x6, a1, (w64 (a2 + 1)), a3, a4, a5, l5, a7, a8, a9)
 else
 some ([.i a0] ++ Uns.enc (({ a3 with aA := (w64 (a3.aA - a0)) } : bm) : bm) ++ [.i a4, .i a5, .d a6, .d a9])
def nN (m : Nat) : Nat -> AB -> Option (List Un) := bj (s9 m)
theorem qT (m : Nat) (n : Nat) : nN m (n + 1) = s9 m (nN m n) := rfl
def DR (F : AB -> Option (List Un)) : aR := ⟨[.lp [0, 1, 0, 1, 1, 1, 1], .blk 2, .code [1, 1, 1, 1, 1]], ⟨frm 88 [(0, .ptr 0 0 0), (3, .fn 141 [] []), (9, .buf 3 1), (13, .int .i64), (44, .buf 4 1), (45, .int .i64), (46, .int .i64)], [.cells [.int .i64, .int .i64, .int .i64, .int .i64, .int .i64, .buf 1 3, .int .i64, .int .i64, .buf 5 4], .ae (sI 3), .gone, .ints .i64, .ints .i64, .ae (sI 4)], 0⟩, onU F⟩
def sX (m : Nat) (k : zJ -> Option (List Un)) : zJ -> Option (List Un) := fun (a0, a1, a2, a3, a4, a5, a6, a7, a8, a9) =>
 bif decide (a2 < a1) then
 chk (inb a2 a6.length) <|
 chk (decide (a2.toNat < a6.length)) <|
 chk (fits (a7.length + 1) 8) <|
 chk (fits (a8.length + 1) 8) <|
 k (a0, a1, (w64 (a2 + 1)), a3, a4, a5, a6, (a7 ++ ([a2])), (a8 ++ ([((af a6 a2.toNat).i 1)])), a9)
 else
 chk (decide (a0 <= 9223372036854775807 /\ a8.length < 1099511627776)) <|
 nN m m (0, ((cC a0 a8).length : Int), 0, a3, a4, a5, a6, a7, (cC a0 a8), a9)
def qx (m : Nat) : Nat -> zJ -> Option (List Un) := bj (sX m)
theorem qQ (m : Nat) (n : Nat) : qx m (n + 1) = sX m (qx m n) := rfl
def Dc (F : zJ -> Option (List Un)) : aR := ⟨[.lp [0, 1, 0, 1, 1], .blk 0, .code [1, 1, 1]], ⟨frm 88 [(0, .ptr 0 0 0), (1, .int .i64), (2, .fn 140 [] []), (3, .fn 141 [] []), (9, .buf 3 1), (10, .buf 4 1), (20, .buf 1 3), (21, .int .i64), (22, .int .i64)], [.cells [.int .i64, .int .i64, .int .i64, .int .i64, .int .i64, .buf 1 3, .int .i64, .int .i64, .buf 5 4], .ae (sI 3), .gone, .ints .i64, .ints .i64, .ae (sI 4)], 0⟩, onU F⟩
theorem P1 (m : Nat) : ∀ n, HO Mr (DR (nN m n)) := au ag HR.right (fun k => [DR k]) (fun k h => (aH h aE)) fun k a => by kernel_rfl
theorem N9 (m : Nat) : ∀ n, HO Mr (Dc (qx m n)) := au ag HR.right (fun k => [Dc k, DR (nN m m)]) (fun k h => (aH h (aH (P1 m m) aE))) fun k a => by kernel_rfl
def Pc (m : Nat) : Int × bm × Int × Int × List Dat × List Dat -> Option (List Un) := fun (a0, a1, a2, a3, a4, a5) =>
 qx m m (a0, (a4.length : Int), 0, a1, a2, a3, a4, [], [], a5)
theorem LV (m : Nat) (nn : Int) (hnn : nn <= 9223372036854775807) (y : bm) (q kd : Int) (out : List Dat) : ∀ (rest pre : List Dat) (n : Nat) (who what : List Int), rest.length < n -> (pre ++ rest).length <= 1000 -> who.length <= pre.length -> what.length <= pre.length ->
 qx m n (nn, ((pre ++ rest).length : Int), (pre.length : Int), y, q, kd, pre ++ rest, who, what, out) =
  nN m m (0, ((cC nn (what ++ dt (fun _ => true) 1 rest)).length : Int), 0, y, q, kd, pre ++ rest, who ++ gB (fun _ => true) pre.length rest, cC nn (what ++ dt (fun _ => true) 1 rest), out) := by
 intro rest
 induction rest with
 | nil =>
  intro pre n who what hn hl h1 h2; obtain ⟨n, rfl⟩ := al n (by simp at hn; omega); rw [qQ]; unfold sX; dsimp only; simp only [List.append_nil, gB, dt] at hl ⊢; rw [aw (by omega), aG ⟨hnn, by omega⟩]
 | cons x rest ih =>
  intro pre n who what hn hl h1 h2; obtain ⟨n, rfl⟩ := al n (by simp at hn; omega); simp only [List.length_append, List.length_cons] at hl hn; rw [qQ]; unfold sX; dsimp only; have := ih (pre ++ [x]) n (who ++ [(pre.length : Int)]) (what ++ [x.i 1]) (by omega) (by simp; omega) (by simp; omega) (by simp; omega); simp only [gB, dt, cond_true] at this ⊢; simp (disch := omega) only [TRa, TRi, aa, LNl, LNi, Int.cast_ofNat_Int, ao, cr]; simp only [LNl, LNi, Int.cast_ofNat_Int] at this ⊢; exact this
theorem Jy (m : Nat) (y : bm) (hy : 0 <= y.aA /\ y.aA <= 1152921504606846976) (q kd : Int) : ∀ (rest done ws wd : List Int) (c out : List Dat) (n : Nat) (paid : Int), rest.length < n -> ws.length = rest.length -> wd.length = done.length -> (done ++ rest).length <= 1000 -> (∀ w ∈ ws, 0 <= w /\ w < c.length) -> (∀ x ∈ rest, 0 <= x /\ x <= 1152921504606846976) -> 0 <= paid -> paid + rest.sum <= 1152921504606846976 -> (∀ i, i < c.length -> - paid <= (af c i).i 1 /\ (af c i).i 1 <= 1152921504606846976) -> c.length <= 1000 -> out.length + rest.length <= 137438953472 ->
 nN m n (paid, ((done ++ rest).length : Int), (done.length : Int), y, q, kd, c, wd ++ ws, done ++ rest, out) =
  some ([.i (paid + rest.sum)] ++ Uns.enc (({ y with aA := y.aA - (paid + rest.sum) } : bm) : bm) ++ [.i q, .i kd, .d (kD 1 ws rest c), .d (out ++ sg q kd ws rest)]) := by
 intro rest
 induction rest with
 | nil =>
  intro done ws wd c out n paid hn e1 e2 hl hw hx p0 p1 hc cl ol; obtain ⟨n, rfl⟩ := al n (by simp at hn; omega); obtain rfl := List.eq_nil_of_length_eq_zero e1; rw [qT]; unfold s9; dsimp only; simp only [List.append_nil, kD, sg, List.sum_nil, Int.add_zero] at p1 ⊢; rw [aw (by omega), aa (by omega) (by omega)]
 | cons x rest ih =>
  intro done ws wd c out n paid hn e1 e2 hl hw hx p0 p1 hc cl ol; obtain ⟨n, rfl⟩ := al n (by simp at hn; omega); cases ws with
  | nil => simp at e1
  | cons w ws =>
  simp only [List.length_append, List.length_cons, List.sum_cons] at hl hn e1 p1 ol; have hx0 := hx x (by simp); have hw0 := hw w (by simp); have hs0 := ev rest (fun z hz => (hx z (by simp [hz])).1); obtain ⟨v, rfl⟩ : ∃ v : Nat, w = (v : Int) := ⟨w.toNat, by omega⟩
  have hr := hc v (by omega); have gw : (wd ++ (v : Int) :: ws).getD done.length 0 = v := by rw [<- e2]; exact cr _ _ _ _
  have hset : ∀ i, i < (c.set v (cn 1 x (af c v))).length -> - (paid + x) <= (af (c.set v (cn 1 x (af c v))) i).i 1 /\ (af (c.set v (cn 1 x (af c v))) i).i 1 <= 1152921504606846976 := by
   intro i hi; rw [List.length_set] at hi
   by_cases e : i = v
   · subst e; have e3 : af (c.set i (cn 1 x (af c i))) i = cn 1 x (af c i) := by simp [af, hi]
     rw [e3]; simp only [cn, if_true, ek]; omega
   · have e3 : af (c.set v (cn 1 x (af c v))) i = af c i := by simp [af, List.getElem?_set, Ne.symm e]
     rw [e3]; have := hc i hi; omega
  have := ih (done ++ [x]) ws (wd ++ [(v : Int)]) (c.set v (cn 1 x (af c v))) (out ++ if 0 < x then [.r [.n q, .n kd, .n v, .n x]] else []) n (paid + x) (by omega) (by omega) (by simp [e2]) (by simp; omega) (fun z hz => by have := hw z (by simp [hz]); simpa using this) (fun z hz => hx z (by simp [hz])) (by omega) (by omega) hset (by simpa using cl) (by split <;> simp <;> omega); simp only [kD, sg, List.sum_cons, Int.toNat_natCast]; rw [show paid + (x + rest.sum) = paid + x + rest.sum by omega]; rw [<- List.append_assoc, <- this]; rw [qT]; unfold s9; dsimp only; have ec : done ++ [x] ++ rest = done ++ x :: rest := by simp
  have ew : wd ++ [(v : Int)] ++ ws = wd ++ (v : Int) :: ws := by simp
  rw [ec, ew]; have e5 : (cn 1 x (af c v)) = Dat.r [.n ((af c v).i 0), .n ((af c v).i 1 - x), .n ((af c v).i 2)] := by simp only [cn, if_true]
  rw [e5]; simp only [lt_eq, Int.toNat_natCast, gw, cr, List.length_append, List.length_cons, List.length_nil, Nat.zero_add, Int.natCast_add, Int.cast_ofNat_Int]
  by_cases h0 : 0 < x
  · rw [if_pos h0]; simp (disch := omega) only [TRa, TRi, aa, Int.natCast_add]
  · rw [if_neg h0]; simp (disch := omega) only [TRa, TRi, aa, Int.natCast_add, List.append_nil]
def Sr : Int × bm × Int × Int × List Dat × List Dat -> Bool × List Un := fun (a0, a1, a2, a3, a4, a5) => (decide (a0 <= 9223372036854775807 /\ 0 <= a1.aA /\ a1.aA <= 1152921504606846976 /\ a5.length <= 68719476736) && aV a4, [.i ((az (fun _ => true) 1 a0 a4).sum)] ++ Uns.enc (({ a1 with aA := a1.aA - (az (fun _ => true) 1 a0 a4).sum }) : bm) ++ [.i (a2), .i (a3), .d (bQ 1 (az (fun _ => true) 1 a0 a4) a4), .d (a5 ++ bL a2 a3 0 (az (fun _ => true) 1 a0 a4))])
theorem Jt (a0 : Int) (a1 : bm) (a2 : Int) (a3 : Int) (a4 : List Dat) (a5 : List Dat) (hc : (decide (a0 <= 9223372036854775807 /\ 0 <= a1.aA /\ a1.aA <= 1152921504606846976 /\ a5.length <= 68719476736) && aV a4) = true) : ∃ m, Pc m (a0, a1, a2, a3, a4, a5) = some ([.i ((az (fun _ => true) 1 a0 a4).sum)] ++ Uns.enc (({ a1 with aA := a1.aA - (az (fun _ => true) 1 a0 a4).sum }) : bm) ++ [.i (a2), .i (a3), .d (bQ 1 (az (fun _ => true) 1 a0 a4) a4), .d (a5 ++ bL a2 a3 0 (az (fun _ => true) 1 a0 a4))]) := by
 simp only [Bool.and_eq_true, decide_eq_true_eq] at hc; obtain ⟨⟨h1, h2, h3, h4⟩, h5⟩ := hc; obtain ⟨c1, c2⟩ := bP h5; obtain ⟨p1, p2, p3, p4, p5⟩ := wq (fun _ => true) (j := 1) (.inl rfl) a0 h5; refine ⟨2000, ?_⟩; unfold Pc; refine (LV 2000 a0 h1 a1 a2 a3 a5 a4 [] 2000 [] [] (by omega) (by simpa using c1) (by simp) (by simp)).trans ?_
 simp only [List.nil_append, List.length_nil]; have ht := j8 (a4.map (fun _ => true)); rw [List.length_map] at ht; have e := Jy 2000 a1 ⟨h2, h3⟩ a2 a3 (cC a0 (dt (fun _ => true) 1 a4)) [] (gB (fun _ => true) 0 a4) [] a4 a5 2000 0 (by omega) (by rw [p1, pd]) rfl (by simp; omega) (fun w hw => by have := oV _ _ _ w hw; omega) (fun x hx => by have := p2 x hx; omega) (by omega) (by omega) (fun i hi => by have := cv (c2 _ (m8 hi)); omega) c1 (by omega); refine e.trans ?_
 have g1 := mX (fun _ => true) 1 a4 [] (cC a0 (dt (fun _ => true) 1 a4)) p1 (fun d hd => (cv (c2 d hd)).1); have g2 := oK a2 a3 (fun _ => true) a4 0 (cC a0 (dt (fun _ => true) 1 a4)) p1; simp only [List.nil_append, List.length_nil, Int.cast_ofNat_Int] at g1 g2; rw [g1, g2, Int.zero_add, p5, jN (fun _ => true) (j := 1) (.inl rfl) a0 h5]
theorem Jk : ER 136 (mkE Mr.en Mr.ex Sr) := ar ag HR.right (fun m => [Dc (qx m m)]) (t := Pc) (by kernel_rfl) (fun m => (aH (N9 m m) aE)) (fun m a => by kernel_rfl) fun (a0, a1, a2, a3, a4, a5) hc => Jt a0 a1 a2 a3 a4 a5 hc
def LN : Tb Tryz.prog LQ TE := HR.add 136 _ Jk
def PI : aF := ⟨LN.tab, 139, ⟨[.ptr 0 0 0, .int .i64], [.cells [.int .i64, .int .i64, .int .i64, .int .i64, .int .i64, .buf 1 3, .int .i64, .int .i64, .buf 2 4], .ae (sI 3), .ae (sI 4)], 0⟩, ⟨[.int .i64], [.cells [.int .i64, .int .i64, .int .i64, .int .i64, .int .i64, .buf 1 3, .int .i64, .int .i64, .buf 3 4], .ae (sI 3), .gone, .ae (sI 4)], 0⟩, []⟩
abbrev Ac : Type := Int × Int × Int × bm × Int × Int × List Dat × List Dat
def sW (m : Nat) (k : Ac -> Option (List Un)) : Ac -> Option (List Un) := fun (a0, a1, a2, a3, a4, a5, a6, a7) =>
 bif decide (a2 < 8) then
 chk (decide ((w64 (a0 - a1)) <= 9223372036854775807 /\ 0 <= a3.aA /\ a3.aA <= 1152921504606846976 /\ a7.length <= 68719476736) && aV a6) <|
 k (a0, (w64 (a1 + ((az (aM a2) 1 (w64 (a0 - a1)) a6).sum))), (w64 (a2 + 1)), ({ a3 with aA := a3.aA - (az (aM a2) 1 (w64 (a0 - a1)) a6).sum }), a4, a5, (bQ 1 (az (aM a2) 1 (w64 (a0 - a1)) a6) a6), (a7 ++ bL a4 a5 0 (az (aM a2) 1 (w64 (a0 - a1)) a6)))
 else
 some ([.i a1] ++ Uns.enc (a3 : bm) ++ [.i a4, .i a5, .d a6, .d a7])
def qP (m : Nat) : Nat -> Ac -> Option (List Un) := bj (sW m)
theorem rI (m : Nat) (n : Nat) : qP m (n + 1) = sW m (qP m n) := rfl
def CT (F : Ac -> Option (List Un)) : aR := ⟨[.lp [0, 1, 0, 1, 1], .blk 0, .code [1, 1, 1]], ⟨frm 21 [(0, .ptr 0 0 0), (1, .int .i64), (5, .int .i64), (7, .int .i64)], [.cells [.int .i64, .int .i64, .int .i64, .int .i64, .int .i64, .buf 1 3, .int .i64, .int .i64, .buf 3 4], .ae (sI 3), .gone, .ae (sI 4)], 0⟩, onU F⟩
theorem OF (m : Nat) : ∀ n, HO PI (CT (qP m n)) := au ag LN.right (fun k => [CT k]) (fun k h => (aH h aE)) fun k a => by kernel_rfl
def t139 (m : Nat) : Int × bm × Int × Int × List Dat × List Dat -> Option (List Un) := fun (a0, a1, a2, a3, a4, a5) =>
 qP m m (a0, 0, 0, a1, a2, a3, a4, a5)
theorem Rx (m : Nat) (nn q kd : Int) : ∀ (k n : Nat) (r paid : Int) (y : bm) (c out : List Dat), k < n -> r + k = 8 -> 0 <= r -> aV c = true -> 0 <= paid -> paid <= nn -> nn - paid <= y.aA -> y.aA <= 1152921504606846976 -> nn <= 1152921504606846976 -> out.length + 1000 * k <= 68719476736 ->
 qP m n (nn, paid, r, y, q, kd, c, out) = some ([.i (paid + (bx q kd k r (nn - paid) c).2.2)] ++ Uns.enc (({ y with aA := y.aA - (bx q kd k r (nn - paid) c).2.2 } : bm) : bm) ++ [.i q, .i kd, .d (bx q kd k r (nn - paid) c).1, .d (out ++ (bx q kd k r (nn - paid) c).2.1)]) := by
 intro k
 induction k with
 | zero =>
  intro n r paid y c out hn hr h0 hc p0 p1 p2 p3 p4 ho; obtain ⟨n, rfl⟩ := al n (by omega); rw [rI]; unfold sW; dsimp only; simp only [bx, Int.add_zero, Int.sub_zero, List.append_nil]; rw [aw (by omega)]
 | succ k ih =>
  intro n r paid y c out hn hr h0 hc p0 p1 p2 p3 p4 ho; obtain ⟨n, rfl⟩ := al n (by omega); rw [rI]; unfold sW; dsimp only; obtain ⟨l1, l2, l3⟩ := dX (aM r) (j := 1) (.inl rfl) (nn - paid) hc; obtain ⟨_, _, w0, w1⟩ := lV (aM r) (j := 1) (.inl rfl) hc; obtain ⟨g1, g2⟩ := oU (aM r) (j := 1) (.inl rfl) (nn - paid) hc; have hpl := jo q kd (az (aM r) 1 (nn - paid) c) 0; have hcl := (bP hc).1; rw [ba (by omega), aa (n := nn - paid) (by omega) (by omega), hc, Bool.and_true, aG ⟨by omega, by omega, by omega, by omega⟩]; have := ih n (r + 1) (paid + (az (aM r) 1 (nn - paid) c).sum) { y with aA := y.aA - (az (aM r) 1 (nn - paid) c).sum } (bQ 1 (az (aM r) 1 (nn - paid) c) c) (out ++ bL q kd 0 (az (aM r) 1 (nn - paid) c)) (by omega) (by omega) (by omega) g1 (by omega) (by omega) (by simp only; omega) (by simp only; omega) p4 (by rw [List.length_append]; omega); rw [aa (n := r + 1) (by omega) (by omega), aa (n := paid + (az (aM r) 1 (nn - paid) c).sum) (by omega) (by omega), this]; simp only [bx]; rw [show nn - (paid + (az (aM r) 1 (nn - paid) c).sum) = nn - paid - (az (aM r) 1 (nn - paid) c).sum by omega]; simp only [Int.add_assoc, List.append_assoc, Int.sub_sub]
def f139 : Int × bm × Int × Int × List Dat × List Dat -> Bool × List Un := fun (a0, a1, a2, a3, a4, a5) => (decide (0 <= a0 /\ a0 <= a1.aA /\ a1.aA <= 1152921504606846976 /\ a5.length <= 34359738368) && aV a4, [.i ((bx a2 a3 8 0 a0 a4).2.2)] ++ Uns.enc (({ a1 with aA := a1.aA - (bx a2 a3 8 0 a0 a4).2.2 }) : bm) ++ [.i (a2), .i (a3), .d ((bx a2 a3 8 0 a0 a4).1), .d (a5 ++ (bx a2 a3 8 0 a0 a4).2.1)])
theorem My (a0 : Int) (a1 : bm) (a2 : Int) (a3 : Int) (a4 : List Dat) (a5 : List Dat) (hc : (decide (0 <= a0 /\ a0 <= a1.aA /\ a1.aA <= 1152921504606846976 /\ a5.length <= 34359738368) && aV a4) = true) : ∃ m, t139 m (a0, a1, a2, a3, a4, a5) = some ([.i ((bx a2 a3 8 0 a0 a4).2.2)] ++ Uns.enc (({ a1 with aA := a1.aA - (bx a2 a3 8 0 a0 a4).2.2 }) : bm) ++ [.i (a2), .i (a3), .d ((bx a2 a3 8 0 a0 a4).1), .d (a5 ++ (bx a2 a3 8 0 a0 a4).2.1)]) := by
 simp only [Bool.and_eq_true, decide_eq_true_eq] at hc; obtain ⟨⟨h1, h2, h3, h4⟩, h5⟩ := hc; refine ⟨20, ?_⟩; have := Rx 20 a0 a2 a3 8 20 0 0 a1 a4 a5 (by omega) (by omega) (by omega) h5 (by omega) (by omega) (by omega) h3 (by omega) (by omega); simp only [Int.sub_zero, Int.zero_add] at this; exact this
theorem Jl : ER 139 (mkE PI.en PI.ex f139) := ar ag LN.right (fun m => [CT (qP m m)]) (t := t139) (by kernel_rfl) (fun m => (aH (OF m m) aE)) (fun m a => by kernel_rfl) fun (a0, a1, a2, a3, a4, a5) hc => My a0 a1 a2 a3 a4 a5 hc
def MR : Tb Tryz.prog LQ TE := LN.add 139 _ Jl
def rD (d : Dat) : Bool := decide (0 <= d.i 3)
theorem Bh {d : Dat} (h : rD d = true) : 0 <= d.i 3 := of_decide_eq_true h
theorem yr : ∀ l : List Dat, (∀ d ∈ l, rD d = true) -> 0 <= ak 3 l
 | [], _ => by simp [ak]
 | d :: l, h => by
  have := yr l fun x hx => h x (by simp [hx])
  have := Bh (h d (by simp)); simp only [ak]; omega
def N54 : aF := ⟨MR.tab, 54, ⟨[.ae (sI 4)], [], 0⟩, ⟨[.int .i64], [], 0⟩, []⟩
abbrev EG : Type := Int × List Dat × Int × Int
def yK (m : Nat) (k : EG -> Option (List Un)) : EG -> Option (List Un) := fun (a0, a1, a2, a3) =>
 bif decide (a3 < a2) then
 chk (inb a3 a1.length) <|
 chk (decide (a3.toNat < a1.length)) <|
 k ((w64 (a0 + ((af a1 a3.toNat).i 3))), a1, a2, (w64 (a3 + 1)))
 else
 some ([.i a0])
def yp (m : Nat) : Nat -> EG -> Option (List Un) := bj (yK m)
theorem wj (m : Nat) (n : Nat) : yp m (n + 1) = yK m (yp m n) := rfl
def Hz (F : EG -> Option (List Un)) : aR := ⟨[.lp [0, 1, 0, 1, 1], .blk 0, .code [1, 1, 1]], ⟨frm 18 [(3, .int .i64), (6, .ae (sI 4)), (7, .int .i64), (8, .int .i64)], [], 0⟩, onU F⟩
theorem Qg (m : Nat) : ∀ n, HO N54 (Hz (yp m n)) := au ag MR.right (fun k => [Hz k]) (fun k h => (aH h aE)) fun k a => by kernel_rfl
def t54 (m : Nat) : List Dat -> Option (List Un) := fun a0 =>
 yp m m (0, a0, (a0.length : Int), 0)
theorem Ri (m : Nat) : ∀ (rest pre : List Dat) (n : Nat) (b : Int), rest.length < n -> (pre ++ rest).length <= 1000000 -> (∀ d ∈ rest, rD d = true) -> 0 <= b -> b + ak 3 rest <= 1152921504606846976 ->
 yp m n (b, pre ++ rest, ((pre ++ rest).length : Int), (pre.length : Int)) = some [.i (b + ak 3 rest)] := by
 intro rest
 induction rest with
 | nil =>
  intro pre n b hn hl hg h0 h1; obtain ⟨n, rfl⟩ := al n (by simp at hn; omega); rw [wj]; unfold yK; dsimp only; simp [aw, ak]
 | cons x rest ih =>
  intro pre n b hn hl hg h0 h1; obtain ⟨n, rfl⟩ := al n (by simp at hn; omega); simp only [List.length_cons, List.length_append] at hn hl; have hx := Bh (hg x (by simp)); have hr := yr rest fun d hd => hg d (by simp [hd])
  simp only [ak] at h1; rw [wj]; unfold yK; dsimp only; have := ih (pre ++ [x]) n (b + x.i 3) (by omega) (by simp; omega) (fun d hd => hg d (by simp [hd])) (by omega) (by omega); simp only [ak] at this ⊢; simp (disch := omega) only [TRa, TRi, aa, LNl, LNi, Int.cast_ofNat_Int, ao]; simp only [LNl, LNi, Int.cast_ofNat_Int] at this ⊢; exact this
def f54 : List Dat -> Bool × List Un := fun a0 => (decide (a0.length <= 1000000) && (a0.all rD && decide (ak 3 a0 <= 1152921504606846976)), [.i (ak 3 a0)])
theorem O5 (a0 : List Dat) (hc : (decide (a0.length <= 1000000) && (a0.all rD && decide (ak 3 a0 <= 1152921504606846976))) = true) : ∃ m, t54 m a0 = some ([.i (ak 3 a0)]) := by
 simp only [Bool.and_eq_true, decide_eq_true_eq, List.all_eq_true] at hc; refine ⟨a0.length + 1, ?_⟩; exact (Ri _ a0 [] (a0.length + 1) 0 (by omega) (by simpa using hc.1) hc.2.1 (by omega) (by simpa using hc.2.2)).trans (by simp only [Int.zero_add])
theorem Kt : ER 54 (mkE N54.en N54.ex f54) := ar ag MR.right (fun m => [Hz (yp m m)]) (t := t54) (by kernel_rfl) (fun m => (aH (Qg m m) aE)) (fun m a => by kernel_rfl) fun a0 hc => O5 a0 hc
def T54 : Tb Tryz.prog LQ TE := MR.add 54 _ Kt
def QG : aF := ⟨T54.tab, 103, ⟨[.ptr 0 0 0, .agg [.int .i64, .int .i64]], [.cells [.int .i64, .int .i64, .int .i64, .int .i64, .int .i64, .buf 1 3, .int .i64, .int .i64, .buf 2 4], .ae (sI 3), .ae (sI 4)], 0⟩, ⟨[], [.cells [.int .i64, .int .i64, .int .i64, .int .i64, .int .i64, .buf 1 3, .int .i64, .int .i64, .buf 3 4], .ae (sI 3), .gone, .ae (sI 4)], 0⟩, []⟩
def t103 (m : Nat) : Int × Int × bm × Int × Int × List Dat × List Dat -> Option (List Un) := fun (a0, a1, a2, a3, a4, a5, a6) =>
 bif a0 == 1 then
 lt ((if a2.aA < a2.fee then a2.aA else a2.fee) : Int) fun x1 =>
 lt ((if x1 < 0 then 0 else x1) : Int) fun x2 =>
 bif decide (x2 > 0) then
 chk (fits (a6.length + 1) 32) <|
 some (Uns.enc (({ a2 with aA := (w64 (a2.aA - x2)), fee := (w64 (a2.fee - x2)) } : bm) : bm) ++ [.i a3, .i a4, .d a5, .d (a6 ++ ([.r [.n a3, .n a4, .n (-1), .n x2]]))])
 else
 some (Uns.enc (({ a2 with aA := (w64 (a2.aA - x2)), fee := (w64 (a2.fee - x2)) } : bm) : bm) ++ [.i a3, .i a4, .d a5, .d a6])
 else
 bif a0 == 2 then
 lt ((if a2.aA < a2.bM then a2.aA else a2.bM) : Int) fun x4 =>
 lt ((if x4 < 0 then 0 else x4) : Int) fun x5 =>
 bif decide (x5 > 0) then
 chk (fits (a6.length + 1) 32) <|
 some (Uns.enc (({ a2 with aA := (w64 (a2.aA - x5)), bM := (w64 (a2.bM - x5)) } : bm) : bm) ++ [.i a3, .i a4, .d a5, .d (a6 ++ ([.r [.n a3, .n a4, .n (-1), .n x5]]))])
 else
 some (Uns.enc (({ a2 with aA := (w64 (a2.aA - x5)), bM := (w64 (a2.bM - x5)) } : bm) : bm) ++ [.i a3, .i a4, .d a5, .d a6])
 else
 bif a0 == 6 then
 lt ((if a2.aA < a2.room then a2.aA else a2.room) : Int) fun x7 =>
 lt ((if x7 < 0 then 0 else x7) : Int) fun x8 =>
 bif decide (x8 > 0) then
 chk (fits (a6.length + 1) 32) <|
 some (Uns.enc (({ a2 with aA := (w64 (a2.aA - x8)), room := (w64 (a2.room - x8)) } : bm) : bm) ++ [.i a3, .i a4, .d a5, .d (a6 ++ ([.r [.n a3, .n a4, .n (-1), .n x8]]))])
 else
 some (Uns.enc (({ a2 with aA := (w64 (a2.aA - x8)), room := (w64 (a2.room - x8)) } : bm) : bm) ++ [.i a3, .i a4, .d a5, .d a6])
 else
 bif a0 == 3 then
 chk (decide (a2.aA <= 9223372036854775807 /\ 0 <= a2.aA /\ a2.aA <= 1152921504606846976 /\ a6.length <= 68719476736) && aV a5) <|
 some (Uns.enc (({ a2 with aA := a2.aA - (az (aM a1) 2 a2.aA a5).sum }) : bm) ++ [.i a3, .i a4, .d (bQ 2 (az (aM a1) 2 a2.aA a5) a5), .d (a6 ++ bL a3 a4 0 (az (aM a1) 2 a2.aA a5))])
 else
 bif a0 == 4 then
 lt ((if a2.aA < a2.av then a2.aA else a2.av) : Int) fun x12 =>
 chk (decide (0 <= x12 /\ x12 <= a2.aA /\ a2.aA <= 1152921504606846976 /\ a6.length <= 34359738368) && aV a5) <|
 lt (({ a2 with aA := a2.aA - (bx a3 a4 8 0 x12 a5).2.2 }) : bm) fun g13 =>
 chk (decide (a2.av = g13.av)) <|
 some (Uns.enc (({ g13 with av := (w64 (a2.av - ((bx a3 a4 8 0 x12 a5).2.2))) } : bm) : bm) ++ [.i a3, .i a4, .d ((bx a3 a4 8 0 x12 a5).1), .d (a6 ++ (bx a3 a4 8 0 x12 a5).2.1)])
 else
 bif a0 == 5 then
 lt ((if a2.aA < a2.av then a2.aA else a2.av) : Int) fun x16 =>
 chk (decide (x16 <= 9223372036854775807 /\ 0 <= a2.aA /\ a2.aA <= 1152921504606846976 /\ a6.length <= 68719476736) && aV a5) <|
 lt (({ a2 with aA := a2.aA - (az (fun _ => true) 1 x16 a5).sum }) : bm) fun g18 =>
 chk (decide (a2.av = g18.av)) <|
 some (Uns.enc (({ g18 with av := (w64 (a2.av - ((az (fun _ => true) 1 x16 a5).sum))) } : bm) : bm) ++ [.i a3, .i a4, .d (bQ 1 (az (fun _ => true) 1 x16 a5) a5), .d (a6 ++ bL a3 a4 0 (az (fun _ => true) 1 x16 a5))])
 else
 bif a0 == 7 then
 chk (decide (0 <= a2.aA /\ a2.aA <= a2.aA /\ a2.aA <= 1152921504606846976 /\ a6.length <= 34359738368) && aV a5) <|
 some (Uns.enc (({ a2 with aA := a2.aA - (bx a3 a4 8 0 a2.aA a5).2.2 }) : bm) ++ [.i a3, .i a4, .d ((bx a3 a4 8 0 a2.aA a5).1), .d (a6 ++ (bx a3 a4 8 0 a2.aA a5).2.1)])
 else
 some (Uns.enc (a2 : bm) ++ [.i a3, .i a4, .d a5, .d a6])
def f103 : Int × Int × bm × Int × Int × List Dat × List Dat -> Bool × List Un := fun (a0, a1, a2, a3, a4, a5, a6) => (decide (a4 = a0 /\ a6.length <= 17179869184) && (ns a2 && aV a5), Uns.enc (((dw a3 a0 a1 a2 a5).1) : bm) ++ [.i (a3), .i (a4), .d ((dw a3 a0 a1 a2 a5).2.1), .d (a6 ++ (dw a3 a0 a1 a2 a5).2.2)])
set_option maxHeartbeats 2000000 in
theorem K5 (a0 : Int) (a1 : Int) (a2 : bm) (a3 : Int) (a4 : Int) (a5 : List Dat) (a6 : List Dat) (hc : (decide (a4 = a0 /\ a6.length <= 17179869184) && (ns a2 && aV a5)) = true) : ∃ m, t103 m (a0, a1, a2, a3, a4, a5, a6) = some (Uns.enc (((dw a3 a0 a1 a2 a5).1) : bm) ++ [.i (a3), .i (a4), .d ((dw a3 a0 a1 a2 a5).2.1), .d (a6 ++ (dw a3 a0 a1 a2 a5).2.2)]) := by
 simp only [Bool.and_eq_true, decide_eq_true_eq] at hc; obtain ⟨⟨rfl, ho⟩, hx, hc⟩ := hc; have hx' := px hx; have hcl := (bP hc).1; have w2 := fun sel j hj => (lV (c := a5) sel (j := j) hj hc).2.2
 have s2 := fun sel j hj n => (dX (c := a5) sel (j := j) hj n hc).2.1
 have mm : ∀ a b : Int, (if b < a then b else a) = min a b := fun a b => by omega
 have mx : ∀ a : Int, (if a < 0 then 0 else a) = max a 0 := fun a => by omega
 refine ⟨0, ?_⟩; unfold t103 dw; dsimp only; simp only [lt_eq, mm, mx]; have one : ∀ (z : Int) (u : bm) (o2 : List Dat), 0 <= z -> ∀ v : bm, u = v -> (bif decide (z > 0) then chk (fits (a6.length + 1) 32) (some (Uns.enc (u : bm) ++ [.i a3, .i a4, .d a5, .d (a6 ++ ([.r [.n a3, .n a4, .n (-1), .n z]]))])) else some (Uns.enc (u : bm) ++ [.i a3, .i a4, .d a5, .d a6])) = some (Uns.enc (v : bm) ++ [.i a3, .i a4, .d a5, .d (a6 ++ jZ a3 a4 z)]) := by
  intro z u o2 hz v huv; subst huv; unfold jZ
  by_cases h : z > 0
  · rw [ba h, pf (by omega) (by omega), if_pos (by omega)]
  · rw [aw h, if_neg (by omega), List.append_nil]
 by_cases k1 : a4 = 1
 · rw [cI k1, if_pos k1]; rw [show max (min a2.fee a2.aA) 0 = min a2.fee a2.aA by omega]; exact one _ _ [] (by omega) _ (by rw [aa (by omega) (by omega), aa (by omega) (by omega)])
 rw [eM k1, if_neg k1]
 by_cases k2 : a4 = 2
 · rw [cI k2, if_pos k2]; rw [show max (min a2.bM a2.aA) 0 = min a2.bM a2.aA by omega]; exact one _ _ [] (by omega) _ (by rw [aa (by omega) (by omega), aa (by omega) (by omega)])
 rw [eM k2, if_neg k2]
 by_cases k6 : a4 = 6
 · rw [cI k6, if_pos k6]; rw [show max (min a2.room a2.aA) 0 = min a2.room a2.aA by omega]; exact one _ _ [] (by omega) _ (by rw [aa (by omega) (by omega), aa (by omega) (by omega)])
 rw [eM k6, if_neg k6]
 by_cases k3 : a4 = 3
 · rw [cI k3, if_pos k3, hc, Bool.and_true, aG (by omega)]
 rw [eM k3, if_neg k3]
 by_cases k4 : a4 = 4
 · rw [cI k4, if_pos k4, hc, Bool.and_true, aG (by omega), aG trivial]; have q := uP a3 a4 8 0 (min a2.av a2.aA) a5 hc; generalize bx a3 a4 8 0 (min a2.av a2.aA) a5 = y at *
   rw [aa (by omega) (by omega)]
 rw [eM k4, if_neg k4]
 by_cases k5 : a4 = 5
 · rw [cI k5, if_pos k5, hc, Bool.and_true, aG (by omega), aG trivial]; have q1 := s2 (fun _ => true) 1 (.inl rfl) (min a2.av a2.aA); have q2 := w2 (fun _ => true) 1 (.inl rfl); rw [aa (n := a2.av - _) (by omega) (by omega)]
 rw [eM k5, if_neg k5]
 by_cases k7 : a4 = 7
 · rw [cI k7, if_pos k7, hc, Bool.and_true, aG (by omega)]
 rw [eM k7, if_neg k7, List.append_nil]
theorem IF : ER 103 (mkE QG.en QG.ex f103) := ar ag T54.right (fun m => []) (t := t103) (by kernel_rfl) (fun m => aE) (fun m a => by kernel_rfl) fun (a0, a1, a2, a3, a4, a5, a6) hc => K5 a0 a1 a2 a3 a4 a5 a6 hc
def L7 : Tb Tryz.prog LQ TE := T54.add 103 _ IF
def N45 : aF := ⟨L7.tab, 45, ⟨[.int .i64, .agg [.int .i64, .int .i64, .int .i64, .int .i64, .ae (sI 3)], .ae (sI 2)], [], 0⟩, ⟨[.buf 0 4, .int .i64, .agg [.int .i64, .int .i64, .int .i64, .int .i64, .buf 1 3]], [.ae (sI 4), .ae (sI 3)], 0⟩, []⟩
abbrev EM : Type := List Dat × Int × Int × Int × Int × Int × Int × bm × Int × Int × List Dat × List Dat × List Dat
def ze (m : Nat) (k : EM -> Option (List Un)) : EM -> Option (List Un) := fun (a0, a1, a2, a3, a4, a5, a6, a7, a8, a9, a10, a11, a12) =>
 bif decide (a2 < a1) then
 chk (inb a2 a0.length) <|
 chk (decide (a2.toNat < a0.length)) <|
 lt (af a0 a2.toNat : Dat) fun d1 =>
 chk (decide ((d1.i 0) = (d1.i 0) /\ a12.length <= 17179869184) && (ns a7 && aV a11)) <|
 k (a0, a1, (w64 (a2 + 1)), a3, a4, a5, a6, ((dw a2 (d1.i 0) (d1.i 1) a7 a11).1), a2, (d1.i 0), a10, ((dw a2 (d1.i 0) (d1.i 1) a7 a11).2.1), (a12 ++ (dw a2 (d1.i 0) (d1.i 1) a7 a11).2.2))
 else
 some ([.i a7.aA, .i a7.fee, .i a7.bM, .i a7.av, .i a7.room, .d a12, .d a11])
def wV (m : Nat) : Nat -> EM -> Option (List Un) := bj (ze m)
theorem tD (m : Nat) (n : Nat) : wV m (n + 1) = ze m (wV m n) := rfl
def I5 (F : EM -> Option (List Un)) : aR := ⟨[.lp [0, 1, 0, 1, 1, 1], .blk 0, .code [1, 1, 1, 1]], ⟨frm 52 [(8, .ptr 0 0 0), (9, .ptr 1 0 0), (20, .ae (sI 2)), (21, .int .i64), (22, .int .i64)], [.cells [.int .i64, .int .i64, .int .i64, .int .i64, .buf 2 3], .cells [.int .i64, .int .i64, .int .i64, .int .i64, .int .i64, .buf 3 3, .int .i64, .int .i64, .buf 4 4], .ae (sI 3), .ae (sI 3), .ae (sI 4)], 0⟩, onU F⟩
theorem Qs (m : Nat) : ∀ n, HO N45 (I5 (wV m n)) := au ag L7.right (fun k => [I5 k]) (fun k h => (aH h aE)) fun k a => by kernel_rfl
def t45 (m : Nat) : Int × Int × Int × Int × Int × List Dat × List Dat -> Option (List Un) := fun (a0, a1, a2, a3, a4, a5, a6) =>
 chk (decide (a5.length < 1000000)) <|
 wV m m (a6, (a6.length : Int), 0, 0, 0, 0, 0, (⟨a0, a1, a2, a3, a4⟩ : bm), 0, 0, [], a5, [])
theorem Rl (m : Nat) (z1 z2 z3 z4 : Int) (zl : List Dat) : ∀ (rest pre : List Dat) (n : Nat) (y : bm) (q kd : Int) (c out : List Dat), rest.length < n -> (pre ++ rest).length <= 1000000 -> ns y = true -> aV c = true -> out.length <= 8000 * pre.length ->
 wV m n (pre ++ rest, ((pre ++ rest).length : Int), (pre.length : Int), z1, z2, z3, z4, y, q, kd, zl, c, out) = some [.i (dI pre.length rest y c).1.aA, .i (dI pre.length rest y c).1.fee, .i (dI pre.length rest y c).1.bM, .i (dI pre.length rest y c).1.av, .i (dI pre.length rest y c).1.room, .d (out ++ (dI pre.length rest y c).2.2), .d (dI pre.length rest y c).2.1] := by
 intro rest
 induction rest with
 | nil =>
  intro pre n y q kd c out hn hl hy hc ho; obtain ⟨n, rfl⟩ := al n (by simp at hn; omega); rw [tD]; unfold ze; dsimp only; simp [aw, dI]
 | cons x rest ih =>
  intro pre n y q kd c out hn hl hy hc ho; obtain ⟨n, rfl⟩ := al n (by simp at hn; omega); simp only [List.length_cons, List.length_append] at hn hl; obtain ⟨s1, s2, s3, s4⟩ := tI pre.length (x.i 0) (x.i 1) hy hc; have := ih (pre ++ [x]) n _ (pre.length : Int) (x.i 0) _ (out ++ (dw pre.length (x.i 0) (x.i 1) y c).2.2) (by omega) (by simp; omega) s1 s2 (by simp; omega); simp only [dI]; rw [tD]; unfold ze; dsimp only; simp only [hy, hc, Bool.and_self, Bool.and_true]; simp only [Int.toNat_natCast, ao, lt_eq]; generalize dw pre.length (x.i 0) (x.i 1) y c = u at *
  simp only [hy, hc, Bool.and_self, Bool.and_true, decide_true, true_and]; simp (disch := omega) only [TRa, TRi, aa, LNl, LNi, Int.cast_ofNat_Int, ao]; simp only [LNl, LNi, Int.cast_ofNat_Int] at this ⊢; exact this
def f45 : Int × Int × Int × Int × Int × List Dat × List Dat -> Bool × List Un := fun (a0, a1, a2, a3, a4, a5, a6) => (decide (a6.length <= 1000000) && (ns ⟨a0, a1, a2, a3, a4⟩ && aV a5), [.i ((dI 0 a6 ⟨a0, a1, a2, a3, a4⟩ a5).1.aA), .i ((dI 0 a6 ⟨a0, a1, a2, a3, a4⟩ a5).1.fee), .i ((dI 0 a6 ⟨a0, a1, a2, a3, a4⟩ a5).1.bM), .i ((dI 0 a6 ⟨a0, a1, a2, a3, a4⟩ a5).1.av), .i ((dI 0 a6 ⟨a0, a1, a2, a3, a4⟩ a5).1.room), .d ((dI 0 a6 ⟨a0, a1, a2, a3, a4⟩ a5).2.2), .d ((dI 0 a6 ⟨a0, a1, a2, a3, a4⟩ a5).2.1)])
theorem Nj (a0 : Int) (a1 : Int) (a2 : Int) (a3 : Int) (a4 : Int) (a5 : List Dat) (a6 : List Dat) (hc : (decide (a6.length <= 1000000) && (ns ⟨a0, a1, a2, a3, a4⟩ && aV a5)) = true) : ∃ m, t45 m (a0, a1, a2, a3, a4, a5, a6) = some ([.i ((dI 0 a6 ⟨a0, a1, a2, a3, a4⟩ a5).1.aA), .i ((dI 0 a6 ⟨a0, a1, a2, a3, a4⟩ a5).1.fee), .i ((dI 0 a6 ⟨a0, a1, a2, a3, a4⟩ a5).1.bM), .i ((dI 0 a6 ⟨a0, a1, a2, a3, a4⟩ a5).1.av), .i ((dI 0 a6 ⟨a0, a1, a2, a3, a4⟩ a5).1.room), .d ((dI 0 a6 ⟨a0, a1, a2, a3, a4⟩ a5).2.2), .d ((dI 0 a6 ⟨a0, a1, a2, a3, a4⟩ a5).2.1)]) := by
 simp only [Bool.and_eq_true, decide_eq_true_eq] at hc; obtain ⟨h1, h2, h3⟩ := hc; have hl := (bP h3).1; refine ⟨a6.length + 1, ?_⟩; unfold t45; dsimp only; rw [aG (by omega)]; exact Rl _ 0 0 0 0 [] a6 [] (a6.length + 1) _ 0 0 a5 [] (by omega) (by simpa using h1) h2 h3 (by simp)
theorem JF : ER 45 (mkE N45.en N45.ex f45) := ar ag L7.right (fun m => [I5 (wV m m)]) (t := t45) (by kernel_rfl) (fun m => (aH (Qs m m) aE)) (fun m a => by kernel_rfl) fun (a0, a1, a2, a3, a4, a5, a6) hc => Nj a0 a1 a2 a3 a4 a5 a6 hc
def T45 : Tb Tryz.prog LQ TE := L7.add 45 _ JF
end
end Go.Proofs.YtdbkoeefnodejaaGreat
namespace Go.Proofs.YtdbkoeefnodejaaGreat
noncomputable section
open Go Go.Proofs.YtdbkoeefnodejaaGreat.Ev
set_option maxRecDepth 20000
theorem eQ (j : Nat) : ∀ l : List Dat, (∀ d ∈ l, 0 <= d.i j) -> 0 <= ak j l
 | [], _ => by simp [ak]
 | d :: l, h => by
  have := h d (by simp); have := eQ j l fun x hx => h x (by simp [hx])
  simp only [ak]; omega
theorem uL (j : Nat) : ∀ a b : List Dat, ak j (a ++ b) = ak j a + ak j b
 | [], b => by simp [ak]
 | d :: a, b => by simp only [List.cons_append, ak, uL j a b]; omega
theorem uA (a k : Int) : ∀ (xs : List Int) (i : Int), (∀ x ∈ xs, 0 <= x) -> ak 3 (bL a k i xs) = xs.sum
 | [], i, _ => rfl
 | x :: xs, i, h => by
  have := uA a k xs (i + 1) fun y hy => h y (by simp [hy])
  have h0 := h x (by simp); simp only [bL, uL, List.sum_cons, this]
  by_cases hx : 0 < x
  · rw [if_pos hx]; simp [ak, fh]
  · rw [if_neg hx]; simp only [ak]; omega
theorem C5 {c : List Dat} (sel : Dat -> Bool) {j : Nat} (hj : j = 1 \/ j = 2) (n : Int) (h : aV c = true) : ∀ x ∈ az sel j n c, 0 <= x := fun x hx => by
 obtain ⟨l1, l2, l3⟩ := dX sel hj n h; obtain ⟨i, hi, rfl⟩ := pk hx; rw [l1] at hi; exact (l3 i hi).1
end
end Go.Proofs.YtdbkoeefnodejaaGreat
