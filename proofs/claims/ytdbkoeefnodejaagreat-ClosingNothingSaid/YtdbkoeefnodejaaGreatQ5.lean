/- Part of a proof: Deal, Right, Trust, Notes, View, Same, Begins, Pool, Pro, Flow, FlowAid. Conditions: none. -/
import Derived.Test.YtdbkoeefnodejaaGreatQ4
set_option linter.unusedVariables false
set_option linter.unusedSimpArgs false
set_option linter.unnecessarySimpa false
set_option linter.unusedSectionVars false
namespace Go.Proofs.YtdbkoeefnodejaaGreat
noncomputable section
open Go Go.Proofs.YtdbkoeefnodejaaGreat.Ev
set_option maxRecDepth 20000
def Pg : aD := ⟨T18.tab, 151, ⟨[.int .i64, .int .i64, .int .i64], [], 0⟩, ⟨[.bool], [], 0⟩, []⟩
def t151 (m : Nat) : Int × Int × Int -> Option (List Un) := fun (a0, a1, a2) =>
 bif decide (a0 >= a1) then
 some ([.b (decide (a0 <= a2))])
 else
 some ([.b false])
def f151 : Int × Int × Int -> Bool × List Un := fun (a0, a1, a2) => (true, [.b (decide (a1 <= a0 /\ a0 <= a2))])
theorem IC (a0 : Int) (a1 : Int) (a2 : Int) : ∃ m, t151 m (a0, a1, a2) = some ([.b (decide (a1 <= a0 /\ a0 <= a2))]) := by
 refine ⟨0, ?_⟩; unfold t151
 by_cases h : a1 <= a0 <;> by_cases h2 : a0 <= a2 <;> simp [h, h2]
theorem Hn : ER 151 (mkE Pg.en Pg.ex f151) := an ai T18.right (fun m => []) (t := t151) (by kernel_rfl) (fun m => aB) (fun m a => by kernel_rfl) fun (a0, a1, a2) hc => IC a0 a1 a2
def HX : Tb Tryz.prog LQ TE := T18.add 151 _ Hn
def vt (a b : Int) : List Dat -> Int -> Int
 | [], _ => -1
 | d :: l, i => if a = d.i 0 /\ b = d.i 1 then i else vt a b l (i + 1)
theorem zU (a b : Int) : ∀ (l : List Dat) (i : Int), 0 <= i -> (0 <= vt a b l i ↔ bS l a b = true)
 | [], i, h => by simp [vt, bS]
 | d :: l, i, h => by
  have := zU a b l (i + 1) (by omega); simp only [bS, List.any_cons, Bool.or_eq_true, Bool.and_eq_true, beq_iff_eq] at this ⊢; unfold vt
  by_cases hc : a = d.i 0 /\ b = d.i 1
  · rw [if_pos hc]; exact ⟨fun _ => .inl ⟨hc.1.symm, hc.2.symm⟩, fun _ => h⟩
  · rw [if_neg hc, this]; exact ⟨.inr, fun h => h.resolve_left fun e => hc ⟨e.1.symm, e.2.symm⟩⟩
def M3 : aD := ⟨HX.tab, 168, ⟨[.ag (sI 2), .agg [.int .i64, .int .i64]], [], 0⟩, ⟨[.int .i64], [], 0⟩, []⟩
abbrev yl : Type := List Dat × Int × Int × Int × Int
def rF (m : Nat) (k : yl -> Option (List Un)) : yl -> Option (List Un) := fun (a0, a1, a2, a3, a4) =>
 bif decide (a2 < a1) then
 chk (inb a2 a0.length) <|
 chk (decide (a2.toNat < a0.length)) <|
 lt (ae a0 a2.toNat : Dat) fun d1 =>
 bif ((a3 == (d1.i 0)) && ((a4 == (d1.i 1)) && true)) then
 some ([.i a2])
 else
 k (a0, a1, (w64 (a2 + 1)), a3, a4)
 else
 some ([.i (-1)])
def pf (m : Nat) : Nat -> yl -> Option (List Un) := bf (rF m)
theorem qz (m : Nat) (n : Nat) : pf m (n + 1) = rF m (pf m n) := rfl
def CG (F : yl -> Option (List Un)) : aQ := ⟨[.lp [0, 1, 0, 1], .blk 0, .code [1, 1]], ⟨frm 19 [(0, .ag (sI 2)), (3, .ptr 0 0 0), (7, .int .i64), (8, .int .i64)], [.cells [.int .i64, .int .i64]], 0⟩, onU F⟩
theorem Md (m : Nat) : ∀ n, HO M3 (CG (pf m n)) := ax ai HX.right (fun k => [CG k]) (fun k h => (aF h aB)) fun k a => by kernel_rfl
def t168 (m : Nat) : List Dat × Int × Int -> Option (List Un) := fun (a0, a1, a2) =>
 pf m m (a0, (a0.length : Int), 0, a1, a2)
theorem QJ (m : Nat) (a b : Int) : ∀ (rest pre : List Dat) (n : Nat), rest.length < n -> (pre ++ rest).length < 1099511627776 ->
 pf m n (pre ++ rest, ((pre ++ rest).length : Int), (pre.length : Int), a, b) = some [.i (vt a b rest pre.length)] := by
 intro rest
 induction rest with
 | nil =>
  intro pre n hn hl; obtain ⟨n, rfl⟩ := ak n (by simp at hn; omega); rw [qz]; unfold rF; dsimp only; simp [aC, vt]
 | cons x rest ih =>
  intro pre n hn hl; obtain ⟨n, rfl⟩ := ak n (by simp at hn; omega); simp only [List.length_cons, List.length_append] at hn hl; have := ih (pre ++ [x]) n (by omega) (by simp; omega); rw [qz]; unfold rF; dsimp only; simp only [vt]
  by_cases h1 : a = x.i 0
  · by_cases h2 : b = x.i 1
    · rw [if_pos ⟨h1, h2⟩]; simp (disch := omega) only [TRa, TRi, aa, LNl, LNi, Int.cast_ofNat_Int, ao]
    · rw [if_neg (fun h => h2 h.2)]; simp (disch := omega) only [TRa, TRi, aa, LNl, LNi, Int.cast_ofNat_Int, ao]; simp only [LNl, LNi, Int.cast_ofNat_Int] at this ⊢; exact this
  · rw [if_neg (fun h => h1 h.1)]; simp (disch := omega) only [TRa, TRi, aa, LNl, LNi, Int.cast_ofNat_Int, ao]; simp only [LNl, LNi, Int.cast_ofNat_Int] at this ⊢; exact this
def f168 : List Dat × Int × Int -> Bool × List Un := fun (a0, a1, a2) => (decide (a0.length < 1099511627776), [.i (vt a1 a2 a0 0)])
theorem Kr (a0 : List Dat) (a1 : Int) (a2 : Int) (hc : (decide (a0.length < 1099511627776)) = true) : ∃ m, t168 m (a0, a1, a2) = some ([.i (vt a1 a2 a0 0)]) := by
 refine ⟨a0.length + 1, ?_⟩; exact QJ _ a1 a2 a0 [] _ (by omega) (of_decide_eq_true hc)
theorem HB : ER 168 (mkE M3.en M3.ex f168) := an ai HX.right (fun m => [CG (pf m m)]) (t := t168) (by kernel_rfl) (fun m => (aF (Md m m) aB)) (fun m a => by kernel_rfl) fun (a0, a1, a2) hc => Kr a0 a1 a2 hc
def MY : Tb Tryz.prog LQ TE := HX.add 168 _ HB
def Qd : aD := ⟨MY.tab, 152, ⟨[.ag (sI 2), .agg [.int .i64, .int .i64]], [], 0⟩, ⟨[.bool], [], 0⟩, []⟩
def t152 (m : Nat) : List Dat × Int × Int -> Option (List Un) := fun (a0, a1, a2) =>
 chk (decide (a0.length < 1099511627776)) <|
 some ([.b (decide ((vt a1 a2 a0 0) >= 0))])
def f152 : List Dat × Int × Int -> Bool × List Un := fun (a0, a1, a2) => (decide (a0.length < 1099511627776), [.b (bS a0 a1 a2)])
theorem K9 (a0 : List Dat) (a1 : Int) (a2 : Int) (hc : (decide (a0.length < 1099511627776)) = true) : ∃ m, t152 m (a0, a1, a2) = some ([.b (bS a0 a1 a2)]) := by
 refine ⟨0, ?_⟩; have e := zU a1 a2 a0 0 (Int.le_refl 0); have h := of_decide_eq_true hc; unfold t152; simp (disch := omega) only [TRa, TRi, aa]; cases h : bS a0 a1 a2 <;> simp [h] at e ⊢ <;> omega
theorem F9 : ER 152 (mkE Qd.en Qd.ex f152) := an ai MY.right (fun m => []) (t := t152) (by kernel_rfl) (fun m => aB) (fun m a => by kernel_rfl) fun (a0, a1, a2) hc => K9 a0 a1 a2 hc
def Io : Tb Tryz.prog LQ TE := MY.add 152 _ F9
theorem Jk {c y : Bool} : (bif c then some [Un.b y] else some [.b false]) = some [.b (c && y)] := by cases c <;> rfl
def kx (d : bk) : Bool :=
 decide (0 <= d.b.oc /\ d.b.oc <= 100000) && (decide (0 <= d.b.ic /\ d.b.ic <= 100000) && (decide (0 <= d.b.late /\ d.b.late <= 100000) && (decide (0 <= d.b.lq /\ d.b.lq <= 100000) && (decide (0 <= d.b.clean /\ d.b.clean <= 100000) &&
 (decide (1 <= d.a.year /\ d.a.year <= 9000) && (decide (1 <= d.a.month /\ d.a.month <= 12) && (decide (0 <= d.a.basis /\ d.a.basis <= 2) && (decide (0 <= d.b.fee /\ d.b.fee <= 5000) && (decide (0 <= d.b.bl /\ d.b.bl <= 1099511627776) &&
 (decide (0 <= d.b.target /\ d.b.target <= 10000) && (decide (0 <= d.b.advance /\ d.b.advance <= 1099511627776) && decide (0 <= d.b.dR /\ d.b.dR <= 600))))))))))))
def NO : aD := ⟨Io.tab, 117, ⟨[.agg [.int .i64, .int .i64, .int .i64, .ag (sI 2), .ag (sI 3), .int .i64, .int .i64, .int .i64, .int .i64, .int .i64, .int .i64, .int .i64, .int .i64, .int .i64, .int .i64, .ag (sI 2), .ag (sI 2), .ag (sI 2)]], [], 0⟩, ⟨[.bool], [], 0⟩, []⟩
abbrev w9 : Type := Int × Int × bk × List Int
def w8 (m : Nat) (k : w9 -> Option (List Un)) : w9 -> Option (List Un) := fun (a0, a1, a2, a3) =>
 bif decide (a1 < a0) then
 chk (inb a1 a3.length) <|
 chk (decide (a1.toNat < a3.length)) <|
 bif !(decide (0 <= (a3.getD a1.toNat 0) /\ (a3.getD a1.toNat 0) <= 100000)) then
 some ([.b false])
 else
 k (a0, (w64 (a1 + 1)), a2, a3)
 else
 bif (decide (1 <= a2.a.year /\ a2.a.year <= 9000)) then
 bif (decide (1 <= a2.a.month /\ a2.a.month <= 12)) then
 bif (decide (0 <= a2.a.basis /\ a2.a.basis <= 2)) then
 bif (decide (0 <= a2.b.fee /\ a2.b.fee <= 5000)) then
 bif (decide (0 <= a2.b.bl /\ a2.b.bl <= 1099511627776)) then
 bif (decide (0 <= a2.b.target /\ a2.b.target <= 10000)) then
 bif (decide (0 <= a2.b.advance /\ a2.b.advance <= 1099511627776)) then
 some ([.b (decide (0 <= a2.b.dR /\ a2.b.dR <= 600))])
 else
 some ([.b false])
 else
 some ([.b false])
 else
 some ([.b false])
 else
 some ([.b false])
 else
 some ([.b false])
 else
 some ([.b false])
 else
 some ([.b false])
def nm (m : Nat) : Nat -> w9 -> Option (List Un) := bf (w8 m)
theorem Aj (m : Nat) (n : Nat) : nm m (n + 1) = w8 m (nm m n) := rfl
def Bz (F : w9 -> Option (List Un)) : aQ := ⟨[.lp [0, 1, 0, 1], .blk 0, .code [1, 1]], ⟨frm 68 [(1, .ptr 0 0 0), (20, .buf 1 1), (21, .int .i64), (22, .int .i64)], [.cells [.int .i64, .int .i64, .int .i64, .ag (sI 2), .ag (sI 3), .int .i64, .int .i64, .int .i64, .int .i64, .int .i64, .int .i64, .int .i64, .int .i64, .int .i64, .int .i64, .ag (sI 2), .ag (sI 2), .ag (sI 2)], .ints .i64], 0⟩, onU F⟩
theorem NH (m : Nat) : ∀ n, HO NO (Bz (nm m n)) := ax ai Io.right (fun k => [Bz k]) (fun k h => (aF h aB)) fun k a => by kernel_rfl
def t117 (m : Nat) : bk -> Option (List Un) := fun a0 =>
 nm m m (5, 0, a0, ([a0.b.oc, a0.b.ic, a0.b.late, a0.b.lq, a0.b.clean] : List Int))
def f117 : bk -> Bool × List Un := fun a0 => (true, [.b (kx a0)])
set_option maxHeartbeats 2000000 in
theorem KM (a0 : bk) : ∃ m, t117 m a0 = some ([.b (kx a0)]) := by
 refine ⟨6, ?_⟩; unfold t117; rw [show nm 6 6 = nm 6 (0 + 1 + 1 + 1 + 1 + 1 + 1) from rfl]; simp only [Aj]; unfold w8; dsimp only; simp (disch := omega) only [TRa, TRi, aa, List.length_cons, List.length_nil, List.getD_cons_zero, List.getD_cons_succ, Int.reduceToNat, Nat.reduceAdd, Int.zero_add, Int.reduceAdd, decide_true, decide_false, Int.reduceLT]; simp only [Jk]; rfl
theorem FE : ER 117 (mkE NO.en NO.ex f117) := an ai Io.right (fun m => [Bz (nm m m)]) (t := t117) (by kernel_rfl) (fun m => (aF (NH m m) aB)) (fun m a => by kernel_rfl) fun a0 hc => KM a0
def Il : Tb Tryz.prog LQ TE := Io.add 117 _ FE
def fM : Int -> Int -> List Dat -> Option Int
 | _, all, [] => some all
 | last, all, d :: l => if d.i 0 <= last then none else if 0 <= d.i 1 /\ d.i 1 <= 1099511627776 - all then fM (d.i 0) (all + d.i 1) l else none
def dN (l : List Dat) : Option Int := if 1 <= l.length /\ l.length <= 64 then fM 0 0 l else none
def KX (o : Option Int) : Option (List Un) := some [.i (o.getD 0), .b o.isSome]
def N4 : aD := ⟨Il.tab, 115, ⟨[.ag (sI 2)], [], 0⟩, ⟨[.int .i64, .bool], [], 0⟩, []⟩
abbrev yO : Type := Int × Int × List Dat × Int × Int
def rA (m : Nat) (k : yO -> Option (List Un)) : yO -> Option (List Un) := fun (a0, a1, a2, a3, a4) =>
 bif decide (a4 < a3) then
 chk (inb a4 a2.length) <|
 chk (decide (a4.toNat < a2.length)) <|
 lt (ae a2 a4.toNat : Dat) fun d2 =>
 bif decide ((d2.i 0) <= a0) then
 some ([.i 0, .b false])
 else
 bif !(decide (0 <= (d2.i 1) /\ (d2.i 1) <= (w64 (1099511627776 - a1)))) then
 some ([.i 0, .b false])
 else
 k ((d2.i 0), (w64 (a1 + (d2.i 1))), a2, a3, (w64 (a4 + 1)))
 else
 some ([.i a1, .b true])
def pO (m : Nat) : Nat -> yO -> Option (List Un) := bf (rA m)
theorem qH (m : Nat) (n : Nat) : pO m (n + 1) = rA m (pO m n) := rfl
def Be (F : yO -> Option (List Un)) : aQ := ⟨[.lp [0, 1, 0, 1, 1, 1], .blk 0, .code [1, 1, 1, 1]], ⟨frm 38 [(4, .int .i64), (5, .int .i64), (12, .ag (sI 2)), (13, .int .i64), (14, .int .i64)], [], 0⟩, onU F⟩
theorem Nu (m : Nat) : ∀ n, HO N4 (Be (pO m n)) := ax ai Il.right (fun k => [Be k]) (fun k h => (aF h aB)) fun k a => by kernel_rfl
def t115 (m : Nat) : List Dat -> Option (List Un) := fun a0 =>
 bif !(decide (1 <= (a0.length : Int) /\ (a0.length : Int) <= 64)) then
 some ([.i 0, .b false])
 else
 pO m m (0, 0, a0, (a0.length : Int), 0)
theorem KO (m : Nat) : ∀ (rest pre : List Dat) (n : Nat) (last all : Int), rest.length < n -> (pre ++ rest).length <= 64 -> 0 <= all -> all <= 1099511627776 ->
 pO m n (last, all, pre ++ rest, ((pre ++ rest).length : Int), (pre.length : Int)) = KX (fM last all rest) := by
 intro rest
 induction rest with
 | nil =>
  intro pre n last all hn hl h0 h1; obtain ⟨n, rfl⟩ := ak n (by simp at hn; omega); rw [qH]; unfold rA; dsimp only; simp [aC, fM, KX]
 | cons x rest ih =>
  intro pre n last all hn hl h0 h1; obtain ⟨n, rfl⟩ := ak n (by simp at hn; omega); simp only [List.length_cons, List.length_append] at hn hl; rw [qH]; unfold rA; dsimp only; simp only [fM]
  by_cases c1 : x.i 0 <= last
  · rw [if_pos c1]; simp (disch := omega) only [TRa, TRi, aa, LNl, LNi, Int.cast_ofNat_Int, ao]; rfl
  · rw [if_neg c1]
    by_cases c2 : 0 <= x.i 1 /\ x.i 1 <= 1099511627776 - all
    · rw [if_pos c2]; have := ih (pre ++ [x]) n (x.i 0) (all + x.i 1) (by omega) (by simp; omega) (by omega) (by omega); simp (disch := omega) only [TRa, TRi, aa, LNl, LNi, Int.cast_ofNat_Int, ao]; simp only [LNl, LNi, Int.cast_ofNat_Int] at this ⊢; exact this
    · rw [if_neg c2]; simp (disch := omega) only [TRa, TRi, aa, LNl, LNi, Int.cast_ofNat_Int, ao]; rfl
def f115 : List Dat -> Bool × List Un := fun a0 => (true, [.i ((dN a0).getD 0), .b ((dN a0).isSome)])
theorem II (a0 : List Dat) : ∃ m, t115 m a0 = some ([.i ((dN a0).getD 0), .b ((dN a0).isSome)]) := by
 refine ⟨65, ?_⟩; unfold t115 dN
 by_cases h : 1 <= a0.length /\ a0.length <= 64
 · rw [if_pos h]; simp (disch := omega) only [TRa, TRi, aa]; exact KO 65 a0 [] 65 0 0 (by omega) h.2 (by omega) (by omega)
 · rw [if_neg h]; simp (disch := omega) only [TRa, TRi, aa]; rfl
theorem Hj : ER 115 (mkE N4.en N4.ex f115) := an ai Il.right (fun m => [Be (pO m m)]) (t := t115) (by kernel_rfl) (fun m => (aF (Nu m m) aB)) (fun m a => by kernel_rfl) fun a0 hc => II a0
def Je : Tb Tryz.prog LQ TE := Il.add 115 _ Hj
def iV (most : Int) : Int -> List Dat -> Option Int
 | all, [] => some all
 | all, d :: l => if (0 <= d.i 0 /\ d.i 0 <= 7) /\ (1 <= d.i 1 /\ d.i 1 <= most - all) /\ (0 <= d.i 2 /\ d.i 2 <= 5000) then iV most (all + d.i 1) l else none
def gu (most : Int) (l : List Dat) : Option Int := if 1 <= l.length /\ l.length <= 8 then iV most 0 l else none
def Ng : aD := ⟨Je.tab, 116, ⟨[.ag (sI 3), .int .i64], [], 0⟩, ⟨[.int .i64, .bool], [], 0⟩, []⟩
abbrev xH : Type := Int × Int × List Dat × Int × Int
def rI (m : Nat) (k : xH -> Option (List Un)) : xH -> Option (List Un) := fun (a0, a1, a2, a3, a4) =>
 bif decide (a4 < a3) then
 chk (inb a4 a2.length) <|
 chk (decide (a4.toNat < a2.length)) <|
 lt (ae a2 a4.toNat : Dat) fun d2 =>
 bif !(decide (0 <= (d2.i 0) /\ (d2.i 0) <= 7)) then
 some ([.i 0, .b false])
 else
 bif !(decide (1 <= (d2.i 1) /\ (d2.i 1) <= (w64 (a0 - a1)))) then
 some ([.i 0, .b false])
 else
 bif !(decide (0 <= (d2.i 2) /\ (d2.i 2) <= 5000)) then
 some ([.i 0, .b false])
 else
 k (a0, (w64 (a1 + (d2.i 1))), a2, a3, (w64 (a4 + 1)))
 else
 some ([.i a1, .b true])
def oX (m : Nat) : Nat -> xH -> Option (List Un) := bf (rI m)
theorem qQ (m : Nat) (n : Nat) : oX m (n + 1) = rI m (oX m n) := rfl
def Cw (F : xH -> Option (List Un)) : aQ := ⟨[.lp [0, 1, 0, 1, 1, 1], .blk 0, .code [1, 1, 1, 1]], ⟨frm 44 [(1, .int .i64), (6, .int .i64), (13, .ag (sI 3)), (14, .int .i64), (15, .int .i64)], [], 0⟩, onU F⟩
theorem No (m : Nat) : ∀ n, HO Ng (Cw (oX m n)) := ax ai Je.right (fun k => [Cw k]) (fun k h => (aF h aB)) fun k a => by kernel_rfl
def t116 (m : Nat) : List Dat × Int -> Option (List Un) := fun (a0, a1) =>
 bif !(decide (1 <= (a0.length : Int) /\ (a0.length : Int) <= 8)) then
 some ([.i 0, .b false])
 else
 oX m m (a1, 0, a0, (a0.length : Int), 0)
theorem JI (m : Nat) (most : Int) (hm : 0 <= most /\ most <= 1099511627776) : ∀ (rest pre : List Dat) (n : Nat) (all : Int), rest.length < n -> (pre ++ rest).length <= 8 -> 0 <= all -> all <= most ->
 oX m n (most, all, pre ++ rest, ((pre ++ rest).length : Int), (pre.length : Int)) = KX (iV most all rest) := by
 intro rest
 induction rest with
 | nil =>
  intro pre n all hn hl h0 h1; obtain ⟨n, rfl⟩ := ak n (by simp at hn; omega); rw [qQ]; unfold rI; dsimp only; simp [aC, iV, KX]
 | cons x rest ih =>
  intro pre n all hn hl h0 h1; obtain ⟨n, rfl⟩ := ak n (by simp at hn; omega); simp only [List.length_cons, List.length_append] at hn hl; rw [qQ]; unfold rI; dsimp only; simp only [iV]
  by_cases c1 : 0 <= x.i 0 /\ x.i 0 <= 7
  · by_cases c2 : 1 <= x.i 1 /\ x.i 1 <= most - all
    · by_cases c3 : 0 <= x.i 2 /\ x.i 2 <= 5000
      · rw [if_pos ⟨c1, c2, c3⟩]; have := ih (pre ++ [x]) n (all + x.i 1) (by omega) (by simp; omega) (by omega) (by omega); simp (disch := omega) only [TRa, TRi, aa, LNl, LNi, Int.cast_ofNat_Int, ao]; simp only [LNl, LNi, Int.cast_ofNat_Int] at this ⊢; exact this
      · rw [if_neg (fun h => c3 h.2.2)]; simp (disch := omega) only [TRa, TRi, aa, LNl, LNi, Int.cast_ofNat_Int, ao]; rfl
    · rw [if_neg (fun h => c2 h.2.1)]; simp (disch := omega) only [TRa, TRi, aa, LNl, LNi, Int.cast_ofNat_Int, ao]; rfl
  · rw [if_neg (fun h => c1 h.1)]; simp (disch := omega) only [TRa, TRi, aa, LNl, LNi, Int.cast_ofNat_Int, ao]; rfl
def f116 : List Dat × Int -> Bool × List Un := fun (a0, a1) => (decide (0 <= a1 /\ a1 <= 1099511627776), [.i ((gu a1 a0).getD 0), .b ((gu a1 a0).isSome)])
theorem K4 (a0 : List Dat) (a1 : Int) (hc : (decide (0 <= a1 /\ a1 <= 1099511627776)) = true) : ∃ m, t116 m (a0, a1) = some ([.i ((gu a1 a0).getD 0), .b ((gu a1 a0).isSome)]) := by
 have hm := of_decide_eq_true hc; refine ⟨65, ?_⟩; unfold t116 gu
 by_cases h : 1 <= a0.length /\ a0.length <= 8
 · rw [if_pos h]; simp (disch := omega) only [TRa, TRi, aa]; exact JI 65 a1 hm a0 [] 65 0 (by omega) h.2 (by omega) (by omega)
 · rw [if_neg h]; simp (disch := omega) only [TRa, TRi, aa]; rfl
theorem FF : ER 116 (mkE Ng.en Ng.ex f116) := an ai Je.right (fun m => [Cw (oX m m)]) (t := t116) (by kernel_rfl) (fun m => (aF (No m m) aB)) (fun m a => by kernel_rfl) fun (a0, a1) hc => K4 a0 a1 hc
def K1 : Tb Tryz.prog LQ TE := Je.add 116 _ FF
def xG (d : Dat) : Bool := decide (1 <= d.i 0 /\ d.i 0 <= 7) && decide (0 <= d.i 1 /\ d.i 1 <= (if d.i 0 = 3 then 7 else 0))
def iH : List Dat -> List Dat -> Bool
 | _, [] => true
 | pre, d :: l => xG d && (!bS pre (d.i 0) (d.i 1) && iH (pre ++ [d]) l)
def cN (l : List Dat) : Bool := decide (1 <= (l.length : Int) /\ (l.length : Int) <= 16) && iH [] l
def NR : aD := ⟨K1.tab, 118, ⟨[.ag (sI 2)], [], 0⟩, ⟨[.bool], [], 0⟩, []⟩
abbrev wY : Type := List Dat × List Dat × Int × Int
def rR (m : Nat) (k : wY -> Option (List Un)) : wY -> Option (List Un) := fun (a0, a1, a2, a3) =>
 bif decide (a3 < a2) then
 chk (inb a3 a1.length) <|
 chk (decide (a3.toNat < a1.length)) <|
 lt (ae a1 a3.toNat : Dat) fun d2 =>
 bif (d2.i 0) == 3 then
 bif !(decide (1 <= (d2.i 0) /\ (d2.i 0) <= 7)) then
 some ([.b false])
 else
 bif !(decide (0 <= (d2.i 1) /\ (d2.i 1) <= 7)) then
 some ([.b false])
 else
 chk (decide (0 <= a3) && (true && decide (0 <= a3.toNat /\ a3.toNat <= a0.length))) <|
 chk (decide ((List.take a3.toNat a0).length < 1099511627776)) <|
 bif (bS (List.take a3.toNat a0) (d2.i 0) (d2.i 1)) then
 some ([.b false])
 else
 k (a0, a1, a2, (w64 (a3 + 1)))
 else
 bif !(decide (1 <= (d2.i 0) /\ (d2.i 0) <= 7)) then
 some ([.b false])
 else
 bif !(decide (0 <= (d2.i 1) /\ (d2.i 1) <= 0)) then
 some ([.b false])
 else
 chk (decide (0 <= a3) && (true && decide (0 <= a3.toNat /\ a3.toNat <= a0.length))) <|
 chk (decide ((List.take a3.toNat a0).length < 1099511627776)) <|
 bif (bS (List.take a3.toNat a0) (d2.i 0) (d2.i 1)) then
 some ([.b false])
 else
 k (a0, a1, a2, (w64 (a3 + 1)))
 else
 some ([.b true])
def pd (m : Nat) : Nat -> wY -> Option (List Un) := bf (rR m)
theorem qE (m : Nat) (n : Nat) : pd m (n + 1) = rR m (pd m n) := rfl
def BY (F : wY -> Option (List Un)) : aQ := ⟨[.lp [0, 1, 0, 1, 1], .blk 0, .code [1, 1, 1]], ⟨frm 39 [(0, .ag (sI 2)), (10, .ag (sI 2)), (11, .int .i64), (12, .int .i64)], [], 0⟩, onU F⟩
theorem N9 (m : Nat) : ∀ n, HO NR (BY (pd m n)) := ax ai K1.right (fun k => [BY k]) (fun k h => (aF h aB)) fun k a => by kernel_rfl
def t118 (m : Nat) : List Dat -> Option (List Un) := fun a0 =>
 bif !(decide (1 <= (a0.length : Int) /\ (a0.length : Int) <= 16)) then
 some ([.b false])
 else
 pd m m (a0, a0, (a0.length : Int), 0)
theorem Kx (m : Nat) : ∀ (rest pre : List Dat) (n : Nat), rest.length < n -> (pre ++ rest).length <= 16 ->
 pd m n (pre ++ rest, pre ++ rest, ((pre ++ rest).length : Int), (pre.length : Int)) = some [.b (iH pre rest)] := by
 intro rest
 induction rest with
 | nil =>
  intro pre n hn hl; obtain ⟨n, rfl⟩ := ak n (by simp at hn; omega); rw [qE]; unfold rR; dsimp only; simp [aC, iH]
 | cons x rest ih =>
  intro pre n hn hl; obtain ⟨n, rfl⟩ := ak n (by simp at hn; omega); simp only [List.length_cons, List.length_append] at hn hl; rw [qE]; unfold rR; dsimp only; have := ih (pre ++ [x]) n (by omega) (by simp; omega); simp only [iH, xG]
  by_cases c1 : 1 <= x.i 0 /\ x.i 0 <= 7
  · by_cases c3 : x.i 0 = 3
    · by_cases c2 : 0 <= x.i 1 /\ x.i 1 <= 7
      · cases h : bS pre (x.i 0) (x.i 1)
        · simp (disch := omega) only [TRa, TRi, aa, LNl, LNi, Int.cast_ofNat_Int, ao, List.length_take]; simp only [List.take_left, h, cond_false, if_pos c3, decide_eq_true c1, decide_eq_true c2, Bool.true_and, Bool.not_false]
          (try simp (disch := omega) only [TRa, TRi, aa, LNl, LNi, Int.cast_ofNat_Int, ao, List.length_take])
          simp only [LNl, LNi, Int.cast_ofNat_Int] at this ⊢; exact this
        · simp (disch := omega) only [TRa, TRi, aa, LNl, LNi, Int.cast_ofNat_Int, ao, List.length_take]; simp only [List.take_left, h, cond_true, if_pos c3, decide_eq_true c1, decide_eq_true c2, Bool.true_and, Bool.not_true, Bool.false_and]
      · simp (disch := omega) only [TRa, TRi, aa, LNl, LNi, Int.cast_ofNat_Int, ao, List.length_take]; simp only [if_pos c3, decide_eq_false c2, Bool.and_false, Bool.false_and]
    · by_cases c2 : 0 <= x.i 1 /\ x.i 1 <= 0
      · cases h : bS pre (x.i 0) (x.i 1)
        · simp (disch := omega) only [TRa, TRi, aa, LNl, LNi, Int.cast_ofNat_Int, ao, List.length_take]; simp only [List.take_left, h, cond_false, if_neg c3, decide_eq_true c1, decide_eq_true c2, Bool.true_and, Bool.not_false]
          (try simp (disch := omega) only [TRa, TRi, aa, LNl, LNi, Int.cast_ofNat_Int, ao, List.length_take])
          simp only [LNl, LNi, Int.cast_ofNat_Int] at this ⊢; exact this
        · simp (disch := omega) only [TRa, TRi, aa, LNl, LNi, Int.cast_ofNat_Int, ao, List.length_take]; simp only [List.take_left, h, cond_true, if_neg c3, decide_eq_true c1, decide_eq_true c2, Bool.true_and, Bool.not_true, Bool.false_and]
      · simp (disch := omega) only [TRa, TRi, aa, LNl, LNi, Int.cast_ofNat_Int, ao, List.length_take]; simp only [if_neg c3, decide_eq_false c2, Bool.and_false, Bool.false_and]
  · by_cases c3 : x.i 0 = 3
    · omega
    · simp (disch := omega) only [TRa, TRi, aa, LNl, LNi, Int.cast_ofNat_Int, ao, List.length_take]; simp only [decide_eq_false c1, Bool.false_and]
def f118 : List Dat -> Bool × List Un := fun a0 => (true, [.b (cN a0)])
theorem HJ (a0 : List Dat) : ∃ m, t118 m a0 = some ([.b (cN a0)]) := by
 refine ⟨17, ?_⟩; unfold t118 cN
 by_cases h : 1 <= (a0.length : Int) /\ (a0.length : Int) <= 16
 · rw [decide_eq_true h, Bool.true_and]; simp (disch := omega) only [TRa, TRi, aa]; exact Kx 17 a0 [] 17 (by omega) (by simp; omega)
 · rw [decide_eq_false h, Bool.false_and]; simp (disch := omega) only [TRa, TRi, aa]
theorem E2 : ER 118 (mkE NR.en NR.ex f118) := an ai K1.right (fun m => [BY (pd m m)]) (t := t118) (by kernel_rfl) (fun m => (aF (N9 m m) aB)) (fun m a => by kernel_rfl) fun a0 hc => HJ a0
def NN : Tb Tryz.prog LQ TE := K1.add 118 _ E2
def bH (d : bk) : Option (Int × Int) :=
 match dN d.aM with
 | none => none
 | some p => match gu p d.notes with
  | none => none
  | some n => if kx d && (cN d.s0 && (cN d.s1 && cN d.s2)) then some (p, n) else none
theorem wh : ∀ (l : List Dat) (last all r : Int), 0 <= all -> all <= 1099511627776 -> fM last all l = some r -> all <= r /\ r <= 1099511627776
 | [], last, all, r, h0, h1, h => by simp [fM] at h; omega
 | d :: l, last, all, r, h0, h1, h => by
  unfold fM at h
  split at h
  · cases h
  · split at h
    · have := wh l _ _ r (by omega) (by omega) h; omega
    · cases h
theorem Ec {l : List Dat} {r : Int} (h : dN l = some r) : 0 <= r /\ r <= 1099511627776 := by
 unfold dN at h
 split at h
 · exact wh l 0 0 r (by omega) (by omega) h
 · cases h
def N59 : aD := ⟨NN.tab, 59, ⟨[.agg [.int .i64, .int .i64, .int .i64, .ag (sI 2), .ag (sI 3), .int .i64, .int .i64, .int .i64, .int .i64, .int .i64, .int .i64, .int .i64, .int .i64, .int .i64, .int .i64, .ag (sI 2), .ag (sI 2), .ag (sI 2)]], [], 0⟩, ⟨[.int .i64, .int .i64, .bool], [], 0⟩, [[0, 1, 0, 1, 1, 1, 1]]⟩
def t59 (m : Nat) : bk -> Option (List Un) := fun a0 =>
 chk (decide (0 <= ((dN a0.aM).getD 0) /\ ((dN a0.aM).getD 0) <= 1099511627776)) <|
 bif !((dN a0.aM).isSome) then
 some ([.i 0, .i 0, .b false])
 else
 bif !((gu ((dN a0.aM).getD 0) a0.notes).isSome) then
 some ([.i 0, .i 0, .b false])
 else
 bif !(kx a0) then
 some ([.i 0, .i 0, .b false])
 else
 bif !(cN a0.s0) then
 some ([.i 0, .i 0, .b false])
 else
 bif !(cN a0.s1) then
 some ([.i 0, .i 0, .b false])
 else
 bif !(cN a0.s2) then
 some ([.i 0, .i 0, .b false])
 else
 some ([.i ((dN a0.aM).getD 0), .i ((gu ((dN a0.aM).getD 0) a0.notes).getD 0), .b true])
def f59 : bk -> Bool × List Un := fun a0 => (true, [.i (((bH a0).getD (0, 0)).1), .i (((bH a0).getD (0, 0)).2), .b ((bH a0).isSome)])
theorem MO (a0 : bk) : ∃ m, t59 m a0 = some ([.i (((bH a0).getD (0, 0)).1), .i (((bH a0).getD (0, 0)).2), .b ((bH a0).isSome)]) := by
 refine ⟨0, ?_⟩; unfold t59 bH; cases hl : dN a0.aM with
 | none => simp [lt, chk]
 | some p =>
  have hb := Ec hl; simp only [lt_eq, Option.getD_some, Option.isSome_some, Bool.not_true, cond_false]; rw [aN hb]; cases hn : gu p a0.notes with
  | none => simp
  | some n =>
   simp only [Option.isSome_some, Bool.not_true, cond_false, Option.getD_some]; cases kx a0 <;> cases cN a0.s0 <;> cases cN a0.s1 <;> cases cN a0.s2 <;> rfl
theorem Kj : ER 59 (mkE N59.en N59.ex f59) := an ai NN.right (fun m => []) (t := t59) (by kernel_rfl) (fun m => aB) (fun m a => by kernel_rfl) fun a0 hc => MO a0
def T59 : Tb Tryz.prog LQ TE := NN.add 59 _ Kj
def N37 : aD := ⟨T59.tab, 37, ⟨[.agg [.int .i64, .int .i64, .int .i64, .ag (sI 2), .ag (sI 3), .int .i64, .int .i64, .int .i64, .int .i64, .int .i64, .int .i64, .int .i64, .int .i64, .int .i64, .int .i64, .ag (sI 2), .ag (sI 2), .ag (sI 2)]], [], 0⟩, ⟨[.bool], [], 0⟩, []⟩
def t37 (m : Nat) : bk -> Option (List Un) := fun a0 =>
 some ([.b ((bH a0).isSome)])
def f37 : bk -> Bool × List Un := fun a0 => (true, [.b ((bH a0).isSome)])
theorem Mb (a0 : bk) : ∃ m, t37 m a0 = some ([.b ((bH a0).isSome)]) := by
 exact ⟨0, rfl⟩
theorem IU : ER 37 (mkE N37.en N37.ex f37) := an ai T59.right (fun m => []) (t := t37) (by kernel_rfl) (fun m => aB) (fun m a => by kernel_rfl) fun a0 hc => Mb a0
def T37 : Tb Tryz.prog LQ TE := T59.add 37 _ IU
def N21 : aD := ⟨T37.tab, 21, ⟨[.agg [.int .i64, .int .i64, .int .i64, .ag (sI 2), .ag (sI 3), .int .i64, .int .i64, .int .i64, .int .i64, .int .i64, .int .i64, .int .i64, .int .i64, .int .i64, .int .i64, .ag (sI 2), .ag (sI 2), .ag (sI 2)]], [], 0⟩, ⟨[.int .i64], [], 0⟩, []⟩
def t21 (m : Nat) : bk -> Option (List Un) := fun a0 =>
 some ([.i (((bH a0).getD (0, 0)).1)])
def f21 : bk -> Bool × List Un := fun a0 => (true, [.i (((bH a0).getD (0, 0)).1)])
theorem L3 (a0 : bk) : ∃ m, t21 m a0 = some ([.i (((bH a0).getD (0, 0)).1)]) := by
 exact ⟨0, rfl⟩
theorem KE : ER 21 (mkE N21.en N21.ex f21) := an ai T37.right (fun m => []) (t := t21) (by kernel_rfl) (fun m => aB) (fun m a => by kernel_rfl) fun a0 hc => L3 a0
def T21 : Tb Tryz.prog LQ TE := T37.add 21 _ KE
def N62 : aD := ⟨T21.tab, 62, ⟨[.ag (sI 7)], [], 0⟩, ⟨[.buf 0 7], [.ag (sI 7)], 0⟩, []⟩
def t62 (m : Nat) : List Dat -> Option (List Un) := fun a0 =>
 bif decide (a0.length = 0) then
 both (
 some ([.d ([])])) (
 chk (fits (0 + a0.length) 56) <|
 some ([.d a0]))
 else
 chk (fits (0 + a0.length) 56) <|
 some ([.d a0])
def f62 : List Dat -> Bool × List Un := fun a0 => (decide (a0.length < 1000000), [.d (a0)])
theorem Ms (a0 : List Dat) (hc : (decide (a0.length < 1000000)) = true) : ∃ m, t62 m a0 = some ([.d (a0)]) := by
 have h := of_decide_eq_true hc; refine ⟨0, ?_⟩; unfold t62; cases a0 with
 | nil => simp (disch := omega) only [TRa, TRi, aa, List.length_nil, iA, Nat.add_zero, gE]
 | cons x l =>
  simp only [List.length_cons] at h ⊢; simp (disch := omega) only [TRa, TRi, aa]
theorem K6 : ER 62 (mkE N62.en N62.ex f62) := an ai T21.right (fun m => []) (t := t62) (by kernel_rfl) (fun m => aB) (fun m a => by kernel_rfl) fun a0 hc => Ms a0 hc
def T62 : Tb Tryz.prog LQ TE := T21.add 62 _ K6
def N89 : aD := ⟨T62.tab, 89, ⟨[.ag (sI 2)], [], 0⟩, ⟨[.buf 0 2], [.ag (sI 2)], 0⟩, []⟩
def t89 (m : Nat) : List Dat -> Option (List Un) := fun a0 =>
 bif decide (a0.length = 0) then
 both (
 some ([.d ([])])) (
 chk (fits (0 + a0.length) 16) <|
 some ([.d a0]))
 else
 chk (fits (0 + a0.length) 16) <|
 some ([.d a0])
def f89 : List Dat -> Bool × List Un := fun a0 => (decide (a0.length < 1000000), [.d (a0)])
theorem Oa (a0 : List Dat) (hc : (decide (a0.length < 1000000)) = true) : ∃ m, t89 m a0 = some ([.d (a0)]) := by
 have h := of_decide_eq_true hc; refine ⟨0, ?_⟩; unfold t89; cases a0 with
 | nil => simp (disch := omega) only [TRa, TRi, aa, List.length_nil, iA, Nat.add_zero, gE]
 | cons x l =>
  simp only [List.length_cons] at h ⊢; simp (disch := omega) only [TRa, TRi, aa]
theorem Kl : ER 89 (mkE N89.en N89.ex f89) := an ai T62.right (fun m => []) (t := t89) (by kernel_rfl) (fun m => aB) (fun m a => by kernel_rfl) fun a0 hc => Oa a0 hc
def T89 : Tb Tryz.prog LQ TE := T62.add 89 _ Kl
def N90 : aD := ⟨T89.tab, 90, ⟨[.ag (sI 3)], [], 0⟩, ⟨[.buf 0 3], [.ag (sI 3)], 0⟩, []⟩
def t90 (m : Nat) : List Dat -> Option (List Un) := fun a0 =>
 bif decide (a0.length = 0) then
 both (
 some ([.d ([])])) (
 chk (fits (0 + a0.length) 24) <|
 some ([.d a0]))
 else
 chk (fits (0 + a0.length) 24) <|
 some ([.d a0])
def f90 : List Dat -> Bool × List Un := fun a0 => (decide (a0.length < 1000000), [.d (a0)])
theorem MJ (a0 : List Dat) (hc : (decide (a0.length < 1000000)) = true) : ∃ m, t90 m a0 = some ([.d (a0)]) := by
 have h := of_decide_eq_true hc; refine ⟨0, ?_⟩; unfold t90; cases a0 with
 | nil => simp (disch := omega) only [TRa, TRi, aa, List.length_nil, iA, Nat.add_zero, gE]
 | cons x l =>
  simp only [List.length_cons] at h ⊢; simp (disch := omega) only [TRa, TRi, aa]
theorem HY : ER 90 (mkE N90.en N90.ex f90) := an ai T89.right (fun m => []) (t := t90) (by kernel_rfl) (fun m => aB) (fun m a => by kernel_rfl) fun a0 hc => MJ a0 hc
def T90 : Tb Tryz.prog LQ TE := T89.add 90 _ HY
def N91 : aD := ⟨T90.tab, 91, ⟨[.ag (sI 2)], [], 0⟩, ⟨[.buf 0 2], [.ag (sI 2)], 0⟩, []⟩
def t91 (m : Nat) : List Dat -> Option (List Un) := fun a0 =>
 bif decide (a0.length = 0) then
 both (
 some ([.d ([])])) (
 chk (fits (0 + a0.length) 16) <|
 some ([.d a0]))
 else
 chk (fits (0 + a0.length) 16) <|
 some ([.d a0])
def f91 : List Dat -> Bool × List Un := fun a0 => (decide (a0.length < 1000000), [.d (a0)])
theorem ND (a0 : List Dat) (hc : (decide (a0.length < 1000000)) = true) : ∃ m, t91 m a0 = some ([.d (a0)]) := by
 have h := of_decide_eq_true hc; refine ⟨0, ?_⟩; unfold t91; cases a0 with
 | nil => simp (disch := omega) only [TRa, TRi, aa, List.length_nil, iA, Nat.add_zero, gE]
 | cons x l =>
  simp only [List.length_cons] at h ⊢; simp (disch := omega) only [TRa, TRi, aa]
theorem JB : ER 91 (mkE N91.en N91.ex f91) := an ai T90.right (fun m => []) (t := t91) (by kernel_rfl) (fun m => aB) (fun m a => by kernel_rfl) fun a0 hc => ND a0 hc
def T91 : Tb Tryz.prog LQ TE := T90.add 91 _ JB
def OC : aD := ⟨T91.tab, 102, ⟨[.ag (sI 3)], [], 0⟩, ⟨[.buf 0 3], [.ag (sI 3)], 0⟩, []⟩
def t102 (m : Nat) : List Dat -> Option (List Un) := fun a0 =>
 bif decide (a0.length = 0) then
 both (
 some ([.d ([])])) (
 chk (fits (0 + a0.length) 24) <|
 some ([.d a0]))
 else
 chk (fits (0 + a0.length) 24) <|
 some ([.d a0])
def f102 : List Dat -> Bool × List Un := fun a0 => (decide (a0.length < 1000000), [.d (a0)])
theorem I5 (a0 : List Dat) (hc : (decide (a0.length < 1000000)) = true) : ∃ m, t102 m a0 = some ([.d (a0)]) := by
 have h := of_decide_eq_true hc; refine ⟨0, ?_⟩; unfold t102; cases a0 with
 | nil => simp (disch := omega) only [TRa, TRi, aa, List.length_nil, iA, Nat.add_zero, gE]
 | cons x l =>
  simp only [List.length_cons] at h ⊢; simp (disch := omega) only [TRa, TRi, aa]
theorem F1 : ER 102 (mkE OC.en OC.ex f102) := an ai T91.right (fun m => []) (t := t102) (by kernel_rfl) (fun m => aB) (fun m a => by kernel_rfl) fun a0 hc => I5 a0 hc
def Mc : Tb Tryz.prog LQ TE := T91.add 102 _ F1
def Pp : aD := ⟨Mc.tab, 114, ⟨[.ag (sB 4)], [], 0⟩, ⟨[.buf 0 5], [.ag (sB 4)], 0⟩, []⟩
def t114 (m : Nat) : List Dat -> Option (List Un) := fun a0 =>
 bif decide (a0.length = 0) then
 both (
 some ([.d ([])])) (
 chk (fits (0 + a0.length) 40) <|
 some ([.d a0]))
 else
 chk (fits (0 + a0.length) 40) <|
 some ([.d a0])
def f114 : List Dat -> Bool × List Un := fun a0 => (decide (a0.length < 1000000), [.d (a0)])
theorem Lb (a0 : List Dat) (hc : (decide (a0.length < 1000000)) = true) : ∃ m, t114 m a0 = some ([.d (a0)]) := by
 have h := of_decide_eq_true hc; refine ⟨0, ?_⟩; unfold t114; cases a0 with
 | nil => simp (disch := omega) only [TRa, TRi, aa, List.length_nil, iA, Nat.add_zero, gE]
 | cons x l =>
  simp only [List.length_cons] at h ⊢; simp (disch := omega) only [TRa, TRi, aa]
theorem EY : ER 114 (mkE Pp.en Pp.ex f114) := an ai Mc.right (fun m => []) (t := t114) (by kernel_rfl) (fun m => aB) (fun m a => by kernel_rfl) fun a0 hc => Lb a0 hc
def MP : Tb Tryz.prog LQ TE := Mc.add 114 _ EY
def N38 : aD := ⟨MP.tab, 38, ⟨[.agg [.int .i64, .int .i64, .int .i64, .ag (sI 2), .ag (sI 3), .int .i64, .int .i64, .int .i64, .int .i64, .int .i64, .int .i64, .int .i64, .int .i64, .int .i64, .int .i64, .ag (sI 2), .ag (sI 2), .ag (sI 2)]], [], 0⟩, ⟨[.agg [.int .i64, .int .i64, .int .i64, .buf 0 2, .buf 1 3, .int .i64, .int .i64, .int .i64, .int .i64, .int .i64, .int .i64, .int .i64, .int .i64, .int .i64, .int .i64, .buf 2 2, .buf 3 2, .buf 4 2]], [.ag (sI 2), .ag (sI 3), .ag (sI 2), .ag (sI 2), .ag (sI 2)], 0⟩, [[0, 1, 0, 1, 1, 1]]⟩
def t38 (m : Nat) : bk -> Option (List Un) := fun a0 =>
 chk (decide (a0.aM.length < 1000000)) <|
 chk (decide (a0.notes.length < 1000000)) <|
 chk (decide (a0.s0.length < 1000000)) <|
 chk (decide (a0.s1.length < 1000000)) <|
 chk (decide (a0.s2.length < 1000000)) <|
 some (Uns.enc (a0.a : au) ++ Uns.enc (a0.b : av) ++ [.d a0.aM, .d a0.notes, .d a0.s0, .d a0.s1, .d a0.s2])
def f38 : bk -> Bool × List Un := fun a0 => (decide (a0.aM.length < 1000000 /\ a0.notes.length < 1000000 /\ a0.s0.length < 1000000 /\ a0.s1.length < 1000000 /\ a0.s2.length < 1000000), Uns.enc ((a0.a) : au) ++ Uns.enc ((a0.b) : av) ++ [.d (a0.aM), .d (a0.notes), .d (a0.s0), .d (a0.s1), .d (a0.s2)])
theorem Np (a0 : bk) (hc : (decide (a0.aM.length < 1000000 /\ a0.notes.length < 1000000 /\ a0.s0.length < 1000000 /\ a0.s1.length < 1000000 /\ a0.s2.length < 1000000)) = true) : ∃ m, t38 m a0 = some (Uns.enc ((a0.a) : au) ++ Uns.enc ((a0.b) : av) ++ [.d (a0.aM), .d (a0.notes), .d (a0.s0), .d (a0.s1), .d (a0.s2)]) := by
 obtain ⟨h1, h2, h3, h4, h5⟩ := of_decide_eq_true hc; refine ⟨0, ?_⟩; unfold t38; simp (disch := omega) only [TRa, TRi, aa]
theorem IG : ER 38 (mkE N38.en N38.ex f38) := an ai MP.right (fun m => []) (t := t38) (by kernel_rfl) (fun m => aB) (fun m a => by kernel_rfl) fun a0 hc => Np a0 hc
def T38 : Tb Tryz.prog LQ TE := MP.add 38 _ IG
end
end Go.Proofs.YtdbkoeefnodejaaGreat
namespace Go.Proofs.YtdbkoeefnodejaaGreat
noncomputable section
open Go Go.Proofs.YtdbkoeefnodejaaGreat.Ev
set_option maxRecDepth 20000
theorem Dr : ∀ (l : List Int) (i : Nat) (last all : Int), last < 2 * (i : Int) + 1 -> i + l.length <= 40 -> 0 <= all -> all + 100000 * l.length + 50000 <= 1099511627776 ->
 fM last all (fh i l ++ [.r [.n 99, .n 50000]]) = some (all + al 1 (fh i l ++ [.r [.n 99, .n 50000]]))
 | [], i, last, all, h1, h2, h3, h4 => by
  have e0 : (Dat.r [.n 99, .n 50000]).i 0 = 99 := rfl; have e1 : (Dat.r [.n 99, .n 50000]).i 1 = 50000 := rfl; simp only [fh, List.nil_append, fM, al, e0, e1]; simp only [List.length_nil] at h2 h4; rw [if_neg (by omega), if_pos (by omega)]; rfl
 | x :: l, i, last, all, h1, h2, h3, h4 => by
  have hx := bm (a := x) (show (0 : Int) <= 100000 by decide); have e0 : (Au i x).i 0 = 2 * (i : Int) + 1 := rfl; have e1 : (Au i x).i 1 = within x 0 100000 := rfl; simp only [List.length_cons] at h2 h4; have := Dr l (i + 1) (2 * (i : Int) + 1) (all + within x 0 100000) (by omega) (by omega) (by omega) (by omega); simp only [fh, List.cons_append, fM, al, e0, e1]; rw [if_neg (by omega), if_pos (by omega), this, Int.add_assoc]
theorem Jt (k : cz) : dN (dI k) = some (ga k) := by
 have hl := kQ k; have h1 : 1 <= (dI k).length := by simp [dI]
 have := Dr (k.aM.take 10) 0 0 0 (by decide) (by simp; omega) (by decide) (by simp; omega); unfold dN; rw [if_pos ⟨h1, by omega⟩]; simpa [dI, iR, ga] using this
theorem uv (p q : Int) (hp : 0 <= q) : ∀ (l : List Dat) (all : Int), (∀ d ∈ l, (0 <= d.i 0 /\ d.i 0 <= 7) /\ (1 <= d.i 1 /\ d.i 1 <= q) /\ (0 <= d.i 2 /\ d.i 2 <= 5000)) -> all + l.length * q <= p -> iV p all l = some (all + al 1 l)
 | [], all, _, _ => by simp [iV, al]
 | d :: l, all, h, hb => by
  have hd := h d (by simp); simp only [List.length_cons, Int.natCast_add, Int.add_mul] at hb; have hl : 0 <= (l.length : Int) * q := Int.mul_nonneg (by omega) hp; have e : ((1 : Nat) : Int) * q = q := by simp
  have := uv p q hp l (all + d.i 1) (fun x hx => h x (by simp [hx])) (by omega); simp only [iV, al]; rw [if_pos ⟨hd.1, ⟨hd.2.1.1, by omega⟩, hd.2.2⟩, this, Int.add_assoc]
theorem Bb (k : cz) : ∀ d ∈ gm k, (0 <= d.i 0 /\ d.i 0 <= 3) /\ (1 <= d.i 1 /\ d.i 1 <= 1 + ga k / 6) /\ (0 <= d.i 2 /\ d.i 2 <= 1200) := by
 have hp := tN k; simp only [gm, List.mem_map, List.mem_range]
 rintro d ⟨i, hi, rfl⟩
 have h1 := bm (a := bD k.mN i) (show (0 : Int) <= 3 by decide); have h2 := bm (a := bD k.notes i) (show (0 : Int) <= ga k / 6 by omega); have h3 := bm (a := bD k.vZ i) (show (0 : Int) <= 1200 by decide); simp only [C6, HC, dQ, gr]; omega
theorem s8 (k : cz) : 1 <= (gm k).length /\ (gm k).length <= 5 := by simp [gm]; omega
theorem KB (k : cz) : gu (ga k) (gm k) = some (al 1 (gm k)) := by
 have hp := tN k; have hl := s8 k; unfold gu; rw [if_pos ⟨hl.1, by omega⟩]; refine (uv (ga k) (1 + ga k / 6) (by omega) (gm k) 0 (fun d hd => ?_) ?_).trans (by rw [Int.zero_add])
 · have := Bb k d hd; omega
 · have : ((gm k).length : Int) * (1 + ga k / 6) <= 5 * (1 + ga k / 6) := Int.mul_le_mul_of_nonneg_right (by omega) (by omega); omega
theorem M6 (k : cz) : kx (ar k) = true := by
 have h1 := bm (a := k.a.year) (show (1990 : Int) <= 2040 by decide); have h2 := bm (a := k.a.month) (show (1 : Int) <= 12 by decide); have h3 := bm (a := k.a.basis) (show (0 : Int) <= 2 by decide); have h4 := bm (a := k.b.fee) (show (0 : Int) <= 200 by decide); have h5 := bm (a := k.b.bl) (show (0 : Int) <= 5000 by decide); have h6 := bm (a := k.b.target) (show (0 : Int) <= 500 by decide); have h7 := bm (a := k.b.advance) (show (0 : Int) <= 3000 by decide); have h8 := bm (a := k.b.dR) (show (0 : Int) <= 3 by decide); have h9 := bm (a := k.b.oc) (show (0 : Int) <= 12000 by decide); have h10 := bm (a := k.b.ic) (show (0 : Int) <= 15000 by decide); have h11 := bm (a := k.b.late) (show (0 : Int) <= 5000 by decide); have h12 := bm (a := k.b.lq) (show (0 : Int) <= 5000 by decide); have h13 := bm (a := k.b.clean) (show (0 : Int) <= 3000 by decide); simp only [kx, Bool.and_eq_true, decide_eq_true_eq]; simp only [ar]; omega
theorem pZ (d : Dat) : ∀ (l pre : List Dat), iH pre (l ++ [d]) = (iH pre l && (xG d && !bS (pre ++ l) (d.i 0) (d.i 1)))
 | [], pre => by simp [iH]
 | x :: l, pre => by
  simp only [List.cons_append, iH, pZ d l (pre ++ [x]), List.append_assoc, List.nil_append, Bool.and_assoc]
theorem wj : ∀ (xs : List Int) (acc : List Dat), iH [] acc = true -> iH [] (eY acc xs) = true
 | [], acc, h => h
 | x :: xs, acc, h => by
  simp only [eY]; refine wj xs _ ?_
  cases hs : bS acc (within x 1 7) (iU x)
  · have e0 : (Dat.r [.n (within x 1 7), .n (iU x)]).i 0 = within x 1 7 := rfl; have e1 : (Dat.r [.n (within x 1 7), .n (iU x)]).i 1 = iU x := rfl; have hx := bm (a := x) (show (1 : Int) <= 7 by decide); simp only [Bool.false_eq_true, if_false]; rw [pZ, h, List.nil_append, e0, e1, hs, Bool.true_and, Bool.not_false, Bool.and_true]; simp only [xG, e0, e1, Bool.and_eq_true, decide_eq_true_eq]; refine ⟨hx, ?_⟩; unfold iU
    by_cases h3 : within x 1 7 = 3
    · have := bm (a := w64 (x.tdiv 7)) (show (0 : Int) <= 3 by decide); rw [if_pos h3, if_pos h3]; omega
    · rw [if_neg h3, if_neg h3]; omega
  · simp only [if_true]; exact h
theorem kG (l : List Int) : 1 <= (lX l).length /\ (lX l).length <= 12 := by
 unfold lX
 split
 · decide
 · have := tI (l.take 12) []; simp at this; omega
theorem pL (l : List Int) : cN (lX l) = true := by
 have hl := kG l; unfold cN; rw [decide_eq_true (by omega), Bool.true_and]; unfold lX
 split
 · decide
 · exact wj _ _ rfl
theorem AV (k : cz) : bH (ar k) = some (ga k, al 1 (gm k)) := by
 have h1 : dN (ar k).aM = some (ga k) := Jt k; have h2 : gu (ga k) (ar k).notes = some (al 1 (gm k)) := KB k; simp only [bH, h1, h2, M6, show cN (ar k).s0 = true from pL _, show cN (ar k).s1 = true from pL _, show cN (ar k).s2 = true from pL _, Bool.and_self, if_true]
theorem zP (k : cz) : (ar k).aM.length < 1000000 /\ (ar k).notes.length < 1000000 /\ (ar k).s0.length < 1000000 /\ (ar k).s1.length < 1000000 /\ (ar k).s2.length < 1000000 := by
 have h1 := kQ k; have h2 := s8 k; have h3 := kG k.s0; have h4 := kG k.s1; have h5 := kG k.s2; simp only [ar]; omega
end
end Go.Proofs.YtdbkoeefnodejaaGreat
namespace Go.Proofs.YtdbkoeefnodejaaGreat
noncomputable section
open Go Go.Proofs.YtdbkoeefnodejaaGreat.Ev
set_option maxRecDepth 20000
def N40 : aD := ⟨T38.tab, 40, ⟨[.int .i64], [], 0⟩, ⟨[.agg [.int .i64, .int .i64]], [], 0⟩, []⟩
def t40 (m : Nat) : Int -> Option (List Un) := fun a0 =>
 bif (decide ((([0, a0]).getD 0 0) < 0)) then
 some ([.i 0, .i 0])
 else
 bif (decide ((([0, a0]).getD 0 0) > 1152921504606846976)) then
 some ([.i 0, .i 0])
 else
 lt ((w64 (0 + (([0, a0]).getD 0 0))) : Int) fun x3 =>
 bif (decide ((([0, a0]).getD 1 0) < 0)) then
 some ([.i 0, .i 0])
 else
 bif (decide ((([0, a0]).getD 1 0) > (w64 (1152921504606846976 - x3)))) then
 some ([.i 0, .i 0])
 else
 some ([.i (w64 (x3 + (([0, a0]).getD 1 0))), .i 0])
def f40 : Int -> Bool × List Un := fun a0 => (decide (0 <= a0 /\ a0 <= 1152921504606846976), [.i (a0), .i (0)])
theorem LX (a0 : Int) (hc : (decide (0 <= a0 /\ a0 <= 1152921504606846976)) = true) : ∃ m, t40 m a0 = some ([.i (a0), .i (0)]) := by
 have h := of_decide_eq_true hc; refine ⟨0, ?_⟩; unfold t40; simp only [List.getD_cons_zero, List.getD_cons_succ]; simp (disch := omega) only [TRa, TRi, aa, Int.zero_add, Int.sub_zero]
theorem IB : ER 40 (mkE N40.en N40.ex f40) := an ai T38.right (fun m => []) (t := t40) (by kernel_rfl) (fun m => aB) (fun m a => by kernel_rfl) fun a0 hc => LX a0 hc
def T40 : Tb Tryz.prog LQ TE := T38.add 40 _ IB
def N41 : aD := ⟨T40.tab, 41, ⟨[.agg [.int .i64, .int .i64, .int .i64]], [], 0⟩, ⟨[.agg [.int .i64, .int .i64, .int .i64, .int .i64, .int .i64, .int .i64, .int .i64]], [], 0⟩, []⟩
def t41 (m : Nat) : Int × Int × Int -> Option (List Un) := fun (a0, a1, a2) =>
 some ([.i a0, .i a1, .i a2, .i 0, .i 0, .i 0, .i 0])
def f41 : Int × Int × Int -> Bool × List Un := fun (a0, a1, a2) => (true, [.i (a0), .i (a1), .i (a2), .i (0), .i (0), .i (0), .i (0)])
theorem LK (a0 : Int) (a1 : Int) (a2 : Int) : ∃ m, t41 m (a0, a1, a2) = some ([.i (a0), .i (a1), .i (a2), .i (0), .i (0), .i (0), .i (0)]) := by
 exact ⟨0, rfl⟩
theorem I4 : ER 41 (mkE N41.en N41.ex f41) := an ai T40.right (fun m => []) (t := t41) (by kernel_rfl) (fun m => aB) (fun m a => by kernel_rfl) fun (a0, a1, a2) hc => LK a0 a1 a2
def T41 : Tb Tryz.prog LQ TE := T40.add 41 _ I4
def gj (d : Dat) : Dat := .r [.n (d.i 0), .n (d.i 1), .n 0, .n 0, .n (bI false)]
def N39 : aD := ⟨T41.tab, 39, ⟨[.ag (sI 2)], [], 0⟩, ⟨[.ptr 0 0 0], [.cells [.buf 1 5], .ag (sB 4)], 0⟩, []⟩
abbrev DT : Type := List Dat × Int × Int × List Dat
def xv (m : Nat) (k : DT -> Option (List Un)) : DT -> Option (List Un) := fun (a0, a1, a2, a3) =>
 bif decide (a2 < a1) then
 chk (inb a2 a0.length) <|
 chk (decide (a2.toNat < a0.length)) <|
 lt (ae a0 a2.toNat : Dat) fun d1 =>
 chk (fits (a3.length + 1) 40) <|
 k (a0, a1, (w64 (a2 + 1)), (a3 ++ ([.r [.n (d1.i 0), .n (d1.i 1), .n 0, .n 0, .n (bI false)]])))
 else
 some ([.d a3])
def wv (m : Nat) : Nat -> DT -> Option (List Un) := bf (xv m)
theorem uG (m : Nat) (n : Nat) : wv m (n + 1) = xv m (wv m n) := rfl
def GB (F : DT -> Option (List Un)) : aQ := ⟨[.lp [0, 1, 0, 1, 1], .blk 0, .code [1, 1, 1]], ⟨frm 27 [(3, .ptr 0 0 0), (8, .ag (sI 2)), (9, .int .i64), (10, .int .i64)], [.cells [.buf 1 5], .ag (sB 4)], 0⟩, onU F⟩
theorem OE (m : Nat) : ∀ n, HO N39 (GB (wv m n)) := ax ai T41.right (fun k => [GB k]) (fun k h => (aF h aB)) fun k a => by kernel_rfl
def t39 (m : Nat) : List Dat -> Option (List Un) := fun a0 =>
 wv m m (a0, (a0.length : Int), 0, [])
theorem EW (m : Nat) : ∀ (rest pre : List Dat) (n : Nat), rest.length < n -> (pre ++ rest).length < 1000000 ->
 wv m n (pre ++ rest, ((pre ++ rest).length : Int), (pre.length : Int), pre.map gj) = some [.d ((pre ++ rest).map gj)] := by
 intro rest
 induction rest with
 | nil =>
  intro pre n hn hl; obtain ⟨n, rfl⟩ := ak n (by simp at hn; omega); rw [uG]; unfold xv; dsimp only; simp [aC]
 | cons x rest ih =>
  intro pre n hn hl; obtain ⟨n, rfl⟩ := ak n (by simp at hn; omega); simp only [List.length_cons, List.length_append] at hn hl; rw [uG]; unfold xv; dsimp only; have := ih (pre ++ [x]) n (by omega) (by simp; omega); rw [List.map_append] at this; simp (disch := omega) only [TRa, TRi, aa, LNl, LNi, Int.cast_ofNat_Int, ao]; simp only [LNl, LNi, Int.cast_ofNat_Int] at this ⊢; exact this
def f39 : List Dat -> Bool × List Un := fun a0 => (decide (a0.length < 1000000), [.d (a0.map gj)])
theorem MZ (a0 : List Dat) (hc : (decide (a0.length < 1000000)) = true) : ∃ m, t39 m a0 = some ([.d (a0.map gj)]) := by
 exact ⟨a0.length + 1, EW _ a0 [] _ (by omega) (of_decide_eq_true hc)⟩
theorem Ja : ER 39 (mkE N39.en N39.ex f39) := an ai T41.right (fun m => [GB (wv m m)]) (t := t39) (by kernel_rfl) (fun m => (aF (OE m m) aB)) (fun m a => by kernel_rfl) fun a0 hc => MZ a0 hc
def T39 : Tb Tryz.prog LQ TE := T41.add 39 _ Ja
@[ext] structure aj where
 rin : Int
 bg : Int
 out : Int
 fee : Int
 mode : Int
 aZ : Int
 period : Int
 aJ : Int
 aW : Int
 lO : Bool
instance : Uns aj := Uns.via (B := Int × Int × Int × Int × Int × Int × Int × Int × Int × Bool) (fun x => (x.rin, x.bg, x.out, x.fee, x.mode, x.aZ, x.period, x.aJ, x.aW, x.lO)) (fun x => match x with | (rin, bg, out, fee, mode, aZ, period, aJ, aW, lO) => ⟨rin, bg, out, fee, mode, aZ, period, aJ, aW, lO⟩) (fun _ => rfl)
def bs (p : Nat) : List BP := [.cells [.int .i64, .int .i64, .int .i64, .buf (p + 1) 2, .buf (p + 2) 3, .int .i64, .int .i64, .int .i64, .int .i64, .int .i64, .int .i64, .int .i64, .int .i64, .int .i64, .int .i64, .buf (p + 3) 2, .buf (p + 4) 2, .buf (p + 5) 2, .ptr (p + 6) 0 0, .buf (p + 8) 7, .int .i64, .int .i64, .int .i64, .int .i64, .int .i64, .int .i64, .int .i64, .int .i64, .int .i64, .bool], .ag (sI 2), .ag (sI 3), .ag (sI 2), .ag (sI 2), .ag (sI 2), .cells [.buf (p + 7) 5], .ag (sB 4), .ag (sI 7)]
structure ab where
 a : au
 b : av
 n : aj
 aM : List Dat
 notes : List Dat
 s0 : List Dat
 s1 : List Dat
 s2 : List Dat
 bh : List Dat
 tr : List Dat
def qR (d : Dat) : Dat := .r [.n (d.i 0), .n (d.i 1), .n (d.i 2), .n 0, .n 0, .n 0, .n 0]
def aA (d : bk) : ab := ⟨d.a, d.b, ⟨d.b.bl, 0, 0, 0, 0, 0, 0, 0, 0, false⟩, d.aM, d.notes, d.s0, d.s1, d.s2, d.aM.map gj, d.notes.map qR⟩
def dD (d : bk) : ab := if (bH d).isSome then aA d else ⟨⟨0, 0, 0⟩, ⟨0, 0, 0, 0, 0, 0, 0, 0, 0, 0⟩, ⟨0, 0, 0, 0, 0, 0, 0, 0, 0, false⟩, [], [], [], [], [], [], []⟩
theorem vr {d : bk} (h : (bH d).isSome = true) : 0 <= d.b.bl /\ d.b.bl <= 1099511627776 := by
 unfold bH at h
 split at h
 · cases h
 · split at h
   · cases h
   · split at h
     · rename_i hc; simp only [Bool.and_eq_true, kx, decide_eq_true_eq] at hc; omega
     · cases h
def N11 : aD := ⟨T39.tab, 11, ⟨[.agg [.int .i64, .int .i64, .int .i64, .ag (sI 2), .ag (sI 3), .int .i64, .int .i64, .int .i64, .int .i64, .int .i64, .int .i64, .int .i64, .int .i64, .int .i64, .int .i64, .ag (sI 2), .ag (sI 2), .ag (sI 2)]], [], 0⟩, ⟨[.np 0 0 0, .int .i64], bs 0, 0⟩, []⟩
abbrev CM : Type := List Dat × Int × Int × au × av × aj × List Dat × List Dat × List Dat × List Dat × List Dat × List Dat × List Dat
def yM (m : Nat) (k : CM -> Option (List Un)) : CM -> Option (List Un) := fun (a0, a1, a2, a3, a4, a5, a6, a7, a8, a9, a10, a11, a12) =>
 bif decide (a2 < a1) then
 chk (inb a2 a0.length) <|
 chk (decide (a2.toNat < a0.length)) <|
 lt (ae a0 a2.toNat : Dat) fun d1 =>
 chk (fits (a11.length + 1) 56) <|
 k (a0, a1, (w64 (a2 + 1)), a3, a4, a5, a6, a7, a8, a9, a10, (a11 ++ ([.r [.n (d1.i 0), .n (d1.i 1), .n (d1.i 2), .n 0, .n 0, .n 0, .n 0]])), a12)
 else
 some ([.i 0, .i 0] ++ Uns.enc (a3 : au) ++ Uns.enc (a4 : av) ++ Uns.enc (a5 : aj) ++ [.d a6, .d a7, .d a8, .d a9, .d a10, .d a12, .d a11])
def vE (m : Nat) : Nat -> CM -> Option (List Un) := bf (yM m)
theorem ui (m : Nat) (n : Nat) : vE m (n + 1) = yM m (vE m n) := rfl
def HG (F : CM -> Option (List Un)) : aQ := ⟨[.lp [0, 1, 0, 1, 1, 1], .blk 0, .code [1, 1, 1, 1]], ⟨frm 40 [(4, .ptr 0 0 0), (21, .ag (sI 3)), (22, .int .i64), (23, .int .i64)], [.cells [.int .i64, .int .i64, .int .i64, .buf 1 2, .buf 2 3, .int .i64, .int .i64, .int .i64, .int .i64, .int .i64, .int .i64, .int .i64, .int .i64, .int .i64, .int .i64, .buf 3 2, .buf 4 2, .buf 5 2, .ptr 6 0 0, .buf 7 7, .int .i64, .int .i64, .int .i64, .int .i64, .int .i64, .int .i64, .int .i64, .int .i64, .int .i64, .bool], .ag (sI 2), .ag (sI 3), .ag (sI 2), .ag (sI 2), .ag (sI 2), .cells [.buf 8 5], .ag (sI 7), .ag (sB 4)], 0⟩, onU F⟩
theorem Oq (m : Nat) : ∀ n, HO N11 (HG (vE m n)) := ax ai T39.right (fun k => [HG k]) (fun k h => (aF h aB)) fun k a => by kernel_rfl
def t11 (m : Nat) : bk -> Option (List Un) := fun a0 =>
 bif !((bH a0).isSome) then
 some ([.i (-1), .i 2] ++ Uns.enc ((⟨0, 0, 0⟩ : au) : au) ++ Uns.enc ((⟨0, 0, 0, 0, 0, 0, 0, 0, 0, 0⟩ : av) : av) ++ Uns.enc ((⟨0, 0, 0, 0, 0, 0, 0, 0, 0, false⟩ : aj) : aj) ++ [.d ([]), .d ([]), .d ([]), .d ([]), .d ([]), .d ([]), .d ([])])
 else
 chk (decide (a0.aM.length < 1000000 /\ a0.notes.length < 1000000 /\ a0.s0.length < 1000000 /\ a0.s1.length < 1000000 /\ a0.s2.length < 1000000)) <|
 chk (decide (a0.aM.length < 1000000)) <|
 chk (decide (0 <= a0.b.bl /\ a0.b.bl <= 1152921504606846976)) <|
 vE m m (a0.notes, (a0.notes.length : Int), 0, a0.a, a0.b, (⟨a0.b.bl, 0, 0, 0, 0, 0, 0, 0, 0, false⟩ : aj), a0.aM, a0.notes, a0.s0, a0.s1, a0.s2, [], (a0.aM.map gj))
theorem D2 (m : Nat) (a : au) (b : av) (n0 : aj) (x1 x2 x3 x4 x5 x6 : List Dat) : ∀ (rest pre : List Dat) (n : Nat), rest.length < n -> (pre ++ rest).length < 1000000 ->
 vE m n (pre ++ rest, ((pre ++ rest).length : Int), (pre.length : Int), a, b, n0, x1, x2, x3, x4, x5, pre.map qR, x6) = some ([.i 0, .i 0] ++ Uns.enc (a : au) ++ Uns.enc (b : av) ++ Uns.enc (n0 : aj) ++ [.d x1, .d x2, .d x3, .d x4, .d x5, .d x6, .d ((pre ++ rest).map qR)]) := by
 intro rest
 induction rest with
 | nil =>
  intro pre n hn hl; obtain ⟨n, rfl⟩ := ak n (by simp at hn; omega); rw [ui]; unfold yM; dsimp only; simp [aC]
 | cons x rest ih =>
  intro pre n hn hl; obtain ⟨n, rfl⟩ := ak n (by simp at hn; omega); simp only [List.length_cons, List.length_append] at hn hl; rw [ui]; unfold yM; dsimp only; have := ih (pre ++ [x]) n (by omega) (by simp; omega); rw [List.map_append] at this; simp (disch := omega) only [TRa, TRi, aa, LNl, LNi, Int.cast_ofNat_Int, ao]; simp only [LNl, LNi, Int.cast_ofNat_Int] at this ⊢; exact this
def f11 : bk -> Bool × List Un := fun a0 => (decide (a0.aM.length < 1000000 /\ a0.notes.length < 1000000 /\ a0.s0.length < 1000000 /\ a0.s1.length < 1000000 /\ a0.s2.length < 1000000), [.i (((if (bH a0).isSome then 0 else -1) : Int)), .i (((if (bH a0).isSome then 0 else 2) : Int))] ++ Uns.enc (((dD a0).a) : au) ++ Uns.enc (((dD a0).b) : av) ++ Uns.enc (((dD a0).n) : aj) ++ [.d ((dD a0).aM), .d ((dD a0).notes), .d ((dD a0).s0), .d ((dD a0).s1), .d ((dD a0).s2), .d ((dD a0).bh), .d ((dD a0).tr)])
theorem Nt (a0 : bk) (hc : (decide (a0.aM.length < 1000000 /\ a0.notes.length < 1000000 /\ a0.s0.length < 1000000 /\ a0.s1.length < 1000000 /\ a0.s2.length < 1000000)) = true) : ∃ m, t11 m a0 = some ([.i (((if (bH a0).isSome then 0 else -1) : Int)), .i (((if (bH a0).isSome then 0 else 2) : Int))] ++ Uns.enc (((dD a0).a) : au) ++ Uns.enc (((dD a0).b) : av) ++ Uns.enc (((dD a0).n) : aj) ++ [.d ((dD a0).aM), .d ((dD a0).notes), .d ((dD a0).s0), .d ((dD a0).s1), .d ((dD a0).s2), .d ((dD a0).bh), .d ((dD a0).tr)]) := by
 have h := of_decide_eq_true hc; refine ⟨a0.notes.length + 1, ?_⟩; unfold t11 dD; cases hs : (bH a0).isSome
 · rfl
 · have hr := vr hs; simp only [Bool.not_true, cond_false, if_true]; rw [aN h, aN (by omega), aN (by omega)]; exact D2 _ _ _ _ _ _ _ _ _ _ a0.notes [] _ (by omega) (by simp; omega)
theorem Iw : ER 11 (mkE N11.en N11.ex f11) := an ai T39.right (fun m => [HG (vE m m)]) (t := t11) (by kernel_rfl) (fun m => (aF (Oq m m) aB)) (fun m a => by kernel_rfl) fun a0 hc => Nt a0 hc
def T11 : Tb Tryz.prog LQ TE := T39.add 11 _ Iw
def N36 : aD := ⟨T11.tab, 36, ⟨[.agg [.int .i64, .int .i64]], [], 0⟩, ⟨[.int .i64], [], 0⟩, []⟩
def t36 (m : Nat) : Int × Int -> Option (List Un) := fun (a0, a1) =>
 some ([.i (w64 (a0 - a1))])
def f36 : Int × Int -> Bool × List Un := fun (a0, a1) => (true, [.i (w64 (a0 - a1))])
theorem Ns (a0 : Int) (a1 : Int) : ∃ m, t36 m (a0, a1) = some ([.i (w64 (a0 - a1))]) := by
 exact ⟨0, rfl⟩
theorem KL : ER 36 (mkE N36.en N36.ex f36) := an ai T11.right (fun m => []) (t := t36) (by kernel_rfl) (fun m => aB) (fun m a => by kernel_rfl) fun (a0, a1) hc => Ns a0 a1
def T36 : Tb Tryz.prog LQ TE := T11.add 36 _ KL
def N99 : aD := ⟨T36.tab, 99, ⟨[.agg [.int .i64, .int .i64, .int .i64, .int .i64, .int .i64, .int .i64, .int .i64]], [], 0⟩, ⟨[.int .i64], [], 0⟩, []⟩
def t99 (m : Nat) : Int × Int × Int × Int × Int × Int × Int -> Option (List Un) := fun (a0, a1, a2, a3, a4, a5, a6) =>
 some ([.i (w64 ((w64 (a1 - (w64 (a3 - a4)))) - a6))])
def f99 : Int × Int × Int × Int × Int × Int × Int -> Bool × List Un := fun (a0, a1, a2, a3, a4, a5, a6) => (true, [.i (w64 (w64 (a1 - w64 (a3 - a4)) - a6))])
theorem Ni (a0 : Int) (a1 : Int) (a2 : Int) (a3 : Int) (a4 : Int) (a5 : Int) (a6 : Int) : ∃ m, t99 m (a0, a1, a2, a3, a4, a5, a6) = some ([.i (w64 (w64 (a1 - w64 (a3 - a4)) - a6))]) := by
 exact ⟨0, rfl⟩
theorem Is : ER 99 (mkE N99.en N99.ex f99) := an ai T36.right (fun m => []) (t := t99) (by kernel_rfl) (fun m => aB) (fun m a => by kernel_rfl) fun (a0, a1, a2, a3, a4, a5, a6) hc => Ni a0 a1 a2 a3 a4 a5 a6
def T99 : Tb Tryz.prog LQ TE := T36.add 99 _ Is
def bc (d : Dat) : Int := d.i 1 - (d.i 3 - d.i 4) - d.i 6
def aI (d : Dat) : Bool := decide (0 <= d.i 1 /\ d.i 1 <= 1099511627776 /\ 0 <= d.i 3 /\ d.i 4 = 0 /\ 0 <= d.i 6 /\ d.i 3 + d.i 6 <= d.i 1 /\ 0 <= d.i 5 /\ d.i 5 <= 1125899906842624)
def l7 (c : Int) (d : Dat) : Int := max (min c (bc d)) 0
def rh (c : Int) (d : Dat) : Dat := .r [.n (d.i 0), .n (d.i 1), .n (d.i 2), .n (d.i 3 + l7 c d), .n (d.i 4), .n (d.i 5), .n (d.i 6)]
def dw (c : Int) (d : Dat) : Dat := .r [.n (d.i 0), .n (d.i 1), .n (d.i 2), .n (d.i 3), .n (d.i 4), .n (d.i 5), .n (d.i 6 + l7 c d)]
def mj (c : Int) (d : Dat) : Int := max (min c (d.i 6)) 0
def fu (c : Int) (d : Dat) : Dat := .r [.n (d.i 0), .n (d.i 1), .n (d.i 2), .n (d.i 3), .n (d.i 4), .n (d.i 5), .n (d.i 6 - mj c d)]
def zf (c : Int) (d : Dat) : Dat := .r [.n (d.i 0), .n (d.i 1), .n (d.i 2), .n (d.i 3), .n (d.i 4), .n (d.i 5 + c), .n (d.i 6)]
def OD : aD := ⟨T99.tab, 106, ⟨[.np 0 7 0, .int .i64], [.ag (sI 7)], 0⟩, ⟨[.int .i64], [.ag (sI 7)], 0⟩, []⟩
def t106 (m : Nat) : Int × Int × List Dat -> Option (List Un) := fun (a0, a1, a2) =>
 chk (decide (0 <= a0)) <|
 chk (decide (a0.toNat < a2.length)) <|
 lt (ae a2 a0.toNat : Dat) fun d1 =>
 lt ((w64 (w64 ((d1.i 1) - w64 ((d1.i 3) - (d1.i 4))) - (d1.i 6))) : Int) fun x2 =>
 lt ((if x2 < a1 then x2 else a1) : Int) fun x3 =>
 lt ((if x3 < 0 then 0 else x3) : Int) fun x4 =>
 chk (decide (0 <= a0)) <|
 chk (decide (a0.toNat < a2.length)) <|
 lt (ae a2 a0.toNat : Dat) fun d5 =>
 lt ((([(d5.i 3), x4]).getD 0 0) : Int) fun x6 =>
 bif decide (x6 < 0) then
 some ([.i 0, .d a2])
 else
 bif (decide (x6 > 1152921504606846976)) then
 some ([.i 0, .d a2])
 else
 lt ((([(d5.i 3), x4]).getD 1 0) : Int) fun x8 =>
 bif decide (x8 < 0) then
 some ([.i 0, .d a2])
 else
 bif decide (x8 > (w64 (1152921504606846976 - (w64 (0 + x6))))) then
 some ([.i 0, .d a2])
 else
 chk (decide (a0.toNat < a2.length)) <|
 lt (ae a2 a0.toNat : Dat) fun d11 =>
 some ([.i x4, .d (List.set a2 a0.toNat (.r [.n (d11.i 0), .n (d11.i 1), .n (d11.i 2), .n (w64 ((w64 (0 + x6)) + x8)), .n (d11.i 4), .n (d11.i 5), .n (d11.i 6)]))])
def f106 : Int × Int × List Dat -> Bool × List Un := fun (a0, a1, a2) => (decide (0 <= a0 /\ a0.toNat < a2.length) && aI (ae a2 a0.toNat), [.i (l7 a1 (ae a2 a0.toNat)), .d (a2.set a0.toNat (rh a1 (ae a2 a0.toNat)))])
theorem HQ (a0 : Int) (a1 : Int) (a2 : List Dat) (hc : (decide (0 <= a0 /\ a0.toNat < a2.length) && aI (ae a2 a0.toNat)) = true) : ∃ m, t106 m (a0, a1, a2) = some ([.i (l7 a1 (ae a2 a0.toNat)), .d (a2.set a0.toNat (rh a1 (ae a2 a0.toNat)))]) := by
 simp only [Bool.and_eq_true, decide_eq_true_eq, aI] at hc; obtain ⟨⟨h1, h2⟩, h⟩ := hc; refine ⟨0, ?_⟩; unfold t106; dsimp only; simp only [lt_eq]; generalize ae a2 a0.toNat = d at *
 have hv : ∀ c, l7 c d = max (min c (bc d)) 0 := fun _ => rfl
 simp only [rh, dw, fu, zf, mj, hv, bc]; simp only [List.getD_cons_zero, List.getD_cons_succ, lt_eq, jb, kO]; simp (disch := omega) only [TRa, TRi, aa, Int.zero_add]
theorem FX : ER 106 (mkE OD.en OD.ex f106) := an ai T99.right (fun m => []) (t := t106) (by kernel_rfl) (fun m => aB) (fun m a => by kernel_rfl) fun (a0, a1, a2) hc => HQ a0 a1 a2 hc
def ME : Tb Tryz.prog LQ TE := T99.add 106 _ FX
def OH : aD := ⟨ME.tab, 146, ⟨[.np 0 7 0, .int .i64], [.ag (sI 7)], 0⟩, ⟨[.int .i64], [.ag (sI 7)], 0⟩, []⟩
def t146 (m : Nat) : Int × Int × List Dat -> Option (List Un) := fun (a0, a1, a2) =>
 chk (decide (0 <= a0)) <|
 chk (decide (a0.toNat < a2.length)) <|
 lt (ae a2 a0.toNat : Dat) fun d1 =>
 lt ((w64 (w64 ((d1.i 1) - w64 ((d1.i 3) - (d1.i 4))) - (d1.i 6))) : Int) fun x2 =>
 lt ((if x2 < a1 then x2 else a1) : Int) fun x3 =>
 lt ((if x3 < 0 then 0 else x3) : Int) fun x4 =>
 chk (decide (0 <= a0)) <|
 chk (decide (a0.toNat < a2.length)) <|
 chk (decide (0 <= a0)) <|
 chk (decide (a0.toNat < a2.length)) <|
 lt (ae a2 a0.toNat : Dat) fun d6 =>
 some ([.i x4, .d (List.set a2 a0.toNat (.r [.n (d6.i 0), .n (d6.i 1), .n (d6.i 2), .n (d6.i 3), .n (d6.i 4), .n (d6.i 5), .n (w64 (((ae a2 a0.toNat).i 6) + x4))]))])
def f146 : Int × Int × List Dat -> Bool × List Un := fun (a0, a1, a2) => (decide (0 <= a0 /\ a0.toNat < a2.length) && aI (ae a2 a0.toNat), [.i (l7 a1 (ae a2 a0.toNat)), .d (a2.set a0.toNat (dw a1 (ae a2 a0.toNat)))])
theorem KT (a0 : Int) (a1 : Int) (a2 : List Dat) (hc : (decide (0 <= a0 /\ a0.toNat < a2.length) && aI (ae a2 a0.toNat)) = true) : ∃ m, t146 m (a0, a1, a2) = some ([.i (l7 a1 (ae a2 a0.toNat)), .d (a2.set a0.toNat (dw a1 (ae a2 a0.toNat)))]) := by
 simp only [Bool.and_eq_true, decide_eq_true_eq, aI] at hc; obtain ⟨⟨h1, h2⟩, h⟩ := hc; refine ⟨0, ?_⟩; unfold t146; dsimp only; simp only [lt_eq]; generalize ae a2 a0.toNat = d at *
 have hv : ∀ c, l7 c d = max (min c (bc d)) 0 := fun _ => rfl
 simp only [rh, dw, fu, zf, mj, hv, bc]; simp only [List.getD_cons_zero, List.getD_cons_succ, lt_eq, jb, kO]; simp (disch := omega) only [TRa, TRi, aa, Int.zero_add]
theorem Hd : ER 146 (mkE OH.en OH.ex f146) := an ai ME.right (fun m => []) (t := t146) (by kernel_rfl) (fun m => aB) (fun m a => by kernel_rfl) fun (a0, a1, a2) hc => KT a0 a1 a2 hc
def LH : Tb Tryz.prog LQ TE := ME.add 146 _ Hd
def OU : aD := ⟨LH.tab, 148, ⟨[.np 0 7 0, .int .i64], [.ag (sI 7)], 0⟩, ⟨[.int .i64], [.ag (sI 7)], 0⟩, []⟩
def t148 (m : Nat) : Int × Int × List Dat -> Option (List Un) := fun (a0, a1, a2) =>
 chk (decide (0 <= a0)) <|
 chk (decide (a0.toNat < a2.length)) <|
 lt (ae a2 a0.toNat : Dat) fun d1 =>
 lt ((if (d1.i 6) < a1 then (d1.i 6) else a1) : Int) fun x2 =>
 lt ((if x2 < 0 then 0 else x2) : Int) fun x3 =>
 chk (decide (0 <= a0)) <|
 chk (decide (a0.toNat < a2.length)) <|
 chk (decide (0 <= a0)) <|
 chk (decide (a0.toNat < a2.length)) <|
 lt (ae a2 a0.toNat : Dat) fun d5 =>
 some ([.i x3, .d (List.set a2 a0.toNat (.r [.n (d5.i 0), .n (d5.i 1), .n (d5.i 2), .n (d5.i 3), .n (d5.i 4), .n (d5.i 5), .n (w64 (((ae a2 a0.toNat).i 6) - x3))]))])
def f148 : Int × Int × List Dat -> Bool × List Un := fun (a0, a1, a2) => (decide (0 <= a0 /\ a0.toNat < a2.length) && aI (ae a2 a0.toNat), [.i (mj a1 (ae a2 a0.toNat)), .d (a2.set a0.toNat (fu a1 (ae a2 a0.toNat)))])
theorem K7 (a0 : Int) (a1 : Int) (a2 : List Dat) (hc : (decide (0 <= a0 /\ a0.toNat < a2.length) && aI (ae a2 a0.toNat)) = true) : ∃ m, t148 m (a0, a1, a2) = some ([.i (mj a1 (ae a2 a0.toNat)), .d (a2.set a0.toNat (fu a1 (ae a2 a0.toNat)))]) := by
 simp only [Bool.and_eq_true, decide_eq_true_eq, aI] at hc; obtain ⟨⟨h1, h2⟩, h⟩ := hc; refine ⟨0, ?_⟩; unfold t148; dsimp only; simp only [lt_eq]; generalize ae a2 a0.toNat = d at *
 have hv : ∀ c, l7 c d = max (min c (bc d)) 0 := fun _ => rfl
 simp only [rh, dw, fu, zf, mj, hv, bc]; simp only [List.getD_cons_zero, List.getD_cons_succ, lt_eq, jb, kO]; simp (disch := omega) only [TRa, TRi, aa, Int.zero_add]
theorem Fh : ER 148 (mkE OU.en OU.ex f148) := an ai LH.right (fun m => []) (t := t148) (by kernel_rfl) (fun m => aB) (fun m a => by kernel_rfl) fun (a0, a1, a2) hc => K7 a0 a1 a2 hc
def NC : Tb Tryz.prog LQ TE := LH.add 148 _ Fh
def PE : aD := ⟨NC.tab, 100, ⟨[.np 0 7 0, .int .i64], [.ag (sI 7)], 0⟩, ⟨[.bool], [.ag (sI 7)], 0⟩, []⟩
def t100 (m : Nat) : Int × Int × List Dat -> Option (List Un) := fun (a0, a1, a2) =>
 chk (decide (0 <= a0)) <|
 chk (decide (a0.toNat < a2.length)) <|
 lt (ae a2 a0.toNat : Dat) fun d1 =>
 lt ((([(d1.i 5), a1]).getD 0 0) : Int) fun x2 =>
 bif decide (x2 < 0) then
 some ([.b false, .d a2])
 else
 bif (decide (x2 > 1152921504606846976)) then
 some ([.b false, .d a2])
 else
 lt ((([(d1.i 5), a1]).getD 1 0) : Int) fun x4 =>
 bif decide (x4 < 0) then
 some ([.b false, .d a2])
 else
 bif decide (x4 > (w64 (1152921504606846976 - (w64 (0 + x2))))) then
 some ([.b false, .d a2])
 else
 chk (decide (0 <= a0)) <|
 chk (decide (a0.toNat < a2.length)) <|
 lt (ae a2 a0.toNat : Dat) fun d7 =>
 some ([.b true, .d (List.set a2 a0.toNat (.r [.n (d7.i 0), .n (d7.i 1), .n (d7.i 2), .n (d7.i 3), .n (d7.i 4), .n (w64 ((w64 (0 + x2)) + x4)), .n (d7.i 6)]))])
def f100 : Int × Int × List Dat -> Bool × List Un := fun (a0, a1, a2) => (decide (0 <= a1 /\ a1 <= 1125899906842624) && (decide (0 <= a0 /\ a0.toNat < a2.length) && aI (ae a2 a0.toNat)), [.b (true), .d (a2.set a0.toNat (zf a1 (ae a2 a0.toNat)))])
theorem Jp (a0 : Int) (a1 : Int) (a2 : List Dat) (hc : (decide (0 <= a1 /\ a1 <= 1125899906842624) && (decide (0 <= a0 /\ a0.toNat < a2.length) && aI (ae a2 a0.toNat))) = true) : ∃ m, t100 m (a0, a1, a2) = some ([.b (true), .d (a2.set a0.toNat (zf a1 (ae a2 a0.toNat)))]) := by
 simp only [Bool.and_eq_true, decide_eq_true_eq, aI] at hc; obtain ⟨h0, ⟨h1, h2⟩, h⟩ := hc; refine ⟨0, ?_⟩; unfold t100; dsimp only; simp only [lt_eq]; generalize ae a2 a0.toNat = d at *
 have hv : ∀ c, l7 c d = max (min c (bc d)) 0 := fun _ => rfl
 simp only [rh, dw, fu, zf, mj, hv, bc]; simp only [List.getD_cons_zero, List.getD_cons_succ, lt_eq, jb, kO]; simp (disch := omega) only [TRa, TRi, aa, Int.zero_add]
theorem FI : ER 100 (mkE PE.en PE.ex f100) := an ai NC.right (fun m => []) (t := t100) (by kernel_rfl) (fun m => aB) (fun m a => by kernel_rfl) fun (a0, a1, a2) hc => Jp a0 a1 a2 hc
def IP : Tb Tryz.prog LQ TE := NC.add 100 _ FI
def bj (f : Dat -> Int) : List Dat -> Int
 | [] => 0
 | d :: l => f d + bj f l
theorem bQ {d : Dat} (h : aI d = true) : 0 <= d.i 1 /\ d.i 1 <= 1099511627776 /\ 0 <= d.i 3 /\ d.i 4 = 0 /\ 0 <= d.i 6 /\ d.i 3 + d.i 6 <= d.i 1 /\ 0 <= d.i 5 /\ d.i 5 <= 1125899906842624 := of_decide_eq_true h
def N60 : aD := ⟨IP.tab, 60, ⟨[.ag (sI 7)], [], 0⟩, ⟨[.int .i64, .int .i64, .int .i64], [], 0⟩, []⟩
abbrev Du : Type := Int × Int × Int × List Dat × Int × Int
def xB (m : Nat) (k : Du -> Option (List Un)) : Du -> Option (List Un) := fun (a0, a1, a2, a3, a4, a5) =>
 bif decide (a5 < a4) then
 chk (inb a5 a3.length) <|
 chk (decide (a5.toNat < a3.length)) <|
 lt (ae a3 a5.toNat : Dat) fun d1 =>
 k ((w64 (a0 + (w64 (w64 ((d1.i 1) - w64 ((d1.i 3) - (d1.i 4))) - (d1.i 6))))), (w64 (a1 + (d1.i 5))), (w64 (a2 + (d1.i 6))), a3, a4, (w64 (a5 + 1)))
 else
 some ([.i a0, .i a1, .i a2])
def vB (m : Nat) : Nat -> Du -> Option (List Un) := bf (xB m)
theorem tD (m : Nat) (n : Nat) : vB m (n + 1) = xB m (vB m n) := rfl
def Fo (F : Du -> Option (List Un)) : aQ := ⟨[.lp [0, 1, 0, 1], .blk 0, .code [1, 1]], ⟨frm 29 [(2, .int .i64), (3, .int .i64), (4, .int .i64), (7, .ag (sI 7)), (8, .int .i64), (9, .int .i64)], [], 0⟩, onU F⟩
theorem Px (m : Nat) : ∀ n, HO N60 (Fo (vB m n)) := ax ai IP.right (fun k => [Fo k]) (fun k h => (aF h aB)) fun k a => by kernel_rfl
def t60 (m : Nat) : List Dat -> Option (List Un) := fun a0 =>
 vB m m (0, 0, 0, a0, (a0.length : Int), 0)
theorem GZ (m : Nat) : ∀ (rest pre : List Dat) (n : Nat) (b s t : Int), rest.length < n -> (pre ++ rest).length <= 1000 -> (∀ d ∈ rest, aI d = true) -> 0 <= b -> b <= 1099511627776 * pre.length -> 0 <= s -> s <= 1125899906842624 * pre.length -> 0 <= t -> t <= 1099511627776 * pre.length ->
 vB m n (b, s, t, pre ++ rest, ((pre ++ rest).length : Int), (pre.length : Int)) = some [.i (b + bj bc rest), .i (s + al 5 rest), .i (t + al 6 rest)] := by
 intro rest
 induction rest with
 | nil =>
  intro pre n b s t hn hl hg b0 b1 s0 s1 t0 t1; obtain ⟨n, rfl⟩ := ak n (by simp at hn; omega); rw [tD]; unfold xB; dsimp only; simp [aC, bj, al]
 | cons x rest ih =>
  intro pre n b s t hn hl hg b0 b1 s0 s1 t0 t1; obtain ⟨n, rfl⟩ := ak n (by simp at hn; omega); simp only [List.length_cons, List.length_append] at hn hl; have hx := bQ (hg x (by simp)); rw [tD]; unfold xB; dsimp only; have := ih (pre ++ [x]) n (b + bc x) (s + x.i 5) (t + x.i 6) (by omega) (by simp; omega) (fun d hd => hg d (by simp [hd])) (by unfold bc; omega) (by simp [bc]; omega) (by omega) (by simp; omega) (by omega) (by simp; omega); simp only [bj, al, bc] at this ⊢; simp (disch := omega) only [TRa, TRi, aa, LNl, LNi, Int.cast_ofNat_Int, ao]; simp only [LNl, LNi, Int.cast_ofNat_Int] at this ⊢; exact this
def f60 : List Dat -> Bool × List Un := fun a0 => (decide (a0.length <= 1000) && a0.all aI, [.i (bj bc a0), .i (al 5 a0), .i (al 6 a0)])
theorem Mz (a0 : List Dat) (hc : (decide (a0.length <= 1000) && a0.all aI) = true) : ∃ m, t60 m a0 = some ([.i (bj bc a0), .i (al 5 a0), .i (al 6 a0)]) := by
 simp only [Bool.and_eq_true, decide_eq_true_eq, List.all_eq_true] at hc; refine ⟨a0.length + 1, ?_⟩; exact (GZ (a0.length + 1) a0 [] (a0.length + 1) 0 0 0 (by omega) (by simpa using hc.1) hc.2 (by omega) (by simp) (by omega) (by simp) (by omega) (by simp)).trans (by simp only [Int.zero_add])
theorem Ia : ER 60 (mkE N60.en N60.ex f60) := an ai IP.right (fun m => [Fo (vB m m)]) (t := t60) (by kernel_rfl) (fun m => (aF (Px m m) aB)) (fun m a => by kernel_rfl) fun a0 hc => Mz a0 hc
def T60 : Tb Tryz.prog LQ TE := IP.add 60 _ Ia
def unD (d : Dat) : Int := d.i 1 - (d.i 3 - d.i 4)
def N23 : aD := ⟨T60.tab, 23, ⟨[.np 0 0 0], bs 0, 9⟩, ⟨[.int .i64, .int .i64, .int .i64, .int .i64], bs 0, 9⟩, []⟩
abbrev Dx : Type := Int × Int × Int × Int × Int × Int × au × av × aj × List Dat × List Dat × List Dat × List Dat × List Dat × List Dat × List Dat
def yH (m : Nat) (k : Dx -> Option (List Un)) : Dx -> Option (List Un) := fun (a0, a1, a2, a3, a4, a5, a6, a7, a8, a9, a10, a11, a12, a13, a14, a15) =>
 bif decide (a5 < a4) then
 chk (inb a5 a15.length) <|
 chk (decide (a5.toNat < a15.length)) <|
 lt (ae a15 a5.toNat : Dat) fun d1 =>
 k (a0, a1, a2, (w64 (a3 + (w64 ((d1.i 1) - (w64 ((d1.i 3) - (d1.i 4))))))), a4, (w64 (a5 + 1)), a6, a7, a8, a9, a10, a11, a12, a13, a14, a15)
 else
 some ([.i a0, .i a1, .i a2, .i a3] ++ Uns.enc (a6 : au) ++ Uns.enc (a7 : av) ++ Uns.enc (a8 : aj) ++ [.d a9, .d a10, .d a11, .d a12, .d a13, .d a14, .d a15])
def vC (m : Nat) : Nat -> Dx -> Option (List Un) := bf (yH m)
theorem sR (m : Nat) (n : Nat) : vC m (n + 1) = yH m (vC m n) := rfl
def E8 (F : Dx -> Option (List Un)) : aQ := ⟨[.lp [0, 1, 0, 1, 1], .blk 0, .code [1, 1, 1]], ⟨frm 40 [(2, .int .i64), (3, .int .i64), (4, .int .i64), (5, .int .i64), (20, .buf 8 7), (21, .int .i64), (22, .int .i64)], bs 0, 9⟩, onU F⟩
theorem PO (m : Nat) : ∀ n, HO N23 (E8 (vC m n)) := ax ai T60.right (fun k => [E8 k]) (fun k h => (aF h aB)) fun k a => by kernel_rfl
def t23 (m : Nat) : Int × au × av × aj × List Dat × List Dat × List Dat × List Dat × List Dat × List Dat × List Dat -> Option (List Un) := fun (a0, a1, a2, a3, a4, a5, a6, a7, a8, a9, a10) =>
 chk (decide (0 <= a0)) <|
 chk (decide (a10.length <= 1000) && a10.all aI) <|
 chk (decide (0 <= a0)) <|
 vC m m ((bj bc a10), (al 5 a10), (al 6 a10), 0, (a10.length : Int), 0, a1, a2, a3, a4, a5, a6, a7, a8, a9, a10)
theorem Ey (m : Nat) (b s t : Int) (xa : au) (xb : av) (xn : aj) (x1 x2 x3 x4 x5 x6 : List Dat) : ∀ (rest pre : List Dat) (n : Nat) (u : Int), rest.length < n -> (pre ++ rest).length <= 1000 -> (∀ d ∈ rest, aI d = true) -> 0 <= u -> u <= 1099511627776 * pre.length ->
 vC m n (b, s, t, u, ((pre ++ rest).length : Int), (pre.length : Int), xa, xb, xn, x1, x2, x3, x4, x5, x6, pre ++ rest) = some ([.i b, .i s, .i t, .i (u + bj unD rest)] ++ Uns.enc xa ++ Uns.enc xb ++ Uns.enc xn ++ [.d x1, .d x2, .d x3, .d x4, .d x5, .d x6, .d (pre ++ rest)]) := by
 intro rest
 induction rest with
 | nil =>
  intro pre n u hn hl hg u0 u1; obtain ⟨n, rfl⟩ := ak n (by simp at hn; omega); rw [sR]; unfold yH; dsimp only; simp [aC, bj]
 | cons x rest ih =>
  intro pre n u hn hl hg u0 u1; obtain ⟨n, rfl⟩ := ak n (by simp at hn; omega); simp only [List.length_cons, List.length_append] at hn hl; have hx := bQ (hg x (by simp)); rw [sR]; unfold yH; dsimp only; have := ih (pre ++ [x]) n (u + unD x) (by omega) (by simp; omega) (fun d hd => hg d (by simp [hd])) (by unfold unD; omega) (by simp [unD]; omega); simp only [bj, unD] at this ⊢; simp (disch := omega) only [TRa, TRi, aa, LNl, LNi, Int.cast_ofNat_Int, ao]; simp only [LNl, LNi, Int.cast_ofNat_Int] at this ⊢; exact this
def f23 : Int × au × av × aj × List Dat × List Dat × List Dat × List Dat × List Dat × List Dat × List Dat -> Bool × List Un := fun (a0, a1, a2, a3, a4, a5, a6, a7, a8, a9, a10) => (decide (0 <= a0) && (decide (a10.length <= 1000) && a10.all aI), [.i (bj bc a10), .i (al 5 a10), .i (al 6 a10), .i (bj unD a10)] ++ Uns.enc ((a1) : au) ++ Uns.enc ((a2) : av) ++ Uns.enc ((a3) : aj) ++ [.d (a4), .d (a5), .d (a6), .d (a7), .d (a8), .d (a9), .d (a10)])
theorem Mv (a0 : Int) (a1 : au) (a2 : av) (a3 : aj) (a4 : List Dat) (a5 : List Dat) (a6 : List Dat) (a7 : List Dat) (a8 : List Dat) (a9 : List Dat) (a10 : List Dat) (hc : (decide (0 <= a0) && (decide (a10.length <= 1000) && a10.all aI)) = true) : ∃ m, t23 m (a0, a1, a2, a3, a4, a5, a6, a7, a8, a9, a10) = some ([.i (bj bc a10), .i (al 5 a10), .i (al 6 a10), .i (bj unD a10)] ++ Uns.enc ((a1) : au) ++ Uns.enc ((a2) : av) ++ Uns.enc ((a3) : aj) ++ [.d (a4), .d (a5), .d (a6), .d (a7), .d (a8), .d (a9), .d (a10)]) := by
 have hc' := hc; simp only [Bool.and_eq_true, decide_eq_true_eq, List.all_eq_true] at hc'; refine ⟨a10.length + 1, ?_⟩; unfold t23; dsimp only; rw [(Bool.and_eq_true_iff.1 hc).2, gZ]; simp (disch := omega) only [aN]; exact (Ey (a10.length + 1) _ _ _ _ _ _ _ _ _ _ _ _ a10 [] (a10.length + 1) 0 (by omega) (by simpa using hc'.2.1) hc'.2.2 (by omega) (by simp)).trans (by simp only [Int.zero_add, List.nil_append])
theorem HP : ER 23 (mkE N23.en N23.ex f23) := an ai T60.right (fun m => [E8 (vC m m)]) (t := t23) (by kernel_rfl) (fun m => (aF (PO m m) aB)) (fun m a => by kernel_rfl) fun (a0, a1, a2, a3, a4, a5, a6, a7, a8, a9, a10) hc => Mv a0 a1 a2 a3 a4 a5 a6 a7 a8 a9 a10 hc
def T23 : Tb Tryz.prog LQ TE := T60.add 23 _ HP
end
end Go.Proofs.YtdbkoeefnodejaaGreat
namespace Go.Proofs.YtdbkoeefnodejaaGreat
noncomputable section
open Go Go.Proofs.YtdbkoeefnodejaaGreat.Ev
set_option maxRecDepth 20000
theorem Ez {d : Dat} (c : Int) (h : aI d = true) : aI (rh c d) = true := by
 have := bQ h; refine decide_eq_true ?_
 simp only [rh, l7, bc, dQ, eL, sN, nd, m7]; omega
theorem zO {d : Dat} (c : Int) (h : aI d = true) : aI (dw c d) = true := by
 have := bQ h; refine decide_eq_true ?_
 simp only [dw, l7, bc, dQ, eL, sN, nd, m7]; omega
theorem Bk {d : Dat} (c : Int) (h : aI d = true) : aI (fu c d) = true := by
 have := bQ h; refine decide_eq_true ?_
 simp only [fu, mj, dQ, eL, sN, nd, m7]; omega
theorem fJ : ∀ l : List Dat, (∀ d ∈ l, aI d = true) -> (0 <= bj bc l /\ bj bc l <= 1099511627776 * l.length) /\ (0 <= al 5 l /\ al 5 l <= 1125899906842624 * l.length) /\ (0 <= al 6 l /\ al 6 l <= 1099511627776 * l.length) /\ (0 <= bj unD l /\ bj unD l <= 1099511627776 * l.length) /\ bj unD l = bj bc l + al 6 l
 | [], _ => by simp [bj, al]
 | d :: l, h => by
  have h1 := bQ (h d (by simp)); have h2 := fJ l fun x hx => h x (by simp [hx])
  simp only [bj, al, List.length_cons, Int.natCast_add, bc, unD] at h2 ⊢; omega
theorem zT (f : Dat -> Int) (y : Dat) : ∀ (l : List Dat) (j : Nat), j < l.length -> bj f (l.set j y) = bj f l - f (ae l j) + f y
 | [], j, h => by simp at h
 | d :: l, 0, h => by simp only [List.set_cons_zero, bj, ae, List.getD_cons_zero]; omega
 | d :: l, j + 1, h => by
  have := zT f y l j (by simpa using h); simp only [ae] at this; simp only [List.set_cons_succ, bj, ae, List.getD_cons_succ, this]; omega
theorem CI {p : Dat -> Prop} {l : List Dat} {j : Nat} {y : Dat} (h : ∀ d ∈ l, p d) (hy : p y) : ∀ d ∈ l.set j y, p d := fun d hd => by
 rcases List.mem_or_eq_of_mem_set hd with h1 | rfl
 · exact h d h1
 · exact hy
theorem sV {l : List Dat} {j : Nat} (h : j < l.length) : ae l j ∈ l := by rw [mf h]; exact List.getElem_mem h
end
end Go.Proofs.YtdbkoeefnodejaaGreat
namespace Go.Proofs.YtdbkoeefnodejaaGreat
noncomputable section
open Go Go.Proofs.YtdbkoeefnodejaaGreat.Ev
set_option maxRecDepth 20000
def Pq : aD := ⟨T23.tab, 109, ⟨[.agg [.bool, .bool, .bool, .bool]], [], 0⟩, ⟨[.bool], [], 0⟩, []⟩
def t109 (m : Nat) : Bool × Bool × Bool × Bool -> Option (List Un) := fun (a0, a1, a2, a3) =>
 bif !a0 then
 some ([.b true])
 else
 bif !a2 then
 some ([.b true])
 else
 some ([.b !a3])
def f109 : Bool × Bool × Bool × Bool -> Bool × List Un := fun (a0, a1, a2, a3) => (true, [.b (!a0 || (!a2 || !a3))])
theorem HV (a0 : Bool) (a1 : Bool) (a2 : Bool) (a3 : Bool) : ∃ m, t109 m (a0, a1, a2, a3) = some ([.b (!a0 || (!a2 || !a3))]) := by
 refine ⟨0, ?_⟩; unfold t109; cases a0 <;> cases a2 <;> cases a3 <;> rfl
theorem Fg : ER 109 (mkE Pq.en Pq.ex f109) := an ai T23.right (fun m => []) (t := t109) (by kernel_rfl) (fun m => aB) (fun m a => by kernel_rfl) fun (a0, a1, a2, a3) hc => HV a0 a1 a2 a3
def LC : Tb Tryz.prog LQ TE := T23.add 109 _ Fg
def du (mode aZ dR : Int) (oc ic late lq : Bool) : Int × Int :=
 if mode = 2 \/ ic = false then (2, 0)
 else if oc = false \/ late = false \/ lq = false then (1, 0)
 else if mode ≠ 1 \/ dR <= aZ \/ aZ + 1 = dR then (0, 0)
 else (1, aZ + 1)
def N50 : aD := ⟨LC.tab, 50, ⟨[.agg [.int .i64, .int .i64], .int .i64, .agg [.bool, .bool, .bool, .bool]], [], 0⟩, ⟨[.agg [.int .i64, .int .i64]], [], 0⟩, []⟩
def t50 (m : Nat) : Int × Int × Int × Bool × Bool × Bool × Bool -> Option (List Un) := fun (a0, a1, a2, a3, a4, a5, a6) =>
 bif a0 == 2 then
 some ([.i 2, .i 0])
 else
 bif !a4 then
 some ([.i 2, .i 0])
 else
 bif (!a3 || (!a5 || !a6)) then
 some ([.i 1, .i 0])
 else
 bif a0 != 1 then
 some ([.i 0, .i 0])
 else
 bif decide (a1 >= a2) then
 some ([.i 0, .i 0])
 else
 bif (w64 (a1 + 1)) == a2 then
 some ([.i 0, .i 0])
 else
 some ([.i 1, .i (w64 (a1 + 1))])
def f50 : Int × Int × Int × Bool × Bool × Bool × Bool -> Bool × List Un := fun (a0, a1, a2, a3, a4, a5, a6) => (decide (0 <= a1 /\ a1 <= 1000000), [.i ((du a0 a1 a2 a3 a4 a5 a6).1), .i ((du a0 a1 a2 a3 a4 a5 a6).2)])
theorem N7 (a0 : Int) (a1 : Int) (a2 : Int) (a3 : Bool) (a4 : Bool) (a5 : Bool) (a6 : Bool) (hc : (decide (0 <= a1 /\ a1 <= 1000000)) = true) : ∃ m, t50 m (a0, a1, a2, a3, a4, a5, a6) = some ([.i ((du a0 a1 a2 a3 a4 a5 a6).1), .i ((du a0 a1 a2 a3 a4 a5 a6).2)]) := by
 have h := of_decide_eq_true hc; refine ⟨0, ?_⟩; unfold t50 du
 by_cases h1 : a0 = 2
 · simp (disch := omega) only [TRa, TRi, aa]; simp [h1]
 · cases a4
   · simp (disch := omega) only [TRa, TRi, aa]; simp
   · cases a3 <;> cases a5 <;> cases a6 <;> simp [h1, ek] <;> by_cases h2 : a0 = 1 <;> by_cases h3 : a2 <= a1 <;> by_cases h4 : a1 + 1 = a2 <;> simp (disch := omega) only [TRa, TRi, aa] <;> simp [h2, h3, h4]
theorem Kh : ER 50 (mkE N50.en N50.ex f50) := an ai LC.right (fun m => []) (t := t50) (by kernel_rfl) (fun m => aB) (fun m a => by kernel_rfl) fun (a0, a1, a2, a3, a4, a5, a6) hc => N7 a0 a1 a2 a3 a4 a5 a6 hc
def T50 : Tb Tryz.prog LQ TE := LC.add 50 _ Kh
def cR (n : Int) : Int := if n < 1 then 0 else if n < 3 then 1 else if n < 6 then 2 else 3
def PZ : aD := ⟨T50.tab, 150, ⟨[.int .i64], [], 0⟩, ⟨[.int .i64], [], 0⟩, []⟩
def t150 (m : Nat) : Int -> Option (List Un) := fun a0 =>
 bif decide (a0 < 1) then
 some ([.i 0])
 else
 bif decide (a0 < 3) then
 some ([.i 1])
 else
 bif decide (a0 < 6) then
 some ([.i 2])
 else
 some ([.i 3])
def f150 : Int -> Bool × List Un := fun a0 => (true, [.i (cR a0)])
theorem IX (a0 : Int) : ∃ m, t150 m a0 = some ([.i (cR a0)]) := by
 refine ⟨0, ?_⟩; unfold t150 cR
 by_cases h1 : a0 < 1 <;> by_cases h2 : a0 < 3 <;> by_cases h3 : a0 < 6 <;> simp [h1, h2, h3]
theorem FB : ER 150 (mkE PZ.en PZ.ex f150) := an ai T50.right (fun m => []) (t := t150) (by kernel_rfl) (fun m => aB) (fun m a => by kernel_rfl) fun a0 hc => IX a0
def Jn : Tb Tryz.prog LQ TE := T50.add 150 _ FB
def cJ (d : Dat) : Bool := decide (0 <= d.i 1 /\ d.i 1 <= 1099511627776)
def cj (j : Int) (l : List Dat) : Int := bj (fun d => if cR (d.i 3) = j then d.i 1 else 0) l
theorem Eb (n : Int) : cR n = 0 \/ cR n = 1 \/ cR n = 2 \/ cR n = 3 := by
 unfold cR
 split
 · exact .inl rfl
 · split
   · exact .inr (.inl rfl)
   · split
     · exact .inr (.inr (.inl rfl))
     · exact .inr (.inr (.inr rfl))
theorem oj {d : Dat} (h : cJ d = true) : 0 <= d.i 1 /\ d.i 1 <= 1099511627776 := of_decide_eq_true h
def LI : aD := ⟨Jn.tab, 112, ⟨[.ag (sB 4)], [], 0⟩, ⟨[.agg [.int .i64, .int .i64, .int .i64, .int .i64]], [], 0⟩, []⟩
abbrev xZ : Type := List Dat × Int × Int × Int × Int × Int × Int × Int × Int × Int × Int
def rq (m : Nat) (k : xZ -> Option (List Un)) : xZ -> Option (List Un) := fun (a0, a1, a2, a3, a4, a5, a6, a7, a8, a9, a10) =>
 bif decide (a2 < a1) then
 chk (inb a2 a0.length) <|
 chk (decide (a2.toNat < a0.length)) <|
 lt (ae a0 a2.toNat : Dat) fun d1 =>
 chk (inb (cR (d1.i 3)) 4) <|
 chk (decide ((cR (d1.i 3)).toNat < 4)) <|
 lt ((List.getD [a7, a8, a9, a10] ((cR (d1.i 3)).toNat) 0) : Int) fun x2 =>
 chk (inb (cR (d1.i 3)) 4) <|
 chk (decide ((cR (d1.i 3)).toNat < 4)) <|
 k (a0, a1, (w64 (a2 + 1)), a3, a4, a5, a6, (bif decide ((cR (d1.i 3)).toNat = 0) then (w64 (x2 + (d1.i 1))) else a7), (bif decide ((cR (d1.i 3)).toNat = 1) then (w64 (x2 + (d1.i 1))) else a8), (bif decide ((cR (d1.i 3)).toNat = 2) then (w64 (x2 + (d1.i 1))) else a9), (bif decide ((cR (d1.i 3)).toNat = 3) then (w64 (x2 + (d1.i 1))) else a10))
 else
 some ([.i a7, .i a8, .i a9, .i a10])
def oZ (m : Nat) : Nat -> xZ -> Option (List Un) := bf (rq m)
theorem qj (m : Nat) (n : Nat) : oZ m (n + 1) = rq m (oZ m n) := rfl
def CB (F : xZ -> Option (List Un)) : aQ := ⟨[.lp [0, 1, 0, 1, 1], .blk 0, .code [1, 1, 1]], ⟨frm 24 [(2, .ptr 0 0 0), (3, .ptr 1 0 0), (6, .ag (sB 4)), (7, .int .i64), (8, .int .i64)], [.cells [.int .i64, .int .i64, .int .i64, .int .i64], .cells [.int .i64, .int .i64, .int .i64, .int .i64]], 0⟩, onU F⟩
theorem Oj (m : Nat) : ∀ n, HO LI (CB (oZ m n)) := ax ai Jn.right (fun k => [CB k]) (fun k h => (aF h aB)) fun k a => by kernel_rfl
def t112 (m : Nat) : List Dat -> Option (List Un) := fun a0 =>
 oZ m m (a0, (a0.length : Int), 0, 0, 0, 0, 0, 0, 0, 0, 0)
set_option maxHeartbeats 2000000 in
theorem I2 (m : Nat) (z0 z1 z2 z3 : Int) : ∀ (rest pre : List Dat) (n : Nat) (b0 b1 b2 b3 : Int), rest.length < n -> (pre ++ rest).length <= 1000 -> (∀ d ∈ rest, cJ d = true) -> (0 <= b0 /\ b0 <= 1099511627776 * pre.length) -> (0 <= b1 /\ b1 <= 1099511627776 * pre.length) -> (0 <= b2 /\ b2 <= 1099511627776 * pre.length) -> (0 <= b3 /\ b3 <= 1099511627776 * pre.length) ->
 oZ m n (pre ++ rest, ((pre ++ rest).length : Int), (pre.length : Int), z0, z1, z2, z3, b0, b1, b2, b3) = some [.i (b0 + cj 0 rest), .i (b1 + cj 1 rest), .i (b2 + cj 2 rest), .i (b3 + cj 3 rest)] := by
 intro rest
 induction rest with
 | nil =>
  intro pre n b0 b1 b2 b3 hn hl hg h0 h1 h2 h3; obtain ⟨n, rfl⟩ := ak n (by simp at hn; omega); rw [qj]; unfold rq; dsimp only; simp [aC, bj, cj]
 | cons x rest ih =>
  intro pre n b0 b1 b2 b3 hn hl hg h0 h1 h2 h3; obtain ⟨n, rfl⟩ := ak n (by simp at hn; omega); simp only [List.length_cons, List.length_append] at hn hl; have hx := oj (hg x (by simp)); have ih' := fun b0 b1 b2 b3 => ih (pre ++ [x]) n b0 b1 b2 b3 (by omega) (by simp; omega) (fun d hd => hg d (by simp [hd]))
  rw [qj]; unfold rq; dsimp only; simp only [cj, bj] at ih' ⊢; rcases Eb (x.i 3) with hb | hb | hb | hb
  · have := ih' (b0 + x.i 1) b1 b2 b3 (by simp; omega) (by simp; omega) (by simp; omega) (by simp; omega); simp (disch := omega) only [TRa, TRi, aa, LNl, LNi, Int.cast_ofNat_Int, ao, hb, Int.reduceToNat, List.getD_cons_zero, List.getD_cons_succ, if_true, Int.reduceEq, if_false]; simp only [Nat.reduceEqDiff, decide_true, decide_false, cond_true, cond_false, reduceCtorEq, Nat.zero_ne_one, Nat.one_ne_zero, if_true, if_false, Int.reduceEq, Int.zero_add]; simp only [LNl, LNi, Int.cast_ofNat_Int] at this ⊢; exact this
  · have := ih' b0 (b1 + x.i 1) b2 b3 (by simp; omega) (by simp; omega) (by simp; omega) (by simp; omega); simp (disch := omega) only [TRa, TRi, aa, LNl, LNi, Int.cast_ofNat_Int, ao, hb, Int.reduceToNat, List.getD_cons_zero, List.getD_cons_succ, if_true, Int.reduceEq, if_false]; simp only [Nat.reduceEqDiff, decide_true, decide_false, cond_true, cond_false, reduceCtorEq, Nat.zero_ne_one, Nat.one_ne_zero, if_true, if_false, Int.reduceEq, Int.zero_add]; simp only [LNl, LNi, Int.cast_ofNat_Int] at this ⊢; exact this
  · have := ih' b0 b1 (b2 + x.i 1) b3 (by simp; omega) (by simp; omega) (by simp; omega) (by simp; omega); simp (disch := omega) only [TRa, TRi, aa, LNl, LNi, Int.cast_ofNat_Int, ao, hb, Int.reduceToNat, List.getD_cons_zero, List.getD_cons_succ, if_true, Int.reduceEq, if_false]; simp only [Nat.reduceEqDiff, decide_true, decide_false, cond_true, cond_false, reduceCtorEq, Nat.zero_ne_one, Nat.one_ne_zero, if_true, if_false, Int.reduceEq, Int.zero_add]; simp only [LNl, LNi, Int.cast_ofNat_Int] at this ⊢; exact this
  · have := ih' b0 b1 b2 (b3 + x.i 1) (by simp; omega) (by simp; omega) (by simp; omega) (by simp; omega); simp (disch := omega) only [TRa, TRi, aa, LNl, LNi, Int.cast_ofNat_Int, ao, hb, Int.reduceToNat, List.getD_cons_zero, List.getD_cons_succ, if_true, Int.reduceEq, if_false]; simp only [Nat.reduceEqDiff, decide_true, decide_false, cond_true, cond_false, reduceCtorEq, Nat.zero_ne_one, Nat.one_ne_zero, if_true, if_false, Int.reduceEq, Int.zero_add]; simp only [LNl, LNi, Int.cast_ofNat_Int] at this ⊢; exact this
def f112 : List Dat -> Bool × List Un := fun a0 => (decide (a0.length <= 1000) && a0.all cJ, [.i (cj 0 a0), .i (cj 1 a0), .i (cj 2 a0), .i (cj 3 a0)])
theorem Km (a0 : List Dat) (hc : (decide (a0.length <= 1000) && a0.all cJ) = true) : ∃ m, t112 m a0 = some ([.i (cj 0 a0), .i (cj 1 a0), .i (cj 2 a0), .i (cj 3 a0)]) := by
 simp only [Bool.and_eq_true, decide_eq_true_eq, List.all_eq_true] at hc; refine ⟨a0.length + 1, ?_⟩; exact (I2 (a0.length + 1) _ _ _ _ a0 [] (a0.length + 1) 0 0 0 0 (by omega) (by simpa using hc.1) hc.2 (by simp) (by simp) (by simp) (by simp)).trans (by simp only [Int.zero_add])
theorem GY : ER 112 (mkE LI.en LI.ex f112) := an ai Jn.right (fun m => [CB (oZ m m)]) (t := t112) (by kernel_rfl) (fun m => (aF (Oj m m) aB)) (fun m a => by kernel_rfl) fun a0 hc => Km a0 hc
def K3 : Tb Tryz.prog LQ TE := Jn.add 112 _ GY
def Ao (a b c d k : Int) : Int := (if k <= 0 then a else 0) + (if k <= 1 then b else 0) + (if k <= 2 then c else 0) + (if k <= 3 then d else 0)
def ML : aD := ⟨K3.tab, 113, ⟨[.agg [.int .i64, .int .i64, .int .i64, .int .i64], .int .i64], [], 0⟩, ⟨[.int .i64], [], 0⟩, []⟩
abbrev yD : Type := Int × Int × Int × Int × Int × Int
def j7 (m : Nat) (k : yD -> Option (List Un)) : yD -> Option (List Un) := fun (a0, a1, a2, a3, a4, a5) =>
 bif decide (a1 < 4) then
 chk (inb a1 4) <|
 chk (decide (a1.toNat < 4)) <|
 k ((w64 (a0 + (List.getD [a2, a3, a4, a5] a1.toNat 0))), (w64 (a1 + 1)), a2, a3, a4, a5)
 else
 some ([.i a0])
def dM (m : Nat) : Nat -> yD -> Option (List Un) := bf (j7 m)
theorem gS (m : Nat) (n : Nat) : dM m (n + 1) = j7 m (dM m n) := rfl
def Bn (F : yD -> Option (List Un)) : aQ := ⟨[.lp [0, 1, 0, 1, 1], .blk 0, .code [1, 1, 1]], ⟨frm 19 [(2, .ptr 0 0 0), (5, .int .i64), (6, .int .i64)], [.cells [.int .i64, .int .i64, .int .i64, .int .i64]], 0⟩, onU F⟩
theorem MK (m : Nat) : ∀ n, HO ML (Bn (dM m n)) := ax ai K3.right (fun k => [Bn k]) (fun k h => (aF h aB)) fun k a => by kernel_rfl
def t113 (m : Nat) : Int × Int × Int × Int × Int -> Option (List Un) := fun (a0, a1, a2, a3, a4) =>
 dM m m (0, (if a4 < 0 then 0 else a4), a0, a1, a2, a3)
def f113 : Int × Int × Int × Int × Int -> Bool × List Un := fun (a0, a1, a2, a3, a4) => (decide (0 <= a0 /\ a0 <= 1152921504606846976 /\ 0 <= a1 /\ a1 <= 1152921504606846976 /\ 0 <= a2 /\ a2 <= 1152921504606846976 /\ 0 <= a3 /\ a3 <= 1152921504606846976), [.i (Ao a0 a1 a2 a3 a4)])
theorem Kb (a0 : Int) (a1 : Int) (a2 : Int) (a3 : Int) (a4 : Int) (hc : (decide (0 <= a0 /\ a0 <= 1152921504606846976 /\ 0 <= a1 /\ a1 <= 1152921504606846976 /\ 0 <= a2 /\ a2 <= 1152921504606846976 /\ 0 <= a3 /\ a3 <= 1152921504606846976)) = true) : ∃ m, t113 m (a0, a1, a2, a3, a4) = some ([.i (Ao a0 a1 a2 a3 a4)]) := by
 have h := of_decide_eq_true hc; refine ⟨6, ?_⟩; unfold t113 Ao; dsimp only; have f0 : ∀ (n : Nat) (i s : Int), 4 <= i -> dM 6 (n + 1) (s, i, a0, a1, a2, a3) = some [.i s] := by
  intro n i s hi; rw [gS]; unfold j7; dsimp only; rw [aC (by omega)]
 have f3 : ∀ (n : Nat) (s : Int), 0 <= s -> s <= 3458764513820540928 -> dM 6 (n + 2) (s, 3, a0, a1, a2, a3) = some [.i (s + a3)] := by
  intro n s h1 h2; rw [gS]; unfold j7; dsimp only; simp (disch := omega) only [bT, iu, aN, Int.reduceToNat, List.getD_cons_zero, List.getD_cons_succ, aa, Int.reduceAdd, f0]
 have f2 : ∀ (n : Nat) (s : Int), 0 <= s -> s <= 2305843009213693952 -> dM 6 (n + 3) (s, 2, a0, a1, a2, a3) = some [.i (s + a2 + a3)] := by
  intro n s h1 h2; rw [gS]; unfold j7; dsimp only; simp (disch := omega) only [bT, iu, aN, Int.reduceToNat, List.getD_cons_zero, List.getD_cons_succ, aa, Int.reduceAdd, f3]
 have f1 : ∀ (n : Nat) (s : Int), 0 <= s -> s <= 1152921504606846976 -> dM 6 (n + 4) (s, 1, a0, a1, a2, a3) = some [.i (s + a1 + a2 + a3)] := by
  intro n s h1 h2; rw [gS]; unfold j7; dsimp only; simp (disch := omega) only [bT, iu, aN, Int.reduceToNat, List.getD_cons_zero, List.getD_cons_succ, aa, Int.reduceAdd, f2]
 by_cases k0 : a4 <= 0
 · rw [show (if a4 < 0 then 0 else a4) = (0 : Int) by split <;> omega, show dM 6 6 = dM 6 (5 + 1) from rfl, gS]; unfold j7; dsimp only; simp (disch := omega) only [bT, iu, aN, Int.reduceToNat, List.getD_cons_zero, List.getD_cons_succ, aa, Int.reduceAdd, Int.zero_add]; rw [show dM 6 5 = dM 6 (1 + 4) from rfl, f1 _ _ (by omega) (by omega), if_pos k0, if_pos (by omega), if_pos (by omega), if_pos (by omega)]
 · rw [if_neg (show ¬ a4 < 0 by omega), if_neg k0]
   by_cases k1 : a4 = 1
   · subst k1; rw [show dM 6 6 = dM 6 (2 + 4) from rfl, f1 _ _ (by omega) (by omega)]; simp
   · by_cases k2 : a4 = 2
     · subst k2; rw [show dM 6 6 = dM 6 (3 + 3) from rfl, f2 _ _ (by omega) (by omega)]; simp
     · by_cases k3 : a4 = 3
       · subst k3; rw [show dM 6 6 = dM 6 (4 + 2) from rfl, f3 _ _ (by omega) (by omega)]; simp
       · rw [f0 _ _ _ (by omega), if_neg (by omega), if_neg (by omega), if_neg (by omega)]; simp
theorem Ge : ER 113 (mkE ML.en ML.ex f113) := an ai K3.right (fun m => [Bn (dM m m)]) (t := t113) (by kernel_rfl) (fun m => (aF (MK m m) aB)) (fun m a => by kernel_rfl) fun (a0, a1, a2, a3, a4) hc => Kb a0 a1 a2 a3 a4 hc
def Kp : Tb Tryz.prog LQ TE := K3.add 113 _ Ge
theorem Qh (a : List Dat) : (ae [.r [.r a]] 0).d 0 = a := rfl
def N19 : aD := ⟨Kp.tab, 19, ⟨[.dpt [.ag (sB 4)]], [], 0⟩, ⟨[.int .i64], [], 0⟩, []⟩
abbrev CJ : Type := Int × List Dat × Int × Int
def wZ (m : Nat) (k : CJ -> Option (List Un)) : CJ -> Option (List Un) := fun (a0, a1, a2, a3) =>
 bif decide (a3 < a2) then
 chk (inb a3 a1.length) <|
 chk (decide (a3.toNat < a1.length)) <|
 k ((w64 (a0 + ((ae a1 a3.toNat).i 1))), a1, a2, (w64 (a3 + 1)))
 else
 some ([.i a0])
def wT (m : Nat) : Nat -> CJ -> Option (List Un) := bf (wZ m)
theorem so (m : Nat) (n : Nat) : wT m (n + 1) = wZ m (wT m n) := rfl
def Gn (F : CJ -> Option (List Un)) : aQ := ⟨[.lp [0, 1, 0, 1, 1], .blk 0, .code [1, 1, 1]], ⟨frm 22 [(3, .int .i64), (9, .ag (sB 4)), (10, .int .i64), (11, .int .i64)], [], 0⟩, onU F⟩
theorem OY (m : Nat) : ∀ n, HO N19 (Gn (wT m n)) := ax ai Kp.right (fun k => [Gn k]) (fun k h => (aF h aB)) fun k a => by kernel_rfl
def t19 (m : Nat) : List Dat -> Option (List Un) := fun a0 =>
 chk (decide (0 < a0.length)) <|
 wT m m (0, ((ae a0 0).d 0), (((ae a0 0).d 0).length : Int), 0)
theorem EZ (m : Nat) : ∀ (rest pre : List Dat) (n : Nat) (b : Int), rest.length < n -> (pre ++ rest).length <= 1000 -> (∀ d ∈ rest, cJ d = true) -> 0 <= b -> b <= 1099511627776 * pre.length ->
 wT m n (b, pre ++ rest, ((pre ++ rest).length : Int), (pre.length : Int)) = some [.i (b + al 1 rest)] := by
 intro rest
 induction rest with
 | nil =>
  intro pre n b hn hl hg h0 h1; obtain ⟨n, rfl⟩ := ak n (by simp at hn; omega); rw [so]; unfold wZ; dsimp only; simp [aC, al]
 | cons x rest ih =>
  intro pre n b hn hl hg h0 h1; obtain ⟨n, rfl⟩ := ak n (by simp at hn; omega); simp only [List.length_cons, List.length_append] at hn hl; have hx := oj (hg x (by simp)); rw [so]; unfold wZ; dsimp only; have := ih (pre ++ [x]) n (b + x.i 1) (by omega) (by simp; omega) (fun d hd => hg d (by simp [hd])) (by omega) (by simp; omega); simp only [al] at this ⊢; simp (disch := omega) only [TRa, TRi, aa, LNl, LNi, Int.cast_ofNat_Int, ao]; simp only [LNl, LNi, Int.cast_ofNat_Int] at this ⊢; exact this
def f19 : List Dat -> Bool × List Un := fun a0 => (decide (0 < a0.length) && (decide (((ae a0 0).d 0).length <= 1000) && ((ae a0 0).d 0).all cJ), [.i (al 1 ((ae a0 0).d 0))])
theorem M0 (a0 : List Dat) (hc : (decide (0 < a0.length) && (decide (((ae a0 0).d 0).length <= 1000) && ((ae a0 0).d 0).all cJ)) = true) : ∃ m, t19 m a0 = some ([.i (al 1 ((ae a0 0).d 0))]) := by
 simp only [Bool.and_eq_true, decide_eq_true_eq, List.all_eq_true] at hc; refine ⟨((ae a0 0).d 0).length + 1, ?_⟩; unfold t19; rw [aN hc.1]; exact (EZ _ ((ae a0 0).d 0) [] (((ae a0 0).d 0).length + 1) 0 (by omega) (by simpa using hc.2.1) hc.2.2 (by omega) (by simp)).trans (by simp only [Int.zero_add])
theorem JD : ER 19 (mkE N19.en N19.ex f19) := an ai Kp.right (fun m => [Gn (wT m m)]) (t := t19) (by kernel_rfl) (fun m => (aF (OY m m) aB)) (fun m a => by kernel_rfl) fun a0 hc => M0 a0 hc
def T19 : Tb Tryz.prog LQ TE := Kp.add 19 _ JD
def N57 : aD := ⟨T19.tab, 57, ⟨[.dpt [.ag (sB 4)]], [], 0⟩, ⟨[.buf 0 5], [.ag (sB 4)], 0⟩, []⟩
def t57 (m : Nat) : List Dat -> Option (List Un) := fun a0 =>
 chk (decide (0 < a0.length)) <|
 chk (decide (((ae a0 0).d 0).length < 1000000)) <|
 some ([.d ((ae a0 0).d 0)])
def f57 : List Dat -> Bool × List Un := fun a0 => (decide (0 < a0.length) && decide (((ae a0 0).d 0).length < 1000000), [.d ((ae a0 0).d 0)])
theorem M1 (a0 : List Dat) (hc : (decide (0 < a0.length) && decide (((ae a0 0).d 0).length < 1000000)) = true) : ∃ m, t57 m a0 = some ([.d ((ae a0 0).d 0)]) := by
 simp only [Bool.and_eq_true, decide_eq_true_eq] at hc; refine ⟨0, ?_⟩; unfold t57; rw [aN hc.1, aN hc.2]
theorem HS : ER 57 (mkE N57.en N57.ex f57) := an ai T19.right (fun m => []) (t := t57) (by kernel_rfl) (fun m => aB) (fun m a => by kernel_rfl) fun a0 hc => M1 a0 hc
def T57 : Tb Tryz.prog LQ TE := T19.add 57 _ HS
theorem ma (j : Int) : ∀ (l : List Dat), (∀ d ∈ l, cJ d = true) -> 0 <= cj j l /\ cj j l <= 1099511627776 * l.length
 | [], _ => by simp [cj, bj]
 | x :: l, h => by
  have h1 := oj (h x (by simp)); have h2 := ma j l fun d hd => h d (by simp [hd])
  simp only [cj, bj, List.length_cons, Int.natCast_add, Int.cast_ofNat_Int] at h2 ⊢
  split <;> omega
def N52 : aD := ⟨T57.tab, 52, ⟨[.np 0 0 0, .int .i64, .int .i64], bs 0, 9⟩, ⟨[.agg [.int .i64, .int .i64, .int .i64, .int .i64, .int .i64, .int .i64, .int .i64]], bs 0, 9⟩, []⟩
def t52 (m : Nat) : Int × Int × Int × au × av × aj × List Dat × List Dat × List Dat × List Dat × List Dat × List Dat × List Dat -> Option (List Un) := fun (a0, a1, a2, a3, a4, a5, a6, a7, a8, a9, a10, a11, a12) =>
 chk (decide (0 <= a0) && (decide (a12.length <= 1000) && a12.all aI)) <|
 chk (decide (0 <= a0)) <|
 chk (decide (0 < ([.r [.r a11]] : List Dat).length) && (decide (((ae ([.r [.r a11]] : List Dat) 0).d 0).length <= 1000) && ((ae ([.r [.r a11]] : List Dat) 0).d 0).all cJ)) <|
 chk (decide (0 <= a0)) <|
 chk (decide (0 <= a0)) <|
 chk (decide (0 < ([.r [.r a11]] : List Dat).length) && decide (((ae ([.r [.r a11]] : List Dat) 0).d 0).length < 1000000)) <|
 lt (((ae ([.r [.r a11]] : List Dat) 0).d 0) : List Dat) fun l5 =>
 chk (decide (l5.length <= 1000) && l5.all cJ) <|
 chk (decide (0 <= (cj 0 l5) /\ (cj 0 l5) <= 1152921504606846976 /\ 0 <= (cj 1 l5) /\ (cj 1 l5) <= 1152921504606846976 /\ 0 <= (cj 2 l5) /\ (cj 2 l5) <= 1152921504606846976 /\ 0 <= (cj 3 l5) /\ (cj 3 l5) <= 1152921504606846976)) <|
 chk (decide (0 <= a0)) <|
 chk (decide (0 <= a0)) <|
 some ([.i (al 1 ((ae ([.r [.r a11]] : List Dat) 0).d 0)), .i (((bH (⟨a3, a6, a7, a4, a8, a9, a10⟩ : bk)).getD (0, 0)).1), .i (bj bc a12), .i (if 1099511627776 < a1 then 1099511627776 else a1), .i (if 1099511627776 < a2 then 1099511627776 else a2), .i (Ao (cj 0 l5) (cj 1 l5) (cj 2 l5) (cj 3 l5) 2), .i (w64 (a5.aJ - a5.aW))] ++ Uns.enc (a3 : au) ++ Uns.enc (a4 : av) ++ Uns.enc (a5 : aj) ++ [.d a6, .d a7, .d a8, .d a9, .d a10, .d a11, .d a12])
def f52 : Int × Int × Int × au × av × aj × List Dat × List Dat × List Dat × List Dat × List Dat × List Dat × List Dat -> Bool × List Un := fun (a0, a1, a2, a3, a4, a5, a6, a7, a8, a9, a10, a11, a12) => (decide (0 <= a0) && ((decide (a11.length <= 1000) && a11.all cJ) && (decide (a12.length <= 1000) && a12.all aI)), [.i (al 1 a11), .i (((bH (⟨a3, a6, a7, a4, a8, a9, a10⟩ : bk)).getD (0, 0)).1), .i (bj bc a12), .i (min a1 1099511627776), .i (min a2 1099511627776), .i (cj 2 a11 + cj 3 a11), .i (w64 (a5.aJ - a5.aW))] ++ Uns.enc ((a3) : au) ++ Uns.enc ((a4) : av) ++ Uns.enc ((a5) : aj) ++ [.d (a6), .d (a7), .d (a8), .d (a9), .d (a10), .d (a11), .d (a12)])
theorem LZ (a0 : Int) (a1 : Int) (a2 : Int) (a3 : au) (a4 : av) (a5 : aj) (a6 : List Dat) (a7 : List Dat) (a8 : List Dat) (a9 : List Dat) (a10 : List Dat) (a11 : List Dat) (a12 : List Dat) (hc : (decide (0 <= a0) && ((decide (a11.length <= 1000) && a11.all cJ) && (decide (a12.length <= 1000) && a12.all aI))) = true) : ∃ m, t52 m (a0, a1, a2, a3, a4, a5, a6, a7, a8, a9, a10, a11, a12) = some ([.i (al 1 a11), .i (((bH (⟨a3, a6, a7, a4, a8, a9, a10⟩ : bk)).getD (0, 0)).1), .i (bj bc a12), .i (min a1 1099511627776), .i (min a2 1099511627776), .i (cj 2 a11 + cj 3 a11), .i (w64 (a5.aJ - a5.aW))] ++ Uns.enc ((a3) : au) ++ Uns.enc ((a4) : av) ++ Uns.enc ((a5) : aj) ++ [.d (a6), .d (a7), .d (a8), .d (a9), .d (a10), .d (a11), .d (a12)]) := by
 have hc' := hc; simp only [Bool.and_eq_true, decide_eq_true_eq, List.all_eq_true] at hc'; obtain ⟨h0, ⟨h1, h2⟩, h3, h4⟩ := hc'; have q1 : (decide (a11.length <= 1000) && a11.all cJ) = true := (Bool.and_eq_true_iff.1 (Bool.and_eq_true_iff.1 hc).2).1; have q2 : (decide (a12.length <= 1000) && a12.all aI) = true := (Bool.and_eq_true_iff.1 (Bool.and_eq_true_iff.1 hc).2).2; have l0 := ma 0 a11 h2; have l1 := ma 1 a11 h2; have l2 := ma 2 a11 h2; have l3 := ma 3 a11 h2; refine ⟨0, ?_⟩; unfold t52; dsimp only [lt, Qh, List.length_cons, List.length_nil]; simp only [decide_eq_true h0, q1, q2, Bool.and_self, gZ, show decide (0 < 0 + 1) = true from rfl, decide_eq_true (show a11.length < 1000000 by omega)]; rw [aN (by omega)]; simp only [jb, Ao, Int.reduceLE, if_true, if_false, Int.zero_add, Bool.true_and]; exact cF (by rw [Bool.and_eq_true]; exact ⟨@decide_eq_true _ _ h1, List.all_eq_true.2 h2⟩) (cF (@decide_eq_true _ _ (by omega)) rfl)
theorem H6 : ER 52 (mkE N52.en N52.ex f52) := an ai T57.right (fun m => []) (t := t52) (by kernel_rfl) (fun m => aB) (fun m a => by kernel_rfl) fun (a0, a1, a2, a3, a4, a5, a6, a7, a8, a9, a10, a11, a12) hc => LZ a0 a1 a2 a3 a4 a5 a6 a7 a8 a9 a10 a11 a12 hc
def T52 : Tb Tryz.prog LQ TE := T57.add 52 _ H6
end
end Go.Proofs.YtdbkoeefnodejaaGreat
namespace Go.Proofs.YtdbkoeefnodejaaGreat
noncomputable section
open Go Go.Proofs.YtdbkoeefnodejaaGreat.Ev
set_option maxRecDepth 20000
theorem pM (pre pre' : List Dat) (x : Dat) (rest : List Dat) (h : pre'.length = pre.length) : ae (pre' ++ x :: rest) pre.length = x := by rw [<- h]; exact ao pre' x rest
def v5 : Nat -> Nat -> Dat -> Dat -> Bool
 | _, 0, _, _ => true
 | j, n + 1, x, y => x.i j == y.i j && v5 (j + 1) n x y
def iM (n : Nat) : List Dat -> List Dat -> Bool
 | [], [] => true
 | x :: a, y :: b => v5 0 n x y && iM n a b
 | _, _ => false
def pE : Nat -> Nat -> Dat -> Dat -> Bool
 | j, 0, x, y => x.b j == y.b j
 | j, n + 1, x, y => x.i j == y.i j && pE (j + 1) n x y
def lx (n : Nat) : List Dat -> List Dat -> Bool
 | [], [] => true
 | x :: a, y :: b => pE 0 n x y && lx n a b
 | _, _ => false
def qw : List Int -> List Int -> Bool
 | [], [] => true
 | x :: a, y :: b => x == y && qw a b
 | _, _ => false
theorem pR (n : Nat) : ∀ (a b : List Dat), a.length ≠ b.length -> iM n a b = false
 | [], [], h => absurd rfl h
 | [], _ :: _, _ => rfl
 | _ :: _, [], _ => rfl
 | x :: a, y :: b, h => by simp [iM, pR n a b (by simpa using h)]
theorem vh (n : Nat) : ∀ (a b : List Dat), a.length ≠ b.length -> lx n a b = false
 | [], [], h => absurd rfl h
 | [], _ :: _, _ => rfl
 | _ :: _, [], _ => rfl
 | x :: a, y :: b, h => by simp [lx, vh n a b (by simpa using h)]
theorem v7 : ∀ (a b : List Int), a.length ≠ b.length -> qw a b = false
 | [], [], h => absurd rfl h
 | [], _ :: _, _ => rfl
 | _ :: _, [], _ => rfl
 | x :: a, y :: b, h => by simp [qw, v7 a b (by simpa using h)]
def N15 : aD := ⟨T52.tab, 15, ⟨[.ag (sI 3), .ag (sI 3)], [], 0⟩, ⟨[.bool], [], 0⟩, []⟩
abbrev Dd : Type := List Dat × List Dat × Int
def yQ (m : Nat) (k : Dd -> Option (List Un)) : Dd -> Option (List Un) := fun (a0, a1, a2) =>
 bif (decide (a2 < (a0.length : Int))) then
 chk (inb a2 a0.length) <|
 chk (decide (a2.toNat < a0.length)) <|
 lt (ae a0 a2.toNat : Dat) fun d3 =>
 chk (inb a2 a1.length) <|
 chk (decide (a2.toNat < a1.length)) <|
 lt (ae a1 a2.toNat : Dat) fun d4 =>
 bif (!(((d3.i 0) == (d4.i 0)) && (((d3.i 1) == (d4.i 1)) && (((d3.i 2) == (d4.i 2)) && true)))) then
 some ([.b false])
 else
 k (a0, a1, (w64 (a2 + 1)))
 else
 some ([.b true])
def vz (m : Nat) : Nat -> Dd -> Option (List Un) := bf (yQ m)
theorem um (m : Nat) (n : Nat) : vz m (n + 1) = yQ m (vz m n) := rfl
def Gw (F : Dd -> Option (List Un)) : aQ := ⟨[.lp [0, 1, 0, 1, 1], .blk 0, .code [1, 1, 1]], ⟨frm 26 [(0, .ag (sI 3)), (1, .ag (sI 3)), (5, .int .i64)], [], 0⟩, onU F⟩
theorem PX (m : Nat) : ∀ n, HO N15 (Gw (vz m n)) := ax ai T52.right (fun k => [Gw k]) (fun k h => (aF h aB)) fun k a => by kernel_rfl
def t15 (m : Nat) : List Dat × List Dat -> Option (List Un) := fun (a0, a1) =>
 bif ((a0.length : Int) != (a1.length : Int)) then
 some ([.b false])
 else
 vz m m (a0, a1, 0)
theorem J8 (m : Nat) : ∀ (rest rest' pre pre' : List Dat) (n : Nat), rest.length < n -> pre'.length = pre.length -> rest'.length = rest.length -> (pre ++ rest).length < 1099511627776 ->
 vz m n (pre ++ rest, pre' ++ rest', (pre.length : Int)) = some [.b (iM 3 rest rest')] := by
 intro rest
 induction rest with
 | nil =>
  intro rest' pre pre' n hn hp hr hl; obtain ⟨n, rfl⟩ := ak n (by simp at hn; omega); obtain rfl : rest' = [] := List.eq_nil_of_length_eq_zero (by simpa using hr); rw [um]; unfold yQ; dsimp only; simp [aC, iM]
 | cons x rest ih =>
  intro rest' pre pre' n hn hp hr hl; obtain ⟨n, rfl⟩ := ak n (by simp at hn; omega); obtain ⟨y, rest', rfl⟩ : ∃ y l, rest' = y :: l := by cases rest' with | nil => simp at hr | cons y l => exact ⟨y, l, rfl⟩
  simp only [List.length_cons, List.length_append] at hn hl hr; have := ih rest' (pre ++ [x]) (pre' ++ [y]) n (by omega) (by simp [hp]) (by omega) (by simp; omega); rw [um]; unfold yQ; dsimp only; simp only [iM, v5, pE, Nat.reduceAdd]; simp (disch := omega) only [TRa, TRi, aa, LNl, LNi, Int.cast_ofNat_Int, ao, pM _ _ _ _ hp]; simp only [LNl, LNi, Int.cast_ofNat_Int] at this ⊢
  (try simp only [bne, cond_not])
  cases (x.i 0 == y.i 0) <;> cases (x.i 1 == y.i 1) <;> cases (x.i 2 == y.i 2)
  all_goals (first | exact this | rfl)
def f15 : List Dat × List Dat -> Bool × List Un := fun (a0, a1) => (decide (a0.length < 1099511627776), [.b (iM 3 a0 a1)])
theorem NZ (a0 : List Dat) (a1 : List Dat) (hc : (decide (a0.length < 1099511627776)) = true) : ∃ m, t15 m (a0, a1) = some ([.b (iM 3 a0 a1)]) := by
 have hs := of_decide_eq_true hc; refine ⟨a0.length + 1, ?_⟩; unfold t15; dsimp only
 by_cases h : a0.length = a1.length
 · rw [jf (by omega)]; exact J8 _ a0 a1 [] [] _ (by omega) rfl h.symm (by simpa using hs)
 · rw [j5 (by omega), pR _ _ _ h]
theorem Ki : ER 15 (mkE N15.en N15.ex f15) := an ai T52.right (fun m => [Gw (vz m m)]) (t := t15) (by kernel_rfl) (fun m => (aF (PX m m) aB)) (fun m a => by kernel_rfl) fun (a0, a1) hc => NZ a0 a1 hc
def T15 : Tb Tryz.prog LQ TE := T52.add 15 _ Ki
def N84 : aD := ⟨T15.tab, 84, ⟨[.ag (sB 6), .ag (sB 6)], [], 0⟩, ⟨[.bool], [], 0⟩, []⟩
abbrev Dy : Type := List Dat × List Dat × Int
def xp (m : Nat) (k : Dy -> Option (List Un)) : Dy -> Option (List Un) := fun (a0, a1, a2) =>
 bif (decide (a2 < (a0.length : Int))) then
 chk (inb a2 a0.length) <|
 chk (decide (a2.toNat < a0.length)) <|
 lt (ae a0 a2.toNat : Dat) fun d3 =>
 chk (inb a2 a1.length) <|
 chk (decide (a2.toNat < a1.length)) <|
 lt (ae a1 a2.toNat : Dat) fun d4 =>
 bif (!(((d3.i 0) == (d4.i 0)) && (((d3.i 1) == (d4.i 1)) && (((d3.i 2) == (d4.i 2)) && (((d3.i 3) == (d4.i 3)) && (((d3.i 4) == (d4.i 4)) && (((d3.i 5) == (d4.i 5)) && (((d3.b 6) == (d4.b 6)) && true)))))))) then
 some ([.b false])
 else
 k (a0, a1, (w64 (a2 + 1)))
 else
 some ([.b true])
def vN (m : Nat) : Nat -> Dy -> Option (List Un) := bf (xp m)
theorem tT (m : Nat) (n : Nat) : vN m (n + 1) = xp m (vN m n) := rfl
def G8 (F : Dy -> Option (List Un)) : aQ := ⟨[.lp [0, 1, 0, 1, 1], .blk 0, .code [1, 1, 1]], ⟨frm 26 [(0, .ag (sB 6)), (1, .ag (sB 6)), (5, .int .i64)], [], 0⟩, onU F⟩
theorem Pf (m : Nat) : ∀ n, HO N84 (G8 (vN m n)) := ax ai T15.right (fun k => [G8 k]) (fun k h => (aF h aB)) fun k a => by kernel_rfl
def t84 (m : Nat) : List Dat × List Dat -> Option (List Un) := fun (a0, a1) =>
 bif ((a0.length : Int) != (a1.length : Int)) then
 some ([.b false])
 else
 vN m m (a0, a1, 0)
theorem Ip (m : Nat) : ∀ (rest rest' pre pre' : List Dat) (n : Nat), rest.length < n -> pre'.length = pre.length -> rest'.length = rest.length -> (pre ++ rest).length < 1099511627776 ->
 vN m n (pre ++ rest, pre' ++ rest', (pre.length : Int)) = some [.b (lx 6 rest rest')] := by
 intro rest
 induction rest with
 | nil =>
  intro rest' pre pre' n hn hp hr hl; obtain ⟨n, rfl⟩ := ak n (by simp at hn; omega); obtain rfl : rest' = [] := List.eq_nil_of_length_eq_zero (by simpa using hr); rw [tT]; unfold xp; dsimp only; simp [aC, lx]
 | cons x rest ih =>
  intro rest' pre pre' n hn hp hr hl; obtain ⟨n, rfl⟩ := ak n (by simp at hn; omega); obtain ⟨y, rest', rfl⟩ : ∃ y l, rest' = y :: l := by cases rest' with | nil => simp at hr | cons y l => exact ⟨y, l, rfl⟩
  simp only [List.length_cons, List.length_append] at hn hl hr; have := ih rest' (pre ++ [x]) (pre' ++ [y]) n (by omega) (by simp [hp]) (by omega) (by simp; omega); rw [tT]; unfold xp; dsimp only; simp only [lx, v5, pE, Nat.reduceAdd]; simp (disch := omega) only [TRa, TRi, aa, LNl, LNi, Int.cast_ofNat_Int, ao, pM _ _ _ _ hp]; simp only [LNl, LNi, Int.cast_ofNat_Int] at this ⊢
  (try simp only [bne, cond_not])
  cases (x.i 0 == y.i 0) <;> cases (x.i 1 == y.i 1) <;> cases (x.i 2 == y.i 2) <;> cases (x.i 3 == y.i 3) <;> cases (x.i 4 == y.i 4) <;> cases (x.i 5 == y.i 5) <;> cases (x.b 6 == y.b 6)
  all_goals (first | exact this | rfl)
def f84 : List Dat × List Dat -> Bool × List Un := fun (a0, a1) => (decide (a0.length < 1099511627776), [.b (lx 6 a0 a1)])
theorem LB (a0 : List Dat) (a1 : List Dat) (hc : (decide (a0.length < 1099511627776)) = true) : ∃ m, t84 m (a0, a1) = some ([.b (lx 6 a0 a1)]) := by
 have hs := of_decide_eq_true hc; refine ⟨a0.length + 1, ?_⟩; unfold t84; dsimp only
 by_cases h : a0.length = a1.length
 · rw [jf (by omega)]; exact Ip _ a0 a1 [] [] _ (by omega) rfl h.symm (by simpa using hs)
 · rw [j5 (by omega), vh _ _ _ h]
theorem IL : ER 84 (mkE N84.en N84.ex f84) := an ai T15.right (fun m => [G8 (vN m m)]) (t := t84) (by kernel_rfl) (fun m => (aF (Pf m m) aB)) (fun m a => by kernel_rfl) fun (a0, a1) hc => LB a0 a1 hc
def T84 : Tb Tryz.prog LQ TE := T15.add 84 _ IL
def N14 : aD := ⟨T84.tab, 14, ⟨[.ag (sI 4), .ag (sI 4)], [], 0⟩, ⟨[.bool], [], 0⟩, []⟩
abbrev CT : Type := List Dat × List Dat × Int
def yU (m : Nat) (k : CT -> Option (List Un)) : CT -> Option (List Un) := fun (a0, a1, a2) =>
 bif (decide (a2 < (a0.length : Int))) then
 chk (inb a2 a0.length) <|
 chk (decide (a2.toNat < a0.length)) <|
 lt (ae a0 a2.toNat : Dat) fun d3 =>
 chk (inb a2 a1.length) <|
 chk (decide (a2.toNat < a1.length)) <|
 lt (ae a1 a2.toNat : Dat) fun d4 =>
 bif (!(((d3.i 0) == (d4.i 0)) && (((d3.i 1) == (d4.i 1)) && (((d3.i 2) == (d4.i 2)) && (((d3.i 3) == (d4.i 3)) && true))))) then
 some ([.b false])
 else
 k (a0, a1, (w64 (a2 + 1)))
 else
 some ([.b true])
def wc (m : Nat) : Nat -> CT -> Option (List Un) := bf (yU m)
theorem sJ (m : Nat) (n : Nat) : wc m (n + 1) = yU m (wc m n) := rfl
def F2 (F : CT -> Option (List Un)) : aQ := ⟨[.lp [0, 1, 0, 1, 1], .blk 0, .code [1, 1, 1]], ⟨frm 26 [(0, .ag (sI 4)), (1, .ag (sI 4)), (5, .int .i64)], [], 0⟩, onU F⟩
theorem P9 (m : Nat) : ∀ n, HO N14 (F2 (wc m n)) := ax ai T84.right (fun k => [F2 k]) (fun k h => (aF h aB)) fun k a => by kernel_rfl
def t14 (m : Nat) : List Dat × List Dat -> Option (List Un) := fun (a0, a1) =>
 bif ((a0.length : Int) != (a1.length : Int)) then
 some ([.b false])
 else
 wc m m (a0, a1, 0)
theorem Jd (m : Nat) : ∀ (rest rest' pre pre' : List Dat) (n : Nat), rest.length < n -> pre'.length = pre.length -> rest'.length = rest.length -> (pre ++ rest).length < 1099511627776 ->
 wc m n (pre ++ rest, pre' ++ rest', (pre.length : Int)) = some [.b (iM 4 rest rest')] := by
 intro rest
 induction rest with
 | nil =>
  intro rest' pre pre' n hn hp hr hl; obtain ⟨n, rfl⟩ := ak n (by simp at hn; omega); obtain rfl : rest' = [] := List.eq_nil_of_length_eq_zero (by simpa using hr); rw [sJ]; unfold yU; dsimp only; simp [aC, iM]
 | cons x rest ih =>
  intro rest' pre pre' n hn hp hr hl; obtain ⟨n, rfl⟩ := ak n (by simp at hn; omega); obtain ⟨y, rest', rfl⟩ : ∃ y l, rest' = y :: l := by cases rest' with | nil => simp at hr | cons y l => exact ⟨y, l, rfl⟩
  simp only [List.length_cons, List.length_append] at hn hl hr; have := ih rest' (pre ++ [x]) (pre' ++ [y]) n (by omega) (by simp [hp]) (by omega) (by simp; omega); rw [sJ]; unfold yU; dsimp only; simp only [iM, v5, pE, Nat.reduceAdd]; simp (disch := omega) only [TRa, TRi, aa, LNl, LNi, Int.cast_ofNat_Int, ao, pM _ _ _ _ hp]; simp only [LNl, LNi, Int.cast_ofNat_Int] at this ⊢
  (try simp only [bne, cond_not])
  cases (x.i 0 == y.i 0) <;> cases (x.i 1 == y.i 1) <;> cases (x.i 2 == y.i 2) <;> cases (x.i 3 == y.i 3)
  all_goals (first | exact this | rfl)
def f14 : List Dat × List Dat -> Bool × List Un := fun (a0, a1) => (decide (a0.length < 1099511627776), [.b (iM 4 a0 a1)])
theorem Nf (a0 : List Dat) (a1 : List Dat) (hc : (decide (a0.length < 1099511627776)) = true) : ∃ m, t14 m (a0, a1) = some ([.b (iM 4 a0 a1)]) := by
 have hs := of_decide_eq_true hc; refine ⟨a0.length + 1, ?_⟩; unfold t14; dsimp only
 by_cases h : a0.length = a1.length
 · rw [jf (by omega)]; exact Jd _ a0 a1 [] [] _ (by omega) rfl h.symm (by simpa using hs)
 · rw [j5 (by omega), pR _ _ _ h]
theorem J1 : ER 14 (mkE N14.en N14.ex f14) := an ai T84.right (fun m => [F2 (wc m m)]) (t := t14) (by kernel_rfl) (fun m => (aF (P9 m m) aB)) (fun m a => by kernel_rfl) fun (a0, a1) hc => Nf a0 a1 hc
def T14 : Tb Tryz.prog LQ TE := T84.add 14 _ J1
def N27 : aD := ⟨T14.tab, 27, ⟨[.ints .i64, .ints .i64], [], 0⟩, ⟨[.bool], [], 0⟩, []⟩
abbrev Da : Type := List Int × List Int × Int
def xf (m : Nat) (k : Da -> Option (List Un)) : Da -> Option (List Un) := fun (a0, a1, a2) =>
 bif (decide (a2 < (a0.length : Int))) then
 chk (inb a2 a0.length) <|
 chk (decide (a2.toNat < a0.length)) <|
 chk (inb a2 a1.length) <|
 chk (decide (a2.toNat < a1.length)) <|
 bif ((a0.getD a2.toNat 0) != (a1.getD a2.toNat 0)) then
 some ([.b false])
 else
 k (a0, a1, (w64 (a2 + 1)))
 else
 some ([.b true])
def wJ (m : Nat) : Nat -> Da -> Option (List Un) := bf (xf m)
theorem tt (m : Nat) (n : Nat) : wJ m (n + 1) = xf m (wJ m n) := rfl
def Hc (F : Da -> Option (List Un)) : aQ := ⟨[.lp [0, 1, 0, 1, 1], .blk 0, .code [1, 1, 1]], ⟨frm 26 [(0, .ints .i64), (1, .ints .i64), (5, .int .i64)], [], 0⟩, onU F⟩
theorem P6 (m : Nat) : ∀ n, HO N27 (Hc (wJ m n)) := ax ai T14.right (fun k => [Hc k]) (fun k h => (aF h aB)) fun k a => by kernel_rfl
def t27 (m : Nat) : List Int × List Int -> Option (List Un) := fun (a0, a1) =>
 bif ((a0.length : Int) != (a1.length : Int)) then
 some ([.b false])
 else
 wJ m m (a0, a1, 0)
theorem Ku (m : Nat) : ∀ (rest rest' pre pre' : List Int) (n : Nat), rest.length < n -> pre'.length = pre.length -> rest'.length = rest.length -> (pre ++ rest).length < 1099511627776 ->
 wJ m n (pre ++ rest, pre' ++ rest', (pre.length : Int)) = some [.b (qw rest rest')] := by
 intro rest
 induction rest with
 | nil =>
  intro rest' pre pre' n hn hp hr hl; obtain ⟨n, rfl⟩ := ak n (by simp at hn; omega); obtain rfl : rest' = [] := List.eq_nil_of_length_eq_zero (by simpa using hr); rw [tt]; unfold xf; dsimp only; simp [aC, qw]
 | cons x rest ih =>
  intro rest' pre pre' n hn hp hr hl; obtain ⟨n, rfl⟩ := ak n (by simp at hn; omega); obtain ⟨y, rest', rfl⟩ : ∃ y l, rest' = y :: l := by cases rest' with | nil => simp at hr | cons y l => exact ⟨y, l, rfl⟩
  simp only [List.length_cons, List.length_append] at hn hl hr; have := ih rest' (pre ++ [x]) (pre' ++ [y]) n (by omega) (by simp [hp]) (by omega) (by simp; omega); rw [tt]; unfold xf; dsimp only; simp only [qw, v5, pE, Nat.reduceAdd]; simp (disch := omega) only [TRa, TRi, aa, LNl, LNi, Int.cast_ofNat_Int, bZ, vM _ _ _ _ _ hp]; simp only [LNl, LNi, Int.cast_ofNat_Int] at this ⊢
  (try simp only [bne, cond_not])
  cases (x == y)
  all_goals (first | exact this | rfl)
def f27 : List Int × List Int -> Bool × List Un := fun (a0, a1) => (decide (a0.length < 1099511627776), [.b (qw a0 a1)])
theorem MN (a0 : List Int) (a1 : List Int) (hc : (decide (a0.length < 1099511627776)) = true) : ∃ m, t27 m (a0, a1) = some ([.b (qw a0 a1)]) := by
 have hs := of_decide_eq_true hc; refine ⟨a0.length + 1, ?_⟩; unfold t27; dsimp only
 by_cases h : a0.length = a1.length
 · rw [jf (by omega)]; exact Ku _ a0 a1 [] [] _ (by omega) rfl h.symm (by simpa using hs)
 · rw [j5 (by omega), v7 _ _ h]
theorem Jg : ER 27 (mkE N27.en N27.ex f27) := an ai T14.right (fun m => [Hc (wJ m m)]) (t := t27) (by kernel_rfl) (fun m => (aF (P6 m m) aB)) (fun m a => by kernel_rfl) fun (a0, a1) hc => MN a0 a1 hc
def T27 : Tb Tryz.prog LQ TE := T14.add 27 _ Jg
end
end Go.Proofs.YtdbkoeefnodejaaGreat
namespace Go.Proofs.YtdbkoeefnodejaaGreat
noncomputable section
open Go Go.Proofs.YtdbkoeefnodejaaGreat.Ev
set_option maxRecDepth 20000
def N63 : aD := ⟨T27.tab, 63, ⟨[.bool], [], 0⟩, ⟨[.int .i64], [], 0⟩, []⟩
def t63 (m : Nat) : Bool -> Option (List Un) := fun a0 =>
 bif a0 then
 some ([.i 1])
 else
 some ([.i 0])
def f63 : Bool -> Bool × List Un := fun a0 => (true, [.i (bI a0)])
theorem Oh (a0 : Bool) : ∃ m, t63 m a0 = some ([.i (bI a0)]) := by
 refine ⟨0, ?_⟩; unfold t63; cases a0 <;> rfl
theorem JN : ER 63 (mkE N63.en N63.ex f63) := an ai T27.right (fun m => []) (t := t63) (by kernel_rfl) (fun m => aB) (fun m a => by kernel_rfl) fun a0 hc => Oh a0
def T63 : Tb Tryz.prog LQ TE := T27.add 63 _ JN
def N64 : aD := ⟨T63.tab, 64, ⟨[.agg [.int .i64, .int .i64]], [], 0⟩, ⟨[.int .i64], [], 0⟩, []⟩
def t64 (m : Nat) : Int × Int -> Option (List Un) := fun (a0, a1) =>
 some ([.i a0])
def f64 : Int × Int -> Bool × List Un := fun (a0, a1) => (true, [.i (a0)])
theorem MR (a0 : Int) (a1 : Int) : ∃ m, t64 m (a0, a1) = some ([.i (a0)]) := by
 exact ⟨0, rfl⟩
theorem Lc : ER 64 (mkE N64.en N64.ex f64) := an ai T63.right (fun m => []) (t := t64) (by kernel_rfl) (fun m => aB) (fun m a => by kernel_rfl) fun (a0, a1) hc => MR a0 a1
def T64 : Tb Tryz.prog LQ TE := T63.add 64 _ Lc
def N65 : aD := ⟨T64.tab, 65, ⟨[.agg [.int .i64, .int .i64]], [], 0⟩, ⟨[.int .i64], [], 0⟩, []⟩
def t65 (m : Nat) : Int × Int -> Option (List Un) := fun (a0, a1) =>
 some ([.i a1])
def f65 : Int × Int -> Bool × List Un := fun (a0, a1) => (true, [.i (a1)])
theorem L2 (a0 : Int) (a1 : Int) : ∃ m, t65 m (a0, a1) = some ([.i (a1)]) := by
 exact ⟨0, rfl⟩
theorem HN : ER 65 (mkE N65.en N65.ex f65) := an ai T64.right (fun m => []) (t := t65) (by kernel_rfl) (fun m => aB) (fun m a => by kernel_rfl) fun (a0, a1) hc => L2 a0 a1
def T65 : Tb Tryz.prog LQ TE := T64.add 65 _ HN
def AU (d : Dat) : List Int := [d.i 0, d.i 1, d.i 2, d.i 3, bI (d.b 4)]
def wy (d : Dat) : List Int := [w64 (d.i 3 - d.i 4), d.i 5, d.i 6]
def zA (n : aj) (bh notes : List Dat) : List Int := [n.period, n.mode, n.aZ, n.out, n.fee, n.aJ, n.aW, bI n.lO, n.rin, n.bg] ++ bh.flatMap AU ++ notes.flatMap wy
def N26 : aD := ⟨T65.tab, 26, ⟨[.np 0 0 0], bs 0, 9⟩, ⟨[.buf 9 1], bs 0 ++ [.ints .i64], 9⟩, []⟩
abbrev CK : Type := Int × Int × au × av × aj × List Dat × List Dat × List Dat × List Dat × List Dat × List Dat × List Dat × List Int
abbrev DN : Type := Int × Int × Int × au × av × aj × List Dat × List Dat × List Dat × List Dat × List Dat × List Dat × List Dat × List Int × List Dat
def xq (m : Nat) (k : CK -> Option (List Un)) : CK -> Option (List Un) := fun (a0, a1, a2, a3, a4, a5, a6, a7, a8, a9, a10, a11, a12) =>
 bif decide (a1 < a0) then
 chk (inb a1 a11.length) <|
 chk (decide (a1.toNat < a11.length)) <|
 lt (ae a11 a1.toNat : Dat) fun d4 =>
 chk (fits (a12.length + 3) 8) <|
 k (a0, (w64 (a1 + 1)), a2, a3, a4, a5, a6, a7, a8, a9, a10, a11, (a12 ++ ([(w64 ((d4.i 3) - (d4.i 4))), (d4.i 5), (d4.i 6)])))
 else
 some (Uns.enc (a2 : au) ++ Uns.enc (a3 : av) ++ Uns.enc (a4 : aj) ++ [.d a5, .d a6, .d a7, .d a8, .d a9, .d a10, .d a11, .l a12])
def wN (m : Nat) : Nat -> CK -> Option (List Un) := bf (xq m)
theorem ta (m : Nat) (n : Nat) : wN m (n + 1) = xq m (wN m n) := rfl
def FV (F : CK -> Option (List Un)) : aQ := ⟨[.lp [0, 1, 0, 1, 1, 1], .blk 2, .code [1, 1, 1, 1]], ⟨frm 102 [(3, .buf 9 1), (84, .buf 8 7), (85, .int .i64), (86, .int .i64)], bs 0 ++ [.ints .i64], 9⟩, onU F⟩
def yW (m : Nat) (k : DN -> Option (List Un)) : DN -> Option (List Un) := fun (a0, a1, a2, a3, a4, a5, a6, a7, a8, a9, a10, a11, a12, a13, a14) =>
 bif decide (a2 < a1) then
 chk (inb a2 a14.length) <|
 chk (decide (a2.toNat < a14.length)) <|
 lt (ae a14 a2.toNat : Dat) fun d2 =>
 chk (fits (a13.length + 5) 8) <|
 k (a0, a1, (w64 (a2 + 1)), a3, a4, a5, a6, a7, a8, a9, a10, a11, a12, (a13 ++ ([(d2.i 0), (d2.i 1), (d2.i 2), (d2.i 3), (bI (d2.b 4))])), a14)
 else
 chk (decide (0 <= a0)) <|
 wN m m ((a12.length : Int), 0, a3, a4, a5, a6, a7, a8, a9, a10, a11, a12, a13)
def wz (m : Nat) : Nat -> DN -> Option (List Un) := bf (yW m)
theorem uC (m : Nat) (n : Nat) : wz m (n + 1) = yW m (wz m n) := rfl
def HE (F : DN -> Option (List Un)) : aQ := ⟨[.lp [0, 1, 0, 1, 1], .blk 0, .code [1, 1, 1]], ⟨frm 102 [(0, .np 0 0 0), (3, .buf 9 1), (58, .buf 10 5), (59, .int .i64), (60, .int .i64)], bs 0 ++ [.ints .i64, .ag (sB 4)], 9⟩, onU F⟩
theorem Qi (m : Nat) : ∀ n, HO N26 (FV (wN m n)) := ax ai T65.right (fun k => [FV k]) (fun k h => (aF h aB)) fun k a => by kernel_rfl
theorem PB (m : Nat) : ∀ n, HO N26 (HE (wz m n)) := ax ai T65.right (fun k => [HE k, FV (wN m m)]) (fun k h => (aF h (aF (Qi m m) aB))) fun k a => by kernel_rfl
def t26 (m : Nat) : Int × au × av × aj × List Dat × List Dat × List Dat × List Dat × List Dat × List Dat × List Dat -> Option (List Un) := fun (a0, a1, a2, a3, a4, a5, a6, a7, a8, a9, a10) =>
 chk (decide (0 <= a0)) <|
 chk (decide (0 <= a0)) <|
 chk (decide (0 <= a0)) <|
 chk (decide (0 <= a0)) <|
 chk (decide (0 <= a0)) <|
 chk (decide (0 <= a0)) <|
 chk (decide (0 <= a0)) <|
 chk (decide (0 <= a0)) <|
 chk (decide (0 <= a0)) <|
 chk (decide (0 <= a0)) <|
 chk (decide (0 <= a0)) <|
 chk (decide (0 < ([.r [.r a9]] : List Dat).length) && decide (((ae ([.r [.r a9]] : List Dat) 0).d 0).length < 1000000)) <|
 lt (((ae ([.r [.r a9]] : List Dat) 0).d 0) : List Dat) fun l1 =>
 wz m m (a0, (l1.length : Int), 0, a1, a2, a3, a4, a5, a6, a7, a8, a9, a10, ([a3.period, a3.mode, a3.aZ, a3.out, a3.fee, a3.aJ, a3.aW, (bI a3.lO), a3.rin, a3.bg] : List Int), l1)
section
variable (m : Nat) (xa : au) (xb : av) (xn : aj) (x1 x2 x3 x4 x5 x6 : List Dat)
theorem N1 : ∀ (rest pre : List Dat) (n : Nat) (acc : List Int), rest.length < n -> (pre ++ rest).length < 1000000 -> acc.length <= 6000000 + 3 * pre.length ->
 wN m n (((pre ++ rest).length : Int), (pre.length : Int), xa, xb, xn, x1, x2, x3, x4, x5, x6, pre ++ rest, acc) = some (Uns.enc xa ++ Uns.enc xb ++ Uns.enc xn ++ [.d x1, .d x2, .d x3, .d x4, .d x5, .d x6, .d (pre ++ rest), .l (acc ++ rest.flatMap wy)]) := by
 intro rest
 induction rest with
 | nil =>
  intro pre n acc hn hl ha; obtain ⟨n, rfl⟩ := ak n (by simp at hn; omega); rw [ta]; unfold xq; dsimp only; simp [aC]
 | cons x rest ih =>
  intro pre n acc hn hl ha; obtain ⟨n, rfl⟩ := ak n (by simp at hn; omega); simp only [List.length_cons, List.length_append] at hn hl; rw [ta]; unfold xq; dsimp only; have := ih (pre ++ [x]) n (acc ++ wy x) (by omega) (by simp; omega) (by simp [wy]; omega); simp only [List.flatMap_cons, wy] at this ⊢; simp (disch := omega) only [TRa, TRi, aa, LNl, LNi, Int.cast_ofNat_Int, ao]; simp only [LNl, LNi, Int.cast_ofNat_Int] at this ⊢; exact this
theorem LP (p0 : Int) (hp : 0 <= p0) (notes : List Dat) (hnl : notes.length < 1000000) (hm : notes.length < m) : ∀ (rest pre : List Dat) (n : Nat) (acc : List Int), rest.length < n -> (pre ++ rest).length < 1000000 -> acc.length <= 10 + 5 * pre.length ->
 wz m n (p0, ((pre ++ rest).length : Int), (pre.length : Int), xa, xb, xn, x1, x2, x3, x4, x5, x6, notes, acc, pre ++ rest) = some (Uns.enc xa ++ Uns.enc xb ++ Uns.enc xn ++ [.d x1, .d x2, .d x3, .d x4, .d x5, .d x6, .d notes, .l (acc ++ rest.flatMap AU ++ notes.flatMap wy)]) := by
 intro rest
 induction rest with
 | nil =>
  intro pre n acc hn hl ha; obtain ⟨n, rfl⟩ := ak n (by simp at hn; omega); simp only [List.append_nil] at hl; rw [uC]; unfold yW; dsimp only; simp only [List.append_nil, List.flatMap_nil]; rw [aC (by omega), aN hp]; exact N1 m xa xb xn x1 x2 x3 x4 x5 x6 notes [] m acc hm (by simpa using hnl) (by simp; omega)
 | cons x rest ih =>
  intro pre n acc hn hl ha; obtain ⟨n, rfl⟩ := ak n (by simp at hn; omega); simp only [List.length_cons, List.length_append] at hn hl; rw [uC]; unfold yW; dsimp only; have := ih (pre ++ [x]) n (acc ++ AU x) (by omega) (by simp; omega) (by simp [AU]; omega); simp only [List.flatMap_cons, AU] at this ⊢; simp (disch := omega) only [TRa, TRi, aa, LNl, LNi, Int.cast_ofNat_Int, ao]; simp only [LNl, LNi, Int.cast_ofNat_Int] at this ⊢; exact this
end
def f26 : Int × au × av × aj × List Dat × List Dat × List Dat × List Dat × List Dat × List Dat × List Dat -> Bool × List Un := fun (a0, a1, a2, a3, a4, a5, a6, a7, a8, a9, a10) => (decide (0 <= a0) && decide (a9.length < 1000000 /\ a10.length < 1000000), Uns.enc ((a1) : au) ++ Uns.enc ((a2) : av) ++ Uns.enc ((a3) : aj) ++ [.d (a4), .d (a5), .d (a6), .d (a7), .d (a8), .d (a9), .d (a10), .l (zA a3 a9 a10)])
theorem L7 (a0 : Int) (a1 : au) (a2 : av) (a3 : aj) (a4 : List Dat) (a5 : List Dat) (a6 : List Dat) (a7 : List Dat) (a8 : List Dat) (a9 : List Dat) (a10 : List Dat) (hc : (decide (0 <= a0) && decide (a9.length < 1000000 /\ a10.length < 1000000)) = true) : ∃ m, t26 m (a0, a1, a2, a3, a4, a5, a6, a7, a8, a9, a10) = some (Uns.enc ((a1) : au) ++ Uns.enc ((a2) : av) ++ Uns.enc ((a3) : aj) ++ [.d (a4), .d (a5), .d (a6), .d (a7), .d (a8), .d (a9), .d (a10), .l (zA a3 a9 a10)]) := by
 simp only [Bool.and_eq_true, decide_eq_true_eq] at hc; obtain ⟨h0, h1, h2⟩ := hc; refine ⟨a9.length + a10.length + 1, ?_⟩; unfold t26; dsimp only [lt, Qh, List.length_cons, List.length_nil]; simp only [aN h0]; refine (cF ?_ (LP _ a1 a2 a3 a4 a5 a6 a7 a8 a9 a0 h0 a10 h2 (by omega) a9 [] _ _ (by omega) (by simpa using h1) (by simp))).trans ?_
 · rw [Bool.and_eq_true]; exact ⟨@decide_eq_true _ _ (by omega), @decide_eq_true _ _ h1⟩
 · rfl
theorem HL : ER 26 (mkE N26.en N26.ex f26) := an ai T65.right (fun m => [HE (wz m m)]) (t := t26) (by kernel_rfl) (fun m => (aF (PB m m) aB)) (fun m a => by kernel_rfl) fun (a0, a1, a2, a3, a4, a5, a6, a7, a8, a9, a10) hc => L7 a0 a1 a2 a3 a4 a5 a6 a7 a8 a9 a10 hc
def T26 : Tb Tryz.prog LQ TE := T65.add 26 _ HL
end
end Go.Proofs.YtdbkoeefnodejaaGreat
namespace Go.Proofs.YtdbkoeefnodejaaGreat
noncomputable section
open Go Go.Proofs.YtdbkoeefnodejaaGreat.Ev
set_option maxRecDepth 20000
def mM (p q r s l : Int) : Bool := decide (0 <= p) && (decide (p <= 1099511627776) && (decide (0 <= q) && (decide (q <= 1099511627776) && (decide (0 <= r) && (decide (r <= 1099511627776) && (decide (0 <= s) && (decide (s <= 1099511627776) && (decide (0 <= l) && decide (l <= 12)))))))))
theorem Hz {α : Type} {x : Int} {a b : α} : (bif decide (x < 0) then a else b) = bif decide (0 <= x) then b else a := by
 by_cases h : x < 0
 · rw [decide_eq_true h, decide_eq_false (show ¬ 0 <= x by omega)]; rfl
 · rw [decide_eq_false h, decide_eq_true (show 0 <= x by omega)]; rfl
theorem HM {α : Type} {x y : Int} {a b : α} : (bif decide (x > y) then a else b) = bif decide (x <= y) then b else a := by
 by_cases h : x > y
 · rw [decide_eq_true h, decide_eq_false (show ¬ x <= y by omega)]; rfl
 · rw [decide_eq_false h, decide_eq_true (show x <= y by omega)]; rfl
theorem Kk {c y : Bool} : (bif c then some [Un.b y] else some [Un.b false]) = some [.b (c && y)] := by cases c <;> rfl
def PG : aD := ⟨T26.tab, 129, ⟨[.agg [.int .i64, .int .i64, .int .i64, .int .i64, .int .i64, .int .i64, .bool]], [], 0⟩, ⟨[.bool], [], 0⟩, [[0, 1, 0, 1]]⟩
def t129 (m : Nat) : Int × Int × Int × Int × Int × Int × Bool -> Option (List Un) := fun (a0, a1, a2, a3, a4, a5, a6) =>
 lt ((([a1, a2, a3, a4]).getD 0 0) : Int) fun x1 =>
 bif decide (x1 < 0) then
 some ([.b false])
 else
 bif (decide (x1 > 1099511627776)) then
 some ([.b false])
 else
 lt ((([a1, a2, a3, a4]).getD 1 0) : Int) fun x3 =>
 bif decide (x3 < 0) then
 some ([.b false])
 else
 bif (decide (x3 > 1099511627776)) then
 some ([.b false])
 else
 lt ((([a1, a2, a3, a4]).getD 2 0) : Int) fun x5 =>
 bif decide (x5 < 0) then
 some ([.b false])
 else
 bif (decide (x5 > 1099511627776)) then
 some ([.b false])
 else
 lt ((([a1, a2, a3, a4]).getD 3 0) : Int) fun x7 =>
 bif decide (x7 < 0) then
 some ([.b false])
 else
 bif (decide (x7 > 1099511627776)) then
 some ([.b false])
 else
 bif decide (a5 >= 0) then
 some ([.b (decide (a5 <= 12))])
 else
 some ([.b false])
def f129 : Int × Int × Int × Int × Int × Int × Bool -> Bool × List Un := fun (a0, a1, a2, a3, a4, a5, a6) => (true, [.b (mM a1 a2 a3 a4 a5)])
theorem JY (a0 : Int) (a1 : Int) (a2 : Int) (a3 : Int) (a4 : Int) (a5 : Int) (a6 : Bool) : ∃ m, t129 m (a0, a1, a2, a3, a4, a5, a6) = some ([.b (mM a1 a2 a3 a4 a5)]) := by
 refine ⟨0, ?_⟩; unfold t129 mM; simp only [lt_eq, List.getD_cons_zero, List.getD_cons_succ, Hz, HM]; simp only [ge_iff_le, Kk]
theorem FM : ER 129 (mkE PG.en PG.ex f129) := an ai T26.right (fun m => []) (t := t129) (by kernel_rfl) (fun m => aB) (fun m a => by kernel_rfl) fun (a0, a1, a2, a3, a4, a5, a6) hc => JY a0 a1 a2 a3 a4 a5 a6
def Kq : Tb Tryz.prog LQ TE := T26.add 129 _ FM
def uM : Int -> List Dat -> Bool
 | _, [] => true
 | last, d :: l => if d.i 0 <= last then false else if mM (d.i 1) (d.i 2) (d.i 3) (d.i 4) (d.i 5) then uM (d.i 0) l else false
def pX (l : List Dat) : Bool := decide (l.length <= 64) && uM 0 l
def N93 : aD := ⟨Kq.tab, 93, ⟨[.ag (sB 6)], [], 0⟩, ⟨[.bool], [], 0⟩, []⟩
abbrev CU : Type := Int × List Dat × Int × Int
def yC (m : Nat) (k : CU -> Option (List Un)) : CU -> Option (List Un) := fun (a0, a1, a2, a3) =>
 bif decide (a3 < a2) then
 chk (inb a3 a1.length) <|
 chk (decide (a3.toNat < a1.length)) <|
 lt (ae a1 a3.toNat : Dat) fun d2 =>
 bif decide ((d2.i 0) <= a0) then
 some ([.b false])
 else
 bif !(mM (d2.i 1) (d2.i 2) (d2.i 3) (d2.i 4) (d2.i 5)) then
 some ([.b false])
 else
 k ((d2.i 0), a1, a2, (w64 (a3 + 1)))
 else
 some ([.b true])
def vI (m : Nat) : Nat -> CU -> Option (List Un) := bf (yC m)
theorem uj (m : Nat) (n : Nat) : vI m (n + 1) = yC m (vI m n) := rfl
def Hv (F : CU -> Option (List Un)) : aQ := ⟨[.lp [0, 1, 0, 1, 1, 1], .blk 0, .code [1, 1, 1, 1]], ⟨frm 27 [(3, .int .i64), (9, .ag (sB 6)), (10, .int .i64), (11, .int .i64)], [], 0⟩, onU F⟩
theorem Pl (m : Nat) : ∀ n, HO N93 (Hv (vI m n)) := ax ai Kq.right (fun k => [Hv k]) (fun k h => (aF h aB)) fun k a => by kernel_rfl
def t93 (m : Nat) : List Dat -> Option (List Un) := fun a0 =>
 bif (decide ((a0.length : Int) > 64)) then
 some ([.b false])
 else
 vI m m (0, a0, (a0.length : Int), 0)
theorem Pr (m : Nat) : ∀ (rest pre : List Dat) (n : Nat) (last : Int), rest.length < n -> (pre ++ rest).length <= 64 ->
 vI m n (last, pre ++ rest, ((pre ++ rest).length : Int), (pre.length : Int)) = some [.b (uM last rest)] := by
 intro rest
 induction rest with
 | nil =>
  intro pre n last hn hl; obtain ⟨n, rfl⟩ := ak n (by simp at hn; omega); rw [uj]; unfold yC; dsimp only; simp [aC, uM]
 | cons x rest ih =>
  intro pre n last hn hl; obtain ⟨n, rfl⟩ := ak n (by simp at hn; omega); simp only [List.length_cons, List.length_append] at hn hl; have := ih (pre ++ [x]) n (x.i 0) (by omega) (by simp; omega); rw [uj]; unfold yC; dsimp only; simp only [LNl, LNi, Int.cast_ofNat_Int] at this ⊢; unfold uM
  by_cases h1 : x.i 0 <= last
  · simp (disch := omega) only [TRa, TRi, aa, LNl, LNi, Int.cast_ofNat_Int, ao]; rw [if_pos h1]
  · rw [if_neg h1]
    by_cases h2 : mM (x.i 1) (x.i 2) (x.i 3) (x.i 4) (x.i 5) = true
    · rw [if_pos h2]; simp (disch := omega) only [TRa, TRi, aa, LNl, LNi, Int.cast_ofNat_Int, ao, h2]; exact this
    · rw [if_neg h2]; have h2 : mM (x.i 1) (x.i 2) (x.i 3) (x.i 4) (x.i 5) = false := by simpa using h2
      simp (disch := omega) only [TRa, TRi, aa, LNl, LNi, Int.cast_ofNat_Int, ao, h2]
def f93 : List Dat -> Bool × List Un := fun a0 => (true, [.b (pX a0)])
theorem LO (a0 : List Dat) : ∃ m, t93 m a0 = some ([.b (pX a0)]) := by
 unfold pX
 by_cases h : a0.length <= 64
 · refine ⟨a0.length + 1, ?_⟩; have := Pr (a0.length + 1) a0 [] (a0.length + 1) 0 (by omega) (by simpa using h); unfold t93; rw [aC (by omega), decide_eq_true h, Bool.true_and]; exact this
 · refine ⟨0, ?_⟩; unfold t93; rw [bT (by omega), decide_eq_false h]; rfl
theorem H5 : ER 93 (mkE N93.en N93.ex f93) := an ai Kq.right (fun m => [Hv (vI m m)]) (t := t93) (by kernel_rfl) (fun m => (aF (Pl m m) aB)) (fun m a => by kernel_rfl) fun a0 hc => LO a0
def T93 : Tb Tryz.prog LQ TE := Kq.add 93 _ H5
def BI (bal lost : Int) (lO : Bool) (pr pp it rc lt : Int) (df : Bool) : Bool :=
 bif lO then (pr == 0) && ((pp == 0) && ((it == 0) && ((lt == 0) && (!df && decide (rc <= lost)))))
 else bif decide (w64 (w64 (bal - pr) - pp) < 0) then false
 else bif df then (bif decide (rc <= w64 (lost + w64 (w64 (bal - pr) - pp))) then true else rc == 0) else rc == 0
theorem D9 {c x y : Bool} : (bif c then some [Un.b x] else some [Un.b y]) = some [.b (bif c then x else y)] := by cases c <;> rfl
def N95 : aD := ⟨T93.tab, 95, ⟨[.agg [.int .i64, .int .i64, .int .i64, .int .i64, .bool], .agg [.int .i64, .int .i64, .int .i64, .int .i64, .int .i64, .int .i64, .bool]], [], 0⟩, ⟨[.bool], [], 0⟩, []⟩
def t95 (m : Nat) : Int × Int × Int × Int × Bool × Int × Int × Int × Int × Int × Int × Bool -> Option (List Un) := fun (a0, a1, a2, a3, a4, a5, a6, a7, a8, a9, a10, a11) =>
 bif a4 then
 bif a6 == 0 then
 bif a7 == 0 then
 bif a8 == 0 then
 bif a10 == 0 then
 bif !a11 then
 some ([.b (decide (a9 <= a2))])
 else
 some ([.b false])
 else
 some ([.b false])
 else
 some ([.b false])
 else
 some ([.b false])
 else
 some ([.b false])
 else
 lt ((w64 ((w64 (a1 - a6)) - a7)) : Int) fun x1 =>
 bif decide (x1 < 0) then
 some ([.b false])
 else
 bif a11 then
 bif (decide (a9 <= (w64 (a2 + x1)))) then
 some ([.b true])
 else
 some ([.b (a9 == 0)])
 else
 some ([.b (a9 == 0)])
def f95 : Int × Int × Int × Int × Bool × Int × Int × Int × Int × Int × Int × Bool -> Bool × List Un := fun (a0, a1, a2, a3, a4, a5, a6, a7, a8, a9, a10, a11) => (true, [.b (BI a1 a2 a4 a6 a7 a8 a9 a10 a11)])
theorem Oi (a0 : Int) (a1 : Int) (a2 : Int) (a3 : Int) (a4 : Bool) (a5 : Int) (a6 : Int) (a7 : Int) (a8 : Int) (a9 : Int) (a10 : Int) (a11 : Bool) : ∃ m, t95 m (a0, a1, a2, a3, a4, a5, a6, a7, a8, a9, a10, a11) = some ([.b (BI a1 a2 a4 a6 a7 a8 a9 a10 a11)]) := by
 refine ⟨0, ?_⟩; unfold t95 BI; simp only [lt_eq, D9]; cases a4 <;> simp only [cond_true, cond_false]
 cases (a6 == 0) <;> cases (a7 == 0) <;> cases (a8 == 0) <;> cases (a10 == 0) <;> cases a11 <;> rfl
theorem KF : ER 95 (mkE N95.en N95.ex f95) := an ai T93.right (fun m => []) (t := t95) (by kernel_rfl) (fun m => aB) (fun m a => by kernel_rfl) fun (a0, a1, a2, a3, a4, a5, a6, a7, a8, a9, a10, a11) hc => Oi a0 a1 a2 a3 a4 a5 a6 a7 a8 a9 a10 a11
def T95 : Tb Tryz.prog LQ TE := T93.add 95 _ KF
def sC (bal pr pp : Int) (df : Bool) : Int := bif df then 0 else w64 (bal - w64 (pr + pp))
def gz (bal pr pp : Int) (df : Bool) : Int := bif df then w64 (bal - w64 (pr + pp)) else 0
def nw (bal lost pr pp rc : Int) (df : Bool) : Int := bif df then w64 (w64 (lost + w64 (bal - w64 (pr + pp))) - rc) else w64 (lost - rc)
def nf (bal : Int) (lO : Bool) (pr pp lt : Int) (df : Bool) : Int := bif df then 0 else bif lO then 0 else bif w64 (bal - w64 (pr + pp)) == 0 then 0 else lt
def N96 : aD := ⟨T95.tab, 96, ⟨[.agg [.int .i64, .int .i64, .int .i64, .int .i64, .bool], .agg [.int .i64, .int .i64, .int .i64, .int .i64, .int .i64, .int .i64, .bool]], [], 0⟩, ⟨[.agg [.int .i64, .int .i64, .int .i64, .int .i64, .bool], .agg [.int .i64, .int .i64, .int .i64, .int .i64]], [], 0⟩, []⟩
def t96 (m : Nat) : Int × Int × Int × Int × Bool × Int × Int × Int × Int × Int × Int × Bool -> Option (List Un) := fun (a0, a1, a2, a3, a4, a5, a6, a7, a8, a9, a10, a11) =>
 lt ((w64 (a1 - (w64 (a6 + a7)))) : Int) fun x1 =>
 bif a11 then
 some ([.i a0, .i 0, .i (w64 ((w64 (a2 + x1)) - a9)), .i 0, .b true, .i (w64 (a6 + a7)), .i a8, .i x1, .i a9])
 else
 bif a4 then
 some ([.i a0, .i x1, .i (w64 (a2 - a9)), .i 0, .b a4, .i (w64 (a6 + a7)), .i a8, .i 0, .i a9])
 else
 bif x1 == 0 then
 some ([.i a0, .i x1, .i (w64 (a2 - a9)), .i 0, .b a4, .i (w64 (a6 + a7)), .i a8, .i 0, .i a9])
 else
 some ([.i a0, .i x1, .i (w64 (a2 - a9)), .i a10, .b a4, .i (w64 (a6 + a7)), .i a8, .i 0, .i a9])
def f96 : Int × Int × Int × Int × Bool × Int × Int × Int × Int × Int × Int × Bool -> Bool × List Un := fun (a0, a1, a2, a3, a4, a5, a6, a7, a8, a9, a10, a11) => (true, [.i (a0), .i (sC a1 a6 a7 a11), .i (nw a1 a2 a6 a7 a9 a11), .i (nf a1 a4 a6 a7 a10 a11), .b ((a11 || a4)), .i (w64 (a6 + a7)), .i (a8), .i (gz a1 a6 a7 a11), .i (a9)])
theorem Me (a0 : Int) (a1 : Int) (a2 : Int) (a3 : Int) (a4 : Bool) (a5 : Int) (a6 : Int) (a7 : Int) (a8 : Int) (a9 : Int) (a10 : Int) (a11 : Bool) : ∃ m, t96 m (a0, a1, a2, a3, a4, a5, a6, a7, a8, a9, a10, a11) = some ([.i (a0), .i (sC a1 a6 a7 a11), .i (nw a1 a2 a6 a7 a9 a11), .i (nf a1 a4 a6 a7 a10 a11), .b ((a11 || a4)), .i (w64 (a6 + a7)), .i (a8), .i (gz a1 a6 a7 a11), .i (a9)]) := by
 refine ⟨0, ?_⟩; unfold t96 sC nw nf gz; simp only [lt_eq]; cases a11 <;> cases a4 <;> simp only [cond_true, cond_false, Bool.or_true, Bool.or_false] <;> first | rfl | (cases (w64 (a1 - w64 (a6 + a7)) == 0) <;> rfl)
theorem Ii : ER 96 (mkE N96.en N96.ex f96) := an ai T95.right (fun m => []) (t := t96) (by kernel_rfl) (fun m => aB) (fun m a => by kernel_rfl) fun (a0, a1, a2, a3, a4, a5, a6, a7, a8, a9, a10, a11) hc => Me a0 a1 a2 a3 a4 a5 a6 a7 a8 a9 a10 a11
def T96 : Tb Tryz.prog LQ TE := T95.add 96 _ Ii
def ff (id : Int) : Int -> List Dat -> Int
 | _, [] => -1
 | i, d :: l => if d.i 0 = id then i else ff id (i + 1) l
def M5 : aD := ⟨T96.tab, 130, ⟨[.ag (sB 4), .fn 131 [] [.ptr 0 0 0]], [.cells [.int .i64]], 1⟩, ⟨[.int .i64], [.cells [.int .i64]], 1⟩, []⟩
abbrev zd : Type := List Dat × Int × Int × Int
def rl (m : Nat) (k : zd -> Option (List Un)) : zd -> Option (List Un) := fun (a0, a1, a2, a3) =>
 bif decide (a2 < a1) then
 chk (inb a2 a0.length) <|
 chk (decide (a2.toNat < a0.length)) <|
 bif ((ae a0 a2.toNat).i 0) == a3 then
 some ([.i a2, .i a3])
 else
 k (a0, a1, (w64 (a2 + 1)), a3)
 else
 some ([.i (-1), .i a3])
def pD (m : Nat) : Nat -> zd -> Option (List Un) := bf (rl m)
theorem qu (m : Nat) (n : Nat) : pD m (n + 1) = rl m (pD m n) := rfl
def CD (F : zd -> Option (List Un)) : aQ := ⟨[.lp [0, 1, 0, 1], .blk 0, .code [1, 1]], ⟨frm 19 [(0, .ag (sB 4)), (1, .fn 131 [] [.ptr 0 0 0]), (7, .int .i64), (8, .int .i64)], [.cells [.int .i64]], 1⟩, onU F⟩
theorem Nk (m : Nat) : ∀ n, HO M5 (CD (pD m n)) := ax ai T96.right (fun k => [CD k]) (fun k h => (aF h aB)) fun k a => by kernel_rfl
def t130 (m : Nat) : List Dat × Int -> Option (List Un) := fun (a0, a1) =>
 pD m m (a0, (a0.length : Int), 0, a1)
theorem OW (m : Nat) (id : Int) : ∀ (rest pre : List Dat) (n : Nat), rest.length < n -> (pre ++ rest).length < 1000000 ->
 pD m n (pre ++ rest, ((pre ++ rest).length : Int), (pre.length : Int), id) = some [.i (ff id pre.length rest), .i id] := by
 intro rest
 induction rest with
 | nil =>
  intro pre n hn hl; obtain ⟨n, rfl⟩ := ak n (by simp at hn; omega); rw [qu]; unfold rl; dsimp only; simp [aC, ff]
 | cons x rest ih =>
  intro pre n hn hl; obtain ⟨n, rfl⟩ := ak n (by simp at hn; omega); simp only [List.length_cons, List.length_append] at hn hl; have := ih (pre ++ [x]) n (by omega) (by simp; omega); rw [qu]; unfold rl; dsimp only; simp only [LNl, LNi, Int.cast_ofNat_Int] at this ⊢; unfold ff
  by_cases h1 : x.i 0 = id
  · simp (disch := omega) only [TRa, TRi, aa, LNl, LNi, Int.cast_ofNat_Int, ao]; rw [if_pos h1]
  · rw [if_neg h1]; simp (disch := omega) only [TRa, TRi, aa, LNl, LNi, Int.cast_ofNat_Int, ao]; exact this
def f130 : List Dat × Int -> Bool × List Un := fun (a0, a1) => (decide (a0.length < 1000000), [.i (ff a1 0 a0), .i (a1)])
theorem IH (a0 : List Dat) (a1 : Int) (hc : (decide (a0.length < 1000000)) = true) : ∃ m, t130 m (a0, a1) = some ([.i (ff a1 0 a0), .i (a1)]) := by
 have h := of_decide_eq_true hc; exact ⟨a0.length + 1, OW _ a1 a0 [] _ (by omega) (by simpa using h)⟩
theorem Gk : ER 130 (mkE M5.en M5.ex f130) := an ai T96.right (fun m => [CD (pD m m)]) (t := t130) (by kernel_rfl) (fun m => (aF (Nk m m) aB)) (fun m a => by kernel_rfl) fun (a0, a1) hc => IH a0 a1 hc
def KR : Tb Tryz.prog LQ TE := T96.add 130 _ Gk
def ml (x d : Dat) : Dat := .r [.n (x.i 0), .n (sC (x.i 1) (d.i 1) (d.i 2) (d.b 6)), .n (nw (x.i 1) (x.i 2) (d.i 1) (d.i 2) (d.i 4) (d.b 6)), .n (nf (x.i 1) (x.b 4) (d.i 1) (d.i 2) (d.i 5) (d.b 6)), .n (bI (d.b 6 || x.b 4))]
structure Fv where
 p : Int
 q : Int
 l : Int
 r : Int
 e : Int
 bh : List Dat
def Eo (x d : Dat) : Bool := BI (x.i 1) (x.i 2) (x.b 4) (d.i 1) (d.i 2) (d.i 3) (d.i 4) (d.i 5) (d.b 6)
def jz : List Dat -> Int -> Int -> Int -> Int -> List Dat -> Option Fv
 | l, p, q, s, r, [] => some ⟨p, q, s, r, 0, l⟩
 | l, p, q, s, r, d :: t => if ff (d.i 0) 0 l < 0 then none else
  if Eo (ae l (ff (d.i 0) 0 l).toNat) d = true then
   jz (l.set (ff (d.i 0) 0 l).toNat (ml (ae l (ff (d.i 0) 0 l).toNat) d)) (w64 (p + w64 (d.i 1 + d.i 2))) (w64 (q + d.i 3)) (w64 (s + gz ((ae l (ff (d.i 0) 0 l).toNat).i 1) (d.i 1) (d.i 2) (d.b 6))) (w64 (r + d.i 4)) t
  else none
def az (lines l : List Dat) : Fv := if pX lines = true then (jz l 0 0 0 0 lines).getD ⟨0, 0, 0, 0, 3, l⟩ else ⟨0, 0, 0, 0, 3, l⟩
theorem yI (id : Int) : ∀ (l : List Dat) (i : Int), ff id i l = -1 \/ (i <= ff id i l /\ ff id i l < i + l.length)
 | [], i => .inl rfl
 | d :: l, i => by
  unfold ff
  by_cases h : d.i 0 = id
  · rw [if_pos h]; exact .inr ⟨by omega, by simp; omega⟩
  · rw [if_neg h]; rcases yI id l (i + 1) with h | ⟨h1, h2⟩
    · exact .inl h
    · refine .inr ⟨by omega, ?_⟩; simp only [List.length_cons]; omega
def N42 : aD := ⟨KR.tab, 42, ⟨[.ptr 0 0 0, .ag (sB 6)], [.cells [.buf 1 5], .ag (sB 4)], 0⟩, ⟨[.agg [.int .i64, .int .i64, .int .i64, .int .i64], .int .i64], [.cells [.buf 2 5], .gone, .ag (sB 4)], 0⟩, []⟩
abbrev DL : Type := List Dat × Int × Int × Int × Int × Int × Int × Int × Int × Int × Int × List Dat × List Dat
def xI (m : Nat) (k : DL -> Option (List Un)) : DL -> Option (List Un) := fun (a0, a1, a2, a3, a4, a5, a6, a7, a8, a9, a10, a11, a12) =>
 bif decide (a2 < a1) then
 chk (inb a2 a0.length) <|
 chk (decide (a2.toNat < a0.length)) <|
 lt (ae a0 a2.toNat : Dat) fun d1 =>
 chk (decide (a12.length < 1000000)) <|
 bif (decide ((ff (d1.i 0) 0 a12) < 0)) then
 some ([.i 0, .i 0, .i 0, .i 0, .i 3, .d a11])
 else
 chk (inb (ff (d1.i 0) 0 a12) a12.length) <|
 chk (decide ((ff (d1.i 0) 0 a12).toNat < a12.length)) <|
 lt (ae a12 ((ff (d1.i 0) 0 a12).toNat) : Dat) fun d3 =>
 bif !(BI (d3.i 1) (d3.i 2) (d3.b 4) (d1.i 1) (d1.i 2) (d1.i 3) (d1.i 4) (d1.i 5) (d1.b 6)) then
 some ([.i 0, .i 0, .i 0, .i 0, .i 3, .d a11])
 else
 chk (inb (ff (d1.i 0) 0 a12) a12.length) <|
 chk (decide ((ff (d1.i 0) 0 a12).toNat < a12.length)) <|
 lt (ae a12 ((ff (d1.i 0) 0 a12).toNat) : Dat) fun d5 =>
 chk (inb (ff (d1.i 0) 0 a12) a12.length) <|
 chk (decide ((ff (d1.i 0) 0 a12).toNat < a12.length)) <|
 k (a0, a1, (w64 (a2 + 1)), a3, a4, a5, a6, (w64 (a7 + (w64 ((d1.i 1) + (d1.i 2))))), (w64 (a8 + (d1.i 3))), (w64 (a9 + (gz (d5.i 1) (d1.i 1) (d1.i 2) (d1.b 6)))), (w64 (a10 + (d1.i 4))), a11, (List.set a12 ((ff (d1.i 0) 0 a12).toNat) (.r [.n (d5.i 0), .n (sC (d5.i 1) (d1.i 1) (d1.i 2) (d1.b 6)), .n (nw (d5.i 1) (d5.i 2) (d1.i 1) (d1.i 2) (d1.i 4) (d1.b 6)), .n (nf (d5.i 1) (d5.b 4) (d1.i 1) (d1.i 2) (d1.i 5) (d1.b 6)), .n (bI ((d1.b 6) || (d5.b 4)))])))
 else
 some ([.i a7, .i a8, .i a9, .i a10, .i 0, .d a12])
def vw (m : Nat) : Nat -> DL -> Option (List Un) := bf (xI m)
theorem tv (m : Nat) (n : Nat) : vw m (n + 1) = xI m (vw m n) := rfl
def HD (F : DL -> Option (List Un)) : aQ := ⟨[.lp [0, 1, 0, 1, 1, 1, 1], .blk 0, .code [1, 1, 1, 1, 1]], ⟨frm 89 [(0, .ptr 0 0 0), (4, .ptr 2 0 0), (6, .ptr 3 0 0), (7, .ptr 4 0 0), (18, .ag (sB 6)), (19, .int .i64), (20, .int .i64)], [.cells [.buf 5 5], .gone, .cells [.int .i64, .int .i64, .int .i64, .int .i64], .cells [.buf 6 5], .cells [.int .i64, .int .i64, .int .i64, .int .i64], .ag (sB 4), .ag (sB 4)], 0⟩, onU F⟩
theorem PL (m : Nat) : ∀ n, HO N42 (HD (vw m n)) := ax ai KR.right (fun k => [HD k]) (fun k h => (aF h aB)) fun k a => by kernel_rfl
def t42 (m : Nat) : List Dat × List Dat -> Option (List Un) := fun (a0, a1) =>
 bif !(pX a0) then
 some ([.i 0, .i 0, .i 0, .i 0, .i 3, .d a1])
 else
 chk (decide (a1.length < 1000000)) <|
 vw m m (a0, (a0.length : Int), 0, 0, 0, 0, 0, 0, 0, 0, 0, a1, a1)
def Fa (l0 : List Dat) (o : Option Fv) : List Un := match o with | some x => [.i x.p, .i x.q, .i x.l, .i x.r, .i x.e, .d x.bh] | none => [.i 0, .i 0, .i 0, .i 0, .i 3, .d l0]
theorem MA (m : Nat) (l0 : List Dat) : ∀ (rest pre : List Dat) (n : Nat) (p q s r : Int) (l : List Dat), rest.length < n -> (pre ++ rest).length <= 64 -> l.length < 1000000 ->
 vw m n (pre ++ rest, ((pre ++ rest).length : Int), (pre.length : Int), 0, 0, 0, 0, p, q, s, r, l0, l) = some (Fa l0 (jz l p q s r rest)) := by
 intro rest
 induction rest with
 | nil =>
  intro pre n p q s r l hn hl hll; obtain ⟨n, rfl⟩ := ak n (by simp at hn; omega); rw [tv]; unfold xI; dsimp only; simp [aC, jz, Fa]
 | cons x rest ih =>
  intro pre n p q s r l hn hl hll; obtain ⟨n, rfl⟩ := ak n (by simp at hn; omega); simp only [List.length_cons, List.length_append] at hn hl; rw [tv]; unfold xI; dsimp only; simp (disch := omega) only [TRa, TRi, aa, LNl, LNi, Int.cast_ofNat_Int, ao]; unfold jz; rcases yI (x.i 0) l 0 with h1 | ⟨h1, h2⟩
  · rw [bT (by omega), if_pos (by omega)]; rfl
  · rw [aC (by omega), if_neg (by omega)]; simp (disch := omega) only [TRa, TRi, aa, LNl, LNi, Int.cast_ofNat_Int, ao]
    by_cases h3 : Eo (ae l (ff (x.i 0) 0 l).toNat) x = true
    · rw [if_pos h3]; have h4 := h3; unfold Eo at h4; rw [h4]; have := ih (pre ++ [x]) n (w64 (p + w64 (x.i 1 + x.i 2))) (w64 (q + x.i 3)) (w64 (s + gz ((ae l (ff (x.i 0) 0 l).toNat).i 1) (x.i 1) (x.i 2) (x.b 6))) (w64 (r + x.i 4)) (l.set (ff (x.i 0) 0 l).toNat (ml (ae l (ff (x.i 0) 0 l).toNat) x)) (by omega) (by simp; omega) (by simpa using hll)
      try simp (disch := omega) only [TRa, TRi, aa, LNl, LNi, Int.cast_ofNat_Int, ao]
      simp only [LNl, LNi, Int.cast_ofNat_Int] at this ⊢; exact this
    · rw [if_neg h3]; have h4 := h3; unfold Eo at h4; rw [show BI _ _ _ _ _ _ _ _ _ = false from Bool.eq_false_iff.2 h4]; rfl
def f42 : List Dat × List Dat -> Bool × List Un := fun (a0, a1) => (decide (a1.length < 1000000), [.i ((az a0 a1).p), .i ((az a0 a1).q), .i ((az a0 a1).l), .i ((az a0 a1).r), .i ((az a0 a1).e), .d ((az a0 a1).bh)])
theorem MX (a0 : List Dat) (a1 : List Dat) (hc : (decide (a1.length < 1000000)) = true) : ∃ m, t42 m (a0, a1) = some ([.i ((az a0 a1).p), .i ((az a0 a1).q), .i ((az a0 a1).l), .i ((az a0 a1).r), .i ((az a0 a1).e), .d ((az a0 a1).bh)]) := by
 have h := of_decide_eq_true hc; unfold az; cases ht : pX a0 with
 | false =>
  refine ⟨0, ?_⟩; unfold t42; dsimp only; rw [ht]; rfl
 | true =>
  have hl : a0.length <= 64 := by
   simp only [pX, Bool.and_eq_true, decide_eq_true_eq] at ht; exact ht.1
  refine ⟨a0.length + 1, ?_⟩; have := MA (a0.length + 1) a1 a0 [] (a0.length + 1) 0 0 0 0 a1 (by omega) (by simpa using hl) h; unfold t42; dsimp only; rw [ht]; simp only [Bool.not_true, cond_false, if_true]; rw [aN h]; refine this.trans ?_
  cases jz a1 0 0 0 0 a0 <;> rfl
theorem J5 : ER 42 (mkE N42.en N42.ex f42) := an ai KR.right (fun m => [HD (vw m m)]) (t := t42) (by kernel_rfl) (fun m => (aF (PL m m) aB)) (fun m a => by kernel_rfl) fun (a0, a1) hc => MX a0 a1 hc
def T42 : Tb Tryz.prog LQ TE := KR.add 42 _ J5
def GK (p q r s t u : List Int) (i : Int) (x : Dat) : Dat :=
 let y := within (bD p i) 0 (x.i 1 / 4)
 let z := if within (bD q i) 0 (2 * (x.i 1 - y)) > x.i 1 - y then 0 else within (bD q i) 0 (2 * (x.i 1 - y))
 let w := within (bD t i) 0 24
 .r [.n (x.i 0), .n y, .n z, .n (within (bD r i) 0 (1 + x.i 1 / 50)), .n (if w64 ((BitVec.ofInt 64 (bD u i) &&& BitVec.ofInt 64 7).toNat) = 7 then within (bD s i) 0 (x.i 1 - y - z) else 0), .n (if 0 < w - 12 then w - 12 else 0), .n (bI (decide (w64 ((BitVec.ofInt 64 (bD u i) &&& BitVec.ofInt 64 7).toNat) = 7)))]
def GG (s lost : List Int) (i : Int) (x : Dat) : Dat :=
 .r [.n (x.i 0), .n 0, .n 0, .n 0, .n (if i < (lost.length : Int) /\ 0 < lost.getD i.toNat 0 then within (bD s i) 0 (lost.getD i.toNat 0) else 0), .n 0, .n (bI false)]
def ofL (p q r s t u lost : List Int) : Int -> List Dat -> List Dat
 | _, [] => []
 | i, x :: l => (if w64 ((BitVec.ofInt 64 (bD t i) &&& BitVec.ofInt 64 15).toNat) = 15 then [] else if 0 < x.i 1 then [GK p q r s t u i x] else [GG s lost i x]) ++ ofL p q r s t u lost (i + 1) l
def N58 : aD := ⟨T42.tab, 58, ⟨[.agg [.ints .i64, .ints .i64, .ints .i64, .ints .i64, .ints .i64, .ints .i64], .ag (sI 2), .ints .i64], [], 0⟩, ⟨[.buf 0 7], [.ag (sB 6)], 0⟩, []⟩
abbrev CQ : Type := List Int × List Dat × Int × Int × List Int × List Int × List Int × List Int × List Int × List Int × List Dat
def yd (m : Nat) (k : CQ -> Option (List Un)) : CQ -> Option (List Un) := fun (a0, a1, a2, a3, a4, a5, a6, a7, a8, a9, a10) =>
 bif decide (a3 < a2) then
 chk (inb a3 a1.length) <|
 chk (decide (a3.toNat < a1.length)) <|
 lt (ae a1 a3.toNat : Dat) fun d1 =>
 chk (decide (0 <= a3)) <|
 bif (w64 ((BitVec.ofInt 64 (bD a8 a3) &&& BitVec.ofInt 64 15).toNat)) == 15 then
 k (a0, a1, a2, (w64 (a3 + 1)), a4, a5, a6, a7, a8, a9, a10)
 else
 bif decide ((d1.i 1) > 0) then
 chk (decide (0 <= a3)) <|
 bif decide (-2305843009213693952 <= 0 /\ 0 <= (w64 ((d1.i 1).tdiv 4)) /\ (w64 ((d1.i 1).tdiv 4)) <= 2305843009213693952) then
 lt ((within (bD a4 a3) 0 (w64 ((d1.i 1).tdiv 4))) : Int) fun x3 =>
 chk (decide (0 <= a3)) <|
 lt ((w64 (2 * (w64 ((d1.i 1) - x3)))) : Int) fun x4 =>
 bif decide (-2305843009213693952 <= 0 /\ 0 <= x4 /\ x4 <= 2305843009213693952) then
 lt ((within (bD a5 a3) 0 x4) : Int) fun x5 =>
 bif (decide (x5 > (w64 ((d1.i 1) - x3)))) then
 chk (decide (0 <= a3)) <|
 lt ((w64 ((d1.i 1).tdiv 50)) : Int) fun x7 =>
 bif decide (-2305843009213693952 <= 0 /\ 0 <= (w64 (1 + x7)) /\ (w64 (1 + x7)) <= 2305843009213693952) then
 lt ((within (bD a6 a3) 0 (w64 (1 + x7))) : Int) fun x8 =>
 chk (decide (0 <= a3)) <|
 lt ((within (bD a8 a3) 0 24) : Int) fun x9 =>
 lt ((if 0 < (w64 (x9 - 12)) then (w64 (x9 - 12)) else 0) : Int) fun x10 =>
 chk (decide (0 <= a3)) <|
 bif (w64 ((BitVec.ofInt 64 (bD a9 a3) &&& BitVec.ofInt 64 7).toNat)) == 7 then
 chk (decide (0 <= a3)) <|
 lt ((w64 ((w64 ((d1.i 1) - x3)) - 0)) : Int) fun x12 =>
 bif decide (-2305843009213693952 <= 0 /\ 0 <= x12 /\ x12 <= 2305843009213693952) then
 chk (fits (a10.length + 1) 56) <|
 k (a0, a1, a2, (w64 (a3 + 1)), a4, a5, a6, a7, a8, a9, (a10 ++ ([.r [.n (d1.i 0), .n x3, .n 0, .n x8, .n (within (bD a7 a3) 0 x12), .n x10, .n (bI true)]])))
 else
 none
 else
 chk (fits (a10.length + 1) 56) <|
 k (a0, a1, a2, (w64 (a3 + 1)), a4, a5, a6, a7, a8, a9, (a10 ++ ([.r [.n (d1.i 0), .n x3, .n 0, .n x8, .n 0, .n x10, .n (bI false)]])))
 else
 none
 else
 chk (decide (0 <= a3)) <|
 lt ((w64 ((d1.i 1).tdiv 50)) : Int) fun x16 =>
 bif decide (-2305843009213693952 <= 0 /\ 0 <= (w64 (1 + x16)) /\ (w64 (1 + x16)) <= 2305843009213693952) then
 lt ((within (bD a6 a3) 0 (w64 (1 + x16))) : Int) fun x17 =>
 chk (decide (0 <= a3)) <|
 lt ((within (bD a8 a3) 0 24) : Int) fun x18 =>
 lt ((if 0 < (w64 (x18 - 12)) then (w64 (x18 - 12)) else 0) : Int) fun x19 =>
 chk (decide (0 <= a3)) <|
 bif (w64 ((BitVec.ofInt 64 (bD a9 a3) &&& BitVec.ofInt 64 7).toNat)) == 7 then
 chk (decide (0 <= a3)) <|
 lt ((w64 ((w64 ((d1.i 1) - x3)) - x5)) : Int) fun x21 =>
 bif decide (-2305843009213693952 <= 0 /\ 0 <= x21 /\ x21 <= 2305843009213693952) then
 chk (fits (a10.length + 1) 56) <|
 k (a0, a1, a2, (w64 (a3 + 1)), a4, a5, a6, a7, a8, a9, (a10 ++ ([.r [.n (d1.i 0), .n x3, .n x5, .n x17, .n (within (bD a7 a3) 0 x21), .n x19, .n (bI true)]])))
 else
 none
 else
 chk (fits (a10.length + 1) 56) <|
 k (a0, a1, a2, (w64 (a3 + 1)), a4, a5, a6, a7, a8, a9, (a10 ++ ([.r [.n (d1.i 0), .n x3, .n x5, .n x17, .n 0, .n x19, .n (bI false)]])))
 else
 none
 else
 none
 else
 none
 else
 bif (decide (a3 < (a0.length : Int))) then
 chk (inb a3 a0.length) <|
 chk (decide (a3.toNat < a0.length)) <|
 bif (decide ((a0.getD a3.toNat 0) > 0)) then
 chk (decide (0 <= a3)) <|
 chk (inb a3 a0.length) <|
 chk (decide (a3.toNat < a0.length)) <|
 bif decide (-2305843009213693952 <= 0 /\ 0 <= (a0.getD a3.toNat 0) /\ (a0.getD a3.toNat 0) <= 2305843009213693952) then
 chk (fits (a10.length + 1) 56) <|
 k (a0, a1, a2, (w64 (a3 + 1)), a4, a5, a6, a7, a8, a9, (a10 ++ ([.r [.n (d1.i 0), .n 0, .n 0, .n 0, .n (within (bD a7 a3) 0 (a0.getD a3.toNat 0)), .n 0, .n (bI false)]])))
 else
 none
 else
 chk (fits (a10.length + 1) 56) <|
 k (a0, a1, a2, (w64 (a3 + 1)), a4, a5, a6, a7, a8, a9, (a10 ++ ([.r [.n (d1.i 0), .n 0, .n 0, .n 0, .n 0, .n 0, .n (bI false)]])))
 else
 chk (fits (a10.length + 1) 56) <|
 k (a0, a1, a2, (w64 (a3 + 1)), a4, a5, a6, a7, a8, a9, (a10 ++ ([.r [.n (d1.i 0), .n 0, .n 0, .n 0, .n 0, .n 0, .n (bI false)]])))
 else
 some ([.d a10])
def tQ (m : Nat) : Nat -> CQ -> Option (List Un) := bf (yd m)
theorem sM (m : Nat) (n : Nat) : tQ m (n + 1) = yd m (tQ m n) := rfl
def HF (F : CQ -> Option (List Un)) : aQ := ⟨[.lp [0, 1, 0, 1, 1], .blk 0, .code [1, 1, 1]], ⟨frm 126 [(2, .ints .i64), (3, .ptr 0 0 0), (7, .buf 1 7), (11, .ag (sI 2)), (12, .int .i64), (13, .int .i64)], [.cells [.ints .i64, .ints .i64, .ints .i64, .ints .i64, .ints .i64, .ints .i64], .ag (sB 6)], 0⟩, onU F⟩
theorem Ou (m : Nat) : ∀ n, HO N58 (HF (tQ m n)) := ax ai T42.right (fun k => [HF k]) (fun k h => (aF h aB)) fun k a => by kernel_rfl
def t58 (m : Nat) : List Int × List Int × List Int × List Int × List Int × List Int × List Dat × List Int -> Option (List Un) := fun (a0, a1, a2, a3, a4, a5, a6, a7) =>
 tQ m m (a7, a6, (a6.length : Int), 0, a0, a1, a2, a3, a4, a5, [])
set_option maxHeartbeats 4000000 in
theorem QF (m : Nat) (p q r s t u lost : List Int) (hlost : ∀ y ∈ lost, y <= 2305843009213693952) : ∀ (rest pre acc : List Dat) (n : Nat), rest.length < n -> (pre ++ rest).length < 1000000 -> acc.length <= pre.length -> (∀ d ∈ rest, d.i 1 <= 1152921504606846976) ->
 tQ m n (lost, pre ++ rest, ((pre ++ rest).length : Int), (pre.length : Int), p, q, r, s, t, u, acc) = some [.d (acc ++ ofL p q r s t u lost pre.length rest)] := by
 intro rest
 induction rest with
 | nil =>
  intro pre acc n hn hl ha hb; obtain ⟨n, rfl⟩ := ak n (by simp at hn; omega); rw [sM]; unfold yd; dsimp only; simp [aC, ofL]
 | cons x rest ih =>
  intro pre acc n hn hl ha hb; obtain ⟨n, rfl⟩ := ak n (by simp at hn; omega); simp only [List.length_cons, List.length_append] at hn hl; have hx := hb x (by simp); have K : ∀ out : List Dat, out.length <= acc.length + 1 -> tQ m n (lost, pre ++ x :: rest, (pre.length : Int) + ((rest.length : Int) + 1), (pre.length : Int) + 1, p, q, r, s, t, u, out) = some [.d (out ++ ofL p q r s t u lost ((pre.length : Int) + 1) rest)] := by
   intro out ho; have := ih (pre ++ [x]) out n (by omega) (by simp; omega) (by simp; omega) (fun d hd => hb d (by simp [hd])); simp only [LNl, LNi, Int.cast_ofNat_Int] at this ⊢; exact this
  rw [sM]; unfold yd; dsimp only; unfold ofL; generalize hi : (pre.length : Int) = i at K ⊢; have hi0 : 0 <= i /\ i < 1000000 := by omega
  by_cases h15 : w64 ((BitVec.ofInt 64 (bD t i) &&& BitVec.ofInt 64 15).toNat) = 15
  · rw [if_pos h15]; subst hi; simp (disch := omega) only [TRa, TRi, aa, LNl, LNi, Int.cast_ofNat_Int, ao]; rw [K _ (by omega)]
  · rw [if_neg h15]
    by_cases hx0 : 0 < x.i 1
    · rw [if_pos hx0]; have e4 : (x.i 1).tdiv 4 = x.i 1 / 4 := Int.tdiv_eq_ediv_of_nonneg (by omega); have e50 : (x.i 1).tdiv 50 = x.i 1 / 50 := Int.tdiv_eq_ediv_of_nonneg (by omega); have k1 : 0 <= within (bD p i) 0 (x.i 1 / 4) /\ within (bD p i) 0 (x.i 1 / 4) <= x.i 1 / 4 := bm (by omega); have k2 : 0 <= within (bD t i) 0 24 /\ within (bD t i) 0 24 <= 24 := bm (by omega); unfold GK; dsimp only; subst hi; have k3 : 0 <= within (bD q (pre.length : Int)) 0 (2 * (x.i 1 - within (bD p (pre.length : Int)) 0 (x.i 1 / 4))) := (bm (by omega)).1
      by_cases hq : within (bD q (pre.length : Int)) 0 (2 * (x.i 1 - within (bD p (pre.length : Int)) 0 (x.i 1 / 4))) > x.i 1 - within (bD p (pre.length : Int)) 0 (x.i 1 / 4) <;>
       by_cases h7 : w64 ((BitVec.ofInt 64 (bD u (pre.length : Int)) &&& BitVec.ofInt 64 7).toNat) = 7
      · rw [if_pos hq, if_pos h7, decide_eq_true h7]; simp (disch := omega) only [TRa, TRi, aa, LNl, LNi, Int.cast_ofNat_Int, ao, e4, e50]; rw [K _ (by simp)]; simp
      · rw [if_pos hq, if_neg h7, decide_eq_false h7]; simp (disch := omega) only [TRa, TRi, aa, LNl, LNi, Int.cast_ofNat_Int, ao, e4, e50]; rw [K _ (by simp)]; simp
      · rw [if_neg hq, if_pos h7, decide_eq_true h7]; simp (disch := omega) only [TRa, TRi, aa, LNl, LNi, Int.cast_ofNat_Int, ao, e4, e50]; rw [K _ (by simp)]; simp
      · rw [if_neg hq, if_neg h7, decide_eq_false h7]; simp (disch := omega) only [TRa, TRi, aa, LNl, LNi, Int.cast_ofNat_Int, ao, e4, e50]; rw [K _ (by simp)]; simp
    · rw [if_neg hx0]; unfold GG; subst hi
      by_cases hlt : (pre.length : Int) < (lost.length : Int)
      · by_cases hp : 0 < lost.getD pre.length 0
        · have hle : lost.getD pre.length 0 <= 2305843009213693952 := by
           rw [List.getD_eq_getElem?_getD, List.getElem?_eq_getElem (by omega)]; exact hlost _ (List.getElem_mem _)
          rw [if_pos ⟨hlt, by simpa using hp⟩]; simp (disch := omega) only [TRa, TRi, aa, LNl, LNi, Int.cast_ofNat_Int, ao]; rw [K _ (by simp)]; simp
        · rw [if_neg (fun h => hp (by simpa using h.2))]; simp (disch := omega) only [TRa, TRi, aa, LNl, LNi, Int.cast_ofNat_Int, ao]; rw [K _ (by simp)]; simp
      · rw [if_neg (fun h => hlt h.1)]; simp (disch := omega) only [TRa, TRi, aa, LNl, LNi, Int.cast_ofNat_Int, ao]; rw [K _ (by simp)]; simp
def f58 : List Int × List Int × List Int × List Int × List Int × List Int × List Dat × List Int -> Bool × List Un := fun (a0, a1, a2, a3, a4, a5, a6, a7) => (decide (a6.length < 1000000) && (a6.all (fun d => decide (d.i 1 <= 1152921504606846976)) && a7.all fun y => decide (y <= 2305843009213693952)), [.d (ofL a0 a1 a2 a3 a4 a5 a7 0 a6)])
theorem LA (a0 : List Int) (a1 : List Int) (a2 : List Int) (a3 : List Int) (a4 : List Int) (a5 : List Int) (a6 : List Dat) (a7 : List Int) (hc : (decide (a6.length < 1000000) && (a6.all (fun d => decide (d.i 1 <= 1152921504606846976)) && a7.all fun y => decide (y <= 2305843009213693952))) = true) : ∃ m, t58 m (a0, a1, a2, a3, a4, a5, a6, a7) = some ([.d (ofL a0 a1 a2 a3 a4 a5 a7 0 a6)]) := by
 simp only [Bool.and_eq_true, decide_eq_true_eq, List.all_eq_true] at hc; exact ⟨a6.length + 1, QF _ _ _ _ _ _ _ _ (fun y hy => hc.2.2 y hy) a6 [] [] _ (by omega) (by simpa using hc.1) (by simp) (fun d hd => hc.2.1 d hd)⟩
theorem Ij : ER 58 (mkE N58.en N58.ex f58) := an ai T42.right (fun m => [HF (tQ m m)]) (t := t58) (by kernel_rfl) (fun m => (aF (Ou m m) aB)) (fun m a => by kernel_rfl) fun (a0, a1, a2, a3, a4, a5, a6, a7) hc => LA a0 a1 a2 a3 a4 a5 a6 a7 hc
def T58 : Tb Tryz.prog LQ TE := T42.add 58 _ Ij
def N25 : aD := ⟨T58.tab, 25, ⟨[.np 0 0 0], bs 0, 9⟩, ⟨[.ptr 9 0 0], bs 0 ++ bs 9, 9⟩, []⟩
def t25 (m : Nat) : Int × au × av × aj × List Dat × List Dat × List Dat × List Dat × List Dat × List Dat × List Dat -> Option (List Un) := fun (a0, a1, a2, a3, a4, a5, a6, a7, a8, a9, a10) =>
 chk (decide (0 <= a0)) <|
 chk (decide (0 <= a0)) <|
 chk (decide ((⟨a1, a4, a5, a2, a6, a7, a8⟩ : bk).aM.length < 1000000 /\ (⟨a1, a4, a5, a2, a6, a7, a8⟩ : bk).notes.length < 1000000 /\ (⟨a1, a4, a5, a2, a6, a7, a8⟩ : bk).s0.length < 1000000 /\ (⟨a1, a4, a5, a2, a6, a7, a8⟩ : bk).s1.length < 1000000 /\ (⟨a1, a4, a5, a2, a6, a7, a8⟩ : bk).s2.length < 1000000)) <|
 chk (decide (0 <= a0)) <|
 chk (decide (a9.length < 1000000)) <|
 chk (decide (0 <= a0)) <|
 chk (decide (a10.length < 1000000)) <|
 some (Uns.enc (a1 : au) ++ Uns.enc (a2 : av) ++ Uns.enc (a3 : aj) ++ [.d a4, .d a5, .d a6, .d a7, .d a8, .d a9, .d a10] ++ Uns.enc (((⟨a1, a4, a5, a2, a6, a7, a8⟩ : bk).a) : au) ++ Uns.enc (((⟨a1, a4, a5, a2, a6, a7, a8⟩ : bk).b) : av) ++ Uns.enc (a3 : aj) ++ [.d ((⟨a1, a4, a5, a2, a6, a7, a8⟩ : bk).aM), .d ((⟨a1, a4, a5, a2, a6, a7, a8⟩ : bk).notes), .d ((⟨a1, a4, a5, a2, a6, a7, a8⟩ : bk).s0), .d ((⟨a1, a4, a5, a2, a6, a7, a8⟩ : bk).s1), .d ((⟨a1, a4, a5, a2, a6, a7, a8⟩ : bk).s2), .d a9, .d a10])
def f25 : Int × au × av × aj × List Dat × List Dat × List Dat × List Dat × List Dat × List Dat × List Dat -> Bool × List Un := fun (a0, a1, a2, a3, a4, a5, a6, a7, a8, a9, a10) => (decide (0 <= a0) && decide (a4.length < 1000000 /\ a5.length < 1000000 /\ a6.length < 1000000 /\ a7.length < 1000000 /\ a8.length < 1000000 /\ a9.length < 1000000 /\ a10.length < 1000000), Uns.enc ((a1) : au) ++ Uns.enc ((a2) : av) ++ Uns.enc ((a3) : aj) ++ [.d (a4), .d (a5), .d (a6), .d (a7), .d (a8), .d (a9), .d (a10)] ++ Uns.enc ((a1) : au) ++ Uns.enc ((a2) : av) ++ Uns.enc ((a3) : aj) ++ [.d (a4), .d (a5), .d (a6), .d (a7), .d (a8), .d (a9), .d (a10)])
theorem Oe (a0 : Int) (a1 : au) (a2 : av) (a3 : aj) (a4 : List Dat) (a5 : List Dat) (a6 : List Dat) (a7 : List Dat) (a8 : List Dat) (a9 : List Dat) (a10 : List Dat) (hc : (decide (0 <= a0) && decide (a4.length < 1000000 /\ a5.length < 1000000 /\ a6.length < 1000000 /\ a7.length < 1000000 /\ a8.length < 1000000 /\ a9.length < 1000000 /\ a10.length < 1000000)) = true) : ∃ m, t25 m (a0, a1, a2, a3, a4, a5, a6, a7, a8, a9, a10) = some (Uns.enc ((a1) : au) ++ Uns.enc ((a2) : av) ++ Uns.enc ((a3) : aj) ++ [.d (a4), .d (a5), .d (a6), .d (a7), .d (a8), .d (a9), .d (a10)] ++ Uns.enc ((a1) : au) ++ Uns.enc ((a2) : av) ++ Uns.enc ((a3) : aj) ++ [.d (a4), .d (a5), .d (a6), .d (a7), .d (a8), .d (a9), .d (a10)]) := by
 simp only [Bool.and_eq_true, decide_eq_true_eq] at hc; obtain ⟨h0, h1, h2, h3, h4, h5, h6, h7⟩ := hc; refine ⟨0, ?_⟩; unfold t25; dsimp only; simp (disch := omega) only [lt_eq, aN, gZ]
theorem Ka : ER 25 (mkE N25.en N25.ex f25) := an ai T58.right (fun m => []) (t := t25) (by kernel_rfl) (fun m => aB) (fun m a => by kernel_rfl) fun (a0, a1, a2, a3, a4, a5, a6, a7, a8, a9, a10) hc => Oe a0 a1 a2 a3 a4 a5 a6 a7 a8 a9 a10 hc
def T25 : Tb Tryz.prog LQ TE := T58.add 25 _ Ka
def N92 : aD := ⟨T25.tab, 92, ⟨[.np 0 0 20, .int .i64], bs 0, 0⟩, ⟨[.bool], bs 0, 0⟩, []⟩
def t92 (m : Nat) : Int × Int × au × av × aj × List Dat × List Dat × List Dat × List Dat × List Dat × List Dat × List Dat -> Option (List Un) := fun (a0, a1, a2, a3, a4, a5, a6, a7, a8, a9, a10, a11) =>
 chk (decide (0 <= a0)) <|
 lt ((([a4.rin, a1]).getD 0 0) : Int) fun x1 =>
 bif decide (x1 < 0) then
 some ([.b false] ++ Uns.enc (a2 : au) ++ Uns.enc (a3 : av) ++ Uns.enc (a4 : aj) ++ [.d a5, .d a6, .d a7, .d a8, .d a9, .d a10, .d a11])
 else
 bif (decide (x1 > 1152921504606846976)) then
 some ([.b false] ++ Uns.enc (a2 : au) ++ Uns.enc (a3 : av) ++ Uns.enc (a4 : aj) ++ [.d a5, .d a6, .d a7, .d a8, .d a9, .d a10, .d a11])
 else
 lt ((([a4.rin, a1]).getD 1 0) : Int) fun x3 =>
 bif decide (x3 < 0) then
 some ([.b false] ++ Uns.enc (a2 : au) ++ Uns.enc (a3 : av) ++ Uns.enc (a4 : aj) ++ [.d a5, .d a6, .d a7, .d a8, .d a9, .d a10, .d a11])
 else
 bif decide (x3 > (w64 (1152921504606846976 - (w64 (0 + x1))))) then
 some ([.b false] ++ Uns.enc (a2 : au) ++ Uns.enc (a3 : av) ++ Uns.enc (a4 : aj) ++ [.d a5, .d a6, .d a7, .d a8, .d a9, .d a10, .d a11])
 else
 chk (decide (0 <= a0)) <|
 some ([.b true] ++ Uns.enc (a2 : au) ++ Uns.enc (a3 : av) ++ Uns.enc (({ a4 with rin := (w64 ((w64 (0 + x1)) + x3)) } : aj) : aj) ++ [.d a5, .d a6, .d a7, .d a8, .d a9, .d a10, .d a11])
def f92 : Int × Int × au × av × aj × List Dat × List Dat × List Dat × List Dat × List Dat × List Dat × List Dat -> Bool × List Un := fun (a0, a1, a2, a3, a4, a5, a6, a7, a8, a9, a10, a11) => (decide (0 <= a0) && decide ((0 : Int) <= a4.rin /\ (0 : Int) <= a1 /\ a4.rin + a1 <= (1152921504606846976 : Int)), [.b (true)] ++ Uns.enc ((a2) : au) ++ Uns.enc ((a3) : av) ++ Uns.enc (({ a4 with rin := a4.rin + a1 }) : aj) ++ [.d (a5), .d (a6), .d (a7), .d (a8), .d (a9), .d (a10), .d (a11)])
theorem Nn (a0 : Int) (a1 : Int) (a2 : au) (a3 : av) (a4 : aj) (a5 : List Dat) (a6 : List Dat) (a7 : List Dat) (a8 : List Dat) (a9 : List Dat) (a10 : List Dat) (a11 : List Dat) (hc : (decide (0 <= a0) && decide ((0 : Int) <= a4.rin /\ (0 : Int) <= a1 /\ a4.rin + a1 <= (1152921504606846976 : Int))) = true) : ∃ m, t92 m (a0, a1, a2, a3, a4, a5, a6, a7, a8, a9, a10, a11) = some ([.b (true)] ++ Uns.enc ((a2) : au) ++ Uns.enc ((a3) : av) ++ Uns.enc (({ a4 with rin := a4.rin + a1 }) : aj) ++ [.d (a5), .d (a6), .d (a7), .d (a8), .d (a9), .d (a10), .d (a11)]) := by
 simp only [Bool.and_eq_true, decide_eq_true_eq] at hc; obtain ⟨h0, h1, h2, h3⟩ := hc; refine ⟨0, ?_⟩; unfold t92; dsimp only; simp only [lt_eq, List.getD_cons_zero, List.getD_cons_succ]; simp (disch := omega) only [TRa, TRi, aa, Int.zero_add]
theorem La : ER 92 (mkE N92.en N92.ex f92) := an ai T25.right (fun m => []) (t := t92) (by kernel_rfl) (fun m => aB) (fun m a => by kernel_rfl) fun (a0, a1, a2, a3, a4, a5, a6, a7, a8, a9, a10, a11) hc => Nn a0 a1 a2 a3 a4 a5 a6 a7 a8 a9 a10 a11 hc
def T92 : Tb Tryz.prog LQ TE := T25.add 92 _ La
end
end Go.Proofs.YtdbkoeefnodejaaGreat
namespace Go.Proofs.YtdbkoeefnodejaaGreat
noncomputable section
open Go Go.Proofs.YtdbkoeefnodejaaGreat.Ev
set_option maxRecDepth 20000
def om : List Int -> Int -> Int × Bool
 | [], s => (s, true)
 | x :: l, s => bif (decide (x < 0) || decide (x > 1152921504606846976 - s)) then (0, false) else om l (s + x)
def gq (l : List Int) : Int := (om l 0).1
def jZ (l : List Int) : Bool := (om l 0).2
def o9 (l : List Int) : Bool := l.all fun x => decide (0 <= x /\ x <= 1152921504606846976)
theorem C4 : ∀ (l : List Int) (s b : Int), 0 <= s -> 0 <= b -> (∀ x ∈ l, 0 <= x /\ x <= b) -> s + l.length * b <= 1152921504606846976 -> om l s = (s + l.sum, true)
 | [], s, b, _, _, _, _ => by simp [om]
 | x :: l, s, b, h1, h2, h3, h4 => by
  have hx := h3 x (by simp); have hm : 0 <= (l.length : Int) * b := Int.mul_nonneg (by omega) h2; have e : ((x :: l).length : Int) * b = l.length * b + b := by rw [List.length_cons, Int.natCast_add, Int.add_mul]; simp
  rw [e] at h4; have := C4 l (s + x) b (by omega) h2 (fun y hy => h3 y (by simp [hy])) (by omega); simp only [om]; rw [show (decide (x < 0) || decide (x > 1152921504606846976 - s)) = false by simp; omega, cond_false, this, List.sum_cons]
  congr 1
  omega
theorem o8 : ∀ (l : List Int) (b : Int), 0 <= b -> (∀ x ∈ l, 0 <= x /\ x <= b) -> 0 <= l.sum /\ l.sum <= l.length * b
 | [], b, _, _ => by simp
 | x :: l, b, h2, h3 => by
  have hx := h3 x (by simp); have e : ((x :: l).length : Int) * b = l.length * b + b := by rw [List.length_cons, Int.natCast_add, Int.add_mul]; simp
  have := o8 l b h2 (fun y hy => h3 y (by simp [hy])); rw [e, List.sum_cons]; omega
theorem rJ {l : List Int} {b : Int} (h2 : 0 <= b) (h3 : ∀ x ∈ l, 0 <= x /\ x <= b) (h4 : l.length * b <= 1152921504606846976) : gq l = l.sum /\ jZ l = true := by
 have := C4 l 0 b (by omega) h2 h3 (by omega); unfold gq jZ; rw [this]; simp
def bw (n s : Int) (l : List Int) : List Int := l.map fun c => n * c / s
def hJ (n s : Int) (l : List Int) : List Int := l.map fun c => n * c % s
theorem tF {l : List Int} : o9 l = true ↔ ∀ x ∈ l, 0 <= x /\ x <= 1152921504606846976 := by simp [o9]
def jh (l : List Int) : List Int -> Nat -> Nat -> Nat
 | [], _, b => b
 | x :: r, i, b => jh l r (i + 1) (bif decide (x > l.getD b 0) then i else b)
def di (l : List Int) : Nat := jh l l 0 0
def gh (z : Int) : Nat -> List Int -> List Int -> List Int
 | 0, o, _ => o
 | k + 1, o, l => gh z k (o.set (di l) (o.getD (di l) 0 + 1)) (l.set (di l) z)
def cm (n : Int) (l : List Int) : List Int :=
 bif !(jZ l) then List.replicate l.length 0 else
 bif decide (max n 0 >= gq l) then l else
 gh 0 (max n 0 - (bw (max n 0) (gq l) l).sum).toNat (bw (max n 0) (gq l) l) (hJ (max n 0) (gq l) l)
theorem AX (l : List Int) : ∀ (r : List Int) (i b : Nat), b < l.length -> i + r.length <= l.length -> jh l r i b < l.length
 | [], _, b, h, _ => h
 | x :: r, i, b, h, h2 => by
  simp only [List.length_cons] at h2; unfold jh; refine AX l r (i + 1) _ ?_ (by omega); cases decide (x > l.getD b 0)
  · exact h
  · show i < l.length; omega
theorem jL {l : List Int} (h : l ≠ []) : di l < l.length := AX l l 0 0 (List.length_pos_iff.2 h) (by simp)
theorem zS : ∀ (l : List Int) (s : Int), 0 <= s -> s <= 1152921504606846976 -> (om l s).2 = true -> (∀ x ∈ l, 0 <= x /\ x <= 1152921504606846976) /\ (om l s).1 = s + l.sum /\ s + l.sum <= 1152921504606846976
 | [], s, h1, h2, _ => by simp [om, h2]
 | x :: l, s, h1, h2, h3 => by
  simp only [om] at h3 ⊢
  by_cases hx : x < 0 \/ x > 1152921504606846976 - s
  · rw [show (decide (x < 0) || decide (x > 1152921504606846976 - s)) = true by simpa using hx] at h3; cases h3
  · rw [show (decide (x < 0) || decide (x > 1152921504606846976 - s)) = false by simp; omega] at h3 ⊢; simp only [cond_false] at h3 ⊢; obtain ⟨a, b, c⟩ := zS l (s + x) (by omega) (by omega) h3; refine ⟨fun y hy => ?_, by rw [b, List.sum_cons]; omega, by rw [List.sum_cons]; omega⟩; rcases List.mem_cons.1 hy with rfl | hy
    · omega
    · exact a y hy
theorem jU {l : List Int} (h : jZ l = true) : (∀ x ∈ l, 0 <= x /\ x <= 1152921504606846976) /\ gq l = l.sum /\ l.sum <= 1152921504606846976 := by
 obtain ⟨a, b, c⟩ := zS l 0 (by omega) (by omega) h; exact ⟨a, by unfold gq; omega, by omega⟩
theorem dP : ∀ (l : List Int), (∀ x ∈ l, 0 <= x) -> 0 <= l.sum
 | [], _ => by simp
 | x :: l, h => by
  have := h x (by simp); have := dP l (fun y hy => h y (by simp [hy])); rw [List.sum_cons]; omega
theorem uF {f g : Int -> Int} : ∀ (l : List Int), (∀ x ∈ l, f x <= g x) -> (l.map f).sum <= (l.map g).sum
 | [], _ => by simp
 | x :: l, h => by
  have := h x (by simp); have := uF l (fun y hy => h y (by simp [hy])); simp only [List.map_cons, List.sum_cons]; omega
theorem yN {n s : Int} {l : List Int} (h1 : 0 <= n) (h2 : n < s) (hb : ∀ x ∈ l, 0 <= x /\ x <= 1152921504606846976) : (∀ y ∈ bw n s l, 0 <= y /\ y <= 1152921504606846976) /\ 0 <= (bw n s l).sum /\ (bw n s l).sum <= l.sum := by
 have e : ∀ x ∈ l, 0 <= n * x / s /\ n * x / s <= x := fun x hx => by
  have hx := hb x hx; refine ⟨Int.ediv_nonneg (Int.mul_nonneg h1 hx.1) (by omega), ?_⟩; have : n * x <= s * x := Int.mul_le_mul_of_nonneg_right (by omega) hx.1; exact Int.ediv_le_of_le_mul (by omega) (by rw [Int.mul_comm x s]; exact this)
 have a : ∀ y ∈ bw n s l, 0 <= y /\ y <= 1152921504606846976 := by
  intro y hy; obtain ⟨x, hx, rfl⟩ := List.mem_map.1 hy; have := e x hx; have := hb x hx; omega
 refine ⟨a, dP _ (fun y hy => (a y hy).1), ?_⟩; have := uF (f := fun c => n * c / s) (g := id) l (fun x hx => (e x hx).2); simpa [bw] using this
theorem iF {l : List Int} {i : Nat} (h : i < l.length) : l.getD i 0 ∈ l := by
 rw [List.getD_eq_getElem?_getD, List.getElem?_eq_getElem h]; exact List.getElem_mem h
theorem wK (z : Int) : ∀ (k : Nat) (o l : List Int), (gh z k o l).length = o.length
 | 0, _, _ => rfl
 | k + 1, o, l => by simp [gh, wK z k]
theorem u7 (n : Int) (l : List Int) : (cm n l).length = l.length := by
 unfold cm; cases jZ l
 · simp
 · cases decide (max n 0 >= gq l)
   · simp [wK, bw]
   · simp
theorem rE : ∀ (l : List Int) (b : Nat) (v : Int), b < l.length -> (l.set b v).sum = l.sum - l.getD b 0 + v
 | [], b, v, h => by simp at h
 | x :: l, 0, v, _ => by simp; omega
 | x :: l, b + 1, v, h => by
  have := rE l b v (by simpa using h); simp only [List.set_cons_succ, List.sum_cons, List.getD_cons_succ]; omega
theorem gN (l : List Int) (b i : Nat) (v : Int) (h : b < l.length) : (l.set b v).getD i 0 = if i = b then v else l.getD i 0 := by
 simp only [List.getD_eq_getElem?_getD, List.getElem?_set]
 by_cases e : b = i
 · subst e; simp [h]
 · rw [if_neg e, if_neg (Ne.symm e)]
theorem pI (l : List Int) : ∀ (r pre : List Int) (b : Nat), l = pre ++ r -> b < l.length -> (∀ j, j < pre.length -> l.getD j 0 <= l.getD b 0) -> (∀ j, j < b -> l.getD j 0 < l.getD b 0) -> b <= pre.length ->
 (∀ j, j < l.length -> l.getD j 0 <= l.getD (jh l r pre.length b) 0) /\ ∀ j, j < jh l r pre.length b -> l.getD j 0 < l.getD (jh l r pre.length b) 0
 | [], pre, b, he, hb, h1, h2, _ => by
  have : pre.length = l.length := by rw [he]; simp
  exact ⟨fun j hj => h1 j (by omega), h2⟩
 | x :: r, pre, b, he, hb, h1, h2, h3 => by
  have hg : l.getD pre.length 0 = x := by rw [he]; simp
  have hl : l.length = pre.length + (r.length + 1) := by rw [he]; simp
  have hp : (pre ++ [x]).length = pre.length + 1 := by simp
  simp only [jh]; rw [<- hp]
  by_cases hx : x > l.getD b 0
  · rw [show decide (x > l.getD b 0) = true from decide_eq_true hx, cond_true]; refine pI l r (pre ++ [x]) pre.length (by rw [he]; simp) (by omega) (fun j hj => ?_) (fun j hj => ?_) (by omega)
    · rw [hp] at hj
      by_cases e : j = pre.length
      · subst e; omega
      · have := h1 j (by omega); omega
    · have := h1 j hj; omega
  · rw [show decide (x > l.getD b 0) = false from decide_eq_false hx, cond_false]; refine pI l r (pre ++ [x]) b (by rw [he]; simp) hb (fun j hj => ?_) h2 (by omega); rw [hp] at hj
    by_cases e : j = pre.length
    · subst e; omega
    · exact h1 j (by omega)
theorem kS {l : List Int} (h : l ≠ []) : (∀ j, j < l.length -> l.getD j 0 <= l.getD (di l) 0) /\ ∀ j, j < di l -> l.getD j 0 < l.getD (di l) 0 :=
 pI l l [] 0 rfl (List.length_pos_iff.2 h) (fun j hj => by simp at hj) (fun j hj => by omega) (by simp)
theorem mh : ∀ (l : List Int), (∀ x ∈ l, x <= 0) -> l.sum <= 0
 | [], _ => by simp
 | x :: l, h => by
  have := h x (by simp); have := mh l (fun y hy => h y (by simp [hy])); rw [List.sum_cons]; omega
theorem oL {l : List Int} {x : Int} (h : x ∈ l) : ∃ j, j < l.length /\ l.getD j 0 = x := by
 obtain ⟨j, hj, rfl⟩ := List.getElem_of_mem h; exact ⟨j, hj, by rw [List.getD_eq_getElem?_getD, List.getElem?_eq_getElem hj]; rfl⟩
theorem wq {s : Int} (hs : 0 < s) : ∀ (k : Nat) (o l : List Int), o.length = l.length -> (∀ x ∈ l, 0 <= x /\ x < s) -> s * (k : Int) <= l.sum ->
 (gh 0 k o l).sum = o.sum + k /\ (∀ i, i < l.length -> (gh 0 k o l).getD i 0 = o.getD i 0 \/ ((gh 0 k o l).getD i 0 = o.getD i 0 + 1 /\ 0 < l.getD i 0)) /\
 ∀ i j, i < j -> j < l.length -> l.getD j 0 <= l.getD i 0 -> (gh 0 k o l).getD j 0 - o.getD j 0 <= (gh 0 k o l).getD i 0 - o.getD i 0
 | 0, o, l, hl, hb, hk => by simp [gh]
 | k + 1, o, l, hl, hb, hk => by
  have e1 : s * ((k + 1 : Nat) : Int) = s * k + s := by rw [Int.natCast_add, Int.mul_add]; simp
  rw [e1] at hk; have hk0 : 0 <= s * (k : Int) := Int.mul_nonneg (by omega) (by omega); have hne : l ≠ [] := by rintro rfl; simp at hk; omega
  have hB := jL hne; obtain ⟨hm, hf⟩ := kS hne; have hpos : 0 < l.getD (di l) 0 := by
   rcases Int.lt_or_le 0 (l.getD (di l) 0) with h | h
   · exact h
   · have := mh l (fun x hx => by
      obtain ⟨j, hj, rfl⟩ := oL hx; have := hm j hj; omega)
     omega
  have hmem := hb _ (iF hB); simp only [gh]; generalize hbb : di l = b at *
  have hs' := rE l b 0 hB; have ho' := rE o b (o.getD b 0 + 1) (by omega); obtain ⟨g1, g2, g3⟩ := wq hs k (o.set b (o.getD b 0 + 1)) (l.set b 0) (by simp [hl]) (fun x hx => by
   rcases List.mem_or_eq_of_mem_set hx with h | h
   · exact hb x h
   · omega) (by omega)
  generalize gh 0 k (o.set b (o.getD b 0 + 1)) (l.set b 0) = y at *
  simp only [List.length_set] at g2 g3; refine ⟨by rw [g1, ho']; simp only [Int.natCast_add]; omega, fun i hi => ?_, fun i j hij hj hle => ?_⟩
  · have := g2 i hi; rw [gN _ _ _ _ (by omega), gN _ _ _ _ hB] at this
    by_cases e : i = b
    · subst e; simp only [↓reduceIte] at this; right; omega
    · simpa [e] using this
  · have a1 := g2 i (by omega); have a2 := g2 j hj; have a3 := g3 i j hij hj; rw [gN _ _ _ _ (by omega), gN _ _ _ _ hB] at a1 a2; rw [gN _ _ _ _ hB, gN _ _ _ _ hB, gN _ _ _ _ (by omega), gN _ _ _ _ (by omega)] at a3
    by_cases ei : i = b
    · subst ei; have ne : ¬ j = i := by omega
      simp only [↓reduceIte, ne] at a1 a2 a3; omega
    · by_cases ej : j = b
      · subst ej; have := hf i hij; omega
      · simp only [ei, ej, if_false] at a1 a2 a3; exact a3 hle
theorem tH (a s : Int) : ∀ l : List Int, s * (bw a s l).sum + (hJ a s l).sum = a * l.sum
 | [] => by simp [bw, hJ]
 | x :: l => by
  have := tH a s l; have e := Int.mul_ediv_add_emod (a * x) s; show s * (a * x / s + (bw a s l).sum) + (a * x % s + (hJ a s l).sum) = a * (x + l.sum)
  rw [Int.mul_add, Int.mul_add]; omega
theorem vU (f : Int -> Int) {l : List Int} {b : Nat} (h : b < l.length) : (l.map f).getD b 0 = f (l.getD b 0) := by
 simp [List.getD_eq_getElem?_getD, List.getElem?_eq_getElem h]
theorem EM {a : Int} {l : List Int} (ha : 0 <= a) (hok : jZ l = true) (hlt : a < l.sum) : (cm a l).sum = a /\
 (∀ i, i < l.length -> (cm a l).getD i 0 = a * l.getD i 0 / l.sum \/ ((cm a l).getD i 0 = a * l.getD i 0 / l.sum + 1 /\ 0 < a * l.getD i 0 % l.sum)) /\
 ∀ i j, i < j -> j < l.length -> a * l.getD j 0 % l.sum <= a * l.getD i 0 % l.sum -> (cm a l).getD j 0 - a * l.getD j 0 / l.sum <= (cm a l).getD i 0 - a * l.getD i 0 / l.sum := by
 obtain ⟨hb, hs, hs2⟩ := jU hok; have hr : ∀ x ∈ hJ a l.sum l, 0 <= x /\ x < l.sum := by
  intro y hy; obtain ⟨x, hx, rfl⟩ := List.mem_map.1 hy; exact ⟨Int.emod_nonneg _ (by omega), Int.emod_lt_of_pos _ (by omega)⟩
 have hsum := tH a l.sum l; have hr0 := dP _ (fun x hx => (hr x hx).1); have hk : 0 <= a - (bw a l.sum l).sum := by
  have : l.sum * (bw a l.sum l).sum <= l.sum * a := by rw [Int.mul_comm l.sum a]; omega
  have := Int.le_of_mul_le_mul_left this (by omega); omega
 have he : cm a l = gh 0 (a - (bw a l.sum l).sum).toNat (bw a l.sum l) (hJ a l.sum l) := by
  unfold cm; rw [hok, hs, show max a 0 = a by omega, show decide (a >= l.sum) = false from decide_eq_false (by omega)]; rfl
 have hl1 : (bw a l.sum l).length = l.length := by simp [bw]
 have hl2 : (hJ a l.sum l).length = l.length := by simp [hJ]
 have d := wq (s := l.sum) (by omega) (a - (bw a l.sum l).sum).toNat (bw a l.sum l) (hJ a l.sum l) (by omega) hr (by
  rw [Int.toNat_of_nonneg hk, Int.mul_sub, Int.mul_comm l.sum a]; omega)
 rw [<- he, hl2] at d; obtain ⟨d1, d2, d3⟩ := d; have ef : ∀ i, i < l.length -> (bw a l.sum l).getD i 0 = a * l.getD i 0 / l.sum := fun i hi => vU _ hi
 have er : ∀ i, i < l.length -> (hJ a l.sum l).getD i 0 = a * l.getD i 0 % l.sum := fun i hi => vU _ hi
 refine ⟨by rw [d1, Int.toNat_of_nonneg hk]; omega, fun i hi => ?_, fun i j hij hj hle => ?_⟩
 · have := d2 i hi
   rwa [ef i hi, er i hi] at this
 · have := d3 i j hij hj (by rw [er i (by omega), er j hj]; exact hle)
   rwa [ef i (by omega), ef j hj] at this
theorem EL {a : Int} {l : List Int} (hok : jZ l = true) (hge : l.sum <= max a 0) : cm a l = l := by
 obtain ⟨hb, hs, hs2⟩ := jU hok; unfold cm; rw [hok, hs, show decide (max a 0 >= l.sum) = true from decide_eq_true hge]; rfl
theorem Iy {a x s : Int} (ha : 0 <= a) (hlt : a < s) (hx : 0 <= x) : 0 <= a * x / s /\ a * x / s <= x /\ (0 < a * x % s -> a * x / s + 1 <= x) := by
 have e := Int.mul_ediv_add_emod (a * x) s; have hm : a * x <= (s - 1) * x := Int.mul_le_mul_of_nonneg_right (by omega) hx; have hsx : (s - 1) * x = s * x - x := by rw [Int.sub_mul, Int.one_mul]
 refine ⟨Int.ediv_nonneg (Int.mul_nonneg ha hx) (by omega), Int.ediv_le_of_le_mul (by omega) (by rw [Int.mul_comm x s]; omega), fun h => ?_⟩; have : s * (a * x / s) < s * x := by omega
 have := Int.lt_of_mul_lt_mul_left this (by omega); omega
theorem Ax {a : Int} {l : List Int} (ha : 0 <= a) (hok : jZ l = true) : (cm a l).sum = min a l.sum /\ ∀ i, i < l.length -> 0 <= (cm a l).getD i 0 /\ (cm a l).getD i 0 <= l.getD i 0 := by
 obtain ⟨hb, hs, hs2⟩ := jU hok
 by_cases h : l.sum <= a
 · rw [EL hok (by omega)]; exact ⟨by omega, fun i hi => ⟨(hb _ (iF hi)).1, Int.le_refl _⟩⟩
 · obtain ⟨h1, h2, _⟩ := EM ha hok (by omega); refine ⟨by omega, fun i hi => ?_⟩; have hx := hb _ (iF hi); have := Iy (a := a) (s := l.sum) ha (by omega) hx.1; rcases h2 i hi with h | ⟨h, h'⟩ <;> omega
def bu : List Bool -> List Int -> List Int
 | [], _ => []
 | false :: ms, l => 0 :: bu ms l
 | true :: ms, l => l.headD 0 :: bu ms l.tail
def ij : List Bool -> Nat -> Nat
 | [], _ => 0
 | false :: ms, i => ij ms i + 1
 | true :: _, 0 => 0
 | true :: ms, i + 1 => ij ms i + 1
def bt : List Bool -> Nat
 | [] => 0
 | false :: ms => bt ms
 | true :: ms => bt ms + 1
theorem jR : ∀ (ms : List Bool) (l : List Int), (bu ms l).length = ms.length
 | [], _ => rfl
 | false :: ms, l => by simp [bu, jR ms l]
 | true :: ms, l => by simp [bu, jR ms l.tail]
theorem rn : ∀ (ms : List Bool) (i : Nat), i < bt ms -> ij ms i < ms.length
 | [], i, h => by simp [bt] at h
 | false :: ms, i, h => by have := rn ms i h; simp [ij]; omega
 | true :: ms, 0, _ => by simp [ij]
 | true :: ms, i + 1, h => by have := rn ms i (by simpa [bt] using h); simp [ij]; omega
theorem pk : ∀ (ms : List Bool) (i j : Nat), i < j -> j < bt ms -> ij ms i < ij ms j
 | [], i, j, _, h => by simp [bt] at h
 | false :: ms, i, j, h, h2 => by have := pk ms i j h h2; simp [ij]; omega
 | true :: ms, 0, j + 1, _, _ => by simp [ij]
 | true :: ms, i + 1, j + 1, h, h2 => by have := pk ms i j (by omega) (by simpa [bt] using h2); simp [ij]; omega
theorem gk : ∀ (ms : List Bool) (l : List Int) (i : Nat), l.length = bt ms -> i < bt ms -> (bu ms l).getD (ij ms i) 0 = l.getD i 0
 | [], l, i, _, h => by simp [bt] at h
 | false :: ms, l, i, h, h2 => by simp only [bu, ij, List.getD_cons_succ]; exact gk ms l i h h2
 | true :: ms, [], i, h, _ => by simp [bt] at h
 | true :: ms, x :: l, 0, h, _ => by simp [bu, ij]
 | true :: ms, x :: l, i + 1, h, h2 => by
  simp only [bu, ij, List.getD_cons_succ, List.tail_cons]; exact gk ms l i (by simpa [bt] using h) (by simpa [bt] using h2)
theorem nX : ∀ (ms : List Bool) (l : List Int) (i : Nat) (v : Int), l.length = bt ms -> i < bt ms -> (bu ms l).set (ij ms i) v = bu ms (l.set i v)
 | [], l, i, v, _, h => by simp [bt] at h
 | false :: ms, l, i, v, h, h2 => by simp only [bu, ij, List.set_cons_succ]; rw [nX ms l i v h h2]
 | true :: ms, [], i, v, h, _ => by simp [bt] at h
 | true :: ms, x :: l, 0, v, h, _ => by simp [bu, ij]
 | true :: ms, x :: l, i + 1, v, h, h2 => by
  simp only [bu, ij, List.set_cons_succ, List.tail_cons, List.headD_cons]; rw [nX ms l i v (by simpa [bt] using h) (by simpa [bt] using h2)]
theorem rG : ∀ (ms : List Bool) (p : Nat), p < ms.length -> (∃ i, i < bt ms /\ p = ij ms i) \/ ∀ l, (bu ms l).getD p 0 = 0
 | [], p, h => by simp at h
 | false :: ms, 0, _ => .inr fun l => by simp [bu]
 | true :: ms, 0, _ => .inl ⟨0, by simp [bt], by simp [ij]⟩
 | false :: ms, p + 1, h => by
  rcases rG ms p (by simpa using h) with ⟨i, h1, h2⟩ | h2
  · exact .inl ⟨i, h1, by simp [ij, h2]⟩
  · exact .inr fun l => by simp only [bu, List.getD_cons_succ]; exact h2 l
 | true :: ms, p + 1, h => by
  rcases rG ms p (by simpa using h) with ⟨i, h1, h2⟩ | h2
  · exact .inl ⟨i + 1, by simp [bt, h1], by simp [ij, h2]⟩
  · exact .inr fun l => by simp only [bu, List.getD_cons_succ]; exact h2 _
theorem zL {l : List Int} {b : Nat} (hb : b < l.length) (h1 : ∀ j, j < l.length -> l.getD j 0 <= l.getD b 0) (h2 : ∀ j, j < b -> l.getD j 0 < l.getD b 0) : di l = b := by
 have hne : l ≠ [] := by rintro rfl; simp at hb
 obtain ⟨m1, m2⟩ := kS hne; have hB := jL hne; rcases Nat.lt_trichotomy (di l) b with h | h | h
 · have := h2 _ h; have := m1 b hb; omega
 · exact h
 · have := m2 _ h; have := h1 _ hB; omega
theorem AR (ms : List Bool) (l : List Int) (hl : l.length = bt ms) (hp : 0 < l.getD (di l) 0) : di (bu ms l) = ij ms (di l) := by
 have hne : l ≠ [] := by rintro rfl; simp at hp
 obtain ⟨m1, m2⟩ := kS hne; have hB := jL hne; rw [hl] at hB; refine zL (by rw [jR]; exact rn ms _ hB) (fun j hj => ?_) (fun j hj => ?_)
 · rw [gk ms l _ hl hB]; rw [jR] at hj; rcases rG ms j hj with ⟨i, h1, rfl⟩ | h2
   · rw [gk ms l i hl h1]; exact m1 i (by omega)
   · rw [h2]; omega
 · rw [gk ms l _ hl hB]; have hj2 : j < ms.length := Nat.lt_trans hj (rn ms _ hB); rcases rG ms j hj2 with ⟨i, h1, rfl⟩ | h2
   · rw [gk ms l i hl h1]; refine m2 i ?_
     rcases Nat.lt_trichotomy i (di l) with h | h | h
     · exact h
     · subst h; omega
     · have := pk ms _ _ h h1; omega
   · rw [h2]; exact hp
theorem v9 {s : Int} (hs : 0 < s) (ms : List Bool) : ∀ (k : Nat) (o l : List Int), o.length = bt ms -> l.length = bt ms -> (∀ x ∈ l, 0 <= x /\ x < s) -> s * (k : Int) <= l.sum ->
 gh 0 k (bu ms o) (bu ms l) = bu ms (gh 0 k o l)
 | 0, o, l, _, _, _, _ => rfl
 | k + 1, o, l, ho, hl, hb, hk => by
  have e1 : s * ((k + 1 : Nat) : Int) = s * k + s := by rw [Int.natCast_add, Int.mul_add]; simp
  rw [e1] at hk; have hk0 : 0 <= s * (k : Int) := Int.mul_nonneg (by omega) (by omega); have hne : l ≠ [] := by rintro rfl; simp at hk; omega
  have hB := jL hne; obtain ⟨hm, hf⟩ := kS hne; have hpos : 0 < l.getD (di l) 0 := by
   rcases Int.lt_or_le 0 (l.getD (di l) 0) with h | h
   · exact h
   · have := mh l (fun x hx => by
      obtain ⟨j, hj, rfl⟩ := oL hx; have := hm j hj; omega)
     omega
  have hmem := hb _ (iF hB); have hs' := rE l (di l) 0 hB; simp only [gh]; rw [AR ms l hl hpos, gk ms o _ ho (by omega), nX ms o _ _ ho (by omega), nX ms l _ _ hl (by omega)]; refine v9 hs ms k _ _ (by simpa using ho) (by simpa using hl) (fun x hx => ?_) (by omega); rcases List.mem_or_eq_of_mem_set hx with h | h
  · exact hb x h
  · omega
theorem od (f : Int -> Int) (h0 : f 0 = 0) : ∀ (ms : List Bool) (l : List Int), (bu ms l).map f = bu ms (l.map f)
 | [], _ => rfl
 | false :: ms, l => by simp [bu, h0, od f h0 ms l]
 | true :: ms, l => by
  simp only [bu, List.map_cons, od f h0 ms l.tail]; cases l with
  | nil => simp [h0]
  | cons x l => simp
theorem lK : ∀ (ms : List Bool) (l : List Int), l.length = bt ms -> (bu ms l).sum = l.sum
 | [], l, h => by rw [List.eq_nil_of_length_eq_zero h]; rfl
 | false :: ms, l, h => by simp [bu, lK ms l h]
 | true :: ms, [], h => by simp [bt] at h
 | true :: ms, x :: l, h => by simp [bu, lK ms l (by simpa [bt] using h)]
theorem uL : ∀ (ms : List Bool) (l : List Int) (y : Int), y ∈ bu ms l -> y = 0 \/ y ∈ l
 | [], _, y, h => by simp [bu] at h
 | false :: ms, l, y, h => by
  simp only [bu, List.mem_cons] at h; rcases h with h | h
  · exact .inl h
  · exact uL ms l y h
 | true :: ms, l, y, h => by
  simp only [bu, List.mem_cons] at h; rcases h with h | h
  · cases l with
    | nil => exact .inl (by simpa using h)
    | cons x l => exact .inr (by simp at h; simp [h])
  · rcases uL ms l.tail y h with h | h
    · exact .inl h
    · exact .inr (List.mem_of_mem_tail h)
theorem D6 (ms : List Bool) (n : Int) (l : List Int) (hl : l.length = bt ms) (b : Int) (hb0 : 0 <= b) (hb : ∀ x ∈ l, 0 <= x /\ x <= b) (h4 : ms.length * b <= 1152921504606846976) :
 cm n (bu ms l) = bu ms (cm n l) := by
 have hlm : bt ms <= ms.length := by
  clear hl h4
  induction ms with
  | nil => simp [bt]
  | cons c ms ih => cases c <;> simp [bt] <;> omega
 have hlb : (l.length : Int) * b <= ms.length * b := Int.mul_le_mul_of_nonneg_right (by omega) hb0; obtain ⟨s1, o1⟩ := rJ hb0 hb (by omega); have hb2 : ∀ x ∈ bu ms l, 0 <= x /\ x <= b := fun x hx => by
  rcases uL ms l x hx with h | h
  · omega
  · exact hb x h
 obtain ⟨s2, o2⟩ := rJ hb0 hb2 (by rw [jR]; exact h4); rw [lK ms l hl] at s2; obtain ⟨hB, _, hs2⟩ := jU o1; have h0 := dP l (fun x hx => (hb x hx).1); unfold cm; rw [o1, o2, s1, s2]; simp only [Bool.not_true, cond_false]
 by_cases h : max n 0 >= l.sum
 · rw [decide_eq_true h, cond_true, cond_true]
 · rw [decide_eq_false h, cond_false, cond_false]; have ef : bw (max n 0) l.sum (bu ms l) = bu ms (bw (max n 0) l.sum l) := od (fun c => max n 0 * c / l.sum) (by simp) ms l; have er : hJ (max n 0) l.sum (bu ms l) = bu ms (hJ (max n 0) l.sum l) := od (fun c => max n 0 * c % l.sum) (by simp) ms l; have lf : (bw (max n 0) l.sum l).length = bt ms := by simpa [bw] using hl
   have lr : (hJ (max n 0) l.sum l).length = bt ms := by simpa [hJ] using hl
   rw [ef, er, lK ms _ lf]; have hr : ∀ x ∈ hJ (max n 0) l.sum l, 0 <= x /\ x < l.sum := by
    intro y hy; obtain ⟨x, hx, rfl⟩ := List.mem_map.1 hy; exact ⟨Int.emod_nonneg _ (by omega), Int.emod_lt_of_pos _ (by omega)⟩
   have hsum := tH (max n 0) l.sum l; have hr0 := dP _ (fun x hx => (hr x hx).1); have hk : 0 <= max n 0 - (bw (max n 0) l.sum l).sum := by
    have : l.sum * (bw (max n 0) l.sum l).sum <= l.sum * max n 0 := by rw [Int.mul_comm l.sum (max n 0)]; omega
    have := Int.le_of_mul_le_mul_left this (by omega); omega
   exact v9 (s := l.sum) (by omega) ms _ _ _ lf lr hr (by rw [Int.toNat_of_nonneg hk, Int.mul_sub, Int.mul_comm l.sum (max n 0)]; omega)
theorem LS {n c p : Int} (h1 : 0 <= n) (h2 : n < p) (h3 : p <= 1152921504606846976) (h4 : 0 <= c) (h5 : c <= 1152921504606846976) : mdV n c p 0 = n * c / p /\ nF n c p 0 = true /\ 0 <= n * c / p /\ n * c / p <= c := by
 have h : n * c / p <= c := by
  have : n * c <= p * c := Int.mul_le_mul_of_nonneg_right (by omega) h4; exact Int.ediv_le_of_le_mul (by omega) (by rw [Int.mul_comm c p]; exact this)
 have ok : nF n c p 0 = true := by rw [DY h1 (by omega) h4 h5 (by omega) h3 (by omega) (by omega), Mm]; simp; omega
 exact ⟨by unfold mdV; rw [ok, Mm]; rfl, ok, Int.ediv_nonneg (Int.mul_nonneg h1 h4) (by omega), h⟩
theorem JM {n c s q : Int} (hq : q = n * c / s) (h1 : 0 <= n) (h2 : 0 < s) (h3 : s <= 1152921504606846976) (h4 : 0 <= c) :
 oC (oC (oC n * oC c) - oC (oC q * oC s)) = n * c % s := by
 show IntKind.u64.wrap (IntKind.u64.wrap (IntKind.u64.wrap n * IntKind.u64.wrap c) - IntKind.u64.wrap (IntKind.u64.wrap q * IntKind.u64.wrap s)) = n * c % s; simp only [lE]; rw [<- Int.mul_emod, <- Int.mul_emod, <- Int.sub_emod]; have e := Int.mul_ediv_add_emod (n * c) s; have a := Int.emod_nonneg (n * c) (show s ≠ 0 by omega); have b := Int.emod_lt_of_pos (n * c) h2; rw [<- hq] at e; rw [show n * c - q * s = n * c % s by rw [Int.mul_comm q s]; omega]; exact Int.emod_eq_of_lt a (by omega)
theorem AW {α : Type} (pre done : List α) (x y : α) (rest : List α) (h : done.length = pre.length) : List.set (done ++ x :: rest) pre.length y = done ++ y :: rest := by rw [<- h]; simp
def NV : aD := ⟨T92.tab, 128, ⟨[.ints .i64], [], 0⟩, ⟨[.int .i64, .bool], [], 0⟩, []⟩
abbrev yz : Type := Int × List Int × Int × Int
def rY (m : Nat) (k : yz -> Option (List Un)) : yz -> Option (List Un) := fun (a0, a1, a2, a3) =>
 bif decide (a3 < a2) then
 chk (inb a3 a1.length) <|
 chk (decide (a3.toNat < a1.length)) <|
 bif (decide ((a1.getD a3.toNat 0) < 0)) then
 some ([.i 0, .b false])
 else
 bif (decide ((a1.getD a3.toNat 0) > (w64 (1152921504606846976 - a0)))) then
 some ([.i 0, .b false])
 else
 k ((w64 (a0 + (a1.getD a3.toNat 0))), a1, a2, (w64 (a3 + 1)))
 else
 some ([.i a0, .b true])
def pw (m : Nat) : Nat -> yz -> Option (List Un) := bf (rY m)
theorem qD (m : Nat) (n : Nat) : pw m (n + 1) = rY m (pw m n) := rfl
def Bp (F : yz -> Option (List Un)) : aQ := ⟨[.lp [0, 1, 0, 1, 1], .blk 0, .code [1, 1, 1]], ⟨frm 26 [(4, .int .i64), (7, .ints .i64), (8, .int .i64), (9, .int .i64)], [], 0⟩, onU F⟩
theorem Na (m : Nat) : ∀ n, HO NV (Bp (pw m n)) := ax ai T92.right (fun k => [Bp k]) (fun k h => (aF h aB)) fun k a => by kernel_rfl
def t128 (m : Nat) : List Int -> Option (List Un) := fun a0 =>
 pw m m (0, a0, (a0.length : Int), 0)
theorem KJ (m : Nat) : ∀ (rest pre : List Int) (s : Int) (n : Nat), rest.length < n -> 0 <= s -> s <= 1152921504606846976 -> (pre ++ rest).length < 1099511627776 ->
 pw m n (s, pre ++ rest, ((pre ++ rest).length : Int), (pre.length : Int)) = some [.i (om rest s).1, .b (om rest s).2] := by
 intro rest
 induction rest with
 | nil =>
  intro pre s n hn h1 h2 h3; obtain ⟨n, rfl⟩ := ak n (by simp at hn; omega); rw [qD]; unfold rY; dsimp only; simp [aC, om]
 | cons x rest ih =>
  intro pre s n hn h1 h2 h3; obtain ⟨n, rfl⟩ := ak n (by simp at hn; omega); simp only [List.length_append, List.length_cons] at h3 hn; rw [qD]; unfold rY; dsimp only; simp only [om]
  by_cases c1 : x < 0
  · rw [decide_eq_true c1, Bool.true_or, cond_true]; simp (disch := omega) only [TRa, TRi, aa, LNl, LNi, Int.cast_ofNat_Int, bZ]
  · by_cases c2 : x > 1152921504606846976 - s
    · rw [decide_eq_true c2, Bool.or_true, cond_true]; simp (disch := omega) only [TRa, TRi, aa, LNl, LNi, Int.cast_ofNat_Int, bZ]
    · rw [decide_eq_false c1, decide_eq_false c2, Bool.false_or, cond_false]; have := ih (pre ++ [x]) (s + x) n (by omega) (by omega) (by omega) (by simp; omega); simp (disch := omega) only [TRa, TRi, aa, LNl, LNi, Int.cast_ofNat_Int, bZ]; simp only [LNl, LNi, Int.cast_ofNat_Int] at this ⊢; exact this
def f128 : List Int -> Bool × List Un := fun a0 => (decide (a0.length < 1099511627776), [.i (gq a0), .b (jZ a0)])
theorem JX (a0 : List Int) (hc : (decide (a0.length < 1099511627776)) = true) : ∃ m, t128 m a0 = some ([.i (gq a0), .b (jZ a0)]) := by
 exact ⟨a0.length + 1, KJ _ a0 [] 0 _ (by omega) (by omega) (by omega) (by simpa using of_decide_eq_true hc)⟩
theorem GJ : ER 128 (mkE NV.en NV.ex f128) := an ai T92.right (fun m => [Bp (pw m m)]) (t := t128) (by kernel_rfl) (fun m => (aF (Na m m) aB)) (fun m a => by kernel_rfl) fun a0 hc => JX a0 hc
def Kt : Tb Tryz.prog LQ TE := T92.add 128 _ GJ
def NF : aD := ⟨Kt.tab, 172, ⟨[.int .i64, .int .i64, .ints .i64], [], 0⟩, ⟨[.buf 0 1, .buf 1 1], [.ints .i64, .ints .u64], 0⟩, []⟩
abbrev yL : Type := Int × Int × List Int × Int × Int × List Int × List Int
def rB (m : Nat) (k : yL -> Option (List Un)) : yL -> Option (List Un) := fun (a0, a1, a2, a3, a4, a5, a6) =>
 bif decide (a4 < a3) then
 chk (inb a4 a2.length) <|
 chk (decide (a4.toNat < a2.length)) <|
 chk (inb a4 a5.length) <|
 chk (decide (a4.toNat < a5.length)) <|
 lt ((List.set a5 a4.toNat (mdV a0 (a2.getD a4.toNat 0) a1 0)) : List Int) fun l5 =>
 chk (inb a4 l5.length) <|
 chk (decide (a4.toNat < l5.length)) <|
 chk (inb a4 a6.length) <|
 chk (decide (a4.toNat < a6.length)) <|
 k (a0, a1, a2, a3, (w64 (a4 + 1)), l5, (List.set a6 a4.toNat (oC ((oC ((oC a0) * (oC (a2.getD a4.toNat 0)))) - (oC ((oC (l5.getD a4.toNat 0)) * (oC a1)))))))
 else
 some ([.l a5, .l a6])
def oP (m : Nat) : Nat -> yL -> Option (List Un) := bf (rB m)
theorem qd (m : Nat) (n : Nat) : oP m (n + 1) = rB m (oP m n) := rfl
def Cn (F : yL -> Option (List Un)) : aQ := ⟨[.lp [0, 1, 0, 1, 1], .blk 0, .code [1, 1, 1]], ⟨frm 55 [(0, .int .i64), (1, .int .i64), (8, .buf 0 1), (9, .buf 1 1), (18, .ints .i64), (19, .int .i64), (20, .int .i64)], [.ints .i64, .ints .u64], 0⟩, onU F⟩
theorem NP (m : Nat) : ∀ n, HO NF (Cn (oP m n)) := ax ai Kt.right (fun k => [Cn k]) (fun k h => (aF h aB)) fun k a => by kernel_rfl
def t172 (m : Nat) : Int × Int × List Int -> Option (List Un) := fun (a0, a1, a2) =>
 chk (kj (a2.length : Int) 8) <|
 chk (kj (a2.length : Int) 8) <|
 oP m m (a0, a1, a2, (a2.length : Int), 0, (List.replicate a2.length 0), (List.replicate a2.length 0))
theorem NK (m : Nat) (a s : Int) (h1 : 0 <= a) (h2 : a < s) (h3 : s <= 1152921504606846976) : ∀ (rest pre d1 d2 : List Int) (n : Nat), rest.length < n -> d1.length = pre.length -> d2.length = pre.length -> (∀ x ∈ rest, 0 <= x /\ x <= 1152921504606846976) -> (pre ++ rest).length < 1099511627776 ->
 oP m n (a, s, pre ++ rest, ((pre ++ rest).length : Int), (pre.length : Int), d1 ++ List.replicate rest.length 0, d2 ++ List.replicate rest.length 0) = some [.l (d1 ++ bw a s rest), .l (d2 ++ hJ a s rest)] := by
 intro rest
 induction rest with
 | nil =>
  intro pre d1 d2 n hn p1 p2 hb h4; obtain ⟨n, rfl⟩ := ak n (by simp at hn; omega); rw [qd]; unfold rB; dsimp only; simp [aC, bw, hJ]
 | cons x rest ih =>
  intro pre d1 d2 n hn p1 p2 hb h4; obtain ⟨n, rfl⟩ := ak n (by simp at hn; omega); simp only [List.length_append, List.length_cons] at h4 hn; rw [qd]; unfold rB; dsimp only; simp only [List.length_cons, List.replicate_succ]; have hx := hb x (by simp); obtain ⟨e1, _, _, _⟩ := LS h1 h2 h3 hx.1 hx.2; have := ih (pre ++ [x]) (d1 ++ [a * x / s]) (d2 ++ [a * x % s]) n (by omega) (by simp; omega) (by simp; omega) (fun y hy => hb y (by simp [hy])) (by simp; omega); have le := JM (n := a) (c := x) (s := s) rfl h1 (by omega) h3 hx.1; simp (disch := omega) only [TRa, TRi, aa, LNl, LNi, Int.cast_ofNat_Int, bZ, e1, AW _ _ _ _ _ p1, vM _ _ _ _ _ p1, AW _ _ _ _ _ p2]; rw [le]; simp only [LNl, LNi, Int.cast_ofNat_Int] at this ⊢; refine this.trans ?_
  simp [bw, hJ]
def f172 : Int × Int × List Int -> Bool × List Un := fun (a0, a1, a2) => (decide (0 <= a0 /\ a0 < a1 /\ a1 <= 1152921504606846976 /\ a2.length < 1099511627776) && o9 a2, [.l (bw a0 a1 a2), .l (hJ a0 a1 a2)])
theorem Ks (a0 : Int) (a1 : Int) (a2 : List Int) (hc : (decide (0 <= a0 /\ a0 < a1 /\ a1 <= 1152921504606846976 /\ a2.length < 1099511627776) && o9 a2) = true) : ∃ m, t172 m (a0, a1, a2) = some ([.l (bw a0 a1 a2), .l (hJ a0 a1 a2)]) := by
 simp only [Bool.and_eq_true, decide_eq_true_eq, tF] at hc; obtain ⟨⟨h1, h2, h3, h4⟩, hb⟩ := hc; refine ⟨a2.length + 1, ?_⟩; unfold t172; simp (disch := omega) only [TRa, TRi, aa]; exact NK (a2.length + 1) a0 a1 h1 h2 h3 a2 [] [] [] (a2.length + 1) (by omega) rfl rfl hb (by simpa using h4)
theorem Fz : ER 172 (mkE NF.en NF.ex f172) := an ai Kt.right (fun m => [Cn (oP m m)]) (t := t172) (by kernel_rfl) (fun m => (aF (NP m m) aB)) (fun m a => by kernel_rfl) fun (a0, a1, a2) hc => Ks a0 a1 a2 hc
def Ee : Tb Tryz.prog LQ TE := Kt.add 172 _ Fz
def ET : aD := ⟨Ee.tab, 166, ⟨[.int .i64, .ints .i64], [], 0⟩, ⟨[.buf 0 1], [.ints .i64], 0⟩, []⟩
abbrev xJ : Type := Int × Int × Int × Int × List Int × List Int
abbrev kH : Type := Int × List Int × List Int
abbrev yk : Type := Int × Int × Int × List Int × List Int
def rZ (m : Nat) (k1 : kH -> Option (List Un)) (k : xJ -> Option (List Un)) : xJ -> Option (List Un) := fun (a0, a1, a2, a3, a4, a5) =>
 bif decide (a3 < a2) then
 chk (inb a3 a5.length) <|
 chk (decide (a3.toNat < a5.length)) <|
 chk (inb a1 a5.length) <|
 chk (decide (a1.toNat < a5.length)) <|
 bif (decide ((a5.getD a3.toNat 0) > (a5.getD a1.toNat 0))) then
 k (a0, a3, a2, (w64 (a3 + 1)), a4, a5)
 else
 k (a0, a1, a2, (w64 (a3 + 1)), a4, a5)
 else
 chk (inb a1 a4.length) <|
 chk (decide (a1.toNat < a4.length)) <|
 chk (inb a1 a4.length) <|
 chk (decide (a1.toNat < a4.length)) <|
 chk (inb a1 a5.length) <|
 chk (decide (a1.toNat < a5.length)) <|
 k1 ((w64 (a0 - 1)), (List.set a4 a1.toNat (w64 ((a4.getD a1.toNat 0) + 1))), (List.set a5 a1.toNat 0))
def pF (m : Nat) (k1 : kH -> Option (List Un)) : Nat -> xJ -> Option (List Un) := bf (rZ m k1)
theorem qf (m : Nat) (k1 : kH -> Option (List Un)) (n : Nat) : pF m k1 (n + 1) = rZ m k1 (pF m k1 n) := rfl
def Bh (F : xJ -> Option (List Un)) : aQ := ⟨[.lp [0, 1, 0, 1, 0, 0, 1, 0, 0, 0, 1, 1, 1, 1, 1, 1, 1, 1], .blk 4, .code [1, 1, 0, 0, 1, 0, 0, 0, 1, 1, 1, 1, 1, 1, 1, 1], .blk 3, .code [1, 1, 0, 0, 0, 1, 1, 1, 1, 1, 1, 1, 1], .lp [0, 0, 1, 1, 1, 1, 1, 1, 1, 1], .blk 2, .code [1, 1, 1, 1, 1, 1, 1, 1, 1]], ⟨frm 80 [(7, .buf 0 1), (8, .buf 1 1), (9, .int .i64), (12, .int .i64), (55, .int .i64), (56, .int .i64)], [.ints .i64, .ints .u64], 0⟩, onU F⟩
def rW (m : Nat) (k : kH -> Option (List Un)) : kH -> Option (List Un) := fun (a0, a1, a2) =>
 bif decide (a0 > 0) then
 pF m k m (a0, 0, (a2.length : Int), 0, a1, a2)
 else
 some ([.l a1])
def lz (m : Nat) : Nat -> kH -> Option (List Un) := bf (rW m)
theorem qh (m : Nat) (n : Nat) : lz m (n + 1) = rW m (lz m n) := rfl
def ym (F : kH -> Option (List Un)) : aQ := ⟨[.lp [0, 0, 1, 1, 1, 1, 1, 1, 1, 1], .blk 2, .code [1, 1, 1, 1, 1, 1, 1, 1, 1]], ⟨frm 80 [(7, .buf 0 1), (8, .buf 1 1), (9, .int .i64)], [.ints .i64, .ints .u64], 0⟩, onU F⟩
def ri (m : Nat) (k : yk -> Option (List Un)) : yk -> Option (List Un) := fun (a0, a1, a2, a3, a4) =>
 bif decide (a2 < a1) then
 chk (inb a2 a3.length) <|
 chk (decide (a2.toNat < a3.length)) <|
 k ((w64 (a0 - (a3.getD a2.toNat 0))), a1, (w64 (a2 + 1)), a3, a4)
 else
 lz m m (a0, a3, a4)
def oO (m : Nat) : Nat -> yk -> Option (List Un) := bf (ri m)
theorem ql (m : Nat) (n : Nat) : oO m (n + 1) = ri m (oO m n) := rfl
def Bj (F : yk -> Option (List Un)) : aQ := ⟨[.lp [0, 1, 0, 1, 1, 1, 1, 1, 1, 1], .blk 0, .code [1, 1, 1, 1, 1, 1, 1, 1]], ⟨frm 80 [(7, .buf 0 1), (8, .buf 1 1), (9, .int .i64), (40, .buf 0 1), (41, .int .i64), (42, .int .i64)], [.ints .i64, .ints .u64], 0⟩, onU F⟩
theorem Nd (m : Nat) (k1 : kH -> Option (List Un)) (h1 : HO ET (ym k1)) : ∀ n, HO ET (Bh (pF m k1 n)) := ax ai Ee.right (fun k => [ym k1, Bh k]) (fun k h => (aF h1 (aF h aB))) fun k a => by kernel_rfl
theorem Lv (m : Nat) : ∀ n, HO ET (ym (lz m n)) := ax ai Ee.right (fun k => [Bh (pF m (k) m)]) (fun k h => (aF (Nd m _ h m) aB)) fun k a => by kernel_rfl
theorem Ly (m : Nat) : ∀ n, HO ET (Bj (oO m n)) := ax ai Ee.right (fun k => [Bj k, ym (lz m m)]) (fun k h => (aF h (aF (Lv m m) aB))) fun k a => by kernel_rfl
def t166 (m : Nat) : Int × List Int -> Option (List Un) := fun (a0, a1) =>
 chk (decide (a1.length < 1099511627776)) <|
 bif !(jZ a1) then
 chk (kj (a1.length : Int) 8) <|
 some ([.l (List.replicate a1.length 0)])
 else
 lt ((if a0 < 0 then 0 else a0) : Int) fun x2 =>
 bif decide (x2 >= (gq a1)) then
 chk (fits (0 + a1.length) 8) <|
 some ([.l a1])
 else
 chk (decide (0 <= x2 /\ x2 < (gq a1) /\ (gq a1) <= 1152921504606846976 /\ a1.length < 1099511627776) && o9 a1) <|
 lt ((bw x2 (gq a1) a1) : List Int) fun l3 =>
 oO m m (x2, (l3.length : Int), 0, l3, (hJ x2 (gq a1) a1))
theorem Fe (m : Nat) (k1 : kH -> Option (List Un)) (left : Int) (out lost : List Int) (h1 : 0 < left) (h2 : left < 4611686018427387904) (hl : out.length = lost.length) (hs : lost.length < 1099511627776)
 (hb : ∀ x ∈ out, 0 <= x /\ x < 4611686018427387904) : ∀ (rest pre : List Int) (b n : Nat), rest.length < n -> lost = pre ++ rest -> b < lost.length ->
 pF m k1 n (left, (b : Int), (lost.length : Int), (pre.length : Int), out, lost) =
  k1 (left - 1, out.set (jh lost rest pre.length b) (out.getD (jh lost rest pre.length b) 0 + 1), lost.set (jh lost rest pre.length b) 0) := by
 intro rest
 induction rest with
 | nil =>
  intro pre b n hn he hlt; obtain ⟨n, rfl⟩ := ak n (by simp at hn; omega); have hp : pre.length = lost.length := by rw [he]; simp
  have hm := hb _ (iF (l := out) (i := b) (by omega)); rw [qf]; unfold rZ; dsimp only; simp only [jh, Int.toNat_natCast]; simp (disch := omega) only [TRa, TRi, aa]
 | cons x rest ih =>
  intro pre b n hn he hlt; obtain ⟨n, rfl⟩ := ak n (by simp at hn; omega); have hp : lost.length = pre.length + (rest.length + 1) := by rw [he]; simp
  have hg : lost.getD pre.length 0 = x := by rw [he]; simp
  rw [qf]; unfold rZ; dsimp only; simp only [jh, Int.toNat_natCast, hg]; have i1 := ih (pre ++ [x]) pre.length n (by simp at hn; omega) (by rw [he]; simp) (by omega); have i2 := ih (pre ++ [x]) b n (by simp at hn; omega) (by rw [he]; simp) hlt; simp only [List.length_append, List.length_cons, List.length_nil, Int.natCast_add, Nat.zero_add, Int.cast_ofNat_Int] at i1 i2
  by_cases c : x > lost.getD b 0
  · simp (disch := omega) only [TRa, TRi, aa]; exact i1
  · simp (disch := omega) only [TRa, TRi, aa]; exact i2
theorem F7 (m : Nat) : ∀ (k : Nat) (left : Int) (out lost : List Int) (n : Nat), left.toNat = k -> k < n -> left < 4611686018427387904 -> out.length = lost.length -> lost.length < 1099511627776 -> lost.length < m -> lost ≠ [] -> (∀ x ∈ out, 0 <= x /\ x + left < 4611686018427387904) ->
 lz m n (left, out, lost) = some [.l (gh 0 k out lost)] := by
 intro k
 induction k with
 | zero =>
  intro left out lost n hk hn h2 hl hs hm hne hb; obtain ⟨n, rfl⟩ := ak n (by omega); rw [qh]; unfold rW; dsimp only; simp only [gh]; rw [aC (by omega)]
 | succ k ih =>
  intro left out lost n hk hn h2 hl hs hm hne hb; obtain ⟨n, rfl⟩ := ak n (by omega); rw [qh]; unfold rW; dsimp only; have hB := jL hne; rw [bT (by omega)]; have := Fe m (lz m n) left out lost (by omega) h2 hl hs (fun x hx => by have := hb x hx; omega) lost [] 0 m hm rfl (List.length_pos_iff.2 hne); simp only [List.length_nil, Int.natCast_zero] at this; refine this.trans ?_
  have hq := hb _ (iF (l := out) (i := di lost) (by omega)); rw [show jh lost lost 0 0 = di lost from rfl]; refine ih _ _ _ _ (by omega) (by omega) (by omega) (by simp [hl]) (by simpa using hs) (by simpa using hm) (by intro h; simp at h; exact hne h) (fun x hx => ?_); rcases List.mem_or_eq_of_mem_set hx with h | h
  · have := hb x h; omega
  · omega
theorem Pv (m : Nat) (lost : List Int) : ∀ (rest pre : List Int) (left : Int) (n : Nat), rest.length < n -> (∀ x ∈ rest, 0 <= x /\ x <= 1152921504606846976) -> -1152921504606846976 <= left - rest.sum -> left <= 1152921504606846976 -> (pre ++ rest).length < 1099511627776 ->
 oO m n (left, ((pre ++ rest).length : Int), (pre.length : Int), pre ++ rest, lost) = lz m m (left - rest.sum, pre ++ rest, lost) := by
 intro rest
 induction rest with
 | nil =>
  intro pre left n hn hb h1 h2 h3; obtain ⟨n, rfl⟩ := ak n (by simp at hn; omega); rw [ql]; unfold ri; dsimp only; simp [aC]
 | cons x rest ih =>
  intro pre left n hn hb h1 h2 h3; obtain ⟨n, rfl⟩ := ak n (by simp at hn; omega); simp only [List.length_append, List.length_cons] at h3 hn; have hx := hb x (by simp); have hs := dP rest (fun y hy => (hb y (by simp [hy])).1); rw [List.sum_cons] at h1 ⊢; rw [ql]; unfold ri; dsimp only; have := ih (pre ++ [x]) (left - x) n (by omega) (fun y hy => hb y (by simp [hy])) (by omega) (by omega) (by simp; omega); rw [show left - (x + rest.sum) = left - x - rest.sum by omega]; simp (disch := omega) only [TRa, TRi, aa, LNl, LNi, Int.cast_ofNat_Int, bZ]; simp only [LNl, LNi, Int.cast_ofNat_Int] at this ⊢; exact this
def f166 : Int × List Int -> Bool × List Un := fun (a0, a1) => (decide (a0 <= 9223372036854775807 /\ a1.length < 1099511627776), [.l (cm a0 a1)])
theorem KC (a0 : Int) (a1 : List Int) (hc : (decide (a0 <= 9223372036854775807 /\ a1.length < 1099511627776)) = true) : ∃ m, t166 m (a0, a1) = some ([.l (cm a0 a1)]) := by
 obtain ⟨h1, h2⟩ := of_decide_eq_true hc; clear hc; refine ⟨1152921504606846976 + a1.length + 2, ?_⟩; unfold t166 cm; dsimp only; rw [aN h2]; cases hok : jZ a1 with
 | false =>
  simp only [Bool.not_false, cond_true]; simp (disch := omega) only [TRa, TRi, aa]
 | true =>
  simp only [Bool.not_true, cond_false]; obtain ⟨hb, hs, hs2⟩ := jU hok; simp only [lt_eq]; rw [kO a0 0]; generalize hn : max a0 0 = a; have ha : 0 <= a := by omega
  have hr : o9 a1 = true := tF.2 hb
  by_cases hge : a >= gq a1
  · simp only [show decide (a >= gq a1) = true by simpa using hge, cond_true]; simp (disch := omega) only [TRa, TRi, aa, Nat.zero_add]
  · simp only [show decide (a >= gq a1) = false by simpa using hge, cond_false]; obtain ⟨f1, f2, f3⟩ := yN (l := a1) ha (show a < gq a1 by omega) hb; have hlf : (bw a (gq a1) a1).length = a1.length := by simp [bw]
    have hlr : (hJ a (gq a1) a1).length = a1.length := by simp [hJ]
    have hne : a1 ≠ [] := by rintro rfl; simp at hs; omega
    have e1 := Pv (1152921504606846976 + a1.length + 2) (hJ a (gq a1) a1) (bw a (gq a1) a1) [] a (1152921504606846976 + a1.length + 2) (by omega) f1 (by omega) (by omega) (by simp; omega); have e2 := F7 (1152921504606846976 + a1.length + 2) _ (a - (bw a (gq a1) a1).sum) (bw a (gq a1) a1) (hJ a (gq a1) a1) (1152921504606846976 + a1.length + 2) rfl (by omega) (by omega) (by omega) (by omega) (by omega)
     (by intro h; have := congrArg List.length h; rw [hlr] at this; exact hne (List.eq_nil_of_length_eq_zero this)) (fun x hx => by have := f1 x hx; omega)
    rw [hr, Bool.and_true]; simp (disch := omega) only [aN]; exact e1.trans e2
theorem FP : ER 166 (mkE ET.en ET.ex f166) := an ai Ee.right (fun m => [Bj (oO m m)]) (t := t166) (by kernel_rfl) (fun m => (aF (Ly m m) aB)) (fun m a => by kernel_rfl) fun (a0, a1) hc => KC a0 a1 hc
def Fu : Tb Tryz.prog LQ TE := Ee.add 166 _ FP
end
end Go.Proofs.YtdbkoeefnodejaaGreat
namespace Go.Proofs.YtdbkoeefnodejaaGreat
noncomputable section
open Go Go.Proofs.YtdbkoeefnodejaaGreat.Ev
set_option maxRecDepth 20000
@[ext] structure ba where
 ay : Int
 fee : Int
 bz : Int
 aq : Int
 room : Int
instance : Uns ba := Uns.via (B := Int × Int × Int × Int × Int) (fun x => (x.ay, x.fee, x.bz, x.aq, x.room)) (fun x => match x with | (ay, fee, bz, aq, room) => ⟨ay, fee, bz, aq, room⟩) (fun _ => rfl)
def isN : Dat -> Bool
 | .n _ => true
 | .r _ => false
def lj (k : Nat) : Dat -> Bool
 | .r l => l.length == k && l.all isN
 | .n _ => false
theorem Bo : ∀ {d : Dat}, isN d = true -> d = .n d.int
 | .n _, _ => rfl
 | .r _, h => by cases h
theorem B2 {d : Dat} (h : lj 3 d = true) : d = .r [.n (d.i 0), .n (d.i 1), .n (d.i 2)] := by
 match d, h with
 | .r [a, b, c], h =>
  simp [lj] at h; obtain ⟨h1, h2, h3⟩ := h; show Dat.r [a, b, c] = .r [.n a.int, .n b.int, .n c.int]; rw [<- Bo h1, <- Bo h2, <- Bo h3]
 | .r [], h => simp [lj] at h
 | .r [a], h => simp [lj] at h
 | .r [a, b], h => simp [lj] at h
 | .r (a :: b :: c :: d :: l), h => simp [lj] at h
def jt (d : Dat) : Bool := lj 3 d && decide (0 <= d.i 1 /\ d.i 1 <= 1125899906842624 /\ 0 <= d.i 2 /\ d.i 2 <= 1125899906842624)
theorem cf {d : Dat} (h : jt d = true) : lj 3 d = true /\ 0 <= d.i 1 /\ d.i 1 <= 1125899906842624 /\ 0 <= d.i 2 /\ d.i 2 <= 1125899906842624 := by
 simp only [jt, Bool.and_eq_true, decide_eq_true_eq] at h; exact h
def aP (c : List Dat) : Bool := decide (c.length <= 1000) && c.all jt
theorem bC {c : List Dat} (h : aP c = true) : c.length <= 1000 /\ ∀ d ∈ c, jt d = true := by
 simp only [aP, Bool.and_eq_true, decide_eq_true_eq, List.all_eq_true] at h; exact h
theorem uJ {c : List Dat} (h1 : c.length <= 1000) (h2 : ∀ d ∈ c, jt d = true) : aP c = true := by
 simp only [aP, Bool.and_eq_true, decide_eq_true_eq, List.all_eq_true]; exact ⟨h1, h2⟩
def bW (j : Nat) (x : Int) (d : Dat) : Dat := if j = 1 then .r [.n (d.i 0), .n (d.i 1 - x), .n (d.i 2)] else .r [.n (d.i 0), .n (d.i 1), .n (d.i 2 - x)]
def bG (j : Nat) : List Int -> List Dat -> List Dat
 | x :: xs, d :: c => bW j x d :: bG j xs c
 | _, _ => []
def bA (at_ kind : Int) : Int -> List Int -> List Dat
 | _, [] => []
 | i, x :: xs => (if 0 < x then [.r [.n at_, .n kind, .n i, .n x]] else []) ++ bA at_ kind (i + 1) xs
def jv (at_ kind n : Int) : List Dat := if 0 < n then [.r [.n at_, .n kind, .n (-1), .n n]] else []
def aw (sel : Dat -> Bool) (j : Nat) (n : Int) (c : List Dat) : List Int := cm n (c.map fun d => bif sel d then d.i j else 0)
def aH (r : Int) (d : Dat) : Bool := d.i 0 == r
def bp (at_ kind : Int) : Nat -> Int -> Int -> List Dat -> List Dat × List Dat × Int
 | 0, _, _, c => (c, [], 0)
 | k + 1, r, n, c =>
  ((bp at_ kind k (r + 1) (n - (aw (aH r) 1 n c).sum) (bG 1 (aw (aH r) 1 n c) c)).1,
   bA at_ kind 0 (aw (aH r) 1 n c) ++ (bp at_ kind k (r + 1) (n - (aw (aH r) 1 n c).sum) (bG 1 (aw (aH r) 1 n c) c)).2.1,
   (aw (aH r) 1 n c).sum + (bp at_ kind k (r + 1) (n - (aw (aH r) 1 n c).sum) (bG 1 (aw (aH r) 1 n c) c)).2.2)
def de (at_ kind rank : Int) (x : ba) (c : List Dat) : ba × List Dat × List Dat :=
 if kind = 1 then ({ x with ay := x.ay - min x.fee x.ay, fee := x.fee - min x.fee x.ay }, c, jv at_ kind (min x.fee x.ay))
 else if kind = 2 then ({ x with ay := x.ay - min x.bz x.ay, bz := x.bz - min x.bz x.ay }, c, jv at_ kind (min x.bz x.ay))
 else if kind = 6 then ({ x with ay := x.ay - min x.room x.ay, room := x.room - min x.room x.ay }, c, jv at_ kind (min x.room x.ay))
 else if kind = 3 then ({ x with ay := x.ay - (aw (aH rank) 2 x.ay c).sum }, bG 2 (aw (aH rank) 2 x.ay c) c, bA at_ kind 0 (aw (aH rank) 2 x.ay c))
 else if kind = 4 then ({ x with ay := x.ay - (bp at_ kind 8 0 (min x.aq x.ay) c).2.2, aq := x.aq - (bp at_ kind 8 0 (min x.aq x.ay) c).2.2 }, (bp at_ kind 8 0 (min x.aq x.ay) c).1, (bp at_ kind 8 0 (min x.aq x.ay) c).2.1)
 else if kind = 5 then ({ x with ay := x.ay - (aw (fun _ => true) 1 (min x.aq x.ay) c).sum, aq := x.aq - (aw (fun _ => true) 1 (min x.aq x.ay) c).sum }, bG 1 (aw (fun _ => true) 1 (min x.aq x.ay) c) c, bA at_ kind 0 (aw (fun _ => true) 1 (min x.aq x.ay) c))
 else if kind = 7 then ({ x with ay := x.ay - (bp at_ kind 8 0 x.ay c).2.2 }, (bp at_ kind 8 0 x.ay c).1, (bp at_ kind 8 0 x.ay c).2.1)
 else (x, c, [])
def dn : Int -> List Dat -> ba -> List Dat -> ba × List Dat × List Dat
 | _, [], x, c => (x, c, [])
 | at_, s :: l, x, c => ((dn (at_ + 1) l (de at_ (s.i 0) (s.i 1) x c).1 (de at_ (s.i 0) (s.i 1) x c).2.1).1, (dn (at_ + 1) l (de at_ (s.i 0) (s.i 1) x c).1 (de at_ (s.i 0) (s.i 1) x c).2.1).2.1, (de at_ (s.i 0) (s.i 1) x c).2.2 ++ (dn (at_ + 1) l (de at_ (s.i 0) (s.i 1) x c).1 (de at_ (s.i 0) (s.i 1) x c).2.1).2.2)
def mK (x : ba) : Bool := decide ((0 <= x.ay /\ x.ay <= 1152921504606846976) /\ (0 <= x.fee /\ x.fee <= 1152921504606846976) /\ (0 <= x.bz /\ x.bz <= 1152921504606846976) /\ (0 <= x.aq /\ x.aq <= 1152921504606846976) /\ (0 <= x.room /\ x.room <= 1152921504606846976))
theorem rX {x : ba} (h : mK x = true) : (0 <= x.ay /\ x.ay <= 1152921504606846976) /\ (0 <= x.fee /\ x.fee <= 1152921504606846976) /\ (0 <= x.bz /\ x.bz <= 1152921504606846976) /\ (0 <= x.aq /\ x.aq <= 1152921504606846976) /\ (0 <= x.room /\ x.room <= 1152921504606846976) := of_decide_eq_true h
def Dc (sel : Dat -> Bool) (j : Nat) (c : List Dat) : Int := (c.map fun d => bif sel d then d.i j else 0).sum
theorem lN {c : List Dat} (sel : Dat -> Bool) {j : Nat} (hj : j = 1 \/ j = 2) (h : aP c = true) : (∀ x ∈ (c.map fun d => bif sel d then d.i j else 0), 0 <= x /\ x <= 1125899906842624) /\ jZ (c.map fun d => bif sel d then d.i j else 0) = true /\ 0 <= Dc sel j c /\ Dc sel j c <= 1125899906842624 * c.length := by
 obtain ⟨h1, h2⟩ := bC h; have hb : ∀ x ∈ (c.map fun d => bif sel d then d.i j else 0), 0 <= x /\ x <= 1125899906842624 := by
  intro x hx; obtain ⟨d, hd, rfl⟩ := List.mem_map.1 hx; have := cf (h2 d hd); cases sel d
  · simp only [cond_false]; omega
  · rcases hj with rfl | rfl <;> simp only [cond_true] <;> omega
 have hl : (c.map fun d => bif sel d then d.i j else 0).length = c.length := by simp
 have hm : ((c.map fun d => bif sel d then d.i j else 0).length : Int) * 1125899906842624 <= 1152921504606846976 := by rw [hl]; omega
 have hs := o8 _ 1125899906842624 (by decide) hb; rw [hl] at hs; exact ⟨hb, (rJ (by decide) hb hm).2, hs.1, by unfold Dc; omega⟩
theorem AD {n : Int} {l : List Int} (h : n <= 0) : cm n l = cm 0 l := by
 unfold cm; rw [show max n 0 = max 0 0 by omega]
theorem dK {c : List Dat} (sel : Dat -> Bool) {j : Nat} (hj : j = 1 \/ j = 2) (n : Int) (h : aP c = true) : (aw sel j n c).length = c.length /\ (aw sel j n c).sum = min (max n 0) (Dc sel j c) /\ ∀ i, i < c.length -> 0 <= (aw sel j n c).getD i 0 /\ (aw sel j n c).getD i 0 <= bif sel (ae c i) then (ae c i).i j else 0 := by
 obtain ⟨hb, ho, hw0, hw1⟩ := lN sel hj h; have e : aw sel j n c = cm (max n 0) (c.map fun d => bif sel d then d.i j else 0) := by
  by_cases hn : 0 <= n
  · rw [show max n 0 = n by omega]; rfl
  · rw [show max n 0 = 0 by omega]; exact AD (by omega)
 rw [e]; obtain ⟨h1, h2⟩ := Ax (a := max n 0) (by omega) ho; refine ⟨by rw [u7]; simp, h1, fun i hi => ?_⟩; have := h2 i (by simpa using hi)
 rwa [show (c.map fun d => bif sel d then d.i j else 0).getD i 0 = bif sel (ae c i) then (ae c i).i j else 0 by simp [List.getD_eq_getElem?_getD, hi, ae]] at this
theorem mo (j : Nat) : ∀ (xs : List Int) (c : List Dat), xs.length = c.length -> (bG j xs c).length = c.length
 | [], [], _ => rfl
 | x :: xs, d :: c, h => by simp [bG, mo j xs c (by simpa using h)]
 | [], _ :: _, h => by simp at h
 | _ :: _, [], h => by simp at h
theorem lV (j : Nat) : ∀ (xs : List Int) (c : List Dat) (i : Nat), xs.length = c.length -> i < c.length -> ae (bG j xs c) i = bW j (xs.getD i 0) (ae c i)
 | [], [], i, _, h => by simp at h
 | x :: xs, d :: c, 0, _, _ => rfl
 | x :: xs, d :: c, i + 1, h, hi => lV j xs c i (by simpa using h) (by simpa using hi)
 | [], _ :: _, _, h, _ => by simp at h
 | _ :: _, [], _, h, _ => by simp at h
theorem oy {l : List Dat} {d : Dat} (h : d ∈ l) : ∃ i, i < l.length /\ ae l i = d := by
 obtain ⟨i, hi, rfl⟩ := List.getElem_of_mem h; exact ⟨i, hi, mf hi⟩
theorem mu {l : List Dat} {i : Nat} (h : i < l.length) : ae l i ∈ l := by rw [mf h]; exact List.getElem_mem h
theorem Am {d : Dat} {j : Nat} {x : Int} (hj : j = 1 \/ j = 2) (h : jt d = true) (h0 : 0 <= x) (h1 : x <= d.i j) : jt (bW j x d) = true := by
 have := cf h; rcases hj with rfl | rfl
 · simp only [bW, if_true, jt, Bool.and_eq_true, decide_eq_true_eq, dQ, gr]; exact ⟨rfl, by omega⟩
 · simp only [bW, show ¬ (2 : Nat) = 1 by decide, if_false, jt, Bool.and_eq_true, decide_eq_true_eq, dQ, gr]; exact ⟨rfl, by omega⟩
theorem oG {c : List Dat} (sel : Dat -> Bool) {j : Nat} (hj : j = 1 \/ j = 2) (n : Int) (h : aP c = true) : aP (bG j (aw sel j n c) c) = true /\ (bG j (aw sel j n c) c).length = c.length := by
 obtain ⟨l1, l2, l3⟩ := dK sel hj n h; obtain ⟨h1, h2⟩ := bC h; have hl := mo j _ c l1; refine ⟨uJ (by omega) fun d hd => ?_, hl⟩; obtain ⟨i, hi, rfl⟩ := oy hd; rw [hl] at hi; rw [lV j _ c i l1 hi]; have := l3 i hi; have hg := h2 _ (mu hi); refine Am hj hg this.1 ?_
 have h4 := cf hg; cases hs : sel (ae c i) <;> rw [hs] at this
 · rcases hj with rfl | rfl <;> simp only [cond_false] at this <;> omega
 · exact this.2
theorem iT (a k : Int) : ∀ (xs : List Int) (i : Int), (bA a k i xs).length <= xs.length
 | [], i => by simp [bA]
 | x :: xs, i => by
  have := iT a k xs (i + 1); simp only [bA, List.length_append, List.length_cons]
  split <;> simp <;> omega
theorem BL (a k n : Int) : (jv a k n).length <= 1 := by unfold jv; split <;> simp
theorem sF (a kd : Int) : ∀ (k : Nat) (r n : Int) (c : List Dat), aP c = true -> aP (bp a kd k r n c).1 = true /\ (bp a kd k r n c).1.length = c.length /\ (bp a kd k r n c).2.1.length <= k * c.length /\ 0 <= (bp a kd k r n c).2.2 /\ (bp a kd k r n c).2.2 <= max n 0
 | 0, r, n, c, h => ⟨h, rfl, by simp [bp], by simp [bp], by simp only [bp]; omega⟩
 | k + 1, r, n, c, h => by
  obtain ⟨g1, g2⟩ := oG (aH r) (j := 1) (.inl rfl) n h; obtain ⟨l1, l2, l3⟩ := dK (aH r) (j := 1) (.inl rfl) n h; obtain ⟨_, _, w0, w1⟩ := lN (aH r) (j := 1) (.inl rfl) h; obtain ⟨i1, i2, i3, i4, i5⟩ := sF a kd k (r + 1) (n - (aw (aH r) 1 n c).sum) _ g1; have hp := iT a kd (aw (aH r) 1 n c) 0; simp only [bp]; refine ⟨i1, by omega, ?_, by omega, by omega⟩; rw [List.length_append, Nat.add_mul]; rw [g2] at i3; omega
theorem uI (a kd rk : Int) {x : ba} {c : List Dat} (hx : mK x = true) (h : aP c = true) : mK (de a kd rk x c).1 = true /\ aP (de a kd rk x c).2.1 = true /\ (de a kd rk x c).2.1.length = c.length /\ (de a kd rk x c).2.2.length <= 8000 := by
 have hx' := rX hx; have hc := (bC h).1; have p1 := BL a kd; have s2 := fun sel j hj n => dK (c := c) sel (j := j) hj n h
 have w2 := fun sel j hj => (lN (c := c) sel (j := j) hj h).2.2
 have g2 := fun sel j hj n => oG (c := c) sel (j := j) hj n h
 have r2 := fun n => sF a kd 8 0 n c h
 unfold de
 by_cases k1 : kd = 1
 · rw [if_pos k1]; exact ⟨decide_eq_true (by simp only; omega), h, rfl, by have := p1 (min x.fee x.ay); simp only; omega⟩
 rw [if_neg k1]
 by_cases k1 : kd = 2
 · rw [if_pos k1]; exact ⟨decide_eq_true (by simp only; omega), h, rfl, by have := p1 (min x.bz x.ay); simp only; omega⟩
 rw [if_neg k1]
 by_cases k1 : kd = 6
 · rw [if_pos k1]; exact ⟨decide_eq_true (by simp only; omega), h, rfl, by have := p1 (min x.room x.ay); simp only; omega⟩
 rw [if_neg k1]
 by_cases k1 : kd = 3
 · rw [if_pos k1]; have q1 := s2 (aH rk) 2 (.inr rfl) x.ay; have q2 := w2 (aH rk) 2 (.inr rfl); have q3 := g2 (aH rk) 2 (.inr rfl) x.ay; have q4 := iT a kd (aw (aH rk) 2 x.ay c) 0; exact ⟨decide_eq_true (by simp only; omega), q3.1, q3.2, by simp only; omega⟩
 rw [if_neg k1]
 by_cases k1 : kd = 4
 · rw [if_pos k1]; have q := r2 (min x.aq x.ay); generalize bp a kd 8 0 (min x.aq x.ay) c = y at *
   exact ⟨decide_eq_true (by simp only; omega), q.1, q.2.1, by simp only; omega⟩
 rw [if_neg k1]
 by_cases k1 : kd = 5
 · rw [if_pos k1]; have q1 := s2 (fun _ => true) 1 (.inl rfl) (min x.aq x.ay); have q2 := w2 (fun _ => true) 1 (.inl rfl); have q3 := g2 (fun _ => true) 1 (.inl rfl) (min x.aq x.ay); have q4 := iT a kd (aw (fun _ => true) 1 (min x.aq x.ay) c) 0; exact ⟨decide_eq_true (by simp only; omega), q3.1, q3.2, by simp only; omega⟩
 rw [if_neg k1]
 by_cases k1 : kd = 7
 · rw [if_pos k1]; have q := r2 x.ay; generalize bp a kd 8 0 x.ay c = y at *
   exact ⟨decide_eq_true (by simp only; omega), q.1, q.2.1, by simp only; omega⟩
 rw [if_neg k1]; exact ⟨hx, h, rfl, by simp⟩
theorem DU : ∀ (l : List Dat) (a : Int) (x : ba) (c : List Dat), mK x = true -> aP c = true -> mK (dn a l x c).1 = true /\ aP (dn a l x c).2.1 = true /\ (dn a l x c).2.1.length = c.length /\ (dn a l x c).2.2.length <= 8000 * l.length
 | [], a, x, c, hx, h => ⟨hx, h, rfl, by simp [dn]⟩
 | s :: l, a, x, c, hx, h => by
  obtain ⟨h1, h2, h3, h4⟩ := uI a (s.i 0) (s.i 1) hx h; obtain ⟨i1, i2, i3, i4⟩ := DU l (a + 1) _ _ h1 h2; simp only [dn, List.length_append, List.length_cons]; exact ⟨i1, i2, by omega, by omega⟩
def fW (sel : Dat -> Bool) : Int -> List Dat -> List Int
 | _, [] => []
 | i, d :: c => bif sel d then i :: fW sel (i + 1) c else fW sel (i + 1) c
def cV (sel : Dat -> Bool) (j : Nat) : List Dat -> List Int
 | [] => []
 | d :: c => bif sel d then d.i j :: cV sel j c else cV sel j c
def jS (j : Nat) : List Int -> List Int -> List Dat -> List Dat
 | w :: ws, x :: xs, c => jS j ws xs (c.set w.toNat (bW j x (ae c w.toNat)))
 | _, _, c => c
def qZ (at_ kind : Int) : List Int -> List Int -> List Dat
 | w :: ws, x :: xs => (if 0 < x then [.r [.n at_, .n kind, .n w, .n x]] else []) ++ qZ at_ kind ws xs
 | _, _ => []
theorem ES {j : Nat} {d : Dat} (h : lj 3 d = true) : bW j 0 d = d := by
 have e := B2 h; unfold bW; rw [Int.sub_zero, Int.sub_zero, <- e]
 split <;> rfl
theorem mD (sel : Dat -> Bool) (j : Nat) : ∀ (rest pre : List Dat) (xs : List Int), xs.length = bt (rest.map sel) -> (∀ d ∈ rest, lj 3 d = true) ->
 jS j (fW sel pre.length rest) xs (pre ++ rest) = pre ++ bG j (bu (rest.map sel) xs) rest
 | [], pre, xs, h, _ => by rw [List.eq_nil_of_length_eq_zero h]; simp [fW, jS, bG, bu]
 | d :: rest, pre, xs, h, hr => by
  have ih := fun xs h y => mD sel j rest (pre ++ [y]) xs h (fun z hz => hr z (by simp [hz]))
  simp only [List.length_append, List.length_cons, List.length_nil, List.append_assoc, List.cons_append, List.nil_append, Int.natCast_add, Int.cast_ofNat_Int, Nat.zero_add] at ih; simp only [List.map_cons] at h; cases hs : sel d
  · rw [hs] at h; simp only [fW, hs, cond_false, List.map_cons, bu, bG]; rw [ES (hr d (by simp)), <- ih xs h d]
  · rw [hs] at h; cases xs with
    | nil => simp [bt] at h
    | cons x xs =>
     simp only [fW, hs, cond_true, List.map_cons, bu, bG, jS, Int.toNat_natCast, Dt, ao, List.headD_cons, List.tail_cons]; exact ih xs (by simpa [bt] using h) _
theorem oD (a k : Int) (sel : Dat -> Bool) : ∀ (rest : List Dat) (i : Int) (xs : List Int), xs.length = bt (rest.map sel) -> qZ a k (fW sel i rest) xs = bA a k i (bu (rest.map sel) xs)
 | [], i, xs, h => by rw [List.eq_nil_of_length_eq_zero h]; rfl
 | d :: rest, i, xs, h => by
  have ih := fun xs h => oD a k sel rest (i + 1) xs h
  simp only [List.map_cons] at h; cases hs : sel d
  · rw [hs] at h; simp only [fW, hs, cond_false, List.map_cons, bu, bA]; rw [ih xs h]; rfl
  · rw [hs] at h; cases xs with
    | nil => simp [bt] at h
    | cons x xs =>
     simp only [fW, hs, cond_true, List.map_cons, bu, bA, qZ, List.headD_cons, List.tail_cons]; rw [ih xs (by simpa [bt] using h)]
theorem wS (sel : Dat -> Bool) (j : Nat) : ∀ c : List Dat, (c.map fun d => bif sel d then d.i j else 0) = bu (c.map sel) (cV sel j c)
 | [] => rfl
 | d :: c => by
  have := wS sel j c; simp only [List.map_cons, cV]; cases hs : sel d <;> simp [bu, this]
theorem tU (sel : Dat -> Bool) (j : Nat) : ∀ c : List Dat, (cV sel j c).length = bt (c.map sel)
 | [] => rfl
 | d :: c => by
  have := tU sel j c; cases hs : sel d <;> simp [cV, hs, bt, this]
theorem oN (sel : Dat -> Bool) : ∀ (c : List Dat) (i : Int), (fW sel i c).length = bt (c.map sel)
 | [], _ => rfl
 | d :: c, i => by
  have := oN sel c (i + 1); cases hs : sel d <;> simp [fW, hs, bt, this]
theorem jC : ∀ ms : List Bool, bt ms <= ms.length
 | [] => Nat.le_refl _
 | false :: ms => by have := jC ms; simp [bt]; omega
 | true :: ms => by have := jC ms; simp [bt]; omega
theorem nO (sel : Dat -> Bool) : ∀ (c : List Dat) (i : Int), ∀ w ∈ fW sel i c, i <= w /\ w < i + c.length
 | [], i, w, h => by simp [fW] at h
 | d :: c, i, w, h => by
  have ih := nO sel c (i + 1) w; simp only [List.length_cons, Int.natCast_add]; cases hs : sel d <;> simp only [fW, hs, cond_false, cond_true, List.mem_cons] at h
  · have := ih h; omega
  · rcases h with h | h
    · omega
    · have := ih h; omega
theorem nW (sel : Dat -> Bool) (j : Nat) : ∀ c : List Dat, ∀ x ∈ cV sel j c, ∃ d ∈ c, x = d.i j
 | [], x, h => by simp [cV] at h
 | d :: c, x, h => by
  cases hs : sel d <;> simp only [cV, hs, cond_false, cond_true, List.mem_cons] at h
  · obtain ⟨e, h1, h2⟩ := nW sel j c x h; exact ⟨e, by simp [h1], h2⟩
  · rcases h with h | h
    · exact ⟨d, by simp, h⟩
    · obtain ⟨e, h1, h2⟩ := nW sel j c x h; exact ⟨e, by simp [h1], h2⟩
theorem iZ (sel : Dat -> Bool) {j : Nat} (hj : j = 1 \/ j = 2) (n : Int) {c : List Dat} (h : aP c = true) : aw sel j n c = bu (c.map sel) (cm n (cV sel j c)) := by
 obtain ⟨h1, h2⟩ := bC h; unfold aw; rw [wS]; refine D6 (c.map sel) n (cV sel j c) (tU sel j c) 1125899906842624 (by decide) (fun x hx => ?_) (by simp; omega); obtain ⟨d, hd, rfl⟩ := nW sel j c x hx; have := cf (h2 d hd); rcases hj with rfl | rfl <;> omega
theorem uW (sel : Dat -> Bool) {j : Nat} (hj : j = 1 \/ j = 2) (n : Int) {c : List Dat} (h : aP c = true) : (cm n (cV sel j c)).length = bt (c.map sel) /\ (∀ x ∈ cm n (cV sel j c), 0 <= x /\ x <= 1125899906842624) /\ 0 <= (cm n (cV sel j c)).sum /\ (cm n (cV sel j c)).sum <= 1125899906842624000 /\ (cm n (cV sel j c)).sum = (aw sel j n c).sum := by
 obtain ⟨h1, h2⟩ := bC h; have hb : ∀ x ∈ cV sel j c, 0 <= x /\ x <= 1125899906842624 := fun x hx => by
  obtain ⟨d, hd, rfl⟩ := nW sel j c x hx; have := cf (h2 d hd); rcases hj with rfl | rfl <;> omega
 have hl := tU sel j c; have ht := jC (c.map sel); rw [List.length_map] at ht; have hok := (rJ (l := cV sel j c) (b := 1125899906842624) (by decide) hb (by omega)).2; have e : cm n (cV sel j c) = cm (max n 0) (cV sel j c) := by
  by_cases hn : 0 <= n
  · rw [show max n 0 = n by omega]
  · rw [show max n 0 = 0 by omega]; exact AD (by omega)
 obtain ⟨p1, p2⟩ := Ax (a := max n 0) (by omega) hok; have hm : ∀ x ∈ cm n (cV sel j c), 0 <= x /\ x <= 1125899906842624 := by
  intro x hx; obtain ⟨i, hi, rfl⟩ := oL hx; rw [u7] at hi; rw [e]; have := p2 i hi; have := hb _ (iF hi); omega
 have hlen : (cm n (cV sel j c)).length = bt (c.map sel) := by rw [u7, hl]
 have hs := o8 _ _ (by decide) hm; rw [hlen] at hs; refine ⟨hlen, hm, hs.1, by omega, ?_⟩; rw [iZ sel hj n h, lK _ _ hlen]
def Ig : aD := ⟨Fu.tab, 136, ⟨[.ptr 0 0 0, .int .i64, .fn 167 [] [.ptr 3 0 0], .fn 138 [] []], [.cells [.int .i64, .int .i64, .int .i64, .int .i64, .int .i64, .buf 1 3, .int .i64, .int .i64, .buf 2 4], .ag (sI 3), .ag (sI 4), .cells [.int .i64]], 0⟩, ⟨[.int .i64], [.cells [.int .i64, .int .i64, .int .i64, .int .i64, .int .i64, .buf 1 3, .int .i64, .int .i64, .buf 4 4], .ag (sI 3), .gone, .gone, .ag (sI 4)], 0⟩, []⟩
abbrev w7 : Type := Int × Int × Int × ba × Int × Int × List Dat × List Int × List Int × List Dat
abbrev yi : Type := Int × Int × Int × ba × Int × Int × List Dat × Int × List Int × List Int × List Dat
def r8 (m : Nat) (k : w7 -> Option (List Un)) : w7 -> Option (List Un) := fun (a0, a1, a2, a3, a4, a5, a6, a7, a8, a9) =>
 bif decide (a2 < a1) then
 chk (inb a2 a8.length) <|
 chk (decide (a2.toNat < a8.length)) <|
 chk (inb a2 a7.length) <|
 chk (decide (a2.toNat < a7.length)) <|
 chk (inb (a7.getD a2.toNat 0) a6.length) <|
 chk (decide ((a7.getD a2.toNat 0).toNat < a6.length)) <|
 chk (decide ((a7.getD a2.toNat 0).toNat < a6.length)) <|
 lt (ae a6 ((a7.getD a2.toNat 0).toNat) : Dat) fun d4 =>
 lt ((List.set a6 ((a7.getD a2.toNat 0).toNat) (.r [.n (d4.i 0), .n (d4.i 1), .n (w64 (((ae a6 ((a7.getD a2.toNat 0).toNat)).i 2) - (a8.getD a2.toNat 0)))])) : List Dat) fun l5 =>
 lt ((w64 (a0 + (a8.getD a2.toNat 0))) : Int) fun x6 =>
 chk (inb a2 a7.length) <|
 chk (decide (a2.toNat < a7.length)) <|
 bif (decide ((a8.getD a2.toNat 0) > 0)) then
 chk (fits (a9.length + 1) 32) <|
 k (x6, a1, (w64 (a2 + 1)), a3, a4, a5, l5, a7, a8, (a9 ++ ([.r [.n a4, .n a5, .n (a7.getD a2.toNat 0), .n (a8.getD a2.toNat 0)]])))
 else
 k (x6, a1, (w64 (a2 + 1)), a3, a4, a5, l5, a7, a8, a9)
 else
 some ([.i a0] ++ Uns.enc (({ a3 with ay := (w64 (a3.ay - a0)) } : ba) : ba) ++ [.i a4, .i a5, .d a6, .d a9])
def m6 (m : Nat) : Nat -> w7 -> Option (List Un) := bf (r8 m)
theorem qB (m : Nat) (n : Nat) : m6 m (n + 1) = r8 m (m6 m n) := rfl
def Ci (F : w7 -> Option (List Un)) : aQ := ⟨[.lp [0, 1, 0, 1, 1, 1, 1], .blk 2, .code [1, 1, 1, 1, 1]], ⟨frm 88 [(0, .ptr 0 0 0), (3, .fn 138 [] []), (9, .buf 4 1), (13, .int .i64), (44, .buf 5 1), (45, .int .i64), (46, .int .i64)], [.cells [.int .i64, .int .i64, .int .i64, .int .i64, .int .i64, .buf 1 3, .int .i64, .int .i64, .buf 6 4], .ag (sI 3), .gone, .gone, .ints .i64, .ints .i64, .ag (sI 4)], 0⟩, onU F⟩
def rp (m : Nat) (k : yi -> Option (List Un)) : yi -> Option (List Un) := fun (a0, a1, a2, a3, a4, a5, a6, a7, a8, a9, a10) =>
 bif decide (a2 < a1) then
 chk (inb a2 a6.length) <|
 chk (decide (a2.toNat < a6.length)) <|
 lt (ae a6 a2.toNat : Dat) fun d1 =>
 bif (d1.i 0) == a7 then
 chk (fits (a8.length + 1) 8) <|
 chk (fits (a9.length + 1) 8) <|
 k (a0, a1, (w64 (a2 + 1)), a3, a4, a5, a6, a7, (a8 ++ ([a2])), (a9 ++ ([(d1.i 2)])), a10)
 else
 k (a0, a1, (w64 (a2 + 1)), a3, a4, a5, a6, a7, a8, a9, a10)
 else
 chk (decide (a0 <= 9223372036854775807 /\ a9.length < 1099511627776)) <|
 m6 m m (0, ((cm a0 a9).length : Int), 0, a3, a4, a5, a6, a8, (cm a0 a9), a10)
def oU (m : Nat) : Nat -> yi -> Option (List Un) := bf (rp m)
theorem qt (m : Nat) (n : Nat) : oU m (n + 1) = rp m (oU m n) := rfl
def BS (F : yi -> Option (List Un)) : aQ := ⟨[.lp [0, 1, 0, 1, 1], .blk 0, .code [1, 1, 1]], ⟨frm 88 [(0, .ptr 0 0 0), (1, .int .i64), (2, .fn 167 [] [.ptr 4 0 0]), (3, .fn 138 [] []), (9, .buf 5 1), (10, .buf 6 1), (20, .buf 1 3), (21, .int .i64), (22, .int .i64)], [.cells [.int .i64, .int .i64, .int .i64, .int .i64, .int .i64, .buf 1 3, .int .i64, .int .i64, .buf 7 4], .ag (sI 3), .gone, .gone, .cells [.int .i64], .ints .i64, .ints .i64, .ag (sI 4)], 0⟩, onU F⟩
theorem Mk (m : Nat) : ∀ n, HO Ig (Ci (m6 m n)) := ax ai Fu.right (fun k => [Ci k]) (fun k h => (aF h aB)) fun k a => by kernel_rfl
theorem MF (m : Nat) : ∀ n, HO Ig (BS (oU m n)) := ax ai Fu.right (fun k => [BS k, Ci (m6 m m)]) (fun k h => (aF h (aF (Mk m m) aB))) fun k a => by kernel_rfl
def Lz (m : Nat) : Int × ba × Int × Int × List Dat × List Dat × Int -> Option (List Un) := fun (a0, a1, a2, a3, a4, a5, a6) =>
 oU m m (a0, (a4.length : Int), 0, a1, a2, a3, a4, a6, [], [], a5)
theorem J2 (m : Nat) (nn : Int) (hnn : nn <= 9223372036854775807) (y : ba) (q kd : Int) (rk : Int) (out : List Dat) : ∀ (rest pre : List Dat) (n : Nat) (who what : List Int), rest.length < n -> (pre ++ rest).length <= 1000 -> who.length <= pre.length -> what.length <= pre.length ->
 oU m n (nn, ((pre ++ rest).length : Int), (pre.length : Int), y, q, kd, pre ++ rest, rk, who, what, out) =
  m6 m m (0, ((cm nn (what ++ cV (aH rk) 2 rest)).length : Int), 0, y, q, kd, pre ++ rest, who ++ fW (aH rk) pre.length rest, cm nn (what ++ cV (aH rk) 2 rest), out) := by
 intro rest
 induction rest with
 | nil =>
  intro pre n who what hn hl h1 h2; obtain ⟨n, rfl⟩ := ak n (by simp at hn; omega); rw [qt]; unfold rp; dsimp only; simp only [List.append_nil, fW, cV] at hl ⊢; rw [aC (by omega), aN ⟨hnn, by omega⟩]
 | cons x rest ih =>
  intro pre n who what hn hl h1 h2; obtain ⟨n, rfl⟩ := ak n (by simp at hn; omega); simp only [List.length_append, List.length_cons] at hl hn; rw [qt]; unfold rp; dsimp only; simp only [lt_eq]
  by_cases hs : x.i 0 = rk
  · have := ih (pre ++ [x]) n (who ++ [(pre.length : Int)]) (what ++ [x.i 2]) (by omega) (by simp; omega) (by simp; omega) (by simp; omega); simp only [fW, cV, aH, C3 hs, cond_true] at this ⊢; simp (disch := omega) only [TRa, TRi, aa, LNl, LNi, Int.cast_ofNat_Int, ao, bZ]; simp only [LNl, LNi, Int.cast_ofNat_Int] at this ⊢; exact this
  · have := ih (pre ++ [x]) n who what (by omega) (by simp; omega) (by simp; omega) (by simp; omega); simp only [fW, cV, aH, k8 hs, cond_false] at this ⊢; simp (disch := omega) only [TRa, TRi, aa, LNl, LNi, Int.cast_ofNat_Int, ao, bZ]; simp only [LNl, LNi, Int.cast_ofNat_Int] at this ⊢; exact this
theorem KZ (m : Nat) (y : ba) (hy : 0 <= y.ay /\ y.ay <= 1152921504606846976) (q kd : Int) : ∀ (rest done ws wd : List Int) (c out : List Dat) (n : Nat) (paid : Int), rest.length < n -> ws.length = rest.length -> wd.length = done.length -> (done ++ rest).length <= 1000 -> (∀ w ∈ ws, 0 <= w /\ w < c.length) -> (∀ x ∈ rest, 0 <= x /\ x <= 1152921504606846976) -> 0 <= paid -> paid + rest.sum <= 1152921504606846976 -> (∀ i, i < c.length -> - paid <= (ae c i).i 2 /\ (ae c i).i 2 <= 1152921504606846976) -> c.length <= 1000 -> out.length + rest.length <= 137438953472 ->
 m6 m n (paid, ((done ++ rest).length : Int), (done.length : Int), y, q, kd, c, wd ++ ws, done ++ rest, out) =
  some ([.i (paid + rest.sum)] ++ Uns.enc (({ y with ay := y.ay - (paid + rest.sum) } : ba) : ba) ++ [.i q, .i kd, .d (jS 2 ws rest c), .d (out ++ qZ q kd ws rest)]) := by
 intro rest
 induction rest with
 | nil =>
  intro done ws wd c out n paid hn e1 e2 hl hw hx p0 p1 hc cl ol; obtain ⟨n, rfl⟩ := ak n (by simp at hn; omega); obtain rfl := List.eq_nil_of_length_eq_zero e1; rw [qB]; unfold r8; dsimp only; simp only [List.append_nil, jS, qZ, List.sum_nil, Int.add_zero] at p1 ⊢; rw [aC (by omega), aa (by omega) (by omega)]
 | cons x rest ih =>
  intro done ws wd c out n paid hn e1 e2 hl hw hx p0 p1 hc cl ol; obtain ⟨n, rfl⟩ := ak n (by simp at hn; omega); cases ws with
  | nil => simp at e1
  | cons w ws =>
  simp only [List.length_append, List.length_cons, List.sum_cons] at hl hn e1 p1 ol; have hx0 := hx x (by simp); have hw0 := hw w (by simp); have hs0 := dP rest (fun z hz => (hx z (by simp [hz])).1); obtain ⟨v, rfl⟩ : ∃ v : Nat, w = (v : Int) := ⟨w.toNat, by omega⟩
  have hr := hc v (by omega); have gw : (wd ++ (v : Int) :: ws).getD done.length 0 = v := by rw [<- e2]; exact bZ _ _ _ _
  have hset : ∀ i, i < (c.set v (bW 2 x (ae c v))).length -> - (paid + x) <= (ae (c.set v (bW 2 x (ae c v))) i).i 2 /\ (ae (c.set v (bW 2 x (ae c v))) i).i 2 <= 1152921504606846976 := by
   intro i hi; rw [List.length_set] at hi
   by_cases e : i = v
   · subst e; have e3 : ae (c.set i (bW 2 x (ae c i))) i = bW 2 x (ae c i) := by simp [ae, hi]
     rw [e3]; simp only [bW, show ¬ (2 : Nat) = 1 by decide, if_false, gr]; omega
   · have e3 : ae (c.set v (bW 2 x (ae c v))) i = ae c i := by simp [ae, List.getElem?_set, Ne.symm e]
     rw [e3]; have := hc i hi; omega
  have := ih (done ++ [x]) ws (wd ++ [(v : Int)]) (c.set v (bW 2 x (ae c v))) (out ++ if 0 < x then [.r [.n q, .n kd, .n v, .n x]] else []) n (paid + x) (by omega) (by omega) (by simp [e2]) (by simp; omega) (fun z hz => by have := hw z (by simp [hz]); simpa using this) (fun z hz => hx z (by simp [hz])) (by omega) (by omega) hset (by simpa using cl) (by split <;> simp <;> omega); simp only [jS, qZ, List.sum_cons, Int.toNat_natCast]; rw [show paid + (x + rest.sum) = paid + x + rest.sum by omega]; rw [<- List.append_assoc, <- this]; rw [qB]; unfold r8; dsimp only; have ec : done ++ [x] ++ rest = done ++ x :: rest := by simp
  have ew : wd ++ [(v : Int)] ++ ws = wd ++ (v : Int) :: ws := by simp
  rw [ec, ew]; have e5 : (bW 2 x (ae c v)) = Dat.r [.n ((ae c v).i 0), .n ((ae c v).i 1), .n ((ae c v).i 2 - x)] := by simp only [bW, show ¬ (2 : Nat) = 1 by decide, if_false]
  rw [e5]; simp only [lt_eq, Int.toNat_natCast, gw, bZ, List.length_append, List.length_cons, List.length_nil, Nat.zero_add, Int.natCast_add, Int.cast_ofNat_Int]
  by_cases h0 : 0 < x
  · rw [if_pos h0]; simp (disch := omega) only [TRa, TRi, aa, Int.natCast_add]
  · rw [if_neg h0]; simp (disch := omega) only [TRa, TRi, aa, Int.natCast_add, List.append_nil]
def Qs : Int × ba × Int × Int × List Dat × List Dat × Int -> Bool × List Un := fun (a0, a1, a2, a3, a4, a5, a6) => (decide (a0 <= 9223372036854775807 /\ 0 <= a1.ay /\ a1.ay <= 1152921504606846976 /\ a5.length <= 68719476736) && aP a4, [.i ((aw (aH a6) 2 a0 a4).sum)] ++ Uns.enc (({ a1 with ay := a1.ay - (aw (aH a6) 2 a0 a4).sum }) : ba) ++ [.i (a2), .i (a3), .d (bG 2 (aw (aH a6) 2 a0 a4) a4), .d (a5 ++ bA a2 a3 0 (aw (aH a6) 2 a0 a4))])
theorem J4 (a0 : Int) (a1 : ba) (a2 : Int) (a3 : Int) (a4 : List Dat) (a5 : List Dat) (a6 : Int) (hc : (decide (a0 <= 9223372036854775807 /\ 0 <= a1.ay /\ a1.ay <= 1152921504606846976 /\ a5.length <= 68719476736) && aP a4) = true) : ∃ m, Lz m (a0, a1, a2, a3, a4, a5, a6) = some ([.i ((aw (aH a6) 2 a0 a4).sum)] ++ Uns.enc (({ a1 with ay := a1.ay - (aw (aH a6) 2 a0 a4).sum }) : ba) ++ [.i (a2), .i (a3), .d (bG 2 (aw (aH a6) 2 a0 a4) a4), .d (a5 ++ bA a2 a3 0 (aw (aH a6) 2 a0 a4))]) := by
 simp only [Bool.and_eq_true, decide_eq_true_eq] at hc; obtain ⟨⟨h1, h2, h3, h4⟩, h5⟩ := hc; obtain ⟨c1, c2⟩ := bC h5; obtain ⟨p1, p2, p3, p4, p5⟩ := uW (aH a6) (j := 2) (.inr rfl) a0 h5; refine ⟨2000, ?_⟩; unfold Lz; refine (J2 2000 a0 h1 a1 a2 a3 a6 a5 a4 [] 2000 [] [] (by omega) (by simpa using c1) (by simp) (by simp)).trans ?_
 simp only [List.nil_append, List.length_nil]; have ht := jC (a4.map (aH a6)); rw [List.length_map] at ht; have e := KZ 2000 a1 ⟨h2, h3⟩ a2 a3 (cm a0 (cV (aH a6) 2 a4)) [] (fW (aH a6) 0 a4) [] a4 a5 2000 0 (by omega) (by rw [p1, oN]) rfl (by simp; omega) (fun w hw => by have := nO _ _ _ w hw; omega) (fun x hx => by have := p2 x hx; omega) (by omega) (by omega) (fun i hi => by have := cf (c2 _ (mu hi)); omega) c1 (by omega); refine e.trans ?_
 have g1 := mD (aH a6) 2 a4 [] (cm a0 (cV (aH a6) 2 a4)) p1 (fun d hd => (cf (c2 d hd)).1); have g2 := oD a2 a3 (aH a6) a4 0 (cm a0 (cV (aH a6) 2 a4)) p1; simp only [List.nil_append, List.length_nil, Int.cast_ofNat_Int] at g1 g2; rw [g1, g2, Int.zero_add, p5, iZ (aH a6) (j := 2) (.inr rfl) a0 h5]
theorem Gg : ER 136 (mkE Ig.en Ig.ex Qs) := an ai Fu.right (fun m => [BS (oU m m)]) (t := Lz) (by kernel_rfl) (fun m => (aF (MF m m) aB)) (fun m a => by kernel_rfl) fun (a0, a1, a2, a3, a4, a5, a6) hc => J4 a0 a1 a2 a3 a4 a5 a6 hc
def Fc : Tb Tryz.prog LQ TE := Fu.add 136 _ Gg
def HK : aD := ⟨Fc.tab, 136, ⟨[.ptr 0 0 0, .int .i64, .fn 167 [] [.ptr 3 0 0], .fn 141 [] []], [.cells [.int .i64, .int .i64, .int .i64, .int .i64, .int .i64, .buf 1 3, .int .i64, .int .i64, .buf 2 4], .ag (sI 3), .ag (sI 4), .cells [.int .i64]], 0⟩, ⟨[.int .i64], [.cells [.int .i64, .int .i64, .int .i64, .int .i64, .int .i64, .buf 1 3, .int .i64, .int .i64, .buf 4 4], .ag (sI 3), .gone, .gone, .ag (sI 4)], 0⟩, []⟩
abbrev yn : Type := Int × Int × Int × ba × Int × Int × List Dat × List Int × List Int × List Dat
abbrev yS : Type := Int × Int × Int × ba × Int × Int × List Dat × Int × List Int × List Int × List Dat
def ru (m : Nat) (k : yn -> Option (List Un)) : yn -> Option (List Un) := fun (a0, a1, a2, a3, a4, a5, a6, a7, a8, a9) =>
 bif decide (a2 < a1) then
 chk (inb a2 a8.length) <|
 chk (decide (a2.toNat < a8.length)) <|
 chk (inb a2 a7.length) <|
 chk (decide (a2.toNat < a7.length)) <|
 chk (inb (a7.getD a2.toNat 0) a6.length) <|
 chk (decide ((a7.getD a2.toNat 0).toNat < a6.length)) <|
 chk (decide ((a7.getD a2.toNat 0).toNat < a6.length)) <|
 lt (ae a6 ((a7.getD a2.toNat 0).toNat) : Dat) fun d4 =>
 lt ((List.set a6 ((a7.getD a2.toNat 0).toNat) (.r [.n (d4.i 0), .n (w64 (((ae a6 ((a7.getD a2.toNat 0).toNat)).i 1) - (a8.getD a2.toNat 0))), .n (d4.i 2)])) : List Dat) fun l5 =>
 lt ((w64 (a0 + (a8.getD a2.toNat 0))) : Int) fun x6 =>
 chk (inb a2 a7.length) <|
 chk (decide (a2.toNat < a7.length)) <|
 bif (decide ((a8.getD a2.toNat 0) > 0)) then
 chk (fits (a9.length + 1) 32) <|
 k (x6, a1, (w64 (a2 + 1)), a3, a4, a5, l5, a7, a8, (a9 ++ ([.r [.n a4, .n a5, .n (a7.getD a2.toNat 0), .n (a8.getD a2.toNat 0)]])))
 else
 k (x6, a1, (w64 (a2 + 1)), a3, a4, a5, l5, a7, a8, a9)
 else
 some ([.i a0] ++ Uns.enc (({ a3 with ay := (w64 (a3.ay - a0)) } : ba) : ba) ++ [.i a4, .i a5, .d a6, .d a9])
def nj (m : Nat) : Nat -> yn -> Option (List Un) := bf (ru m)
theorem qA (m : Nat) (n : Nat) : nj m (n + 1) = ru m (nj m n) := rfl
def Bg (F : yn -> Option (List Un)) : aQ := ⟨[.lp [0, 1, 0, 1, 1, 1, 1], .blk 2, .code [1, 1, 1, 1, 1]], ⟨frm 88 [(0, .ptr 0 0 0), (3, .fn 141 [] []), (9, .buf 4 1), (13, .int .i64), (44, .buf 5 1), (45, .int .i64), (46, .int .i64)], [.cells [.int .i64, .int .i64, .int .i64, .int .i64, .int .i64, .buf 1 3, .int .i64, .int .i64, .buf 6 4], .ag (sI 3), .gone, .gone, .ints .i64, .ints .i64, .ag (sI 4)], 0⟩, onU F⟩
def rM (m : Nat) (k : yS -> Option (List Un)) : yS -> Option (List Un) := fun (a0, a1, a2, a3, a4, a5, a6, a7, a8, a9, a10) =>
 bif decide (a2 < a1) then
 chk (inb a2 a6.length) <|
 chk (decide (a2.toNat < a6.length)) <|
 lt (ae a6 a2.toNat : Dat) fun d1 =>
 bif (d1.i 0) == a7 then
 chk (fits (a8.length + 1) 8) <|
 chk (fits (a9.length + 1) 8) <|
 k (a0, a1, (w64 (a2 + 1)), a3, a4, a5, a6, a7, (a8 ++ ([a2])), (a9 ++ ([(d1.i 1)])), a10)
 else
 k (a0, a1, (w64 (a2 + 1)), a3, a4, a5, a6, a7, a8, a9, a10)
 else
 chk (decide (a0 <= 9223372036854775807 /\ a9.length < 1099511627776)) <|
 nj m m (0, ((cm a0 a9).length : Int), 0, a3, a4, a5, a6, a8, (cm a0 a9), a10)
def pz (m : Nat) : Nat -> yS -> Option (List Un) := bf (rM m)
theorem qJ (m : Nat) (n : Nat) : pz m (n + 1) = rM m (pz m n) := rfl
def Bw (F : yS -> Option (List Un)) : aQ := ⟨[.lp [0, 1, 0, 1, 1], .blk 0, .code [1, 1, 1]], ⟨frm 88 [(0, .ptr 0 0 0), (1, .int .i64), (2, .fn 167 [] [.ptr 4 0 0]), (3, .fn 141 [] []), (9, .buf 5 1), (10, .buf 6 1), (20, .buf 1 3), (21, .int .i64), (22, .int .i64)], [.cells [.int .i64, .int .i64, .int .i64, .int .i64, .int .i64, .buf 1 3, .int .i64, .int .i64, .buf 7 4], .ag (sI 3), .gone, .gone, .cells [.int .i64], .ints .i64, .ints .i64, .ag (sI 4)], 0⟩, onU F⟩
theorem MV (m : Nat) : ∀ n, HO HK (Bg (nj m n)) := ax ai Fc.right (fun k => [Bg k]) (fun k h => (aF h aB)) fun k a => by kernel_rfl
theorem MG (m : Nat) : ∀ n, HO HK (Bw (pz m n)) := ax ai Fc.right (fun k => [Bw k, Bg (nj m m)]) (fun k h => (aF h (aF (MV m m) aB))) fun k a => by kernel_rfl
def Lx (m : Nat) : Int × ba × Int × Int × List Dat × List Dat × Int -> Option (List Un) := fun (a0, a1, a2, a3, a4, a5, a6) =>
 pz m m (a0, (a4.length : Int), 0, a1, a2, a3, a4, a6, [], [], a5)
theorem J3 (m : Nat) (nn : Int) (hnn : nn <= 9223372036854775807) (y : ba) (q kd : Int) (rk : Int) (out : List Dat) : ∀ (rest pre : List Dat) (n : Nat) (who what : List Int), rest.length < n -> (pre ++ rest).length <= 1000 -> who.length <= pre.length -> what.length <= pre.length ->
 pz m n (nn, ((pre ++ rest).length : Int), (pre.length : Int), y, q, kd, pre ++ rest, rk, who, what, out) =
  nj m m (0, ((cm nn (what ++ cV (aH rk) 1 rest)).length : Int), 0, y, q, kd, pre ++ rest, who ++ fW (aH rk) pre.length rest, cm nn (what ++ cV (aH rk) 1 rest), out) := by
 intro rest
 induction rest with
 | nil =>
  intro pre n who what hn hl h1 h2; obtain ⟨n, rfl⟩ := ak n (by simp at hn; omega); rw [qJ]; unfold rM; dsimp only; simp only [List.append_nil, fW, cV] at hl ⊢; rw [aC (by omega), aN ⟨hnn, by omega⟩]
 | cons x rest ih =>
  intro pre n who what hn hl h1 h2; obtain ⟨n, rfl⟩ := ak n (by simp at hn; omega); simp only [List.length_append, List.length_cons] at hl hn; rw [qJ]; unfold rM; dsimp only; simp only [lt_eq]
  by_cases hs : x.i 0 = rk
  · have := ih (pre ++ [x]) n (who ++ [(pre.length : Int)]) (what ++ [x.i 1]) (by omega) (by simp; omega) (by simp; omega) (by simp; omega); simp only [fW, cV, aH, C3 hs, cond_true] at this ⊢; simp (disch := omega) only [TRa, TRi, aa, LNl, LNi, Int.cast_ofNat_Int, ao, bZ]; simp only [LNl, LNi, Int.cast_ofNat_Int] at this ⊢; exact this
  · have := ih (pre ++ [x]) n who what (by omega) (by simp; omega) (by simp; omega) (by simp; omega); simp only [fW, cV, aH, k8 hs, cond_false] at this ⊢; simp (disch := omega) only [TRa, TRi, aa, LNl, LNi, Int.cast_ofNat_Int, ao, bZ]; simp only [LNl, LNi, Int.cast_ofNat_Int] at this ⊢; exact this
theorem Jm (m : Nat) (y : ba) (hy : 0 <= y.ay /\ y.ay <= 1152921504606846976) (q kd : Int) : ∀ (rest done ws wd : List Int) (c out : List Dat) (n : Nat) (paid : Int), rest.length < n -> ws.length = rest.length -> wd.length = done.length -> (done ++ rest).length <= 1000 -> (∀ w ∈ ws, 0 <= w /\ w < c.length) -> (∀ x ∈ rest, 0 <= x /\ x <= 1152921504606846976) -> 0 <= paid -> paid + rest.sum <= 1152921504606846976 -> (∀ i, i < c.length -> - paid <= (ae c i).i 1 /\ (ae c i).i 1 <= 1152921504606846976) -> c.length <= 1000 -> out.length + rest.length <= 137438953472 ->
 nj m n (paid, ((done ++ rest).length : Int), (done.length : Int), y, q, kd, c, wd ++ ws, done ++ rest, out) =
  some ([.i (paid + rest.sum)] ++ Uns.enc (({ y with ay := y.ay - (paid + rest.sum) } : ba) : ba) ++ [.i q, .i kd, .d (jS 1 ws rest c), .d (out ++ qZ q kd ws rest)]) := by
 intro rest
 induction rest with
 | nil =>
  intro done ws wd c out n paid hn e1 e2 hl hw hx p0 p1 hc cl ol; obtain ⟨n, rfl⟩ := ak n (by simp at hn; omega); obtain rfl := List.eq_nil_of_length_eq_zero e1; rw [qA]; unfold ru; dsimp only; simp only [List.append_nil, jS, qZ, List.sum_nil, Int.add_zero] at p1 ⊢; rw [aC (by omega), aa (by omega) (by omega)]
 | cons x rest ih =>
  intro done ws wd c out n paid hn e1 e2 hl hw hx p0 p1 hc cl ol; obtain ⟨n, rfl⟩ := ak n (by simp at hn; omega); cases ws with
  | nil => simp at e1
  | cons w ws =>
  simp only [List.length_append, List.length_cons, List.sum_cons] at hl hn e1 p1 ol; have hx0 := hx x (by simp); have hw0 := hw w (by simp); have hs0 := dP rest (fun z hz => (hx z (by simp [hz])).1); obtain ⟨v, rfl⟩ : ∃ v : Nat, w = (v : Int) := ⟨w.toNat, by omega⟩
  have hr := hc v (by omega); have gw : (wd ++ (v : Int) :: ws).getD done.length 0 = v := by rw [<- e2]; exact bZ _ _ _ _
  have hset : ∀ i, i < (c.set v (bW 1 x (ae c v))).length -> - (paid + x) <= (ae (c.set v (bW 1 x (ae c v))) i).i 1 /\ (ae (c.set v (bW 1 x (ae c v))) i).i 1 <= 1152921504606846976 := by
   intro i hi; rw [List.length_set] at hi
   by_cases e : i = v
   · subst e; have e3 : ae (c.set i (bW 1 x (ae c i))) i = bW 1 x (ae c i) := by simp [ae, hi]
     rw [e3]; simp only [bW, if_true, dQ]; omega
   · have e3 : ae (c.set v (bW 1 x (ae c v))) i = ae c i := by simp [ae, List.getElem?_set, Ne.symm e]
     rw [e3]; have := hc i hi; omega
  have := ih (done ++ [x]) ws (wd ++ [(v : Int)]) (c.set v (bW 1 x (ae c v))) (out ++ if 0 < x then [.r [.n q, .n kd, .n v, .n x]] else []) n (paid + x) (by omega) (by omega) (by simp [e2]) (by simp; omega) (fun z hz => by have := hw z (by simp [hz]); simpa using this) (fun z hz => hx z (by simp [hz])) (by omega) (by omega) hset (by simpa using cl) (by split <;> simp <;> omega); simp only [jS, qZ, List.sum_cons, Int.toNat_natCast]; rw [show paid + (x + rest.sum) = paid + x + rest.sum by omega]; rw [<- List.append_assoc, <- this]; rw [qA]; unfold ru; dsimp only; have ec : done ++ [x] ++ rest = done ++ x :: rest := by simp
  have ew : wd ++ [(v : Int)] ++ ws = wd ++ (v : Int) :: ws := by simp
  rw [ec, ew]; have e5 : (bW 1 x (ae c v)) = Dat.r [.n ((ae c v).i 0), .n ((ae c v).i 1 - x), .n ((ae c v).i 2)] := by simp only [bW, if_true]
  rw [e5]; simp only [lt_eq, Int.toNat_natCast, gw, bZ, List.length_append, List.length_cons, List.length_nil, Nat.zero_add, Int.natCast_add, Int.cast_ofNat_Int]
  by_cases h0 : 0 < x
  · rw [if_pos h0]; simp (disch := omega) only [TRa, TRi, aa, Int.natCast_add]
  · rw [if_neg h0]; simp (disch := omega) only [TRa, TRi, aa, Int.natCast_add, List.append_nil]
def Qk : Int × ba × Int × Int × List Dat × List Dat × Int -> Bool × List Un := fun (a0, a1, a2, a3, a4, a5, a6) => (decide (a0 <= 9223372036854775807 /\ 0 <= a1.ay /\ a1.ay <= 1152921504606846976 /\ a5.length <= 68719476736) && aP a4, [.i ((aw (aH a6) 1 a0 a4).sum)] ++ Uns.enc (({ a1 with ay := a1.ay - (aw (aH a6) 1 a0 a4).sum }) : ba) ++ [.i (a2), .i (a3), .d (bG 1 (aw (aH a6) 1 a0 a4) a4), .d (a5 ++ bA a2 a3 0 (aw (aH a6) 1 a0 a4))])
theorem Ir (a0 : Int) (a1 : ba) (a2 : Int) (a3 : Int) (a4 : List Dat) (a5 : List Dat) (a6 : Int) (hc : (decide (a0 <= 9223372036854775807 /\ 0 <= a1.ay /\ a1.ay <= 1152921504606846976 /\ a5.length <= 68719476736) && aP a4) = true) : ∃ m, Lx m (a0, a1, a2, a3, a4, a5, a6) = some ([.i ((aw (aH a6) 1 a0 a4).sum)] ++ Uns.enc (({ a1 with ay := a1.ay - (aw (aH a6) 1 a0 a4).sum }) : ba) ++ [.i (a2), .i (a3), .d (bG 1 (aw (aH a6) 1 a0 a4) a4), .d (a5 ++ bA a2 a3 0 (aw (aH a6) 1 a0 a4))]) := by
 simp only [Bool.and_eq_true, decide_eq_true_eq] at hc; obtain ⟨⟨h1, h2, h3, h4⟩, h5⟩ := hc; obtain ⟨c1, c2⟩ := bC h5; obtain ⟨p1, p2, p3, p4, p5⟩ := uW (aH a6) (j := 1) (.inl rfl) a0 h5; refine ⟨2000, ?_⟩; unfold Lx; refine (J3 2000 a0 h1 a1 a2 a3 a6 a5 a4 [] 2000 [] [] (by omega) (by simpa using c1) (by simp) (by simp)).trans ?_
 simp only [List.nil_append, List.length_nil]; have ht := jC (a4.map (aH a6)); rw [List.length_map] at ht; have e := Jm 2000 a1 ⟨h2, h3⟩ a2 a3 (cm a0 (cV (aH a6) 1 a4)) [] (fW (aH a6) 0 a4) [] a4 a5 2000 0 (by omega) (by rw [p1, oN]) rfl (by simp; omega) (fun w hw => by have := nO _ _ _ w hw; omega) (fun x hx => by have := p2 x hx; omega) (by omega) (by omega) (fun i hi => by have := cf (c2 _ (mu hi)); omega) c1 (by omega); refine e.trans ?_
 have g1 := mD (aH a6) 1 a4 [] (cm a0 (cV (aH a6) 1 a4)) p1 (fun d hd => (cf (c2 d hd)).1); have g2 := oD a2 a3 (aH a6) a4 0 (cm a0 (cV (aH a6) 1 a4)) p1; simp only [List.nil_append, List.length_nil, Int.cast_ofNat_Int] at g1 g2; rw [g1, g2, Int.zero_add, p5, iZ (aH a6) (j := 1) (.inl rfl) a0 h5]
theorem FC : ER 136 (mkE HK.en HK.ex Qk) := an ai Fc.right (fun m => [Bw (pz m m)]) (t := Lx) (by kernel_rfl) (fun m => (aF (MG m m) aB)) (fun m a => by kernel_rfl) fun (a0, a1, a2, a3, a4, a5, a6) hc => Ir a0 a1 a2 a3 a4 a5 a6 hc
def Fl : Tb Tryz.prog LQ TE := Fc.add 136 _ FC
def KK : aD := ⟨Fl.tab, 136, ⟨[.ptr 0 0 0, .int .i64, .fn 140 [] [], .fn 141 [] []], [.cells [.int .i64, .int .i64, .int .i64, .int .i64, .int .i64, .buf 1 3, .int .i64, .int .i64, .buf 2 4], .ag (sI 3), .ag (sI 4)], 0⟩, ⟨[.int .i64], [.cells [.int .i64, .int .i64, .int .i64, .int .i64, .int .i64, .buf 1 3, .int .i64, .int .i64, .buf 3 4], .ag (sI 3), .gone, .ag (sI 4)], 0⟩, []⟩
abbrev yA : Type := Int × Int × Int × ba × Int × Int × List Dat × List Int × List Int × List Dat
abbrev xu : Type := Int × Int × Int × ba × Int × Int × List Dat × List Int × List Int × List Dat
def rC (m : Nat) (k : yA -> Option (List Un)) : yA -> Option (List Un) := fun (a0, a1, a2, a3, a4, a5, a6, a7, a8, a9) =>
 bif decide (a2 < a1) then
 chk (inb a2 a8.length) <|
 chk (decide (a2.toNat < a8.length)) <|
 chk (inb a2 a7.length) <|
 chk (decide (a2.toNat < a7.length)) <|
 chk (inb (a7.getD a2.toNat 0) a6.length) <|
 chk (decide ((a7.getD a2.toNat 0).toNat < a6.length)) <|
 chk (decide ((a7.getD a2.toNat 0).toNat < a6.length)) <|
 lt (ae a6 ((a7.getD a2.toNat 0).toNat) : Dat) fun d4 =>
 lt ((List.set a6 ((a7.getD a2.toNat 0).toNat) (.r [.n (d4.i 0), .n (w64 (((ae a6 ((a7.getD a2.toNat 0).toNat)).i 1) - (a8.getD a2.toNat 0))), .n (d4.i 2)])) : List Dat) fun l5 =>
 lt ((w64 (a0 + (a8.getD a2.toNat 0))) : Int) fun x6 =>
 chk (inb a2 a7.length) <|
 chk (decide (a2.toNat < a7.length)) <|
 bif (decide ((a8.getD a2.toNat 0) > 0)) then
 chk (fits (a9.length + 1) 32) <|
 k (x6, a1, (w64 (a2 + 1)), a3, a4, a5, l5, a7, a8, (a9 ++ ([.r [.n a4, .n a5, .n (a7.getD a2.toNat 0), .n (a8.getD a2.toNat 0)]])))
 else
 k (x6, a1, (w64 (a2 + 1)), a3, a4, a5, l5, a7, a8, a9)
 else
 some ([.i a0] ++ Uns.enc (({ a3 with ay := (w64 (a3.ay - a0)) } : ba) : ba) ++ [.i a4, .i a5, .d a6, .d a9])
def nk (m : Nat) : Nat -> yA -> Option (List Un) := bf (rC m)
theorem qk (m : Nat) (n : Nat) : nk m (n + 1) = rC m (nk m n) := rfl
def B1 (F : yA -> Option (List Un)) : aQ := ⟨[.lp [0, 1, 0, 1, 1, 1, 1], .blk 2, .code [1, 1, 1, 1, 1]], ⟨frm 88 [(0, .ptr 0 0 0), (3, .fn 141 [] []), (9, .buf 3 1), (13, .int .i64), (44, .buf 4 1), (45, .int .i64), (46, .int .i64)], [.cells [.int .i64, .int .i64, .int .i64, .int .i64, .int .i64, .buf 1 3, .int .i64, .int .i64, .buf 5 4], .ag (sI 3), .gone, .ints .i64, .ints .i64, .ag (sI 4)], 0⟩, onU F⟩
def rm (m : Nat) (k : xu -> Option (List Un)) : xu -> Option (List Un) := fun (a0, a1, a2, a3, a4, a5, a6, a7, a8, a9) =>
 bif decide (a2 < a1) then
 chk (inb a2 a6.length) <|
 chk (decide (a2.toNat < a6.length)) <|
 chk (fits (a7.length + 1) 8) <|
 chk (fits (a8.length + 1) 8) <|
 k (a0, a1, (w64 (a2 + 1)), a3, a4, a5, a6, (a7 ++ ([a2])), (a8 ++ ([((ae a6 a2.toNat).i 1)])), a9)
 else
 chk (decide (a0 <= 9223372036854775807 /\ a8.length < 1099511627776)) <|
 nk m m (0, ((cm a0 a8).length : Int), 0, a3, a4, a5, a6, a7, (cm a0 a8), a9)
def oR (m : Nat) : Nat -> xu -> Option (List Un) := bf (rm m)
theorem qv (m : Nat) (n : Nat) : oR m (n + 1) = rm m (oR m n) := rfl
def Cu (F : xu -> Option (List Un)) : aQ := ⟨[.lp [0, 1, 0, 1, 1], .blk 0, .code [1, 1, 1]], ⟨frm 88 [(0, .ptr 0 0 0), (1, .int .i64), (2, .fn 140 [] []), (3, .fn 141 [] []), (9, .buf 3 1), (10, .buf 4 1), (20, .buf 1 3), (21, .int .i64), (22, .int .i64)], [.cells [.int .i64, .int .i64, .int .i64, .int .i64, .int .i64, .buf 1 3, .int .i64, .int .i64, .buf 5 4], .ag (sI 3), .gone, .ints .i64, .ints .i64, .ag (sI 4)], 0⟩, onU F⟩
theorem Oc (m : Nat) : ∀ n, HO KK (B1 (nk m n)) := ax ai Fl.right (fun k => [B1 k]) (fun k h => (aF h aB)) fun k a => by kernel_rfl
theorem Lu (m : Nat) : ∀ n, HO KK (Cu (oR m n)) := ax ai Fl.right (fun k => [Cu k, B1 (nk m m)]) (fun k h => (aF h (aF (Oc m m) aB))) fun k a => by kernel_rfl
def Mr (m : Nat) : Int × ba × Int × Int × List Dat × List Dat -> Option (List Un) := fun (a0, a1, a2, a3, a4, a5) =>
 oR m m (a0, (a4.length : Int), 0, a1, a2, a3, a4, [], [], a5)
theorem JC (m : Nat) (nn : Int) (hnn : nn <= 9223372036854775807) (y : ba) (q kd : Int) (out : List Dat) : ∀ (rest pre : List Dat) (n : Nat) (who what : List Int), rest.length < n -> (pre ++ rest).length <= 1000 -> who.length <= pre.length -> what.length <= pre.length ->
 oR m n (nn, ((pre ++ rest).length : Int), (pre.length : Int), y, q, kd, pre ++ rest, who, what, out) =
  nk m m (0, ((cm nn (what ++ cV (fun _ => true) 1 rest)).length : Int), 0, y, q, kd, pre ++ rest, who ++ fW (fun _ => true) pre.length rest, cm nn (what ++ cV (fun _ => true) 1 rest), out) := by
 intro rest
 induction rest with
 | nil =>
  intro pre n who what hn hl h1 h2; obtain ⟨n, rfl⟩ := ak n (by simp at hn; omega); rw [qv]; unfold rm; dsimp only; simp only [List.append_nil, fW, cV] at hl ⊢; rw [aC (by omega), aN ⟨hnn, by omega⟩]
 | cons x rest ih =>
  intro pre n who what hn hl h1 h2; obtain ⟨n, rfl⟩ := ak n (by simp at hn; omega); simp only [List.length_append, List.length_cons] at hl hn; rw [qv]; unfold rm; dsimp only; have := ih (pre ++ [x]) n (who ++ [(pre.length : Int)]) (what ++ [x.i 1]) (by omega) (by simp; omega) (by simp; omega) (by simp; omega); simp only [fW, cV, cond_true] at this ⊢; simp (disch := omega) only [TRa, TRi, aa, LNl, LNi, Int.cast_ofNat_Int, ao, bZ]; simp only [LNl, LNi, Int.cast_ofNat_Int] at this ⊢; exact this
theorem KG (m : Nat) (y : ba) (hy : 0 <= y.ay /\ y.ay <= 1152921504606846976) (q kd : Int) : ∀ (rest done ws wd : List Int) (c out : List Dat) (n : Nat) (paid : Int), rest.length < n -> ws.length = rest.length -> wd.length = done.length -> (done ++ rest).length <= 1000 -> (∀ w ∈ ws, 0 <= w /\ w < c.length) -> (∀ x ∈ rest, 0 <= x /\ x <= 1152921504606846976) -> 0 <= paid -> paid + rest.sum <= 1152921504606846976 -> (∀ i, i < c.length -> - paid <= (ae c i).i 1 /\ (ae c i).i 1 <= 1152921504606846976) -> c.length <= 1000 -> out.length + rest.length <= 137438953472 ->
 nk m n (paid, ((done ++ rest).length : Int), (done.length : Int), y, q, kd, c, wd ++ ws, done ++ rest, out) =
  some ([.i (paid + rest.sum)] ++ Uns.enc (({ y with ay := y.ay - (paid + rest.sum) } : ba) : ba) ++ [.i q, .i kd, .d (jS 1 ws rest c), .d (out ++ qZ q kd ws rest)]) := by
 intro rest
 induction rest with
 | nil =>
  intro done ws wd c out n paid hn e1 e2 hl hw hx p0 p1 hc cl ol; obtain ⟨n, rfl⟩ := ak n (by simp at hn; omega); obtain rfl := List.eq_nil_of_length_eq_zero e1; rw [qk]; unfold rC; dsimp only; simp only [List.append_nil, jS, qZ, List.sum_nil, Int.add_zero] at p1 ⊢; rw [aC (by omega), aa (by omega) (by omega)]
 | cons x rest ih =>
  intro done ws wd c out n paid hn e1 e2 hl hw hx p0 p1 hc cl ol; obtain ⟨n, rfl⟩ := ak n (by simp at hn; omega); cases ws with
  | nil => simp at e1
  | cons w ws =>
  simp only [List.length_append, List.length_cons, List.sum_cons] at hl hn e1 p1 ol; have hx0 := hx x (by simp); have hw0 := hw w (by simp); have hs0 := dP rest (fun z hz => (hx z (by simp [hz])).1); obtain ⟨v, rfl⟩ : ∃ v : Nat, w = (v : Int) := ⟨w.toNat, by omega⟩
  have hr := hc v (by omega); have gw : (wd ++ (v : Int) :: ws).getD done.length 0 = v := by rw [<- e2]; exact bZ _ _ _ _
  have hset : ∀ i, i < (c.set v (bW 1 x (ae c v))).length -> - (paid + x) <= (ae (c.set v (bW 1 x (ae c v))) i).i 1 /\ (ae (c.set v (bW 1 x (ae c v))) i).i 1 <= 1152921504606846976 := by
   intro i hi; rw [List.length_set] at hi
   by_cases e : i = v
   · subst e; have e3 : ae (c.set i (bW 1 x (ae c i))) i = bW 1 x (ae c i) := by simp [ae, hi]
     rw [e3]; simp only [bW, if_true, dQ]; omega
   · have e3 : ae (c.set v (bW 1 x (ae c v))) i = ae c i := by simp [ae, List.getElem?_set, Ne.symm e]
     rw [e3]; have := hc i hi; omega
  have := ih (done ++ [x]) ws (wd ++ [(v : Int)]) (c.set v (bW 1 x (ae c v))) (out ++ if 0 < x then [.r [.n q, .n kd, .n v, .n x]] else []) n (paid + x) (by omega) (by omega) (by simp [e2]) (by simp; omega) (fun z hz => by have := hw z (by simp [hz]); simpa using this) (fun z hz => hx z (by simp [hz])) (by omega) (by omega) hset (by simpa using cl) (by split <;> simp <;> omega); simp only [jS, qZ, List.sum_cons, Int.toNat_natCast]; rw [show paid + (x + rest.sum) = paid + x + rest.sum by omega]; rw [<- List.append_assoc, <- this]; rw [qk]; unfold rC; dsimp only; have ec : done ++ [x] ++ rest = done ++ x :: rest := by simp
  have ew : wd ++ [(v : Int)] ++ ws = wd ++ (v : Int) :: ws := by simp
  rw [ec, ew]; have e5 : (bW 1 x (ae c v)) = Dat.r [.n ((ae c v).i 0), .n ((ae c v).i 1 - x), .n ((ae c v).i 2)] := by simp only [bW, if_true]
  rw [e5]; simp only [lt_eq, Int.toNat_natCast, gw, bZ, List.length_append, List.length_cons, List.length_nil, Nat.zero_add, Int.natCast_add, Int.cast_ofNat_Int]
  by_cases h0 : 0 < x
  · rw [if_pos h0]; simp (disch := omega) only [TRa, TRi, aa, Int.natCast_add]
  · rw [if_neg h0]; simp (disch := omega) only [TRa, TRi, aa, Int.natCast_add, List.append_nil]
def QH : Int × ba × Int × Int × List Dat × List Dat -> Bool × List Un := fun (a0, a1, a2, a3, a4, a5) => (decide (a0 <= 9223372036854775807 /\ 0 <= a1.ay /\ a1.ay <= 1152921504606846976 /\ a5.length <= 68719476736) && aP a4, [.i ((aw (fun _ => true) 1 a0 a4).sum)] ++ Uns.enc (({ a1 with ay := a1.ay - (aw (fun _ => true) 1 a0 a4).sum }) : ba) ++ [.i (a2), .i (a3), .d (bG 1 (aw (fun _ => true) 1 a0 a4) a4), .d (a5 ++ bA a2 a3 0 (aw (fun _ => true) 1 a0 a4))])
theorem IY (a0 : Int) (a1 : ba) (a2 : Int) (a3 : Int) (a4 : List Dat) (a5 : List Dat) (hc : (decide (a0 <= 9223372036854775807 /\ 0 <= a1.ay /\ a1.ay <= 1152921504606846976 /\ a5.length <= 68719476736) && aP a4) = true) : ∃ m, Mr m (a0, a1, a2, a3, a4, a5) = some ([.i ((aw (fun _ => true) 1 a0 a4).sum)] ++ Uns.enc (({ a1 with ay := a1.ay - (aw (fun _ => true) 1 a0 a4).sum }) : ba) ++ [.i (a2), .i (a3), .d (bG 1 (aw (fun _ => true) 1 a0 a4) a4), .d (a5 ++ bA a2 a3 0 (aw (fun _ => true) 1 a0 a4))]) := by
 simp only [Bool.and_eq_true, decide_eq_true_eq] at hc; obtain ⟨⟨h1, h2, h3, h4⟩, h5⟩ := hc; obtain ⟨c1, c2⟩ := bC h5; obtain ⟨p1, p2, p3, p4, p5⟩ := uW (fun _ => true) (j := 1) (.inl rfl) a0 h5; refine ⟨2000, ?_⟩; unfold Mr; refine (JC 2000 a0 h1 a1 a2 a3 a5 a4 [] 2000 [] [] (by omega) (by simpa using c1) (by simp) (by simp)).trans ?_
 simp only [List.nil_append, List.length_nil]; have ht := jC (a4.map (fun _ => true)); rw [List.length_map] at ht; have e := KG 2000 a1 ⟨h2, h3⟩ a2 a3 (cm a0 (cV (fun _ => true) 1 a4)) [] (fW (fun _ => true) 0 a4) [] a4 a5 2000 0 (by omega) (by rw [p1, oN]) rfl (by simp; omega) (fun w hw => by have := nO _ _ _ w hw; omega) (fun x hx => by have := p2 x hx; omega) (by omega) (by omega) (fun i hi => by have := cf (c2 _ (mu hi)); omega) c1 (by omega); refine e.trans ?_
 have g1 := mD (fun _ => true) 1 a4 [] (cm a0 (cV (fun _ => true) 1 a4)) p1 (fun d hd => (cf (c2 d hd)).1); have g2 := oD a2 a3 (fun _ => true) a4 0 (cm a0 (cV (fun _ => true) 1 a4)) p1; simp only [List.nil_append, List.length_nil, Int.cast_ofNat_Int] at g1 g2; rw [g1, g2, Int.zero_add, p5, iZ (fun _ => true) (j := 1) (.inl rfl) a0 h5]
theorem F3 : ER 136 (mkE KK.en KK.ex QH) := an ai Fl.right (fun m => [Cu (oR m m)]) (t := Mr) (by kernel_rfl) (fun m => (aF (Lu m m) aB)) (fun m a => by kernel_rfl) fun (a0, a1, a2, a3, a4, a5) hc => IY a0 a1 a2 a3 a4 a5 hc
def Kv : Tb Tryz.prog LQ TE := Fl.add 136 _ F3
def NL : aD := ⟨Kv.tab, 139, ⟨[.ptr 0 0 0, .int .i64], [.cells [.int .i64, .int .i64, .int .i64, .int .i64, .int .i64, .buf 1 3, .int .i64, .int .i64, .buf 2 4], .ag (sI 3), .ag (sI 4)], 0⟩, ⟨[.int .i64], [.cells [.int .i64, .int .i64, .int .i64, .int .i64, .int .i64, .buf 1 3, .int .i64, .int .i64, .buf 3 4], .ag (sI 3), .gone, .ag (sI 4)], 0⟩, []⟩
abbrev xW : Type := Int × Int × Int × ba × Int × Int × List Dat × List Dat
def rH (m : Nat) (k : xW -> Option (List Un)) : xW -> Option (List Un) := fun (a0, a1, a2, a3, a4, a5, a6, a7) =>
 bif decide (a2 < 8) then
 chk (decide ((w64 (a0 - a1)) <= 9223372036854775807 /\ 0 <= a3.ay /\ a3.ay <= 1152921504606846976 /\ a7.length <= 68719476736) && aP a6) <|
 k (a0, (w64 (a1 + ((aw (aH a2) 1 (w64 (a0 - a1)) a6).sum))), (w64 (a2 + 1)), ({ a3 with ay := a3.ay - (aw (aH a2) 1 (w64 (a0 - a1)) a6).sum }), a4, a5, (bG 1 (aw (aH a2) 1 (w64 (a0 - a1)) a6) a6), (a7 ++ bA a4 a5 0 (aw (aH a2) 1 (w64 (a0 - a1)) a6)))
 else
 some ([.i a1] ++ Uns.enc (a3 : ba) ++ [.i a4, .i a5, .d a6, .d a7])
def pA (m : Nat) : Nat -> xW -> Option (List Un) := bf (rH m)
theorem qo (m : Nat) (n : Nat) : pA m (n + 1) = rH m (pA m n) := rfl
def CH (F : xW -> Option (List Un)) : aQ := ⟨[.lp [0, 1, 0, 1, 1], .blk 0, .code [1, 1, 1]], ⟨frm 21 [(0, .ptr 0 0 0), (1, .int .i64), (5, .int .i64), (7, .int .i64)], [.cells [.int .i64, .int .i64, .int .i64, .int .i64, .int .i64, .buf 1 3, .int .i64, .int .i64, .buf 3 4], .ag (sI 3), .gone, .ag (sI 4)], 0⟩, onU F⟩
theorem MC (m : Nat) : ∀ n, HO NL (CH (pA m n)) := ax ai Kv.right (fun k => [CH k]) (fun k h => (aF h aB)) fun k a => by kernel_rfl
def t139 (m : Nat) : Int × ba × Int × Int × List Dat × List Dat -> Option (List Un) := fun (a0, a1, a2, a3, a4, a5) =>
 pA m m (a0, 0, 0, a1, a2, a3, a4, a5)
theorem OO (m : Nat) (nn q kd : Int) : ∀ (k n : Nat) (r paid : Int) (y : ba) (c out : List Dat), k < n -> r + k = 8 -> 0 <= r -> aP c = true -> 0 <= paid -> paid <= nn -> nn - paid <= y.ay -> y.ay <= 1152921504606846976 -> nn <= 1152921504606846976 -> out.length + 1000 * k <= 68719476736 ->
 pA m n (nn, paid, r, y, q, kd, c, out) = some ([.i (paid + (bp q kd k r (nn - paid) c).2.2)] ++ Uns.enc (({ y with ay := y.ay - (bp q kd k r (nn - paid) c).2.2 } : ba) : ba) ++ [.i q, .i kd, .d (bp q kd k r (nn - paid) c).1, .d (out ++ (bp q kd k r (nn - paid) c).2.1)]) := by
 intro k
 induction k with
 | zero =>
  intro n r paid y c out hn hr h0 hc p0 p1 p2 p3 p4 ho; obtain ⟨n, rfl⟩ := ak n (by omega); rw [qo]; unfold rH; dsimp only; simp only [bp, Int.add_zero, Int.sub_zero, List.append_nil]; rw [aC (by omega)]
 | succ k ih =>
  intro n r paid y c out hn hr h0 hc p0 p1 p2 p3 p4 ho; obtain ⟨n, rfl⟩ := ak n (by omega); rw [qo]; unfold rH; dsimp only; obtain ⟨l1, l2, l3⟩ := dK (aH r) (j := 1) (.inl rfl) (nn - paid) hc; obtain ⟨_, _, w0, w1⟩ := lN (aH r) (j := 1) (.inl rfl) hc; obtain ⟨g1, g2⟩ := oG (aH r) (j := 1) (.inl rfl) (nn - paid) hc; have hpl := iT q kd (aw (aH r) 1 (nn - paid) c) 0; have hcl := (bC hc).1; rw [bT (by omega), aa (n := nn - paid) (by omega) (by omega), hc, Bool.and_true, aN ⟨by omega, by omega, by omega, by omega⟩]; have := ih n (r + 1) (paid + (aw (aH r) 1 (nn - paid) c).sum) { y with ay := y.ay - (aw (aH r) 1 (nn - paid) c).sum } (bG 1 (aw (aH r) 1 (nn - paid) c) c) (out ++ bA q kd 0 (aw (aH r) 1 (nn - paid) c)) (by omega) (by omega) (by omega) g1 (by omega) (by omega) (by simp only; omega) (by simp only; omega) p4 (by rw [List.length_append]; omega); rw [aa (n := r + 1) (by omega) (by omega), aa (n := paid + (aw (aH r) 1 (nn - paid) c).sum) (by omega) (by omega), this]; simp only [bp]; rw [show nn - (paid + (aw (aH r) 1 (nn - paid) c).sum) = nn - paid - (aw (aH r) 1 (nn - paid) c).sum by omega]; simp only [Int.add_assoc, List.append_assoc, Int.sub_sub]
def f139 : Int × ba × Int × Int × List Dat × List Dat -> Bool × List Un := fun (a0, a1, a2, a3, a4, a5) => (decide (0 <= a0 /\ a0 <= a1.ay /\ a1.ay <= 1152921504606846976 /\ a5.length <= 34359738368) && aP a4, [.i ((bp a2 a3 8 0 a0 a4).2.2)] ++ Uns.enc (({ a1 with ay := a1.ay - (bp a2 a3 8 0 a0 a4).2.2 }) : ba) ++ [.i (a2), .i (a3), .d ((bp a2 a3 8 0 a0 a4).1), .d (a5 ++ (bp a2 a3 8 0 a0 a4).2.1)])
theorem K0 (a0 : Int) (a1 : ba) (a2 : Int) (a3 : Int) (a4 : List Dat) (a5 : List Dat) (hc : (decide (0 <= a0 /\ a0 <= a1.ay /\ a1.ay <= 1152921504606846976 /\ a5.length <= 34359738368) && aP a4) = true) : ∃ m, t139 m (a0, a1, a2, a3, a4, a5) = some ([.i ((bp a2 a3 8 0 a0 a4).2.2)] ++ Uns.enc (({ a1 with ay := a1.ay - (bp a2 a3 8 0 a0 a4).2.2 }) : ba) ++ [.i (a2), .i (a3), .d ((bp a2 a3 8 0 a0 a4).1), .d (a5 ++ (bp a2 a3 8 0 a0 a4).2.1)]) := by
 simp only [Bool.and_eq_true, decide_eq_true_eq] at hc; obtain ⟨⟨h1, h2, h3, h4⟩, h5⟩ := hc; refine ⟨20, ?_⟩; have := OO 20 a0 a2 a3 8 20 0 0 a1 a4 a5 (by omega) (by omega) (by omega) h5 (by omega) (by omega) (by omega) h3 (by omega) (by omega); simp only [Int.sub_zero, Int.zero_add] at this; exact this
theorem Gd : ER 139 (mkE NL.en NL.ex f139) := an ai Kv.right (fun m => [CH (pA m m)]) (t := t139) (by kernel_rfl) (fun m => (aF (MC m m) aB)) (fun m a => by kernel_rfl) fun (a0, a1, a2, a3, a4, a5) hc => K0 a0 a1 a2 a3 a4 a5 hc
def Kw : Tb Tryz.prog LQ TE := Kv.add 139 _ Gd
def AI (d : Dat) : Bool := decide (0 <= d.i 3 /\ d.i 3 <= 1152921504606)
theorem GW {d : Dat} (h : AI d = true) : 0 <= d.i 3 /\ d.i 3 <= 1152921504606 := of_decide_eq_true h
def N54 : aD := ⟨Kw.tab, 54, ⟨[.ag (sI 4)], [], 0⟩, ⟨[.int .i64], [], 0⟩, []⟩
abbrev DZ : Type := Int × List Dat × Int × Int
def xL (m : Nat) (k : DZ -> Option (List Un)) : DZ -> Option (List Un) := fun (a0, a1, a2, a3) =>
 bif decide (a3 < a2) then
 chk (inb a3 a1.length) <|
 chk (decide (a3.toNat < a1.length)) <|
 k ((w64 (a0 + ((ae a1 a3.toNat).i 3))), a1, a2, (w64 (a3 + 1)))
 else
 some ([.i a0])
def wU (m : Nat) : Nat -> DZ -> Option (List Un) := bf (xL m)
theorem uh (m : Nat) (n : Nat) : wU m (n + 1) = xL m (wU m n) := rfl
def Hg (F : DZ -> Option (List Un)) : aQ := ⟨[.lp [0, 1, 0, 1, 1], .blk 0, .code [1, 1, 1]], ⟨frm 18 [(3, .int .i64), (6, .ag (sI 4)), (7, .int .i64), (8, .int .i64)], [], 0⟩, onU F⟩
theorem P1 (m : Nat) : ∀ n, HO N54 (Hg (wU m n)) := ax ai Kw.right (fun k => [Hg k]) (fun k h => (aF h aB)) fun k a => by kernel_rfl
def t54 (m : Nat) : List Dat -> Option (List Un) := fun a0 =>
 wU m m (0, a0, (a0.length : Int), 0)
theorem OJ (m : Nat) : ∀ (rest pre : List Dat) (n : Nat) (b : Int), rest.length < n -> (pre ++ rest).length <= 1000000 -> (∀ d ∈ rest, AI d = true) -> 0 <= b -> b <= 1152921504606 * pre.length ->
 wU m n (b, pre ++ rest, ((pre ++ rest).length : Int), (pre.length : Int)) = some [.i (b + al 3 rest)] := by
 intro rest
 induction rest with
 | nil =>
  intro pre n b hn hl hg h0 h1; obtain ⟨n, rfl⟩ := ak n (by simp at hn; omega); rw [uh]; unfold xL; dsimp only; simp [aC, al]
 | cons x rest ih =>
  intro pre n b hn hl hg h0 h1; obtain ⟨n, rfl⟩ := ak n (by simp at hn; omega); simp only [List.length_cons, List.length_append] at hn hl; have hx := GW (hg x (by simp)); rw [uh]; unfold xL; dsimp only; have := ih (pre ++ [x]) n (b + x.i 3) (by omega) (by simp; omega) (fun d hd => hg d (by simp [hd])) (by omega) (by simp; omega); simp only [al] at this ⊢; simp (disch := omega) only [TRa, TRi, aa, LNl, LNi, Int.cast_ofNat_Int, ao]; simp only [LNl, LNi, Int.cast_ofNat_Int] at this ⊢; exact this
def f54 : List Dat -> Bool × List Un := fun a0 => (decide (a0.length <= 1000000) && a0.all AI, [.i (al 3 a0)])
theorem N6 (a0 : List Dat) (hc : (decide (a0.length <= 1000000) && a0.all AI) = true) : ∃ m, t54 m a0 = some ([.i (al 3 a0)]) := by
 simp only [Bool.and_eq_true, decide_eq_true_eq, List.all_eq_true] at hc; refine ⟨a0.length + 1, ?_⟩; exact (OJ _ a0 [] (a0.length + 1) 0 (by omega) (by simpa using hc.1) hc.2 (by omega) (by simp)).trans (by simp only [Int.zero_add])
theorem Jw : ER 54 (mkE N54.en N54.ex f54) := an ai Kw.right (fun m => [Hg (wU m m)]) (t := t54) (by kernel_rfl) (fun m => (aF (P1 m m) aB)) (fun m a => by kernel_rfl) fun a0 hc => N6 a0 hc
def T54 : Tb Tryz.prog LQ TE := Kw.add 54 _ Jw
def O8 : aD := ⟨T54.tab, 103, ⟨[.ptr 0 0 0, .agg [.int .i64, .int .i64]], [.cells [.int .i64, .int .i64, .int .i64, .int .i64, .int .i64, .buf 1 3, .int .i64, .int .i64, .buf 2 4], .ag (sI 3), .ag (sI 4)], 0⟩, ⟨[], [.cells [.int .i64, .int .i64, .int .i64, .int .i64, .int .i64, .buf 1 3, .int .i64, .int .i64, .buf 3 4], .ag (sI 3), .gone, .ag (sI 4)], 0⟩, []⟩
def t103 (m : Nat) : Int × Int × ba × Int × Int × List Dat × List Dat -> Option (List Un) := fun (a0, a1, a2, a3, a4, a5, a6) =>
 bif a0 == 1 then
 lt ((if a2.ay < a2.fee then a2.ay else a2.fee) : Int) fun x1 =>
 lt ((if x1 < 0 then 0 else x1) : Int) fun x2 =>
 bif decide (x2 > 0) then
 chk (fits (a6.length + 1) 32) <|
 some (Uns.enc (({ a2 with ay := (w64 (a2.ay - x2)), fee := (w64 (a2.fee - x2)) } : ba) : ba) ++ [.i a3, .i a4, .d a5, .d (a6 ++ ([.r [.n a3, .n a4, .n (-1), .n x2]]))])
 else
 some (Uns.enc (({ a2 with ay := (w64 (a2.ay - x2)), fee := (w64 (a2.fee - x2)) } : ba) : ba) ++ [.i a3, .i a4, .d a5, .d a6])
 else
 bif a0 == 2 then
 lt ((if a2.ay < a2.bz then a2.ay else a2.bz) : Int) fun x4 =>
 lt ((if x4 < 0 then 0 else x4) : Int) fun x5 =>
 bif decide (x5 > 0) then
 chk (fits (a6.length + 1) 32) <|
 some (Uns.enc (({ a2 with ay := (w64 (a2.ay - x5)), bz := (w64 (a2.bz - x5)) } : ba) : ba) ++ [.i a3, .i a4, .d a5, .d (a6 ++ ([.r [.n a3, .n a4, .n (-1), .n x5]]))])
 else
 some (Uns.enc (({ a2 with ay := (w64 (a2.ay - x5)), bz := (w64 (a2.bz - x5)) } : ba) : ba) ++ [.i a3, .i a4, .d a5, .d a6])
 else
 bif a0 == 6 then
 lt ((if a2.ay < a2.room then a2.ay else a2.room) : Int) fun x7 =>
 lt ((if x7 < 0 then 0 else x7) : Int) fun x8 =>
 bif decide (x8 > 0) then
 chk (fits (a6.length + 1) 32) <|
 some (Uns.enc (({ a2 with ay := (w64 (a2.ay - x8)), room := (w64 (a2.room - x8)) } : ba) : ba) ++ [.i a3, .i a4, .d a5, .d (a6 ++ ([.r [.n a3, .n a4, .n (-1), .n x8]]))])
 else
 some (Uns.enc (({ a2 with ay := (w64 (a2.ay - x8)), room := (w64 (a2.room - x8)) } : ba) : ba) ++ [.i a3, .i a4, .d a5, .d a6])
 else
 bif a0 == 3 then
 chk (decide (a2.ay <= 9223372036854775807 /\ 0 <= a2.ay /\ a2.ay <= 1152921504606846976 /\ a6.length <= 68719476736) && aP a5) <|
 some (Uns.enc (({ a2 with ay := a2.ay - (aw (aH a1) 2 a2.ay a5).sum }) : ba) ++ [.i a3, .i a4, .d (bG 2 (aw (aH a1) 2 a2.ay a5) a5), .d (a6 ++ bA a3 a4 0 (aw (aH a1) 2 a2.ay a5))])
 else
 bif a0 == 4 then
 lt ((if a2.ay < a2.aq then a2.ay else a2.aq) : Int) fun x12 =>
 chk (decide (0 <= x12 /\ x12 <= a2.ay /\ a2.ay <= 1152921504606846976 /\ a6.length <= 34359738368) && aP a5) <|
 lt (({ a2 with ay := a2.ay - (bp a3 a4 8 0 x12 a5).2.2 }) : ba) fun g13 =>
 chk (decide (a2.aq = g13.aq)) <|
 some (Uns.enc (({ g13 with aq := (w64 (a2.aq - ((bp a3 a4 8 0 x12 a5).2.2))) } : ba) : ba) ++ [.i a3, .i a4, .d ((bp a3 a4 8 0 x12 a5).1), .d (a6 ++ (bp a3 a4 8 0 x12 a5).2.1)])
 else
 bif a0 == 5 then
 lt ((if a2.ay < a2.aq then a2.ay else a2.aq) : Int) fun x16 =>
 chk (decide (x16 <= 9223372036854775807 /\ 0 <= a2.ay /\ a2.ay <= 1152921504606846976 /\ a6.length <= 68719476736) && aP a5) <|
 lt (({ a2 with ay := a2.ay - (aw (fun _ => true) 1 x16 a5).sum }) : ba) fun g18 =>
 chk (decide (a2.aq = g18.aq)) <|
 some (Uns.enc (({ g18 with aq := (w64 (a2.aq - ((aw (fun _ => true) 1 x16 a5).sum))) } : ba) : ba) ++ [.i a3, .i a4, .d (bG 1 (aw (fun _ => true) 1 x16 a5) a5), .d (a6 ++ bA a3 a4 0 (aw (fun _ => true) 1 x16 a5))])
 else
 bif a0 == 7 then
 chk (decide (0 <= a2.ay /\ a2.ay <= a2.ay /\ a2.ay <= 1152921504606846976 /\ a6.length <= 34359738368) && aP a5) <|
 some (Uns.enc (({ a2 with ay := a2.ay - (bp a3 a4 8 0 a2.ay a5).2.2 }) : ba) ++ [.i a3, .i a4, .d ((bp a3 a4 8 0 a2.ay a5).1), .d (a6 ++ (bp a3 a4 8 0 a2.ay a5).2.1)])
 else
 some (Uns.enc (a2 : ba) ++ [.i a3, .i a4, .d a5, .d a6])
def f103 : Int × Int × ba × Int × Int × List Dat × List Dat -> Bool × List Un := fun (a0, a1, a2, a3, a4, a5, a6) => (decide (a4 = a0 /\ a6.length <= 17179869184) && (mK a2 && aP a5), Uns.enc (((de a3 a0 a1 a2 a5).1) : ba) ++ [.i (a3), .i (a4), .d ((de a3 a0 a1 a2 a5).2.1), .d (a6 ++ (de a3 a0 a1 a2 a5).2.2)])
set_option maxHeartbeats 2000000 in
theorem I6 (a0 : Int) (a1 : Int) (a2 : ba) (a3 : Int) (a4 : Int) (a5 : List Dat) (a6 : List Dat) (hc : (decide (a4 = a0 /\ a6.length <= 17179869184) && (mK a2 && aP a5)) = true) : ∃ m, t103 m (a0, a1, a2, a3, a4, a5, a6) = some (Uns.enc (((de a3 a0 a1 a2 a5).1) : ba) ++ [.i (a3), .i (a4), .d ((de a3 a0 a1 a2 a5).2.1), .d (a6 ++ (de a3 a0 a1 a2 a5).2.2)]) := by
 simp only [Bool.and_eq_true, decide_eq_true_eq] at hc; obtain ⟨⟨rfl, ho⟩, hx, hc⟩ := hc; have hx' := rX hx; have hcl := (bC hc).1; have w2 := fun sel j hj => (lN (c := a5) sel (j := j) hj hc).2.2
 have s2 := fun sel j hj n => (dK (c := a5) sel (j := j) hj n hc).2.1
 have mm : ∀ a b : Int, (if b < a then b else a) = min a b := fun a b => by omega
 have mx : ∀ a : Int, (if a < 0 then 0 else a) = max a 0 := fun a => by omega
 refine ⟨0, ?_⟩; unfold t103 de; dsimp only; simp only [lt_eq, mm, mx]; have one : ∀ (z : Int) (u : ba) (o2 : List Dat), 0 <= z -> ∀ v : ba, u = v -> (bif decide (z > 0) then chk (fits (a6.length + 1) 32) (some (Uns.enc (u : ba) ++ [.i a3, .i a4, .d a5, .d (a6 ++ ([.r [.n a3, .n a4, .n (-1), .n z]]))])) else some (Uns.enc (u : ba) ++ [.i a3, .i a4, .d a5, .d a6])) = some (Uns.enc (v : ba) ++ [.i a3, .i a4, .d a5, .d (a6 ++ jv a3 a4 z)]) := by
  intro z u o2 hz v huv; subst huv; unfold jv
  by_cases h : z > 0
  · rw [bT h, uu (by omega) (by omega), if_pos (by omega)]
  · rw [aC h, if_neg (by omega), List.append_nil]
 by_cases k1 : a4 = 1
 · rw [dL k1, if_pos k1]; rw [show max (min a2.fee a2.ay) 0 = min a2.fee a2.ay by omega]; exact one _ _ [] (by omega) _ (by rw [aa (by omega) (by omega), aa (by omega) (by omega)])
 rw [ek k1, if_neg k1]
 by_cases k2 : a4 = 2
 · rw [dL k2, if_pos k2]; rw [show max (min a2.bz a2.ay) 0 = min a2.bz a2.ay by omega]; exact one _ _ [] (by omega) _ (by rw [aa (by omega) (by omega), aa (by omega) (by omega)])
 rw [ek k2, if_neg k2]
 by_cases k6 : a4 = 6
 · rw [dL k6, if_pos k6]; rw [show max (min a2.room a2.ay) 0 = min a2.room a2.ay by omega]; exact one _ _ [] (by omega) _ (by rw [aa (by omega) (by omega), aa (by omega) (by omega)])
 rw [ek k6, if_neg k6]
 by_cases k3 : a4 = 3
 · rw [dL k3, if_pos k3, hc, Bool.and_true, aN (by omega)]
 rw [ek k3, if_neg k3]
 by_cases k4 : a4 = 4
 · rw [dL k4, if_pos k4, hc, Bool.and_true, aN (by omega), aN trivial]; have q := sF a3 a4 8 0 (min a2.aq a2.ay) a5 hc; generalize bp a3 a4 8 0 (min a2.aq a2.ay) a5 = y at *
   rw [aa (by omega) (by omega)]
 rw [ek k4, if_neg k4]
 by_cases k5 : a4 = 5
 · rw [dL k5, if_pos k5, hc, Bool.and_true, aN (by omega), aN trivial]; have q1 := s2 (fun _ => true) 1 (.inl rfl) (min a2.aq a2.ay); have q2 := w2 (fun _ => true) 1 (.inl rfl); rw [aa (n := a2.aq - _) (by omega) (by omega)]
 rw [ek k5, if_neg k5]
 by_cases k7 : a4 = 7
 · rw [dL k7, if_pos k7, hc, Bool.and_true, aN (by omega)]
 rw [ek k7, if_neg k7, List.append_nil]
theorem Gu : ER 103 (mkE O8.en O8.ex f103) := an ai T54.right (fun m => []) (t := t103) (by kernel_rfl) (fun m => aB) (fun m a => by kernel_rfl) fun (a0, a1, a2, a3, a4, a5, a6) hc => I6 a0 a1 a2 a3 a4 a5 a6 hc
def Iu : Tb Tryz.prog LQ TE := T54.add 103 _ Gu
def N45 : aD := ⟨Iu.tab, 45, ⟨[.int .i64, .agg [.int .i64, .int .i64, .int .i64, .int .i64, .ag (sI 3)], .ag (sI 2)], [], 0⟩, ⟨[.buf 0 4, .int .i64, .agg [.int .i64, .int .i64, .int .i64, .int .i64, .buf 1 3]], [.ag (sI 4), .ag (sI 3)], 0⟩, []⟩
abbrev DW : Type := List Dat × Int × Int × Int × Int × Int × Int × ba × Int × Int × List Dat × List Dat × List Dat
def xY (m : Nat) (k : DW -> Option (List Un)) : DW -> Option (List Un) := fun (a0, a1, a2, a3, a4, a5, a6, a7, a8, a9, a10, a11, a12) =>
 bif decide (a2 < a1) then
 chk (inb a2 a0.length) <|
 chk (decide (a2.toNat < a0.length)) <|
 lt (ae a0 a2.toNat : Dat) fun d1 =>
 chk (decide ((d1.i 0) = (d1.i 0) /\ a12.length <= 17179869184) && (mK a7 && aP a11)) <|
 k (a0, a1, (w64 (a2 + 1)), a3, a4, a5, a6, ((de a2 (d1.i 0) (d1.i 1) a7 a11).1), a2, (d1.i 0), a10, ((de a2 (d1.i 0) (d1.i 1) a7 a11).2.1), (a12 ++ (de a2 (d1.i 0) (d1.i 1) a7 a11).2.2))
 else
 some ([.i a7.ay, .i a7.fee, .i a7.bz, .i a7.aq, .i a7.room, .d a12, .d a11])
def wQ (m : Nat) : Nat -> DW -> Option (List Un) := bf (xY m)
theorem tp (m : Nat) (n : Nat) : wQ m (n + 1) = xY m (wQ m n) := rfl
def F0 (F : DW -> Option (List Un)) : aQ := ⟨[.lp [0, 1, 0, 1, 1, 1], .blk 0, .code [1, 1, 1, 1]], ⟨frm 52 [(8, .ptr 0 0 0), (9, .ptr 1 0 0), (20, .ag (sI 2)), (21, .int .i64), (22, .int .i64)], [.cells [.int .i64, .int .i64, .int .i64, .int .i64, .buf 2 3], .cells [.int .i64, .int .i64, .int .i64, .int .i64, .int .i64, .buf 3 3, .int .i64, .int .i64, .buf 4 4], .ag (sI 3), .ag (sI 3), .ag (sI 4)], 0⟩, onU F⟩
theorem O3 (m : Nat) : ∀ n, HO N45 (F0 (wQ m n)) := ax ai Iu.right (fun k => [F0 k]) (fun k h => (aF h aB)) fun k a => by kernel_rfl
def t45 (m : Nat) : Int × Int × Int × Int × Int × List Dat × List Dat -> Option (List Un) := fun (a0, a1, a2, a3, a4, a5, a6) =>
 chk (decide (a5.length < 1000000)) <|
 wQ m m (a6, (a6.length : Int), 0, 0, 0, 0, 0, (⟨a0, a1, a2, a3, a4⟩ : ba), 0, 0, [], a5, [])
theorem PD (m : Nat) (z1 z2 z3 z4 : Int) (zl : List Dat) : ∀ (rest pre : List Dat) (n : Nat) (y : ba) (q kd : Int) (c out : List Dat), rest.length < n -> (pre ++ rest).length <= 1000000 -> mK y = true -> aP c = true -> out.length <= 8000 * pre.length ->
 wQ m n (pre ++ rest, ((pre ++ rest).length : Int), (pre.length : Int), z1, z2, z3, z4, y, q, kd, zl, c, out) = some [.i (dn pre.length rest y c).1.ay, .i (dn pre.length rest y c).1.fee, .i (dn pre.length rest y c).1.bz, .i (dn pre.length rest y c).1.aq, .i (dn pre.length rest y c).1.room, .d (out ++ (dn pre.length rest y c).2.2), .d (dn pre.length rest y c).2.1] := by
 intro rest
 induction rest with
 | nil =>
  intro pre n y q kd c out hn hl hy hc ho; obtain ⟨n, rfl⟩ := ak n (by simp at hn; omega); rw [tp]; unfold xY; dsimp only; simp [aC, dn]
 | cons x rest ih =>
  intro pre n y q kd c out hn hl hy hc ho; obtain ⟨n, rfl⟩ := ak n (by simp at hn; omega); simp only [List.length_cons, List.length_append] at hn hl; obtain ⟨s1, s2, s3, s4⟩ := uI pre.length (x.i 0) (x.i 1) hy hc; have := ih (pre ++ [x]) n _ (pre.length : Int) (x.i 0) _ (out ++ (de pre.length (x.i 0) (x.i 1) y c).2.2) (by omega) (by simp; omega) s1 s2 (by simp; omega); simp only [dn]; rw [tp]; unfold xY; dsimp only; simp only [hy, hc, Bool.and_self, Bool.and_true]; simp only [Int.toNat_natCast, ao, lt_eq]; generalize de pre.length (x.i 0) (x.i 1) y c = u at *
  simp only [hy, hc, Bool.and_self, Bool.and_true, decide_true, true_and]; simp (disch := omega) only [TRa, TRi, aa, LNl, LNi, Int.cast_ofNat_Int, ao]; simp only [LNl, LNi, Int.cast_ofNat_Int] at this ⊢; exact this
def f45 : Int × Int × Int × Int × Int × List Dat × List Dat -> Bool × List Un := fun (a0, a1, a2, a3, a4, a5, a6) => (decide (a6.length <= 1000000) && (mK ⟨a0, a1, a2, a3, a4⟩ && aP a5), [.i ((dn 0 a6 ⟨a0, a1, a2, a3, a4⟩ a5).1.ay), .i ((dn 0 a6 ⟨a0, a1, a2, a3, a4⟩ a5).1.fee), .i ((dn 0 a6 ⟨a0, a1, a2, a3, a4⟩ a5).1.bz), .i ((dn 0 a6 ⟨a0, a1, a2, a3, a4⟩ a5).1.aq), .i ((dn 0 a6 ⟨a0, a1, a2, a3, a4⟩ a5).1.room), .d ((dn 0 a6 ⟨a0, a1, a2, a3, a4⟩ a5).2.2), .d ((dn 0 a6 ⟨a0, a1, a2, a3, a4⟩ a5).2.1)])
theorem N8 (a0 : Int) (a1 : Int) (a2 : Int) (a3 : Int) (a4 : Int) (a5 : List Dat) (a6 : List Dat) (hc : (decide (a6.length <= 1000000) && (mK ⟨a0, a1, a2, a3, a4⟩ && aP a5)) = true) : ∃ m, t45 m (a0, a1, a2, a3, a4, a5, a6) = some ([.i ((dn 0 a6 ⟨a0, a1, a2, a3, a4⟩ a5).1.ay), .i ((dn 0 a6 ⟨a0, a1, a2, a3, a4⟩ a5).1.fee), .i ((dn 0 a6 ⟨a0, a1, a2, a3, a4⟩ a5).1.bz), .i ((dn 0 a6 ⟨a0, a1, a2, a3, a4⟩ a5).1.aq), .i ((dn 0 a6 ⟨a0, a1, a2, a3, a4⟩ a5).1.room), .d ((dn 0 a6 ⟨a0, a1, a2, a3, a4⟩ a5).2.2), .d ((dn 0 a6 ⟨a0, a1, a2, a3, a4⟩ a5).2.1)]) := by
 simp only [Bool.and_eq_true, decide_eq_true_eq] at hc; obtain ⟨h1, h2, h3⟩ := hc; have hl := (bC h3).1; refine ⟨a6.length + 1, ?_⟩; unfold t45; dsimp only; rw [aN (by omega)]; exact PD _ 0 0 0 0 [] a6 [] (a6.length + 1) _ 0 0 a5 [] (by omega) (by simpa using h1) h2 h3 (by simp)
theorem JR : ER 45 (mkE N45.en N45.ex f45) := an ai Iu.right (fun m => [F0 (wQ m m)]) (t := t45) (by kernel_rfl) (fun m => (aF (O3 m m) aB)) (fun m a => by kernel_rfl) fun (a0, a1, a2, a3, a4, a5, a6) hc => N8 a0 a1 a2 a3 a4 a5 a6 hc
def T45 : Tb Tryz.prog LQ TE := Iu.add 45 _ JR
end
end Go.Proofs.YtdbkoeefnodejaaGreat
namespace Go.Proofs.YtdbkoeefnodejaaGreat
noncomputable section
open Go Go.Proofs.YtdbkoeefnodejaaGreat.Ev
set_option maxRecDepth 20000
theorem eB (j : Nat) : ∀ l : List Dat, (∀ d ∈ l, 0 <= d.i j) -> 0 <= al j l
 | [], _ => by simp [al]
 | d :: l, h => by
  have := h d (by simp); have := eB j l fun x hx => h x (by simp [hx])
  simp only [al]; omega
theorem sh (j : Nat) : ∀ a b : List Dat, al j (a ++ b) = al j a + al j b
 | [], b => by simp [al]
 | d :: a, b => by simp only [List.cons_append, al, sh j a b]; omega
theorem sU (a k : Int) : ∀ (xs : List Int) (i : Int), (∀ x ∈ xs, 0 <= x) -> al 3 (bA a k i xs) = xs.sum
 | [], i, _ => rfl
 | x :: xs, i, h => by
  have := sU a k xs (i + 1) fun y hy => h y (by simp [hy])
  have h0 := h x (by simp); simp only [bA, sh, List.sum_cons, this]
  by_cases hx : 0 < x
  · rw [if_pos hx]; simp [al, eL]
  · rw [if_neg hx]; simp only [al]; omega
theorem BW {c : List Dat} (sel : Dat -> Bool) {j : Nat} (hj : j = 1 \/ j = 2) (n : Int) (h : aP c = true) : ∀ x ∈ aw sel j n c, 0 <= x := fun x hx => by
 obtain ⟨l1, l2, l3⟩ := dK sel hj n h; obtain ⟨i, hi, rfl⟩ := oL hx; rw [l1] at hi; exact (l3 i hi).1
end
end Go.Proofs.YtdbkoeefnodejaaGreat
