/- A part of the walk. -/
import Derived.Test.YtdbkoeefnodejaaGreatQ6
set_option linter.unusedVariables false
set_option linter.unusedSimpArgs false
namespace Go.Proofs.YtdbkoeefnodejaaGreat
noncomputable section
open Go Go.Proofs.YtdbkoeefnodejaaGreat.Ev
set_option maxRecDepth 20000
theorem zu (n : ai) (aI notes : List Dat) : (cA n aI notes).length = 10 + 5 * aI.length + 3 * notes.length := by
 have e1 : ∀ l : List Dat, (l.flatMap tR).length = 5 * l.length := by
  intro l; induction l with
  | nil => rfl
  | cons x l ih => simp only [List.flatMap_cons, List.length_append, ih, List.length_cons]; simp [tR]; omega
 have e2 : ∀ l : List Dat, (l.flatMap rf).length = 3 * l.length := by
  intro l; induction l with
  | nil => rfl
  | cons x l ih => simp only [List.flatMap_cons, List.length_append, ih, List.length_cons]; simp [rf]; omega
 unfold cA; simp only [List.length_append, e1, e2, List.length_cons, List.length_nil]
theorem Dn {a d : ai} {b c e f : List Dat} (h : a.period ≠ d.period) : iP (cA a b c) (cA d e f) = false := by
 unfold cA; simp only [List.cons_append, iP, jL h, Bool.false_and]
def mJ : List Par := [(true, [.int .i64, .int .i64, .int .i64, .int .i64, .int .i64, .int .i64, .int .i64, .int .i64, .int .i64, .int .i64, .int .i64, .int .i64, .int .i64, .ints .i64, .ints .i64, .ints .i64, .ints .i64, .ints .i64, .ints .i64, .ints .i64]), (false, [.ae [.ints .i64, .ints .i64, .ints .i64, .ints .i64, .ints .i64, .ints .i64]])]
def N8 : aF := ⟨T20.tab, 8, ⟨List.map Par.vp mJ, [], 0⟩, ⟨[.bool], [], 0⟩, []⟩
abbrev Kg : Type := List Dat × Int × Int × an × aq × ai × List Dat × List Dat × List Dat × List Dat × List Dat × List Dat × List Dat
def Fp (m : Nat) (k : Kg -> Option (List Un)) : Kg -> Option (List Un) := fun (a0, a1, a2, a3, a4, a5, a6, a7, a8, a9, a10, a11, a12) =>
 bif (decide (a2 < (a0.length : Int))) then
 bif decide (a2 < 8) then
 chk (decide (0 <= a1) && decide (a6.length < 1000000 /\ a7.length < 1000000 /\ a8.length < 1000000 /\ a9.length < 1000000 /\ a10.length < 1000000 /\ a12.length < 1000000 /\ a11.length < 1000000)) <|
 chk (decide (0 <= a1) && decide (a12.length < 1000000 /\ a11.length < 1000000)) <|
 chk (inb a2 a0.length) <|
 chk (decide (a2.toNat < a0.length)) <|
 lt (af a0 a2.toNat : Dat) fun d5 =>
 chk (decide (0 <= a1) && (decide (a12.length < 1000) && a12.all (fun d => decide (d.i 1 <= 1152921504606846976 /\ d.i 2 <= 1152921504606846976)))) <|
 lt ((lW (d5.l 0) (d5.l 1) (d5.l 2) (d5.l 3) (d5.l 4) (d5.l 5) a12) : List Dat) fun l6 =>
 chk (decide (0 <= 0) && jT (⟨a3, a4, a5, a6, a7, a8, a9, a10, a12, a11⟩ : ab)) <|
 lt (((aC (⟨a3, a4, a5, a6, a7, a8, a9, a10, a12, a11⟩ : ab) l6).t.n) : ai) fun g13 =>
 lt (((aC (⟨a3, a4, a5, a6, a7, a8, a9, a10, a12, a11⟩ : ab) l6).t.aI) : List Dat) fun l19 =>
 lt (((aC (⟨a3, a4, a5, a6, a7, a8, a9, a10, a12, a11⟩ : ab) l6).t.tr) : List Dat) fun l20 =>
 lt (((aC (⟨a3, a4, a5, a6, a7, a8, a9, a10, a12, a11⟩ : ab) l6).Aj) : List Dat) fun l21 =>
 bif ((aC (⟨a3, a4, a5, a6, a7, a8, a9, a10, a12, a11⟩ : ab) l6).e) != 0 then
 some ([.b false])
 else
 chk (decide (0 <= a1) && decide (a12.length < 1000000 /\ a11.length < 1000000)) <|
 chk (decide ((cA a5 a12 a11).length < 1099511627776)) <|
 bif !(iP (cA a5 a12 a11) (cA a5 a12 a11)) then
 some ([.b false])
 else
 chk (decide (0 <= 0) && decide (l19.length < 1000000 /\ l20.length < 1000000)) <|
 chk (decide ((cA g13 l19 l20).length < 1099511627776)) <|
 bif (iP (cA g13 l19 l20) (cA a5 a12 a11)) then
 some ([.b false])
 else
 chk (decide (0 <= a1) && jT (⟨a3, a4, a5, a6, a7, a8, a9, a10, a12, a11⟩ : ab)) <|
 lt (((aC (⟨a3, a4, a5, a6, a7, a8, a9, a10, a12, a11⟩ : ab) l6).t.n) : ai) fun g31 =>
 lt (((aC (⟨a3, a4, a5, a6, a7, a8, a9, a10, a12, a11⟩ : ab) l6).t.aI) : List Dat) fun l37 =>
 lt (((aC (⟨a3, a4, a5, a6, a7, a8, a9, a10, a12, a11⟩ : ab) l6).t.tr) : List Dat) fun l38 =>
 bif ((aC (⟨a3, a4, a5, a6, a7, a8, a9, a10, a12, a11⟩ : ab) l6).e) != 0 then
 some ([.b false])
 else
 bif (((aC (⟨a3, a4, a5, a6, a7, a8, a9, a10, a12, a11⟩ : ab) l6).rb).dL != ((aC (⟨a3, a4, a5, a6, a7, a8, a9, a10, a12, a11⟩ : ab) l6).rb).dL) then
 some ([.b false])
 else
 chk (decide (l21.length < 1099511627776)) <|
 bif !(gF 4 l21 ((aC (⟨a3, a4, a5, a6, a7, a8, a9, a10, a12, a11⟩ : ab) l6).Aj)) then
 some ([.b false])
 else
 chk (decide (0 <= a1) && decide (l37.length < 1000000 /\ l38.length < 1000000)) <|
 chk (decide (0 <= 0) && decide (l19.length < 1000000 /\ l20.length < 1000000)) <|
 chk (decide ((cA g31 l37 l38).length < 1099511627776)) <|
 bif !(iP (cA g31 l37 l38) (cA g13 l19 l20)) then
 some ([.b false])
 else
 k (a0, a1, (w64 (a2 + 1)), ((aC (⟨a3, a4, a5, a6, a7, a8, a9, a10, a12, a11⟩ : ab) l6).t.a), ((aC (⟨a3, a4, a5, a6, a7, a8, a9, a10, a12, a11⟩ : ab) l6).t.b), g31, ((aC (⟨a3, a4, a5, a6, a7, a8, a9, a10, a12, a11⟩ : ab) l6).t.ax), ((aC (⟨a3, a4, a5, a6, a7, a8, a9, a10, a12, a11⟩ : ab) l6).t.notes), ((aC (⟨a3, a4, a5, a6, a7, a8, a9, a10, a12, a11⟩ : ab) l6).t.s0), ((aC (⟨a3, a4, a5, a6, a7, a8, a9, a10, a12, a11⟩ : ab) l6).t.s1), ((aC (⟨a3, a4, a5, a6, a7, a8, a9, a10, a12, a11⟩ : ab) l6).t.s2), l38, l37)
 else
 some ([.b true])
 else
 some ([.b true])
def DE (m : Nat) : Nat -> Kg -> Option (List Un) := bj (Fp m)
theorem xo (m : Nat) (n : Nat) : DE m (n + 1) = Fp m (DE m n) := rfl
def Mf (F : Kg -> Option (List Un)) : aR := ⟨[.lp [0, 1, 0, 1, 1, 1], .blk 0, .code [1, 1, 1, 1]], ⟨frm 116 [(1, .ae [.ints .i64, .ints .i64, .ints .i64, .ints .i64, .ints .i64, .ints .i64]), (5, .np 0 0 0), (7, .int .i64)], [.cells [.int .i64, .int .i64, .int .i64, .buf 1 2, .buf 2 3, .int .i64, .int .i64, .int .i64, .int .i64, .int .i64, .int .i64, .int .i64, .int .i64, .int .i64, .int .i64, .buf 3 2, .buf 4 2, .buf 5 2, .ptr 6 0 0, .buf 7 7, .int .i64, .int .i64, .int .i64, .int .i64, .int .i64, .int .i64, .int .i64, .int .i64, .int .i64, .bool], .ae (sI 2), .ae (sI 3), .ae (sI 2), .ae (sI 2), .ae (sI 2), .cells [.buf 8 5], .ae (sI 7), .ae (sB 4)], 0⟩, onU F⟩
theorem SH (m : Nat) : ∀ n, HO N8 (Mf (DE m n)) := au ag T20.right (fun k => [Mf k]) (fun k h => (aH h aE)) fun k a => by kernel_rfl
def t8 (m : Nat) : bD × List Dat -> Option (List Un) := fun (a0, a1) =>
 chk (decide (a0.notes.length <= 140737488355328)) <|
 chk (decide ((ay a0).ax.length < 1000000 /\ (ay a0).notes.length < 1000000 /\ (ay a0).s0.length < 1000000 /\ (ay a0).s1.length < 1000000 /\ (ay a0).s2.length < 1000000)) <|
 lt (((if (bC (ay a0)).isSome then 0 else -1) : Int) : Int) fun x1 =>
 bif ((decide (x1 < 0)) && true) then
 some ([.b false])
 else
 bif ((if (bC (ay a0)).isSome then 0 else 2) : Int) != 0 then
 some ([.b false])
 else
 chk (decide (0 <= x1)) <|
 DE m m (a1, x1, 0, ((bA (ay a0)).a), ((bA (ay a0)).b), ((bA (ay a0)).n), ((bA (ay a0)).ax), ((bA (ay a0)).notes), ((bA (ay a0)).s0), ((bA (ay a0)).s1), ((bA (ay a0)).s2), ((bA (ay a0)).tr), ((bA (ay a0)).aI))
theorem G6 (m : Nat) (ts : List Dat) : ∀ (c n : Nat) (i : Nat) (T : ab), i + c = min ts.length 8 -> c < n -> eJ T -> T.n.jl = false -> T.n.period = (i : Int) ->
 DE m n (ts, 0, (i : Int), T.a, T.b, T.n, T.ax, T.notes, T.s0, T.s1, T.s2, T.tr, T.aI) = some [.b true] := by
 intro c
 induction c with
 | zero =>
  intro n i T hi hn h ho hp; obtain ⟨n, rfl⟩ := al n (by omega); rw [xo]; unfold Fp; dsimp only
  by_cases h1 : i < ts.length
  · rw [ba (by omega), aw (by omega)]
  · rw [aw (by omega)]
 | succ c ih =>
  intro n i T hi hn h ho hp; obtain ⟨n, rfl⟩ := al n (by omega); have hl := uZ h; have hp1 := fA h; have ht1 := cZ h; rw [xo]; unfold Fp; dsimp only; rw [ba (by omega), ba (by omega)]; refine bp (Bool.and_eq_true_iff.2 ⟨rfl, decide_eq_true hl⟩) ?_
  have hcn : T.aI.length < 1000000 /\ T.tr.length < 1000000 := by omega
  refine bp (Bool.and_eq_true_iff.2 ⟨rfl, decide_eq_true hcn⟩) ?_
  rw [cy (by omega) (by omega), aG (by omega)]; refine iD fun d _ => ?_
  refine bp (Bool.and_eq_true_iff.2 ⟨rfl, u6 h⟩) ?_
  refine iD fun l e6 => ?_
  have he : (cP T l).e = 0 := by rw [e6]; exact vA h _ _ _ _ _ _
  have eT : (⟨T.a, T.b, T.n, T.ax, T.notes, T.s0, T.s1, T.s2, T.aI, T.tr⟩ : ab) = T := rfl; rw [eT]; refine bp (Bool.and_eq_true_iff.2 ⟨rfl, fF.2 h⟩) ?_
  obtain ⟨hC, hN, hO, hPd, hM, hX, hD, hR, hQ⟩ := lG h ho (by omega) he; have hp2 := fA hN; have ht2 := cZ hN; have pl := (jd h he).2.2.2.2; dsimp only [lt]; rw [hC]; rw [bN (show (aD T l).e = 0 from rfl)]; have hcn2 : (aD T l).t.aI.length < 1000000 /\ (aD T l).t.tr.length < 1000000 := by omega
  have hz : ∀ a b c, iP (cA a b c) (cA a b c) = true := fun a b c => tG _
  have hw : w64 ((i : Int) + 1) = (i : Int) + 1 := aa (by omega) (by omega); have nx := ih n (i + 1) (aD T l).t (by omega) (by omega) hN hO (by rw [hPd, hp]; omega); refine bp (Bool.and_eq_true_iff.2 ⟨rfl, decide_eq_true hcn⟩) (bp (decide_eq_true (by rw [zu]; omega)) ?_); rw [hz]; refine bp (Bool.and_eq_true_iff.2 ⟨rfl, decide_eq_true hcn2⟩) (bp (decide_eq_true (by rw [zu]; omega)) ?_); rw [Dn (show (aD T l).t.n.period ≠ T.n.period by omega)]; refine bp (Bool.and_eq_true_iff.2 ⟨rfl, fF.2 h⟩) ?_
  rw [bN (show (aD T l).e = 0 from rfl), bN rfl]; refine bp (decide_eq_true (show (bS T l).2.2.length < 1099511627776 by omega)) ?_
  rw [tT]; refine bp (Bool.and_eq_true_iff.2 ⟨rfl, decide_eq_true hcn2⟩) (bp (Bool.and_eq_true_iff.2 ⟨rfl, decide_eq_true hcn2⟩) (bp (decide_eq_true (by rw [zu]; omega)) ?_)); rw [hz, hw]; exact nx
set_option maxHeartbeats 8000000 in
theorem QH (b0 : Int) (wb0 : (Lit.int .i64 b0).wf = true) (b1 : Int) (wb1 : (Lit.int .i64 b1).wf = true) (b2 : Int) (wb2 : (Lit.int .i64 b2).wf = true) (b3 : Int) (wb3 : (Lit.int .i64 b3).wf = true) (b4 : Int) (wb4 : (Lit.int .i64 b4).wf = true) (b5 : Int) (wb5 : (Lit.int .i64 b5).wf = true) (b6 : Int) (wb6 : (Lit.int .i64 b6).wf = true) (b7 : Int) (wb7 : (Lit.int .i64 b7).wf = true) (b8 : Int) (wb8 : (Lit.int .i64 b8).wf = true) (b9 : Int) (wb9 : (Lit.int .i64 b9).wf = true) (b10 : Int) (wb10 : (Lit.int .i64 b10).wf = true) (b11 : Int) (wb11 : (Lit.int .i64 b11).wf = true) (b12 : Int) (wb12 : (Lit.int .i64 b12).wf = true) (b13 : List Int) (wb13 : b13.length <= 140737488355328 /\ ∀ x ∈ b13, (Lit.int .i64 x).wf = true) (b14 : List Int) (wb14 : b14.length <= 140737488355328 /\ ∀ x ∈ b14, (Lit.int .i64 x).wf = true) (b15 : List Int) (wb15 : b15.length <= 140737488355328 /\ ∀ x ∈ b15, (Lit.int .i64 x).wf = true) (b16 : List Int) (wb16 : b16.length <= 140737488355328 /\ ∀ x ∈ b16, (Lit.int .i64 x).wf = true) (b17 : List Int) (wb17 : b17.length <= 140737488355328 /\ ∀ x ∈ b17, (Lit.int .i64 x).wf = true) (b18 : List Int) (wb18 : b18.length <= 140737488355328 /\ ∀ x ∈ b18, (Lit.int .i64 x).wf = true) (b19 : List Int) (wb19 : b19.length <= 140737488355328 /\ ∀ x ∈ b19, (Lit.int .i64 x).wf = true) (b20 : List Dat) (wb20 : b20.length <= 140737488355328 /\ ∀ x ∈ b20, WfR [.ints .i64, .ints .i64, .ints .i64, .ints .i64, .ints .i64, .ints .i64] x.sub) : ∃ m, t8 m ((⟨(⟨b0, b1, b2⟩ : an), (⟨b3, b4, b5, b6, b7, b8, b9, b10, b11, b12⟩ : aq), b13, b14, b15, b16, b17, b18, b19⟩ : bD), b20) = some [.b true] := by
 have hn : (⟨⟨b0, b1, b2⟩, ⟨b3, b4, b5, b6, b7, b8, b9, b10, b11, b12⟩, b13, b14, b15, b16, b17, b18, b19⟩ : bD).notes.length <= 140737488355328 := wb14.1; generalize (⟨⟨b0, b1, b2⟩, ⟨b3, b4, b5, b6, b7, b8, b9, b10, b11, b12⟩, b13, b14, b15, b16, b17, b18, b19⟩ : bD) = k at hn; have h := sZ k; have hT : bA (ay k) = aN (ay k) := na k; refine ⟨20, ?_⟩; unfold t8; dsimp only [lt]; rw [aG hn, aG (jF k), fH k, if_pos rfl, if_pos rfl]; refine lZ rfl (lZ rfl (bp rfl ?_)); rw [hT]; exact G6 20 b20 (min b20.length 8) 20 0 (aN (ay k)) (by omega) (by omega) h rfl rfl
set_option maxRecDepth 20000 in
theorem oZ {HH : Type} {enc : TypeId × Value -> HH} {w : World} {base : Nat} {vs : List Value} {ds : List (DataW HH)} {ps : List MemPlace} (hsh : w.ShapedOpen Tryz.prog)
 (hd : DataW.TrodAll enc Tryz.prog w 0 (fun _ => true) true Tryz.f8.params.toList vs ds ps) {us' : List TypeId} {gs : List (DataW HH)} (hz : (DataW.weightsEach Tryz.prog (Tryz.f8.params.toList ++ us') (ds ++ gs)).all (· <= reachBytes) = true) (hval : ∀ (j : Nat) t v, Tryz.f8.params.toList[j]? = some t -> vs[j]? = some v -> Value.okWide Tryz.prog w .any base t v) :
 Calls Tryz.prog 8 vs.toArray w fun e w' => e = .returned (.bool true) /\ RowKit.Below w.heap.size w w' :=
 o4 Seat.mix Seat.names oJ (pars := mJ) (by kernel_rfl) (fun us h => by
  change WfU [.int .i64, .int .i64, .int .i64, .int .i64, .int .i64, .int .i64, .int .i64, .int .i64, .int .i64, .int .i64, .int .i64, .int .i64, .int .i64, .ints .i64, .ints .i64, .ints .i64, .ints .i64, .ints .i64, .ints .i64, .ints .i64, .ae [.ints .i64, .ints .i64, .ints .i64, .ints .i64, .ints .i64, .ints .i64]] us at h; obtain ⟨b0, u, rfl, wb0, h⟩ := bg h; obtain ⟨b1, u, rfl, wb1, h⟩ := bg h; obtain ⟨b2, u, rfl, wb2, h⟩ := bg h; obtain ⟨b3, u, rfl, wb3, h⟩ := bg h; obtain ⟨b4, u, rfl, wb4, h⟩ := bg h; obtain ⟨b5, u, rfl, wb5, h⟩ := bg h; obtain ⟨b6, u, rfl, wb6, h⟩ := bg h; obtain ⟨b7, u, rfl, wb7, h⟩ := bg h; obtain ⟨b8, u, rfl, wb8, h⟩ := bg h; obtain ⟨b9, u, rfl, wb9, h⟩ := bg h; obtain ⟨b10, u, rfl, wb10, h⟩ := bg h; obtain ⟨b11, u, rfl, wb11, h⟩ := bg h; obtain ⟨b12, u, rfl, wb12, h⟩ := bg h; obtain ⟨b13, u, rfl, wb13, h⟩ := bJ h; obtain ⟨b14, u, rfl, wb14, h⟩ := bJ h; obtain ⟨b15, u, rfl, wb15, h⟩ := bJ h; obtain ⟨b16, u, rfl, wb16, h⟩ := bJ h; obtain ⟨b17, u, rfl, wb17, h⟩ := bJ h; obtain ⟨b18, u, rfl, wb18, h⟩ := bJ h; obtain ⟨b19, u, rfl, wb19, h⟩ := bJ h; obtain ⟨b20, u, rfl, wb20, h⟩ := sN h; obtain rfl := ub h; obtain ⟨m, hm⟩ := QH b0 wb0 b1 wb1 b2 wb2 b3 wb3 b4 wb4 b5 wb5 b6 wb6 b7 wb7 b8 wb8 b9 wb9 b10 wb10 b11 wb11 b12 wb12 b13 wb13 b14 wb14 b15 wb15 b16 wb16 b17 wb17 b18 wb18 b19 wb19 b20 wb20; have G : N8.wx Tryz.prog LQ KN (Uns.enc ((⟨(⟨b0, b1, b2⟩ : an), (⟨b3, b4, b5, b6, b7, b8, b9, b10, b11, b12⟩ : aq), b13, b14, b15, b16, b17, b18, b19⟩ : bD), b20)) ([Mf (DE m m)]) = t8 m ((⟨(⟨b0, b1, b2⟩ : an), (⟨b3, b4, b5, b6, b7, b8, b9, b10, b11, b12⟩ : aq), b13, b14, b15, b16, b17, b18, b19⟩ : bD), b20) := by kernel_rfl
  exact N8.Ce ag T20.right (W := [Mf (DE m m)]) (by kernel_rfl) (by kernel_rfl) (by kernel_rfl) (aH (SH m m) aE) (G.trans hm)) hsh hd hz hval
end
end Go.Proofs.YtdbkoeefnodejaaGreat
