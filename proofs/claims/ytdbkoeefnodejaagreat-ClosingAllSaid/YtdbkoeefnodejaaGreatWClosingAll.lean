/- A part of the walk. -/
import Derived.Test.YtdbkoeefnodejaaGreatQ6
set_option linter.unusedVariables false
set_option linter.unusedSimpArgs false
namespace Go.Proofs.YtdbkoeefnodejaaGreat
noncomputable section
open Go Go.Proofs.YtdbkoeefnodejaaGreat.Ev
set_option maxRecDepth 20000
def r9 : List Par := [(true, [.int .i64, .int .i64, .int .i64, .int .i64, .int .i64, .int .i64, .int .i64, .int .i64, .int .i64, .int .i64, .int .i64, .int .i64, .int .i64, .ints .i64, .ints .i64, .ints .i64, .ints .i64, .ints .i64, .ints .i64, .ints .i64]), (false, [.int .i64])]
def N7 : aF := ⟨T24.tab, 7, ⟨List.map Par.vp r9, [], 0⟩, ⟨[.bool], [], 0⟩, []⟩
abbrev Lj : Type := Int × Int × Int × Int × Int × an × aq × an × aq × ai × List Dat × List Dat × List Dat × List Dat × List Dat × List Dat × List Dat × List Dat × List Dat × List Dat × List Dat × List Dat × List Dat
def E4 (m : Nat) (k : Lj -> Option (List Un)) : Lj -> Option (List Un) := fun (a0, a1, a2, a3, a4, a5, a6, a7, a8, a9, a10, a11, a12, a13, a14, a15, a16, a17, a18, a19, a20, a21, a22) =>
 bif decide (a4 < a3) then
 chk (inb a4 a11.length) <|
 chk (decide (a4.toNat < a11.length)) <|
 lt (af a11 a4.toNat : Dat) fun d4 =>
 bif decide (-2305843009213693952 <= 0 /\ 0 <= (d4.i 1) /\ (d4.i 1) <= 2305843009213693952) then
 chk (fits (a10.length + 1) 56) <|
 k (a0, a1, (w64 (a2 + (within a0 0 (d4.i 1)))), a3, (w64 (a4 + 1)), a5, a6, a7, a8, a9, (a10 ++ ([.r [.n (d4.i 0), .n 0, .n 0, .n 0, .n (within a0 0 (d4.i 1)), .n 0, .n (bI true)]])), a11, a12, a13, a14, a15, a16, a17, a18, a19, a20, a21, a22)
 else
 none
 else
 chk (decide (0 <= a1) && jT (⟨a7, a8, a9, a16, a17, a18, a19, a20, a22, a21⟩ : ab)) <|
 lt (((aC (⟨a7, a8, a9, a16, a17, a18, a19, a20, a22, a21⟩ : ab) a10).ra) : fW) fun g7 =>
 lt (((aC (⟨a7, a8, a9, a16, a17, a18, a19, a20, a22, a21⟩ : ab) a10).t.aI) : List Dat) fun l19 =>
 lt (((aC (⟨a7, a8, a9, a16, a17, a18, a19, a20, a22, a21⟩ : ab) a10).t.tr) : List Dat) fun l20 =>
 chk (decide (0 <= a1) && (decide (l20.length <= 1000) && l20.all aO)) <|
 lt ((((bC (⟨a5, a11, a12, a6, a13, a14, a15⟩ : br)).getD (0, 0)).1) : Int) fun x23 =>
 bif ((aC (⟨a7, a8, a9, a16, a17, a18, a19, a20, a22, a21⟩ : ab) a10).e) == 0 then
 bif g7.aK == (((bC (⟨a5, a11, a12, a6, a13, a14, a15⟩ : br)).getD (0, 0)).1) then
 bif g7.aT == a2 then
 bif ((aC (⟨a7, a8, a9, a16, a17, a18, a19, a20, a22, a21⟩ : ab) a10).rb).aI == 0 then
 chk (decide (0 <= a1)) <|
 chk (decide (0 < ([.r [.r l19]] : List Dat).length) && (decide (((af ([.r [.r l19]] : List Dat) 0).d 0).length <= 1000) && ((af ([.r [.r l19]] : List Dat) 0).d 0).all BG)) <|
 bif (ak 2 ((af ([.r [.r l19]] : List Dat) 0).d 0)) == (w64 (x23 - a2)) then
 bif (ak 6 l20) == (if (w64 (x23 - a2)) < (aW unD l20) then (w64 (x23 - a2)) else (aW unD l20)) then
 bif (aW bc l20) == (w64 ((aW unD l20) - (ak 6 l20))) then
 some ([.b true])
 else
 some ([.b false])
 else
 some ([.b false])
 else
 some ([.b false])
 else
 some ([.b false])
 else
 some ([.b false])
 else
 some ([.b false])
 else
 some ([.b false])
def Dd (m : Nat) : Nat -> Lj -> Option (List Un) := bj (E4 m)
theorem xQ (m : Nat) (n : Nat) : Dd m (n + 1) = E4 m (Dd m n) := rfl
def Lb (F : Lj -> Option (List Un)) : aR := ⟨[.lp [0, 1, 0, 1, 1, 1, 1, 1, 1], .blk 0, .code [1, 1, 1, 1, 1, 1, 1]], ⟨frm 127 [(1, .int .i64), (5, .ptr 0 0 0), (6, .np 1 0 0), (8, .buf 2 7), (9, .int .i64), (41, .buf 3 2), (42, .int .i64), (43, .int .i64)], [.cells [.int .i64, .int .i64, .int .i64, .buf 3 2, .buf 4 3, .int .i64, .int .i64, .int .i64, .int .i64, .int .i64, .int .i64, .int .i64, .int .i64, .int .i64, .int .i64, .buf 5 2, .buf 6 2, .buf 7 2], .cells [.int .i64, .int .i64, .int .i64, .buf 8 2, .buf 9 3, .int .i64, .int .i64, .int .i64, .int .i64, .int .i64, .int .i64, .int .i64, .int .i64, .int .i64, .int .i64, .buf 10 2, .buf 11 2, .buf 12 2, .ptr 13 0 0, .buf 14 7, .int .i64, .int .i64, .int .i64, .int .i64, .int .i64, .int .i64, .int .i64, .int .i64, .int .i64, .bool], .ae (sB 6), .ae (sI 2), .ae (sI 3), .ae (sI 2), .ae (sI 2), .ae (sI 2), .ae (sI 2), .ae (sI 3), .ae (sI 2), .ae (sI 2), .ae (sI 2), .cells [.buf 15 5], .ae (sI 7), .ae (sB 4)], 0⟩, onU F⟩
theorem Sh (m : Nat) : ∀ n, HO N7 (Lb (Dd m n)) := au ag T24.right (fun k => [Lb k]) (fun k h => (aH h aE)) fun k a => by kernel_rfl
def t7 (m : Nat) : bD × Int -> Option (List Un) := fun (a0, a1) =>
 chk (decide (a0.notes.length <= 140737488355328)) <|
 chk (decide ((ay a0).ax.length < 1000000 /\ (ay a0).notes.length < 1000000 /\ (ay a0).s0.length < 1000000 /\ (ay a0).s1.length < 1000000 /\ (ay a0).s2.length < 1000000)) <|
 lt (((if (bC (ay a0)).isSome then 0 else -1) : Int) : Int) fun x1 =>
 bif ((decide (x1 < 0)) && true) then
 some ([.b false])
 else
 bif ((if (bC (ay a0)).isSome then 0 else 2) : Int) != 0 then
 some ([.b false])
 else
 chk (decide (0 <= x1)) <|
 Dd m m (a1, x1, 0, (((ay a0).ax).length : Int), 0, ((ay a0).a), ((ay a0).b), ((bA (ay a0)).a), ((bA (ay a0)).b), ((bA (ay a0)).n), [], (ay a0).ax, (ay a0).notes, (ay a0).s0, (ay a0).s1, (ay a0).s2, ((bA (ay a0)).ax), ((bA (ay a0)).notes), ((bA (ay a0)).s0), ((bA (ay a0)).s1), ((bA (ay a0)).s2), ((bA (ay a0)).tr), ((bA (ay a0)).aI))
def bV (back : Int) (d : Dat) : Dat := .r [.n (d.i 0), .n 0, .n 0, .n 0, .n (within back 0 (d.i 1)), .n 0, .n (bI true)]
theorem Gu {back : Int} {d : Dat} (h : 0 <= d.i 1 /\ d.i 1 <= 1099511627776) : wy (dU d) (bV back d) = true /\ fV ((bV back d).i 1) ((bV back d).i 2) ((bV back d).i 3) ((bV back d).i 4) ((bV back d).i 5) = true := by
 have w := aS (a := back) h.1; constructor
 · show qp (d.i 1) 0 (bI false != 0) 0 0 0 (within back 0 (d.i 1)) 0 (bI true != 0) = true; rw [FO, FO]; unfold qp; rw [cond_false, show w64 (d.i 1 - 0) = d.i 1 - 0 from aa (by omega) (by omega), show w64 (d.i 1 - 0 - 0) = d.i 1 from (aa (by omega) (by omega)).trans (by omega), decide_eq_false (show ¬ d.i 1 < 0 by omega), cond_false, cond_true, show w64 (0 + d.i 1) = d.i 1 from (aa (by omega) (by omega)).trans (by omega), decide_eq_true (show within back 0 (d.i 1) <= d.i 1 by omega)]; rfl
 · show fV 0 0 0 (within back 0 (d.i 1)) 0 = true; simp only [fV, Bool.and_eq_true, decide_eq_true_eq]; omega
theorem yk (back : Int) : ∀ (rest pre : List Dat) (last s r : Int), (∀ x ∈ rest, 0 <= x.i 1 /\ x.i 1 <= 1099511627776) -> (∀ x ∈ pre, x.i 0 <= last) -> (rest.map fun x => x.i 0).Pairwise (· < ·) -> (∀ x ∈ rest, last < x.i 0) -> (0 <= s /\ s + ak 1 rest <= 2199023255552) -> (0 <= r /\ r + ak 1 rest <= 2199023255552) ->
 ir last (rest.map (bV back)) = true /\ ∃ y, eh (pre ++ rest.map dU) 0 0 s r (rest.map (bV back)) = some y /\ y.e = 0 /\ y.p = 0 /\ y.l = s + ak 1 rest /\ y.r = r + aW (fun d => within back 0 (d.i 1)) rest
 | [], pre, last, s, r, _, _, _, _, _, _ => ⟨rfl, ⟨0, 0, s, r, 0, pre ++ []⟩, rfl, rfl, rfl, by simp [ak], by simp [aW]⟩
 | x :: rest, pre, last, s, r, hl, hp, hw, hlt, hs, hr => by
  have hx := hl x (by simp); have hx0 := hlt x (by simp); have w := aS (a := back) hx.1; obtain ⟨m1, m2⟩ := Gu (back := back) hx; rw [List.map_cons, List.pairwise_cons] at hw; have n1 := eQ 1 rest fun d hd => (hl d (by simp [hd])).1
  simp only [ak] at hs hr; have ih := yk back rest (pre ++ [ke (dU x) (bV back x)]) (x.i 0) (s + x.i 1) (r + within back 0 (x.i 1)) (fun z hz => hl z (by simp [hz])) (fun z hz => by
   rcases List.mem_append.1 hz with hz | hz
   · have := hp z hz; omega
   · rw [List.mem_singleton.1 hz]; exact Int.le_refl _) hw.2 (fun z hz => hw.1 _ (List.mem_map.2 ⟨z, hz, rfl⟩)) (by omega) (by omega)
  have e3 : (bV back x).i 0 = x.i 0 := rfl; have hi : eO ((bV back x).i 0) 0 (pre ++ (dU x :: rest.map dU)) = (pre.length : Int) := by
   rw [e3, vh (x.i 0) (dU x) rfl pre (rest.map dU) 0 fun z hz => by have := hp z hz; omega]; omega
  have hloss : fj ((dU x).i 1) ((bV back x).i 1) ((bV back x).i 2) ((bV back x).b 6) = x.i 1 := by
   show fj (x.i 1) 0 0 (bI true != 0) = _; rw [FO]; unfold fj; rw [cond_true, show w64 (0 + 0) = 0 by decide, Int.sub_zero, aa (by omega) (by omega)]
  simp only [List.map_cons]; refine ⟨?_, ?_⟩
  · unfold ir; rw [e3, if_neg (by omega), if_pos m2]; exact ih.1
  · obtain ⟨_, y, y1, y2, y3, y4, y5⟩ := ih; refine ⟨y, ?_, y2, y3, by simp only [ak]; omega, by simp only [aW]; omega⟩; unfold eh; rw [hi, if_neg (by omega), Int.toNat_natCast, ao, if_pos m1, tf, hloss]; rw [show w64 (0 + w64 ((bV back x).i 1 + (bV back x).i 2)) = 0 by show w64 (0 + w64 (0 + 0)) = 0; decide, show w64 (0 + (bV back x).i 3) = 0 by show w64 (0 + 0) = 0; decide, aa (n := s + x.i 1) (by omega) (by omega), show w64 (r + (bV back x).i 4) = r + within back 0 (x.i 1) from aa (by show _ <= r + within back 0 (x.i 1); omega) (by show r + within back 0 (x.i 1) <= _; omega)]; simpa using y1
theorem Hd {c c' : List Dat} (h : eA c c') : aW unD c' = aW unD c := by
 rw [qv, qv, h.len]; refine wb _ fun i hi => ?_
 obtain ⟨_, r1, _, r3, r4, _⟩ := h.row i hi; unfold unD; omega
theorem nP (back : Int) : ∀ l : List Dat, (∀ x ∈ l, 0 <= x.i 1) -> 0 <= aW (fun d => within back 0 (d.i 1)) l /\ aW (fun d => within back 0 (d.i 1)) l <= ak 1 l
 | [], _ => by simp [aW, ak]
 | d :: l, h => by
  have := nP back l fun x hx => h x (by simp [hx])
  have := aS (a := back) (h d (by simp)); simp only [aW, ak]; omega
theorem PZ (m : Nat) (back : Int) (d : br) (h : eJ (aN d)) (he : (cP (aN d) (d.ax.map (bV back))).e = 0) (hp0 : (cP (aN d) (d.ax.map (bV back))).p = 0) (hl : (cP (aN d) (d.ax.map (bV back))).l = ak 1 d.ax) (hr : (cP (aN d) (d.ax.map (bV back))).r = aW (fun d => within back 0 (d.i 1)) d.ax) :
 ∀ (rest pre : List Dat) (n : Nat) (s : Int), d.ax = pre ++ rest -> rest.length < n -> s = aW (fun d => within back 0 (d.i 1)) pre ->
 Dd m n (back, 0, s, (d.ax.length : Int), (pre.length : Int), d.a, d.b, (aN d).a, (aN d).b, (aN d).n, pre.map (bV back), d.ax, d.notes, d.s0, d.s1, d.s2, (aN d).ax, (aN d).notes, (aN d).s0, (aN d).s1, (aN d).s2, (aN d).tr, (aN d).aI) = some [.b true] := by
 have D := dz h.qK; have hll : d.ax.length <= 64 := D.Gx.2; have hpos : ∀ x ∈ d.ax, 0 <= x.i 1 /\ x.i 1 <= 1099511627776 := D.wD; have tot : 0 <= ak 1 d.ax /\ ak 1 d.ax <= 1099511627776 := D.aI; have ws := nP back d.ax fun x hx => (hpos x hx).1
 intro rest
 induction rest with
 | nil =>
  intro pre n s hd hn hs; obtain ⟨n, rfl⟩ := al n (by omega); rw [List.append_nil] at hd; subst hd; obtain ⟨hC, hN, hO, hPd, hM, hX, hD, hR, hQ⟩ := lG h rfl (by show (0 : Int) < 600; omega) he; obtain ⟨q1, q2, q3, q4, q5, q6, q7, q8, q9⟩ := kY h he; obtain ⟨t1, t2, t3⟩ := kb h he; obtain ⟨g1, g2, g3, g4⟩ := nf h he; have hus := Hd t2; have hu := gn _ t1.2; have ps : ak 1 (aN d).aI = ak 1 d.ax /\ ak 2 (aN d).aI = 0 := pQ d.ax; have u := kA h he; have hT : (⟨(aN d).a, (aN d).b, (aN d).n, (aN d).ax, (aN d).notes, (aN d).s0, (aN d).s1, (aN d).s2, (aN d).aI, (aN d).tr⟩ : ab) = aN d := rfl; have hDs : ((bC (⟨d.a, d.ax, d.notes, d.b, d.s0, d.s1, d.s2⟩ : br)).getD (0, 0)).1 = ak 1 d.ax := D.QL; have htg : ak 6 (dH (aN d) (d.ax.map (bV back))) = min (ak 1 d.ax - s) (aW unD (dH (aN d) (d.ax.map (bV back)))) := by
   rw [t3, hus]; unfold cJ; rw [g4]; omega
  rw [xQ]; unfold E4; dsimp only; rw [aw (by omega), hT]; refine bp (Bool.and_eq_true_iff.2 ⟨rfl, fF.2 h⟩) ?_
  dsimp only [lt]; rw [hC]; refine bp (Bool.and_eq_true_iff.2 ⟨rfl, eB t1⟩) ?_
  rw [hDs, cI (show (aD (aN d) (d.ax.map (bV back))).e = 0 from rfl), cI (show (aD (aN d) (d.ax.map (bV back))).ra.aK = ak 1 d.ax from hl), cI (show (aD (aN d) (d.ax.map (bV back))).ra.aT = s from hr.trans hs.symm), cI (show (aD (aN d) (d.ax.map (bV back))).rb.aI = 0 by show ak 1 (cP (aN d) (d.ax.map (bV back))).aI = 0; omega)]; refine bp rfl (bp (Bool.and_eq_true_iff.2 ⟨rfl, ?_⟩) ?_)
  · rw [Bool.and_eq_true, List.all_eq_true]; have hpl : (cP (aN d) (d.ax.map (bV back))).aI.length = d.ax.length := by have := congrArg List.length q2; simpa [aN] using this
    refine ⟨decide_eq_true (show (cP (aN d) (d.ax.map (bV back))).aI.length <= 1000 by omega), fun x hx => decide_eq_true ?_⟩; have := q1 x hx; unfold gu at this; omega
  have e2 : ak 2 (cP (aN d) (d.ax.map (bV back))).aI = ak 1 d.ax - s := by omega
  have hw : w64 (ak 1 d.ax - s) = ak 1 d.ax - s := aa (by omega) (by omega); show (bif ak 2 (cP (aN d) (d.ax.map (bV back))).aI == w64 (ak 1 d.ax - s) then (bif ak 6 (dH (aN d) (d.ax.map (bV back))) == (if w64 (ak 1 d.ax - s) < aW unD (dH (aN d) (d.ax.map (bV back))) then w64 (ak 1 d.ax - s) else aW unD (dH (aN d) (d.ax.map (bV back)))) then (bif aW bc (dH (aN d) (d.ax.map (bV back))) == w64 (aW unD (dH (aN d) (d.ax.map (bV back))) - ak 6 (dH (aN d) (d.ax.map (bV back)))) then _ else _) else _) else _) = _; have hgl := t1.1; rw [hw, cI e2, cI (by rw [htg]; omega), aa (n := aW unD _ - _) (by omega) (by omega), cI (by omega)]
 | cons x rest ih =>
  intro pre n s hd hn hs; obtain ⟨n, rfl⟩ := al n (by omega); have hlen : d.ax.length = pre.length + (rest.length + 1) := by rw [hd]; simp
  have hx := hpos x (by rw [hd]; simp); have w := aS (a := back) hx.1; have wp := nP back pre fun y hy => (hpos y (by rw [hd]; simp [hy])).1
  have sp : ak 1 pre <= 1099511627776 * 64 := by
   have := mZ 1 1099511627776 pre fun y hy => hpos y (by rw [hd]; simp [hy])
   omega
  have hrow : af d.ax pre.length = x := by rw [hd]; exact ao _ _ _
  have := ih (pre ++ [x]) n (s + within back 0 (x.i 1)) (by rw [hd]; simp) (by simpa using hn) (by rw [w8, hs]); rw [List.map_append, show [x].map (bV back) = [.r [.n (x.i 0), .n 0, .n 0, .n 0, .n (within back 0 (x.i 1)), .n 0, .n (bI true)]] from rfl] at this; rw [xQ]; unfold E4; dsimp only; rw [ba (by omega), cy (by omega) (by omega), aG (by omega)]; simp only [lt_eq, Int.toNat_natCast, hrow]; rw [ba (by omega), pf (by rw [List.length_map]; omega) (by rw [List.length_map]; omega), aa (n := s + _) (by omega) (by omega), aa (n := (pre.length : Int) + 1) (by omega) (by omega)]; simpa using this
set_option maxHeartbeats 8000000 in
theorem QU (b0 : Int) (wb0 : (Lit.int .i64 b0).wf = true) (b1 : Int) (wb1 : (Lit.int .i64 b1).wf = true) (b2 : Int) (wb2 : (Lit.int .i64 b2).wf = true) (b3 : Int) (wb3 : (Lit.int .i64 b3).wf = true) (b4 : Int) (wb4 : (Lit.int .i64 b4).wf = true) (b5 : Int) (wb5 : (Lit.int .i64 b5).wf = true) (b6 : Int) (wb6 : (Lit.int .i64 b6).wf = true) (b7 : Int) (wb7 : (Lit.int .i64 b7).wf = true) (b8 : Int) (wb8 : (Lit.int .i64 b8).wf = true) (b9 : Int) (wb9 : (Lit.int .i64 b9).wf = true) (b10 : Int) (wb10 : (Lit.int .i64 b10).wf = true) (b11 : Int) (wb11 : (Lit.int .i64 b11).wf = true) (b12 : Int) (wb12 : (Lit.int .i64 b12).wf = true) (b13 : List Int) (wb13 : b13.length <= 140737488355328 /\ ∀ x ∈ b13, (Lit.int .i64 x).wf = true) (b14 : List Int) (wb14 : b14.length <= 140737488355328 /\ ∀ x ∈ b14, (Lit.int .i64 x).wf = true) (b15 : List Int) (wb15 : b15.length <= 140737488355328 /\ ∀ x ∈ b15, (Lit.int .i64 x).wf = true) (b16 : List Int) (wb16 : b16.length <= 140737488355328 /\ ∀ x ∈ b16, (Lit.int .i64 x).wf = true) (b17 : List Int) (wb17 : b17.length <= 140737488355328 /\ ∀ x ∈ b17, (Lit.int .i64 x).wf = true) (b18 : List Int) (wb18 : b18.length <= 140737488355328 /\ ∀ x ∈ b18, (Lit.int .i64 x).wf = true) (b19 : List Int) (wb19 : b19.length <= 140737488355328 /\ ∀ x ∈ b19, (Lit.int .i64 x).wf = true) (b20 : Int) (wb20 : (Lit.int .i64 b20).wf = true) : ∃ m, t7 m ((⟨(⟨b0, b1, b2⟩ : an), (⟨b3, b4, b5, b6, b7, b8, b9, b10, b11, b12⟩ : aq), b13, b14, b15, b16, b17, b18, b19⟩ : bD), b20) = some [.b true] := by
 have hn : (⟨⟨b0, b1, b2⟩, ⟨b3, b4, b5, b6, b7, b8, b9, b10, b11, b12⟩, b13, b14, b15, b16, b17, b18, b19⟩ : bD).notes.length <= 140737488355328 := wb14.1; generalize (⟨⟨b0, b1, b2⟩, ⟨b3, b4, b5, b6, b7, b8, b9, b10, b11, b12⟩, b13, b14, b15, b16, b17, b18, b19⟩ : bD) = k at hn; have h := sZ k; have hT : bA (ay k) = aN (ay k) := na k; have D := dz (fH k); refine ⟨70, ?_⟩; unfold t7; dsimp only [lt]; rw [aG hn, aG (jF k), fH k, if_pos rfl, if_pos rfl]; refine lZ rfl (lZ rfl (bp rfl ?_)); rw [hT]; obtain ⟨a1, y, a2, a3, a4, a5, a6⟩ := yk b20 (ay k).ax [] 0 0 0 D.wD (fun x hx => by cases hx) D.ids D.pos (by have := D.aI; omega) (by have := D.aI; omega); have ht : lQ ((ay k).ax.map (bV b20)) = true := by
  simp only [lQ, Bool.and_eq_true, decide_eq_true_eq]; exact ⟨by rw [List.length_map]; exact D.Gx.2, a1⟩
 have hP : cP (aN (ay k)) ((ay k).ax.map (bV b20)) = y := by
  unfold cP aB; rw [if_pos ht, show eh (aN (ay k)).aI 0 0 0 0 ((ay k).ax.map (bV b20)) = some y from a2]; rfl
 exact PZ 70 b20 (ay k) h (by rw [hP]; exact a3) (by rw [hP]; exact a4) (by rw [hP]; omega) (by rw [hP]; omega) (ay k).ax [] 70 0 rfl (by have := D.Gx; omega) rfl
set_option maxRecDepth 20000 in
theorem tN {HH : Type} {enc : TypeId × Value -> HH} {w : World} {base : Nat} {vs : List Value} {ds : List (DataW HH)} {ps : List MemPlace} (hsh : w.ShapedOpen Tryz.prog)
 (hd : DataW.TrodAll enc Tryz.prog w 0 (fun _ => true) true Tryz.f7.params.toList vs ds ps) {us' : List TypeId} {gs : List (DataW HH)} (hz : (DataW.weightsEach Tryz.prog (Tryz.f7.params.toList ++ us') (ds ++ gs)).all (· <= reachBytes) = true) (hval : ∀ (j : Nat) t v, Tryz.f7.params.toList[j]? = some t -> vs[j]? = some v -> Value.okWide Tryz.prog w .any base t v) :
 Calls Tryz.prog 7 vs.toArray w fun e w' => e = .returned (.bool true) /\ RowKit.Below w.heap.size w w' :=
 o4 Seat.mix Seat.names oJ (pars := r9) (by kernel_rfl) (fun us h => by
  change WfU [.int .i64, .int .i64, .int .i64, .int .i64, .int .i64, .int .i64, .int .i64, .int .i64, .int .i64, .int .i64, .int .i64, .int .i64, .int .i64, .ints .i64, .ints .i64, .ints .i64, .ints .i64, .ints .i64, .ints .i64, .ints .i64, .int .i64] us at h; obtain ⟨b0, u, rfl, wb0, h⟩ := bg h; obtain ⟨b1, u, rfl, wb1, h⟩ := bg h; obtain ⟨b2, u, rfl, wb2, h⟩ := bg h; obtain ⟨b3, u, rfl, wb3, h⟩ := bg h; obtain ⟨b4, u, rfl, wb4, h⟩ := bg h; obtain ⟨b5, u, rfl, wb5, h⟩ := bg h; obtain ⟨b6, u, rfl, wb6, h⟩ := bg h; obtain ⟨b7, u, rfl, wb7, h⟩ := bg h; obtain ⟨b8, u, rfl, wb8, h⟩ := bg h; obtain ⟨b9, u, rfl, wb9, h⟩ := bg h; obtain ⟨b10, u, rfl, wb10, h⟩ := bg h; obtain ⟨b11, u, rfl, wb11, h⟩ := bg h; obtain ⟨b12, u, rfl, wb12, h⟩ := bg h; obtain ⟨b13, u, rfl, wb13, h⟩ := bJ h; obtain ⟨b14, u, rfl, wb14, h⟩ := bJ h; obtain ⟨b15, u, rfl, wb15, h⟩ := bJ h; obtain ⟨b16, u, rfl, wb16, h⟩ := bJ h; obtain ⟨b17, u, rfl, wb17, h⟩ := bJ h; obtain ⟨b18, u, rfl, wb18, h⟩ := bJ h; obtain ⟨b19, u, rfl, wb19, h⟩ := bJ h; obtain ⟨b20, u, rfl, wb20, h⟩ := bg h; obtain rfl := ub h; obtain ⟨m, hm⟩ := QU b0 wb0 b1 wb1 b2 wb2 b3 wb3 b4 wb4 b5 wb5 b6 wb6 b7 wb7 b8 wb8 b9 wb9 b10 wb10 b11 wb11 b12 wb12 b13 wb13 b14 wb14 b15 wb15 b16 wb16 b17 wb17 b18 wb18 b19 wb19 b20 wb20; have G : N7.wx Tryz.prog LQ KN (Uns.enc ((⟨(⟨b0, b1, b2⟩ : an), (⟨b3, b4, b5, b6, b7, b8, b9, b10, b11, b12⟩ : aq), b13, b14, b15, b16, b17, b18, b19⟩ : bD), b20)) ([Lb (Dd m m)]) = t7 m ((⟨(⟨b0, b1, b2⟩ : an), (⟨b3, b4, b5, b6, b7, b8, b9, b10, b11, b12⟩ : aq), b13, b14, b15, b16, b17, b18, b19⟩ : bD), b20) := by kernel_rfl
  exact N7.Ce ag T24.right (W := [Lb (Dd m m)]) (by kernel_rfl) (by kernel_rfl) (by kernel_rfl) (aH (Sh m m) aE) (G.trans hm)) hsh hd hz hval
end
end Go.Proofs.YtdbkoeefnodejaaGreat
