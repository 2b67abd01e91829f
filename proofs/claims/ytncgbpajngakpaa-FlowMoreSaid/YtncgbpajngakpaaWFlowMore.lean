/- A part of the walk. -/
import Derived.Test.YtncgbpajngakpaaFlowPlain2
namespace Go.Proofs.Ytncgbpajngakpaa
open Go Go.Proofs.Ytncgbpajngakpaa.Ev
set_option linter.unusedVariables false
set_option linter.unusedSimpArgs false
set_option linter.unnecessarySimpa false
def RFlowMore : List Par := [(false, [.ints .i64]), (true, [.int .i64, .int .i64, .int .i64, .int .i64, .int .i64, .int .i64, .int .i64, .int .i64, .int .i64, .int .i64, .int .i64, .int .i64, .int .i64, .ints .i64, .ints .i64, .ints .i64, .ints .i64, .ints .i64, .ints .i64, .ints .i64]), (false, [.int .i64]), (false, [.int .i64]), (false, [.int .i64])]
/-! cascade/cascadelaw17.FlowMore -/
noncomputable def N7 : RoadF := ⟨T12.tab, 7, ⟨List.map Par.vp RFlowMore, []⟩, ⟨[.bool], []⟩, []⟩
abbrev A7_2 : Type := Int × Int × Int × Int × List Dat × List Dat × List Int × List Int
abbrev A7_1 : Type := Int × Int × Int × Int × Int × List Dat × List Dat × List Int × List Int × List Dat
abbrev A7_0 : Type := Int × Int × Int × Int × Int × List Dat × List Dat × List Dat × List Int × List Int × List Dat
noncomputable def L7_2s (m : Nat) (k : A7_2 → Option (List Un)) : A7_2 → Option (List Un) := fun (a0, a1, a2, a3, a4, a5, a6, a7) =>
  bif decide (a3 < 16) then
   chk ((((16 == a6.length) && true) && true)) <|
   chk (inb a3 16) <|
   chk (decide (a3.toNat < a6.length)) <|
   chk ((((16 == a7.length) && true) && true)) <|
   chk (inb a3 16) <|
   chk (decide (a3.toNat < a7.length)) <|
   bif (decide ((a6.getD a3.toNat 0) > (a7.getD a3.toNat 0))) then
    some ([.b false])
   else
    k (a0, a1, a2, (w64 (a3 + 1)), a4, a5, a6, a7)
  else
   bif (a4.length : Int) == 0 then
    bif a1 == a0 then
     bif (a5.length : Int) == 0 then
      bif a2 == 0 then
       chk (decide (([] : List Dat).length ≤ 1000000) && ([] : List Dat).all paidG) <|
       bif (sumI 3 ([] : List Dat)) == 0 then
        some ([.b true])
       else
        some ([.b false])
      else
       some ([.b false])
     else
      some ([.b false])
    else
     some ([.b false])
   else
    some ([.b false])
noncomputable def L7_2 (m : Nat) : Nat → A7_2 → Option (List Un) := iterA (L7_2s m)
theorem L7_2_succ (m : Nat) (n : Nat) : L7_2 m (n + 1) = L7_2s m (L7_2 m n) := rfl
noncomputable def S7_2 (F : A7_2 → Option (List Un)) : StopS := ⟨[.lp [0, 1, 0, 1, 1, 1, 1, 1, 1, 1, 1, 1, 1, 1], .blk 4, .code [1, 1, 1, 1, 1, 1, 1, 1, 1, 1, 1, 1]], ⟨frm 155 [(14, .int .i64), (22, .buf 0 4), (23, .int .i64), (25, .buf 1 4), (26, .int .i64), (28, .ptr 2 0 0), (29, .ptr 3 0 0), (120, .int .i64)], [.recs [.int .i64, .int .i64, .int .i64, .int .i64], .recs [.int .i64, .int .i64, .int .i64, .int .i64], .ints .i64, .ints .i64]⟩, onU F⟩
noncomputable def L7_1s (m : Nat) (k : A7_1 → Option (List Un)) : A7_1 → Option (List Un) := fun (a0, a1, a2, a3, a4, a5, a6, a7, a8, a9) =>
  bif decide (a4 < a3) then
   chk (inb a4 a9.length) <|
   chk (decide (a4.toNat < a9.length)) <|
   lt (rowD a9 a4.toNat : Dat) fun d93 =>
   lt ((w64 ((BitVec.ofInt 64 (d93.i 0) &&& BitVec.ofInt 64 15).toNat)) : Int) fun x94 =>
   lt ((w64 ((BitVec.ofInt 64 (d93.i 0) &&& BitVec.ofInt 64 15).toNat)) : Int) fun x95 =>
   chk ((((16 == a8.length) && true) && true)) <|
   chk (inb x95 16) <|
   chk (decide (x95.toNat < a8.length)) <|
   chk ((((16 == a8.length) && true) && true)) <|
   chk (inb x94 16) <|
   chk (decide (x94.toNat < a8.length)) <|
   k (a0, a1, a2, a3, (w64 (a4 + 1)), a5, a6, a7, (List.set a8 x94.toNat (w64 ((a8.getD x95.toNat 0) + (d93.i 3)))), a9)
  else
   L7_2 m m (a0, a1, a2, 0, a5, a6, a7, a8)
noncomputable def L7_1 (m : Nat) : Nat → A7_1 → Option (List Un) := iterA (L7_1s m)
theorem L7_1_succ (m : Nat) (n : Nat) : L7_1 m (n + 1) = L7_1s m (L7_1 m n) := rfl
noncomputable def S7_1 (F : A7_1 → Option (List Un)) : StopS := ⟨[.lp [0, 1, 0, 1, 1, 1, 1, 1, 1, 1, 1, 1, 1], .blk 2, .code [1, 1, 1, 1, 1, 1, 1, 1, 1, 1, 1]], ⟨frm 155 [(14, .int .i64), (22, .buf 0 4), (23, .int .i64), (25, .buf 1 4), (26, .int .i64), (28, .ptr 2 0 0), (29, .ptr 3 0 0), (101, .buf 4 4), (102, .int .i64), (103, .int .i64)], [.recs [.int .i64, .int .i64, .int .i64, .int .i64], .recs [.int .i64, .int .i64, .int .i64, .int .i64], .ints .i64, .ints .i64, .recs [.int .i64, .int .i64, .int .i64, .int .i64]]⟩, onU F⟩
noncomputable def L7_0s (m : Nat) (k : A7_0 → Option (List Un)) : A7_0 → Option (List Un) := fun (a0, a1, a2, a3, a4, a5, a6, a7, a8, a9, a10) =>
  bif decide (a4 < a3) then
   chk (inb a4 a10.length) <|
   chk (decide (a4.toNat < a10.length)) <|
   lt (rowD a10 a4.toNat : Dat) fun d88 =>
   lt ((w64 ((BitVec.ofInt 64 (d88.i 0) &&& BitVec.ofInt 64 15).toNat)) : Int) fun x89 =>
   lt ((w64 ((BitVec.ofInt 64 (d88.i 0) &&& BitVec.ofInt 64 15).toNat)) : Int) fun x90 =>
   chk ((((16 == a8.length) && true) && true)) <|
   chk (inb x90 16) <|
   chk (decide (x90.toNat < a8.length)) <|
   chk ((((16 == a8.length) && true) && true)) <|
   chk (inb x89 16) <|
   chk (decide (x89.toNat < a8.length)) <|
   k (a0, a1, a2, a3, (w64 (a4 + 1)), a5, a6, a7, (List.set a8 x89.toNat (w64 ((a8.getD x90.toNat 0) + (d88.i 3)))), a9, a10)
  else
   L7_1 m m (a0, a1, a2, (a5.length : Int), 0, a6, a7, a8, a9, a5)
noncomputable def L7_0 (m : Nat) : Nat → A7_0 → Option (List Un) := iterA (L7_0s m)
theorem L7_0_succ (m : Nat) (n : Nat) : L7_0 m (n + 1) = L7_0s m (L7_0 m n) := rfl
noncomputable def S7_0 (F : A7_0 → Option (List Un)) : StopS := ⟨[.lp [0, 1, 0, 1, 1, 1, 1, 1, 1, 1, 1, 1], .blk 0, .code [1, 1, 1, 1, 1, 1, 1, 1, 1, 1]], ⟨frm 155 [(14, .int .i64), (19, .buf 0 4), (22, .buf 1 4), (23, .int .i64), (25, .buf 2 4), (26, .int .i64), (28, .ptr 3 0 0), (29, .ptr 4 0 0), (82, .buf 5 4), (83, .int .i64), (84, .int .i64)], [.recs [.int .i64, .int .i64, .int .i64, .int .i64], .recs [.int .i64, .int .i64, .int .i64, .int .i64], .recs [.int .i64, .int .i64, .int .i64, .int .i64], .ints .i64, .ints .i64, .recs [.int .i64, .int .i64, .int .i64, .int .i64]]⟩, onU F⟩
theorem H7_2 (m : Nat) : ∀ n, HO N7 (S7_2 (L7_2 m n)) := loop_holds KN_none T12.right (fun k => [S7_2 k]) (fun k h => (all1 h all0)) fun k a => by kernel_rfl
theorem H7_1 (m : Nat) : ∀ n, HO N7 (S7_1 (L7_1 m n)) := loop_holds KN_none T12.right (fun k => [S7_1 k, S7_2 (L7_2 m m)]) (fun k h => (all1 h (all1 (H7_2 m m) all0))) fun k a => by kernel_rfl
theorem H7_0 (m : Nat) : ∀ n, HO N7 (S7_0 (L7_0 m n)) := loop_holds KN_none T12.right (fun k => [S7_0 k, S7_1 (L7_1 m m)]) (fun k h => (all1 h (all1 (H7_1 m m) all0))) fun k a => by kernel_rfl
noncomputable def t7 (m : Nat) : List Int × KDeal × Int × Int × Int → Option (List Un) := fun (a0, a1, a2, a3, a4) =>
  chk (decide (a1.notes.length ≤ 140737488355328)) <|
  bif decide ((within a2 0 2) = 0) then
   chk (decide (((dealV a1).s0).length ≤ 1000000) && (runG ⟨(within a3 0 9000), (nextV a0 0 300), (nextV a0 1 900), (nextV a0 2 5000), (nextV a0 3 700)⟩ && claimsG (workC a0))) <|
   lt (((runV 0 ((dealV a1).s0) ⟨(within a3 0 9000), (nextV a0 0 300), (nextV a0 1 900), (nextV a0 2 5000), (nextV a0 3 700)⟩ (workC a0)).2.2) : List Dat) fun l6 =>
   lt ((w64 ((within a3 0 9000) + (within a4 0 9000))) : Int) fun x8 =>
   chk (decide (((dealV a1).s0).length ≤ 1000000) && (runG ⟨x8, (nextV a0 0 300), (nextV a0 1 900), (nextV a0 2 5000), (nextV a0 3 700)⟩ && claimsG (workC a0))) <|
   chk (decide (([] : List Dat).length ≤ 1000000) && (runG ⟨(within a3 0 9000), (nextV a0 0 300), (nextV a0 1 900), (nextV a0 2 5000), (nextV a0 3 700)⟩ && claimsG (workC a0))) <|
   chk (decide (((dealV a1).s0).length ≤ 1000000) && (runG ⟨0, (nextV a0 0 300), (nextV a0 1 900), (nextV a0 2 5000), (nextV a0 3 700)⟩ && claimsG (workC a0))) <|
   L7_0 m m ((within a3 0 9000), ((runV 0 ([] : List Dat) ⟨(within a3 0 9000), (nextV a0 0 300), (nextV a0 1 900), (nextV a0 2 5000), (nextV a0 3 700)⟩ (workC a0)).1.cash), ((runV 0 ((dealV a1).s0) ⟨0, (nextV a0 0 300), (nextV a0 1 900), (nextV a0 2 5000), (nextV a0 3 700)⟩ (workC a0)).1.cash), (l6.length : Int), 0, ((runV 0 ((dealV a1).s0) ⟨x8, (nextV a0 0 300), (nextV a0 1 900), (nextV a0 2 5000), (nextV a0 3 700)⟩ (workC a0)).2.2), ((runV 0 ([] : List Dat) ⟨(within a3 0 9000), (nextV a0 0 300), (nextV a0 1 900), (nextV a0 2 5000), (nextV a0 3 700)⟩ (workC a0)).2.2), ((runV 0 ((dealV a1).s0) ⟨0, (nextV a0 0 300), (nextV a0 1 900), (nextV a0 2 5000), (nextV a0 3 700)⟩ (workC a0)).2.2), ([0, 0, 0, 0, 0, 0, 0, 0, 0, 0, 0, 0, 0, 0, 0, 0] : List Int), ([0, 0, 0, 0, 0, 0, 0, 0, 0, 0, 0, 0, 0, 0, 0, 0] : List Int), l6)
  else
   bif decide ((within a2 0 2) = 1) then
    chk (decide (((dealV a1).s1).length ≤ 1000000) && (runG ⟨(within a3 0 9000), (nextV a0 0 300), (nextV a0 1 900), (nextV a0 2 5000), (nextV a0 3 700)⟩ && claimsG (workC a0))) <|
    lt (((runV 0 ((dealV a1).s1) ⟨(within a3 0 9000), (nextV a0 0 300), (nextV a0 1 900), (nextV a0 2 5000), (nextV a0 3 700)⟩ (workC a0)).2.2) : List Dat) fun l35 =>
    lt ((w64 ((within a3 0 9000) + (within a4 0 9000))) : Int) fun x37 =>
    chk (decide (((dealV a1).s1).length ≤ 1000000) && (runG ⟨x37, (nextV a0 0 300), (nextV a0 1 900), (nextV a0 2 5000), (nextV a0 3 700)⟩ && claimsG (workC a0))) <|
    chk (decide (([] : List Dat).length ≤ 1000000) && (runG ⟨(within a3 0 9000), (nextV a0 0 300), (nextV a0 1 900), (nextV a0 2 5000), (nextV a0 3 700)⟩ && claimsG (workC a0))) <|
    chk (decide (((dealV a1).s1).length ≤ 1000000) && (runG ⟨0, (nextV a0 0 300), (nextV a0 1 900), (nextV a0 2 5000), (nextV a0 3 700)⟩ && claimsG (workC a0))) <|
    L7_0 m m ((within a3 0 9000), ((runV 0 ([] : List Dat) ⟨(within a3 0 9000), (nextV a0 0 300), (nextV a0 1 900), (nextV a0 2 5000), (nextV a0 3 700)⟩ (workC a0)).1.cash), ((runV 0 ((dealV a1).s1) ⟨0, (nextV a0 0 300), (nextV a0 1 900), (nextV a0 2 5000), (nextV a0 3 700)⟩ (workC a0)).1.cash), (l35.length : Int), 0, ((runV 0 ((dealV a1).s1) ⟨x37, (nextV a0 0 300), (nextV a0 1 900), (nextV a0 2 5000), (nextV a0 3 700)⟩ (workC a0)).2.2), ((runV 0 ([] : List Dat) ⟨(within a3 0 9000), (nextV a0 0 300), (nextV a0 1 900), (nextV a0 2 5000), (nextV a0 3 700)⟩ (workC a0)).2.2), ((runV 0 ((dealV a1).s1) ⟨0, (nextV a0 0 300), (nextV a0 1 900), (nextV a0 2 5000), (nextV a0 3 700)⟩ (workC a0)).2.2), ([0, 0, 0, 0, 0, 0, 0, 0, 0, 0, 0, 0, 0, 0, 0, 0] : List Int), ([0, 0, 0, 0, 0, 0, 0, 0, 0, 0, 0, 0, 0, 0, 0, 0] : List Int), l35)
   else
    bif decide ((within a2 0 2) = 2) then
     chk (decide (((dealV a1).s2).length ≤ 1000000) && (runG ⟨(within a3 0 9000), (nextV a0 0 300), (nextV a0 1 900), (nextV a0 2 5000), (nextV a0 3 700)⟩ && claimsG (workC a0))) <|
     lt (((runV 0 ((dealV a1).s2) ⟨(within a3 0 9000), (nextV a0 0 300), (nextV a0 1 900), (nextV a0 2 5000), (nextV a0 3 700)⟩ (workC a0)).2.2) : List Dat) fun l64 =>
     lt ((w64 ((within a3 0 9000) + (within a4 0 9000))) : Int) fun x66 =>
     chk (decide (((dealV a1).s2).length ≤ 1000000) && (runG ⟨x66, (nextV a0 0 300), (nextV a0 1 900), (nextV a0 2 5000), (nextV a0 3 700)⟩ && claimsG (workC a0))) <|
     chk (decide (([] : List Dat).length ≤ 1000000) && (runG ⟨(within a3 0 9000), (nextV a0 0 300), (nextV a0 1 900), (nextV a0 2 5000), (nextV a0 3 700)⟩ && claimsG (workC a0))) <|
     chk (decide (((dealV a1).s2).length ≤ 1000000) && (runG ⟨0, (nextV a0 0 300), (nextV a0 1 900), (nextV a0 2 5000), (nextV a0 3 700)⟩ && claimsG (workC a0))) <|
     L7_0 m m ((within a3 0 9000), ((runV 0 ([] : List Dat) ⟨(within a3 0 9000), (nextV a0 0 300), (nextV a0 1 900), (nextV a0 2 5000), (nextV a0 3 700)⟩ (workC a0)).1.cash), ((runV 0 ((dealV a1).s2) ⟨0, (nextV a0 0 300), (nextV a0 1 900), (nextV a0 2 5000), (nextV a0 3 700)⟩ (workC a0)).1.cash), (l64.length : Int), 0, ((runV 0 ((dealV a1).s2) ⟨x66, (nextV a0 0 300), (nextV a0 1 900), (nextV a0 2 5000), (nextV a0 3 700)⟩ (workC a0)).2.2), ((runV 0 ([] : List Dat) ⟨(within a3 0 9000), (nextV a0 0 300), (nextV a0 1 900), (nextV a0 2 5000), (nextV a0 3 700)⟩ (workC a0)).2.2), ((runV 0 ((dealV a1).s2) ⟨0, (nextV a0 0 300), (nextV a0 1 900), (nextV a0 2 5000), (nextV a0 3 700)⟩ (workC a0)).2.2), ([0, 0, 0, 0, 0, 0, 0, 0, 0, 0, 0, 0, 0, 0, 0, 0] : List Int), ([0, 0, 0, 0, 0, 0, 0, 0, 0, 0, 0, 0, 0, 0, 0, 0] : List Int), l64)
    else
     none
def ofS (i : Nat) (d : Dat) : Bool := ofStep (i : Int) d
theorem and15 {x : Int} (h0 : 0 ≤ x) (h1 : x < 16) : w64 ((BitVec.ofInt 64 x &&& BitVec.ofInt 64 15).toNat) = x := by
  have : ∀ n : Fin 16, w64 ((BitVec.ofInt 64 (n.val : Int) &&& BitVec.ofInt 64 15).toNat) = (n.val : Int) := by decide
  have := this ⟨x.toNat, by omega⟩
  simp only [show ((x.toNat : Nat) : Int) = x by omega] at this
  exact this
theorem rep16 (f : Nat → Dat → Bool) : ([0, 0, 0, 0, 0, 0, 0, 0, 0, 0, 0, 0, 0, 0, 0, 0] : List Int) = tallyV f [] 16 := rfl
section
variable (m : Nat) (c1 c2 c3 : Int) (z none y : List Dat)
theorem moreL2 (a b : List Int) (ha : a.length = 16) (hb : b.length = 16) (hab : ∀ i, i < 16 → a.getD i 0 ≤ b.getD i 0) (hz : z = []) (h2 : c2 = c1) (hn : none = []) (h3 : c3 = 0) : ∀ (c i n : Nat), i + c = 16 → c < n →
    L7_2 m n (c1, c2, c3, (i : Int), z, none, a, b) = some [.b true] := by
  intro c
  induction c with
  | zero =>
    intro i n hi hn'
    obtain ⟨n, rfl⟩ := one_more n (by omega)
    rw [L7_2_succ]; unfold L7_2s; dsimp only
    rw [cond_df (by omega), hz, hn, cond_bt (by simp), cond_bt h2, cond_bt (by simp), cond_bt h3]
    rfl
  | succ c ih =>
    intro i n hi hn'
    obtain ⟨n, rfl⟩ := one_more n (by omega)
    have := ih (i + 1) n (by omega) (by omega)
    have h := hab i (by omega)
    rw [L7_2_succ]; unfold L7_2s; dsimp only
    have a16 : (((16 == a.length) && true) && true) = true := by rw [ha]; rfl
    have b16 : (((16 == b.length) && true) && true) = true := by rw [hb]; rfl
    rw [Int.toNat_natCast]
    simp (disch := omega) only [a16, b16, chk_tt, cond_dt, chk_inb, chk_dec, cond_df, wrap_id]
    exact this
theorem moreL1 (a : List Int) (hm : 100 < m) (ha : a.length = 16) (hab : ∀ i, i < 16 → a.getD i 0 ≤ sumW (ofS i) y) (hz : z = []) (h2 : c2 = c1) (hn : none = []) (h3 : c3 = 0) : ∀ (rest pre : List Dat) (n : Nat), rest.length < n → y = pre ++ rest → y.length ≤ 1000000 → (∀ d ∈ y, (0 ≤ d.i 0 ∧ d.i 0 < 16) ∧ 0 ≤ d.i 3 ∧ d.i 3 ≤ 1000000000) →
    L7_1 m n (c1, c2, c3, (y.length : Int), (pre.length : Int), z, none, a, tallyV ofS pre 16, y) = some [.b true] := by
  intro rest
  induction rest with
  | nil =>
    intro pre n hn' hy hl hb
    obtain ⟨n, rfl⟩ := one_more n (by simp at hn'; omega)
    simp only [List.append_nil] at hy
    rw [L7_1_succ]; unfold L7_1s; dsimp only
    rw [cond_df (by rw [hy]; omega)]
    refine moreL2 m c1 c2 c3 z none a _ ha (tallyV_len _ _ _) (fun i hi => ?_) hz h2 hn h3 16 0 m (by omega) (by omega)
    rw [tallyV_get _ _ hi, ← hy]; exact hab i hi
  | cons x rest ih =>
    intro pre n hn' hy hl hb
    obtain ⟨n, rfl⟩ := one_more n (by simp at hn'; omega)
    have := ih (pre ++ [x]) n (by simp at hn'; omega) (by rw [hy]; simp) hl hb
    obtain ⟨⟨q0, q1⟩, q2, q3⟩ := hb x (by rw [hy]; simp)
    have hyl : y.length = pre.length + (rest.length + 1) := by rw [hy]; simp
    have hrow : rowD y pre.length = x := by rw [hy]; exact rowD_mid _ _ _
    obtain ⟨t, ht⟩ : ∃ t : Nat, x.i 0 = (t : Int) := ⟨(x.i 0).toNat, by omega⟩
    have lT := tallyV_len ofS pre 16
    have gT := tallyV_get ofS pre (show t < 16 by omega)
    have bT := sumW_le (ofS t) 1000000000 pre (fun d hd => (hb d (by rw [hy]; simp [hd])).2) (by decide)
    rw [L7_1_succ]; unfold L7_1s; dsimp only
    rw [Int.toNat_natCast]
    have a15 : w64 ((BitVec.ofInt 64 (x.i 0) &&& BitVec.ofInt 64 15).toNat) = (t : Int) := by rw [and15 q0 q1]; exact ht
    simp only [lt_eq, hrow, a15, Int.toNat_natCast]
    have eT : (tallyV ofS pre 16).set t (w64 ((tallyV ofS pre 16).getD t 0 + x.i 3)) = tallyV ofS (pre ++ [x]) 16 := by
      rw [wrap_id (by omega) (by omega)]
      exact tallyV_set ofS pre 16 t x (by omega) (fun i => by simp only [ofS, ofStep, ht]; by_cases e : i = t <;> simp [e] <;> omega)
    rw [eT]
    have a16 : (((16 == (tallyV ofS pre 16).length) && true) && true) = true := by rw [lT]; rfl
    simp (disch := omega) only [a16, chk_tt, cond_dt, chk_inb, chk_dec, wrap_id, ht]
    simp only [List.length_append, List.length_cons, List.length_nil, Nat.zero_add, Int.natCast_add, Int.cast_ofNat_Int] at this
    exact this
theorem moreL0 (w : List Dat) (hm : y.length < m) (hm2 : 100 < m) (hyl : y.length ≤ 1000000) (hyb : ∀ d ∈ y, (0 ≤ d.i 0 ∧ d.i 0 < 16) ∧ 0 ≤ d.i 3 ∧ d.i 3 ≤ 1000000000) (hab : ∀ i, i < 16 → sumW (ofS i) w ≤ sumW (ofS i) y) (hz : z = []) (h2 : c2 = c1) (hn : none = []) (h3 : c3 = 0) : ∀ (rest pre : List Dat) (n : Nat), rest.length < n → w = pre ++ rest → w.length ≤ 1000000 → (∀ d ∈ w, (0 ≤ d.i 0 ∧ d.i 0 < 16) ∧ 0 ≤ d.i 3 ∧ d.i 3 ≤ 1000000000) →
    L7_0 m n (c1, c2, c3, (w.length : Int), (pre.length : Int), y, z, none, tallyV ofS pre 16, tallyV ofS [] 16, w) = some [.b true] := by
  intro rest
  induction rest with
  | nil =>
    intro pre n hn' hy hl hb
    obtain ⟨n, rfl⟩ := one_more n (by simp at hn'; omega)
    simp only [List.append_nil] at hy
    rw [L7_0_succ]; unfold L7_0s; dsimp only
    rw [cond_df (by rw [hy]; omega)]
    refine moreL1 m c1 c2 c3 z none y _ hm2 (tallyV_len _ _ _) (fun i hi => ?_) hz h2 hn h3 y [] m hm rfl hyl hyb
    rw [tallyV_get _ _ hi, ← hy]; exact hab i hi
  | cons x rest ih =>
    intro pre n hn' hy hl hb
    obtain ⟨n, rfl⟩ := one_more n (by simp at hn'; omega)
    have := ih (pre ++ [x]) n (by simp at hn'; omega) (by rw [hy]; simp) hl hb
    obtain ⟨⟨q0, q1⟩, q2, q3⟩ := hb x (by rw [hy]; simp)
    have hwl : w.length = pre.length + (rest.length + 1) := by rw [hy]; simp
    have hrow : rowD w pre.length = x := by rw [hy]; exact rowD_mid _ _ _
    obtain ⟨t, ht⟩ : ∃ t : Nat, x.i 0 = (t : Int) := ⟨(x.i 0).toNat, by omega⟩
    have lT := tallyV_len ofS pre 16
    have gT := tallyV_get ofS pre (show t < 16 by omega)
    have bT := sumW_le (ofS t) 1000000000 pre (fun d hd => (hb d (by rw [hy]; simp [hd])).2) (by decide)
    rw [L7_0_succ]; unfold L7_0s; dsimp only
    rw [Int.toNat_natCast]
    have a15 : w64 ((BitVec.ofInt 64 (x.i 0) &&& BitVec.ofInt 64 15).toNat) = (t : Int) := by rw [and15 q0 q1]; exact ht
    simp only [lt_eq, hrow, a15, Int.toNat_natCast]
    have eT : (tallyV ofS pre 16).set t (w64 ((tallyV ofS pre 16).getD t 0 + x.i 3)) = tallyV ofS (pre ++ [x]) 16 := by
      rw [wrap_id (by omega) (by omega)]
      exact tallyV_set ofS pre 16 t x (by omega) (fun i => by simp only [ofS, ofStep, ht]; by_cases e : i = t <;> simp [e] <;> omega)
    rw [eT]
    have a16 : (((16 == (tallyV ofS pre 16).length) && true) && true) = true := by rw [lT]; rfl
    simp (disch := omega) only [a16, chk_tt, cond_dt, chk_inb, chk_dec, wrap_id, ht]
    simp only [List.length_append, List.length_cons, List.length_nil, Nat.zero_add, Int.natCast_add, Int.cast_ofNat_Int] at this
    exact this
end
set_option maxHeartbeats 8000000 in
theorem spec7 (b0 : List Int) (wb0 : b0.length ≤ 140737488355328 ∧ ∀ x ∈ b0, (Lit.int .i64 x).wf = true) (b1 : Int) (wb1 : (Lit.int .i64 b1).wf = true) (b2 : Int) (wb2 : (Lit.int .i64 b2).wf = true) (b3 : Int) (wb3 : (Lit.int .i64 b3).wf = true) (b4 : Int) (wb4 : (Lit.int .i64 b4).wf = true) (b5 : Int) (wb5 : (Lit.int .i64 b5).wf = true) (b6 : Int) (wb6 : (Lit.int .i64 b6).wf = true) (b7 : Int) (wb7 : (Lit.int .i64 b7).wf = true) (b8 : Int) (wb8 : (Lit.int .i64 b8).wf = true) (b9 : Int) (wb9 : (Lit.int .i64 b9).wf = true) (b10 : Int) (wb10 : (Lit.int .i64 b10).wf = true) (b11 : Int) (wb11 : (Lit.int .i64 b11).wf = true) (b12 : Int) (wb12 : (Lit.int .i64 b12).wf = true) (b13 : Int) (wb13 : (Lit.int .i64 b13).wf = true) (b14 : List Int) (wb14 : b14.length ≤ 140737488355328 ∧ ∀ x ∈ b14, (Lit.int .i64 x).wf = true) (b15 : List Int) (wb15 : b15.length ≤ 140737488355328 ∧ ∀ x ∈ b15, (Lit.int .i64 x).wf = true) (b16 : List Int) (wb16 : b16.length ≤ 140737488355328 ∧ ∀ x ∈ b16, (Lit.int .i64 x).wf = true) (b17 : List Int) (wb17 : b17.length ≤ 140737488355328 ∧ ∀ x ∈ b17, (Lit.int .i64 x).wf = true) (b18 : List Int) (wb18 : b18.length ≤ 140737488355328 ∧ ∀ x ∈ b18, (Lit.int .i64 x).wf = true) (b19 : List Int) (wb19 : b19.length ≤ 140737488355328 ∧ ∀ x ∈ b19, (Lit.int .i64 x).wf = true) (b20 : List Int) (wb20 : b20.length ≤ 140737488355328 ∧ ∀ x ∈ b20, (Lit.int .i64 x).wf = true) (b21 : Int) (wb21 : (Lit.int .i64 b21).wf = true) (b22 : Int) (wb22 : (Lit.int .i64 b22).wf = true) (b23 : Int) (wb23 : (Lit.int .i64 b23).wf = true) : ∃ m, t7 m (b0, (⟨(⟨b1, b2, b3⟩ : DealA), (⟨b4, b5, b6, b7, b8, b9, b10, b11, b12, b13⟩ : DealB), b14, b15, b16, b17, b18, b19, b20⟩ : KDeal), b21, b22, b23) = some [.b true] := by
  have hn : (⟨⟨b1, b2, b3⟩, ⟨b4, b5, b6, b7, b8, b9, b10, b11, b12, b13⟩, b14, b15, b16, b17, b18, b19, b20⟩ : KDeal).notes.length ≤ 140737488355328 := wb15.1
  generalize (⟨⟨b1, b2, b3⟩, ⟨b4, b5, b6, b7, b8, b9, b10, b11, b12, b13⟩, b14, b15, b16, b17, b18, b19, b20⟩ : KDeal) = k at hn
  have hi := within_le (a := b21) (show (0 : Int) ≤ 2 by decide)
  have hw := within_le (a := b22) (show (0 : Int) ≤ 9000 by decide)
  have hw2 := within_le (a := b23) (show (0 : Int) ≤ 9000 by decide)
  have hx := workR_ok b0 (cash := within b22 0 9000) (by omega)
  have hy := workR_ok b0 (cash := within b22 0 9000 + within b23 0 9000) (by omega)
  have ho := workR_ok b0 (cash := 0) (by omega)
  have hc := workC_ok b0
  have hcl := workC_len b0
  unfold workR at hx hy ho
  have hXY : (⟨within b22 0 9000 + within b23 0 9000, nextV b0 0 300, nextV b0 1 900, nextV b0 2 5000, nextV b0 3 700⟩ : RunN) = { (⟨within b22 0 9000, nextV b0 0 300, nextV b0 1 900, nextV b0 2 5000, nextV b0 3 700⟩ : RunN) with cash := (⟨within b22 0 9000, nextV b0 0 300, nextV b0 1 900, nextV b0 2 5000, nextV b0 3 700⟩ : RunN).cash + within b23 0 9000 } := rfl
  have hX0 : (⟨within b22 0 9000, nextV b0 0 300, nextV b0 1 900, nextV b0 2 5000, nextV b0 3 700⟩ : RunN).cash = within b22 0 9000 := rfl
  have hY0 : (⟨within b22 0 9000 + within b23 0 9000, nextV b0 0 300, nextV b0 1 900, nextV b0 2 5000, nextV b0 3 700⟩ : RunN).cash = within b22 0 9000 + within b23 0 9000 := rfl
  have hO0 : (⟨0, nextV b0 0 300, nextV b0 1 900, nextV b0 2 5000, nextV b0 3 700⟩ : RunN).cash = 0 := rfl
  refine ⟨1000000, ?_⟩
  unfold t7
  dsimp only
  rw [chk_dec hn]
  rw [wrap_id (n := within b22 0 9000 + within b23 0 9000) (by omega) (by omega)]
  simp only [lt_eq]
  generalize (⟨within b22 0 9000, nextV b0 0 300, nextV b0 1 900, nextV b0 2 5000, nextV b0 3 700⟩ : RunN) = X at *
  generalize (⟨within b22 0 9000 + within b23 0 9000, nextV b0 0 300, nextV b0 1 900, nextV b0 2 5000, nextV b0 3 700⟩ : RunN) = Y at *
  generalize (⟨0, nextV b0 0 300, nextV b0 1 900, nextV b0 2 5000, nextV b0 3 700⟩ : RunN) = O at *
  have hz0 : runV 0 [] X (workC b0) = (X, workC b0, []) := rfl
  by_cases h0 : within b21 0 2 = 0
  · rw [cond_dt h0]
    have hsl : ((dealV k).s0).length ≤ 12 := (stepsV_short k.s0).2
    generalize (dealV k).s0 = st at hsl
    have hr := runV_ok st 0 X (workC b0) hx hc
    have hs := runV_ok st 0 Y (workC b0) hy hc
    have hp := runV_paid (l := st) (a := 0) hx hc (by omega)
    have hq := runV_paid (l := st) (a := 0) hy hc (by omega)
    have hk := (runV_kept st 0 X (workC b0) hx hc).2.1
    have hl := (runV_kept st 0 Y (workC b0) hy hc).2.1
    have hmore := runV_more (within b23 0 9000) hw2.1 st 0 X (workC b0) hx (by rw [← hXY]; exact hy) hc
    rw [← hXY] at hmore
    have hzero := runV_zero st 0 ho hc hO0
    simp only [hx, hy, ho, hc, Bool.and_self, Bool.and_true, hz0, hzero]
    rw [chk_dec (by omega), chk_dec (by omega), chk_dec (by simp), chk_dec (by omega)]
    generalize runV 0 st X (workC b0) = R at *
    generalize runV 0 st Y (workC b0) = S at *
    exact moreL0 1000000 (within b22 0 9000) X.cash O.cash [] [] S.2.2 R.2.2 (by omega) (by omega) (by omega) (fun d hd => ⟨by have := (hl d hd).1; omega, hq d hd⟩) (fun i hi => hmore i) rfl hX0 rfl hO0 R.2.2 [] 1000000 (by omega) rfl (by omega) (fun d hd => ⟨by have := (hk d hd).1; omega, hp d hd⟩)
  · rw [cond_df h0]
    by_cases h1 : within b21 0 2 = 1
    · rw [cond_dt h1]
      have hsl : ((dealV k).s1).length ≤ 12 := (stepsV_short k.s1).2
      generalize (dealV k).s1 = st at hsl
      have hr := runV_ok st 0 X (workC b0) hx hc
      have hs := runV_ok st 0 Y (workC b0) hy hc
      have hp := runV_paid (l := st) (a := 0) hx hc (by omega)
      have hq := runV_paid (l := st) (a := 0) hy hc (by omega)
      have hk := (runV_kept st 0 X (workC b0) hx hc).2.1
      have hl := (runV_kept st 0 Y (workC b0) hy hc).2.1
      have hmore := runV_more (within b23 0 9000) hw2.1 st 0 X (workC b0) hx (by rw [← hXY]; exact hy) hc
      rw [← hXY] at hmore
      have hzero := runV_zero st 0 ho hc hO0
      simp only [hx, hy, ho, hc, Bool.and_self, Bool.and_true, hz0, hzero]
      rw [chk_dec (by omega), chk_dec (by omega), chk_dec (by simp), chk_dec (by omega)]
      generalize runV 0 st X (workC b0) = R at *
      generalize runV 0 st Y (workC b0) = S at *
      exact moreL0 1000000 (within b22 0 9000) X.cash O.cash [] [] S.2.2 R.2.2 (by omega) (by omega) (by omega) (fun d hd => ⟨by have := (hl d hd).1; omega, hq d hd⟩) (fun i hi => hmore i) rfl hX0 rfl hO0 R.2.2 [] 1000000 (by omega) rfl (by omega) (fun d hd => ⟨by have := (hk d hd).1; omega, hp d hd⟩)
    · rw [cond_df h1]
      by_cases h2 : within b21 0 2 = 2
      · rw [cond_dt h2]
        have hsl : ((dealV k).s2).length ≤ 12 := (stepsV_short k.s2).2
        generalize (dealV k).s2 = st at hsl
        have hr := runV_ok st 0 X (workC b0) hx hc
        have hs := runV_ok st 0 Y (workC b0) hy hc
        have hp := runV_paid (l := st) (a := 0) hx hc (by omega)
        have hq := runV_paid (l := st) (a := 0) hy hc (by omega)
        have hk := (runV_kept st 0 X (workC b0) hx hc).2.1
        have hl := (runV_kept st 0 Y (workC b0) hy hc).2.1
        have hmore := runV_more (within b23 0 9000) hw2.1 st 0 X (workC b0) hx (by rw [← hXY]; exact hy) hc
        rw [← hXY] at hmore
        have hzero := runV_zero st 0 ho hc hO0
        simp only [hx, hy, ho, hc, Bool.and_self, Bool.and_true, hz0, hzero]
        rw [chk_dec (by omega), chk_dec (by omega), chk_dec (by simp), chk_dec (by omega)]
        generalize runV 0 st X (workC b0) = R at *
        generalize runV 0 st Y (workC b0) = S at *
        exact moreL0 1000000 (within b22 0 9000) X.cash O.cash [] [] S.2.2 R.2.2 (by omega) (by omega) (by omega) (fun d hd => ⟨by have := (hl d hd).1; omega, hq d hd⟩) (fun i hi => hmore i) rfl hX0 rfl hO0 R.2.2 [] 1000000 (by omega) rfl (by omega) (fun d hd => ⟨by have := (hk d hd).1; omega, hp d hd⟩)
      · rw [cond_df h2]
        omega
set_option maxRecDepth 20000 in
theorem walkFlowMore {HH : Type} {enc : TypeId × Value → HH} {w : World} {base : Nat} {vs : List Value} {ds : List (DataW HH)} {ps : List MemPlace} (hsh : w.ShapedOpen Try.prog)
    (hd : DataW.TrodAll enc Try.prog w 0 (fun _ => true) true Try.f7.params.toList vs ds ps) {us' : List TypeId} {gs : List (DataW HH)} (hz : (DataW.weightsEach Try.prog (Try.f7.params.toList ++ us') (ds ++ gs)).all (· ≤ reachBytes) = true) (hval : ∀ (j : Nat) t v, Try.f7.params.toList[j]? = some t → vs[j]? = some v → Value.okWide Try.prog w .any base t v) :
    Calls Try.prog 7 vs.toArray w fun e w' => e = .returned (.bool true) ∧ RowKit.Below w.heap.size w w' :=
  law_args Seat.mix Seat.names TE_right (pars := RFlowMore) (by kernel_rfl) (fun us h => by
    change WfU [.ints .i64, .int .i64, .int .i64, .int .i64, .int .i64, .int .i64, .int .i64, .int .i64, .int .i64, .int .i64, .int .i64, .int .i64, .int .i64, .int .i64, .ints .i64, .ints .i64, .ints .i64, .ints .i64, .ints .i64, .ints .i64, .ints .i64, .int .i64, .int .i64, .int .i64] us at h
    obtain ⟨b0, u, rfl, wb0, h⟩ := wf_ints h
    obtain ⟨b1, u, rfl, wb1, h⟩ := wf_int h
    obtain ⟨b2, u, rfl, wb2, h⟩ := wf_int h
    obtain ⟨b3, u, rfl, wb3, h⟩ := wf_int h
    obtain ⟨b4, u, rfl, wb4, h⟩ := wf_int h
    obtain ⟨b5, u, rfl, wb5, h⟩ := wf_int h
    obtain ⟨b6, u, rfl, wb6, h⟩ := wf_int h
    obtain ⟨b7, u, rfl, wb7, h⟩ := wf_int h
    obtain ⟨b8, u, rfl, wb8, h⟩ := wf_int h
    obtain ⟨b9, u, rfl, wb9, h⟩ := wf_int h
    obtain ⟨b10, u, rfl, wb10, h⟩ := wf_int h
    obtain ⟨b11, u, rfl, wb11, h⟩ := wf_int h
    obtain ⟨b12, u, rfl, wb12, h⟩ := wf_int h
    obtain ⟨b13, u, rfl, wb13, h⟩ := wf_int h
    obtain ⟨b14, u, rfl, wb14, h⟩ := wf_ints h
    obtain ⟨b15, u, rfl, wb15, h⟩ := wf_ints h
    obtain ⟨b16, u, rfl, wb16, h⟩ := wf_ints h
    obtain ⟨b17, u, rfl, wb17, h⟩ := wf_ints h
    obtain ⟨b18, u, rfl, wb18, h⟩ := wf_ints h
    obtain ⟨b19, u, rfl, wb19, h⟩ := wf_ints h
    obtain ⟨b20, u, rfl, wb20, h⟩ := wf_ints h
    obtain ⟨b21, u, rfl, wb21, h⟩ := wf_int h
    obtain ⟨b22, u, rfl, wb22, h⟩ := wf_int h
    obtain ⟨b23, u, rfl, wb23, h⟩ := wf_int h
    obtain rfl := wf_nil h
    obtain ⟨m, hm⟩ := spec7 b0 wb0 b1 wb1 b2 wb2 b3 wb3 b4 wb4 b5 wb5 b6 wb6 b7 wb7 b8 wb8 b9 wb9 b10 wb10 b11 wb11 b12 wb12 b13 wb13 b14 wb14 b15 wb15 b16 wb16 b17 wb17 b18 wb18 b19 wb19 b20 wb20 b21 wb21 b22 wb22 b23 wb23
    have G : N7.road Try.prog LQ KN (Uns.enc (b0, (⟨(⟨b1, b2, b3⟩ : DealA), (⟨b4, b5, b6, b7, b8, b9, b10, b11, b12, b13⟩ : DealB), b14, b15, b16, b17, b18, b19, b20⟩ : KDeal), b21, b22, b23)) ([S7_0 (L7_0 m m)]) = t7 m (b0, (⟨(⟨b1, b2, b3⟩ : DealA), (⟨b4, b5, b6, b7, b8, b9, b10, b11, b12, b13⟩ : DealB), b14, b15, b16, b17, b18, b19, b20⟩ : KDeal), b21, b22, b23) := by kernel_rfl
    exact N7.tells KN_none T12.right (W := [S7_0 (L7_0 m m)]) (by kernel_rfl) (by kernel_rfl) (by kernel_rfl) (all1 (H7_0 m m) all0) (G.trans hm)) hsh hd hz hval
end Go.Proofs.Ytncgbpajngakpaa
