/- A part of the walk. -/
import Derived.Test.YtoiijpphfckdjaaView
namespace Go.Proofs.Ytoiijpphfckdjaa
open Go Go.Proofs.Ytoiijpphfckdjaa.Ev
set_option linter.unusedVariables false
set_option linter.unusedSimpArgs false
set_option linter.unnecessarySimpa false
def RTrustPromoted : List Par := [(true, [.int .i64, .int .i64, .int .i64, .int .i64, .int .i64, .int .i64, .int .i64, .int .i64, .int .i64, .int .i64, .int .i64, .int .i64, .int .i64, .ints .i64, .ints .i64, .ints .i64, .ints .i64, .ints .i64, .ints .i64, .ints .i64]), (false, [.int .i64]), (false, [.int .i64]), (false, [.int .i64]), (false, [.int .i64]), (false, [.bool]), (false, [.bool])]
/-! cascade/cascadelaw20.TrustPromoted -/
noncomputable def N5 : RoadF := ⟨T22.tab, 5, ⟨List.map Par.vp RTrustPromoted, []⟩, ⟨[.bool], []⟩, []⟩
noncomputable def t5 (m : Nat) : KDeal × Int × Int × Int × Int × Bool × Bool → Option (List Un) := fun (a0, a1, a2, a3, a4, a5, a6) =>
  chk (decide (a0.notes.length ≤ 140737488355328)) <|
  chk (decide ((dealV a0).loans.length < 1000000 ∧ (dealV a0).notes.length < 1000000 ∧ (dealV a0).s0.length < 1000000 ∧ (dealV a0).s1.length < 1000000 ∧ (dealV a0).s2.length < 1000000)) <|
  lt (((if (sumsW (dealV a0)).isSome then 0 else -1) : Int) : Int) fun x1 =>
  bif ((decide (x1 < 0)) && true) then
   some ([.b false])
  else
   bif ((if (sumsW (dealV a0)).isSome then 0 else 2) : Int) != 0 then
    some ([.b false])
   else
    chk (decide (0 ≤ x1)) <|
    chk (decide (0 ≤ x1)) <|
    chk (decide (0 ≤ (((newW (dealV a0)).n).passed) ∧ (((newW (dealV a0)).n).passed) ≤ 1000000)) <|
    chk (decide (0 ≤ x1)) <|
    chk (decide (0 ≤ (((newW (dealV a0)).n).passed) ∧ (((newW (dealV a0)).n).passed) ≤ 1000000)) <|
    lt (((nextV (((newW (dealV a0)).n).mode) (((newW (dealV a0)).n).passed) (within a1 0 5) a5 a6 true true).1) : Int) fun x6 =>
    lt (((nextV (((newW (dealV a0)).n).mode) (((newW (dealV a0)).n).passed) (within a1 0 5) a5 a6 true true).2) : Int) fun x7 =>
    chk (decide (0 ≤ x1)) <|
    chk (decide (0 ≤ x1)) <|
    bif x6 != ((nextV (((newW (dealV a0)).n).mode) (((newW (dealV a0)).n).passed) (within a1 0 5) a5 a6 true true).1) then
     some ([.b false])
    else
     chk (decide (0 ≤ x1)) <|
     bif x7 != ((nextV (((newW (dealV a0)).n).mode) (((newW (dealV a0)).n).passed) (within a1 0 5) a5 a6 true true).2) then
      some ([.b false])
     else
      chk (decide (0 ≤ x1)) <|
      bif !((x6 == 2) == !a6) then
       some ([.b false])
      else
       chk (decide (0 ≤ x1)) <|
       bif a6 then
        bif !((x6 == 1) == !a5) then
         some ([.b false])
        else
         chk (decide (0 ≤ x1)) <|
         chk (decide (0 ≤ x1)) <|
         bif decide (-2305843009213693952 ≤ 0 ∧ 0 ≤ (within a3 0 9000) ∧ (within a3 0 9000) ≤ 2305843009213693952) then
          lt ((within a4 0 (within a3 0 9000)) : Int) fun x8 =>
          chk (decide (0 ≤ x1)) <|
          chk (decide (0 ≤ x1)) <|
          lt ((w64 ((((newW (dealV a0)).tr).length : Int) - 1)) : Int) fun x9 =>
          lt ((if x9 < 0 then 0 else x9) : Int) fun x10 =>
          bif decide (-2305843009213693952 ≤ 0 ∧ 0 ≤ x10 ∧ x10 ≤ 2305843009213693952) then
           chk (decide (0 ≤ x1)) <|
           bif (decide ((within a2 0 x10) ≥ (((newW (dealV a0)).tr).length : Int))) then
            some ([.b false])
           else
            chk (decide (0 ≤ x1)) <|
            chk (inb (within a2 0 x10) (((newW (dealV a0)).tr).length)) <|
            chk (decide (0 ≤ ((within a2 0 x10).toNat : Int) ∧ ((within a2 0 x10).toNat : Int).toNat < ((newW (dealV a0)).tr).length) && noteG (rowD ((newW (dealV a0)).tr) ((within a2 0 x10).toNat : Int).toNat)) <|
            lt ((((newW (dealV a0)).tr).set ((within a2 0 x10).toNat : Int).toNat (payD 7 (rowD ((newW (dealV a0)).tr) ((within a2 0 x10).toNat : Int).toNat))) : List Dat) fun l13 =>
            chk (decide (0 ≤ x1) && ((decide (((newW (dealV a0)).pool).length ≤ 1000) && ((newW (dealV a0)).pool).all loanG) && (decide (l13.length ≤ 1000) && l13.all noteG))) <|
            lt (({ ((newW (dealV a0)).n) with mode := x6, passed := x7, losses := (within a3 0 9000), recov := x8 } : TrustN) : TrustN) fun g17 =>
            chk (decide (0 ≤ x1) && (decide (l13.length ≤ 1000) && l13.all noteG)) <|
            chk (decide (0 ≤ x1)) <|
            chk (decide (0 < ([.r [.r ((newW (dealV a0)).pool)]] : List Dat).length) && (decide (((rowD ([.r [.r ((newW (dealV a0)).pool)]] : List Dat) 0).d 0).length ≤ 1000) && ((rowD ([.r [.r ((newW (dealV a0)).pool)]] : List Dat) 0).d 0).all loanG)) <|
            bif (sumI 1 ((newW (dealV a0)).pool)) == (sumI 1 ((rowD ([.r [.r ((newW (dealV a0)).pool)]] : List Dat) 0).d 0)) then
             bif ((sumF balD l13) == (sumF balD l13)) then
              chk (decide (0 ≤ x1)) <|
              chk (decide (0 ≤ x1)) <|
              bif (w64 (({ ((newW (dealV a0)).n) with mode := x6, passed := x7, losses := (within a3 0 9000), recov := x8 } : TrustN).losses - ({ ((newW (dealV a0)).n) with mode := x6, passed := x7, losses := (within a3 0 9000), recov := x8 } : TrustN).recov)) == (w64 (g17.losses - g17.recov)) then
               bif (lateF 2 ((newW (dealV a0)).pool) + lateF 3 ((newW (dealV a0)).pool)) == 0 then
                chk (decide (a0.notes.length ≤ 140737488355328)) <|
                bif ((sumF balD l13) == (w64 ((((sumsW (dealV a0)).getD (0, 0)).2) - (payV 7 (rowD ((newW (dealV a0)).tr) ((within a2 0 x10).toNat : Int).toNat))))) then
                 chk (decide (a0.notes.length ≤ 140737488355328)) <|
                 bif (((sumsW (⟨((newW (dealV a0)).a), ((newW (dealV a0)).loans), ((newW (dealV a0)).notes), ((newW (dealV a0)).b), ((newW (dealV a0)).s0), ((newW (dealV a0)).s1), ((newW (dealV a0)).s2)⟩ : ADeal)).getD (0, 0)).1) == (((sumsW (dealV a0)).getD (0, 0)).1) then
                  some ([.b true])
                 else
                  some ([.b false])
                else
                 some ([.b false])
               else
                some ([.b false])
              else
               some ([.b false])
             else
              some ([.b false])
            else
             some ([.b false])
          else
           none
         else
          none
       else
        bif !((x6 == 1) == false) then
         some ([.b false])
        else
         chk (decide (0 ≤ x1)) <|
         chk (decide (0 ≤ x1)) <|
         bif decide (-2305843009213693952 ≤ 0 ∧ 0 ≤ (within a3 0 9000) ∧ (within a3 0 9000) ≤ 2305843009213693952) then
          lt ((within a4 0 (within a3 0 9000)) : Int) fun x25 =>
          chk (decide (0 ≤ x1)) <|
          chk (decide (0 ≤ x1)) <|
          lt ((w64 ((((newW (dealV a0)).tr).length : Int) - 1)) : Int) fun x26 =>
          lt ((if x26 < 0 then 0 else x26) : Int) fun x27 =>
          bif decide (-2305843009213693952 ≤ 0 ∧ 0 ≤ x27 ∧ x27 ≤ 2305843009213693952) then
           chk (decide (0 ≤ x1)) <|
           bif (decide ((within a2 0 x27) ≥ (((newW (dealV a0)).tr).length : Int))) then
            some ([.b false])
           else
            chk (decide (0 ≤ x1)) <|
            chk (inb (within a2 0 x27) (((newW (dealV a0)).tr).length)) <|
            chk (decide (0 ≤ ((within a2 0 x27).toNat : Int) ∧ ((within a2 0 x27).toNat : Int).toNat < ((newW (dealV a0)).tr).length) && noteG (rowD ((newW (dealV a0)).tr) ((within a2 0 x27).toNat : Int).toNat)) <|
            lt ((((newW (dealV a0)).tr).set ((within a2 0 x27).toNat : Int).toNat (payD 7 (rowD ((newW (dealV a0)).tr) ((within a2 0 x27).toNat : Int).toNat))) : List Dat) fun l30 =>
            chk (decide (0 ≤ x1) && ((decide (((newW (dealV a0)).pool).length ≤ 1000) && ((newW (dealV a0)).pool).all loanG) && (decide (l30.length ≤ 1000) && l30.all noteG))) <|
            lt (({ ((newW (dealV a0)).n) with mode := x6, passed := x7, losses := (within a3 0 9000), recov := x25 } : TrustN) : TrustN) fun g34 =>
            chk (decide (0 ≤ x1) && (decide (l30.length ≤ 1000) && l30.all noteG)) <|
            chk (decide (0 ≤ x1)) <|
            chk (decide (0 < ([.r [.r ((newW (dealV a0)).pool)]] : List Dat).length) && (decide (((rowD ([.r [.r ((newW (dealV a0)).pool)]] : List Dat) 0).d 0).length ≤ 1000) && ((rowD ([.r [.r ((newW (dealV a0)).pool)]] : List Dat) 0).d 0).all loanG)) <|
            bif (sumI 1 ((newW (dealV a0)).pool)) == (sumI 1 ((rowD ([.r [.r ((newW (dealV a0)).pool)]] : List Dat) 0).d 0)) then
             bif ((sumF balD l30) == (sumF balD l30)) then
              chk (decide (0 ≤ x1)) <|
              chk (decide (0 ≤ x1)) <|
              bif (w64 (({ ((newW (dealV a0)).n) with mode := x6, passed := x7, losses := (within a3 0 9000), recov := x25 } : TrustN).losses - ({ ((newW (dealV a0)).n) with mode := x6, passed := x7, losses := (within a3 0 9000), recov := x25 } : TrustN).recov)) == (w64 (g34.losses - g34.recov)) then
               bif (lateF 2 ((newW (dealV a0)).pool) + lateF 3 ((newW (dealV a0)).pool)) == 0 then
                chk (decide (a0.notes.length ≤ 140737488355328)) <|
                bif ((sumF balD l30) == (w64 ((((sumsW (dealV a0)).getD (0, 0)).2) - (payV 7 (rowD ((newW (dealV a0)).tr) ((within a2 0 x27).toNat : Int).toNat))))) then
                 chk (decide (a0.notes.length ≤ 140737488355328)) <|
                 bif (((sumsW (⟨((newW (dealV a0)).a), ((newW (dealV a0)).loans), ((newW (dealV a0)).notes), ((newW (dealV a0)).b), ((newW (dealV a0)).s0), ((newW (dealV a0)).s1), ((newW (dealV a0)).s2)⟩ : ADeal)).getD (0, 0)).1) == (((sumsW (dealV a0)).getD (0, 0)).1) then
                  some ([.b true])
                 else
                  some ([.b false])
                else
                 some ([.b false])
               else
                some ([.b false])
              else
               some ([.b false])
             else
              some ([.b false])
            else
             some ([.b false])
          else
           none
         else
          none
set_option maxHeartbeats 4000000 in
theorem spec5 (b0 : Int) (wb0 : (Lit.int .i64 b0).wf = true) (b1 : Int) (wb1 : (Lit.int .i64 b1).wf = true) (b2 : Int) (wb2 : (Lit.int .i64 b2).wf = true) (b3 : Int) (wb3 : (Lit.int .i64 b3).wf = true) (b4 : Int) (wb4 : (Lit.int .i64 b4).wf = true) (b5 : Int) (wb5 : (Lit.int .i64 b5).wf = true) (b6 : Int) (wb6 : (Lit.int .i64 b6).wf = true) (b7 : Int) (wb7 : (Lit.int .i64 b7).wf = true) (b8 : Int) (wb8 : (Lit.int .i64 b8).wf = true) (b9 : Int) (wb9 : (Lit.int .i64 b9).wf = true) (b10 : Int) (wb10 : (Lit.int .i64 b10).wf = true) (b11 : Int) (wb11 : (Lit.int .i64 b11).wf = true) (b12 : Int) (wb12 : (Lit.int .i64 b12).wf = true) (b13 : List Int) (wb13 : b13.length ≤ 140737488355328 ∧ ∀ x ∈ b13, (Lit.int .i64 x).wf = true) (b14 : List Int) (wb14 : b14.length ≤ 140737488355328 ∧ ∀ x ∈ b14, (Lit.int .i64 x).wf = true) (b15 : List Int) (wb15 : b15.length ≤ 140737488355328 ∧ ∀ x ∈ b15, (Lit.int .i64 x).wf = true) (b16 : List Int) (wb16 : b16.length ≤ 140737488355328 ∧ ∀ x ∈ b16, (Lit.int .i64 x).wf = true) (b17 : List Int) (wb17 : b17.length ≤ 140737488355328 ∧ ∀ x ∈ b17, (Lit.int .i64 x).wf = true) (b18 : List Int) (wb18 : b18.length ≤ 140737488355328 ∧ ∀ x ∈ b18, (Lit.int .i64 x).wf = true) (b19 : List Int) (wb19 : b19.length ≤ 140737488355328 ∧ ∀ x ∈ b19, (Lit.int .i64 x).wf = true) (b20 : Int) (wb20 : (Lit.int .i64 b20).wf = true) (b21 : Int) (wb21 : (Lit.int .i64 b21).wf = true) (b22 : Int) (wb22 : (Lit.int .i64 b22).wf = true) (b23 : Int) (wb23 : (Lit.int .i64 b23).wf = true) (b24 : Bool) (b25 : Bool) : ∃ m, t5 m ((⟨(⟨b0, b1, b2⟩ : DealA), (⟨b3, b4, b5, b6, b7, b8, b9, b10, b11, b12⟩ : DealB), b13, b14, b15, b16, b17, b18, b19⟩ : KDeal), b20, b21, b22, b23, b24, b25) = some [.b true] := by
  have hn : (⟨⟨b0, b1, b2⟩, ⟨b3, b4, b5, b6, b7, b8, b9, b10, b11, b12⟩, b13, b14, b15, b16, b17, b18, b19⟩ : KDeal).notes.length ≤ 140737488355328 := wb14.1
  generalize (⟨⟨b0, b1, b2⟩, ⟨b3, b4, b5, b6, b7, b8, b9, b10, b11, b12⟩, b13, b14, b15, b16, b17, b18, b19⟩ : KDeal) = k at hn
  have hr := dealV_right k
  have hl := kNotes_len k
  have hp := kPool_le k
  have hw : newW (dealV k) = trustV (dealV k) := by simp only [newW, hr, Option.isSome_some, if_true]
  have hd : (⟨(trustV (dealV k)).a, (trustV (dealV k)).loans, (trustV (dealV k)).notes, (trustV (dealV k)).b, (trustV (dealV k)).s0, (trustV (dealV k)).s1, (trustV (dealV k)).s2⟩ : ADeal) = dealV k := rfl
  refine ⟨0, ?_⟩
  unfold t5
  dsimp only
  rw [chk_dec hn, chk_dec (dealV_short k)]
  dsimp only [box1, List.length_cons, List.length_nil, lt]
  simp only [hr, hw, hd, show decide (0 < 0 + 1) = true from rfl, Option.isSome_some, if_true, lt_eq, Option.getD_some, Bool.and_true]
  have hT1 := trN_mem k
  have hT2 : (trustV (dealV k)).tr.length = (kNotes k).length := by simp [trustV, dealV]
  have hT3 : sumF balD (trustV (dealV k)).tr = sumI 1 (kNotes k) := trN_bal _
  have hQ1 := poolN_mem k
  have hQ2 : (trustV (dealV k)).pool.length ≤ 11 := by have := kLoans_len k; simpa [trustV, dealV] using this
  have hQ3 : lateF 2 (trustV (dealV k)).pool = 0 := poolN_late 2 (by decide) _
  have hQ4 : lateF 3 (trustV (dealV k)).pool = 0 := poolN_late 3 (by decide) _
  simp only [show (trustV (dealV k)).n.mode = 0 from rfl, show (trustV (dealV k)).n.passed = 0 from rfl]
  generalize (trustV (dealV k)).tr = T at *
  generalize (trustV (dealV k)).pool = Q at *
  have hsum := sums_le T hT1
  rw [show (if w64 ((T.length : Int) - 1) < 0 then 0 else w64 ((T.length : Int) - 1)) = (T.length : Int) - 1 by rw [wrap_id (by omega) (by omega), if_neg (by omega)]]
  have hb := within_le (a := b21) (show (0 : Int) ≤ (T.length : Int) - 1 by omega)
  have h3 := within_le (a := b22) (show (0 : Int) ≤ 9000 by decide)
  generalize within b21 0 ((T.length : Int) - 1) = i at *
  obtain ⟨j, rfl⟩ : ∃ j : Nat, i = (j : Int) := ⟨i.toNat, by omega⟩
  have hj : j < T.length := by omega
  have hg := hT1 _ (rowD_mem hj)
  have hs1 : ∀ d ∈ T.set j (payD 7 (rowD T j)), noteG d = true := all_set (p := fun d => noteG d = true) hT1 (noteG_pay 7 hg)
  have hs2 : sumF balD (T.set j (payD 7 (rowD T j))) = sumI 1 (kNotes k) - payV 7 (rowD T j) := by rw [sumF_set _ _ _ _ hj, balD_pay, hT3]; omega
  have hs3 : (T.set j (payD 7 (rowD T j))).length ≤ 1000 := by rw [List.length_set]; omega
  have hpv : 0 ≤ payV 7 (rowD T j) ∧ payV 7 (rowD T j) ≤ 7 := by unfold payV; omega
  simp only [Int.toNat_natCast]
  have e1 : (decide (Q.length ≤ 1000) && Q.all loanG) = true := by rw [decide_eq_true (by omega), List.all_eq_true.2 hQ1]; rfl
  have e2 : (decide ((T.set j (payD 7 (rowD T j))).length ≤ 1000) && (T.set j (payD 7 (rowD T j))).all noteG) = true := by rw [decide_eq_true hs3, List.all_eq_true.2 hs1]; rfl
  have e3 : decide ((0 : Int) ≤ 0) = true := rfl
  have n1 : ∀ c, nextV 0 0 c true true true true = (0, 0) := fun c => by simp [nextV]
  have n2 : ∀ c, nextV 0 0 c false true true true = (1, 0) := fun c => by simp [nextV]
  have n3 : ∀ c x, nextV 0 0 c x false true true = (2, 0) := fun c x => by simp [nextV]
  rw [hT3] at hsum
  cases b24 <;> cases b25 <;> simp only [n1, n2, n3, e1, e2, e3, hg, hs2, hQ3, hQ4, Bool.and_self, Bool.and_true, Bool.true_and, chk_tt] <;> simp (disch := omega) only [cond_df, cond_dt, cond_bt, cond_bf, cond_nf, chk_dec, chk_inb, chk_and, wrap_id, hg, chk_tt, beq_self_eq_true, cond_tt, Bool.not_false, Bool.not_true, cond_ff, Int.reduceBEq, BEq.rfl, Int.reduceBNe, Int.zero_add]
set_option maxRecDepth 20000 in
theorem walkTrustPromoted {HH : Type} {enc : TypeId × Value → HH} {w : World} {base : Nat} {vs : List Value} {ds : List (DataW HH)} {ps : List MemPlace} (hsh : w.ShapedOpen Try.prog)
    (hd : DataW.TrodAll enc Try.prog w 0 (fun _ => true) true Try.f5.params.toList vs ds ps) {us' : List TypeId} {gs : List (DataW HH)} (hz : (DataW.weightsEach Try.prog (Try.f5.params.toList ++ us') (ds ++ gs)).all (· ≤ reachBytes) = true) (hval : ∀ (j : Nat) t v, Try.f5.params.toList[j]? = some t → vs[j]? = some v → Value.okWide Try.prog w .any base t v) :
    Calls Try.prog 5 vs.toArray w fun e w' => e = .returned (.bool true) ∧ RowKit.Below w.heap.size w w' :=
  law_args Seat.mix Seat.names TE_right (pars := RTrustPromoted) (by kernel_rfl) (fun us h => by
    change WfU [.int .i64, .int .i64, .int .i64, .int .i64, .int .i64, .int .i64, .int .i64, .int .i64, .int .i64, .int .i64, .int .i64, .int .i64, .int .i64, .ints .i64, .ints .i64, .ints .i64, .ints .i64, .ints .i64, .ints .i64, .ints .i64, .int .i64, .int .i64, .int .i64, .int .i64, .bool, .bool] us at h
    obtain ⟨b0, u, rfl, wb0, h⟩ := wf_int h
    obtain ⟨b1, u, rfl, wb1, h⟩ := wf_int h
    obtain ⟨b2, u, rfl, wb2, h⟩ := wf_int h
    obtain ⟨b3, u, rfl, wb3, h⟩ := wf_int h
    obtain ⟨b4, u, rfl, wb4, h⟩ := wf_int h
    obtain ⟨b5, u, rfl, wb5, h⟩ := wf_int h
    obtain ⟨b6, u, rfl, wb6, h⟩ := wf_int h
    obtain ⟨b7, u, rfl, wb7, h⟩ := wf_int h
    obtain ⟨b8, u, rfl, wb8, h⟩ := wf_int h
    obtain ⟨b9, u, rfl, wb9, h⟩ := wf_int h
    obtain ⟨b10, u, rfl, wb10, h⟩ := wf_int h
    obtain ⟨b11, u, rfl, wb11, h⟩ := wf_int h
    obtain ⟨b12, u, rfl, wb12, h⟩ := wf_int h
    obtain ⟨b13, u, rfl, wb13, h⟩ := wf_ints h
    obtain ⟨b14, u, rfl, wb14, h⟩ := wf_ints h
    obtain ⟨b15, u, rfl, wb15, h⟩ := wf_ints h
    obtain ⟨b16, u, rfl, wb16, h⟩ := wf_ints h
    obtain ⟨b17, u, rfl, wb17, h⟩ := wf_ints h
    obtain ⟨b18, u, rfl, wb18, h⟩ := wf_ints h
    obtain ⟨b19, u, rfl, wb19, h⟩ := wf_ints h
    obtain ⟨b20, u, rfl, wb20, h⟩ := wf_int h
    obtain ⟨b21, u, rfl, wb21, h⟩ := wf_int h
    obtain ⟨b22, u, rfl, wb22, h⟩ := wf_int h
    obtain ⟨b23, u, rfl, wb23, h⟩ := wf_int h
    obtain ⟨b24, u, rfl, hh⟩ := wf_bool h
    replace h := hh
    clear hh
    obtain ⟨b25, u, rfl, hh⟩ := wf_bool h
    replace h := hh
    clear hh
    obtain rfl := wf_nil h
    obtain ⟨m, hm⟩ := spec5 b0 wb0 b1 wb1 b2 wb2 b3 wb3 b4 wb4 b5 wb5 b6 wb6 b7 wb7 b8 wb8 b9 wb9 b10 wb10 b11 wb11 b12 wb12 b13 wb13 b14 wb14 b15 wb15 b16 wb16 b17 wb17 b18 wb18 b19 wb19 b20 wb20 b21 wb21 b22 wb22 b23 wb23 b24 b25
    have G : N5.road Try.prog LQ KN (Uns.enc ((⟨(⟨b0, b1, b2⟩ : DealA), (⟨b3, b4, b5, b6, b7, b8, b9, b10, b11, b12⟩ : DealB), b13, b14, b15, b16, b17, b18, b19⟩ : KDeal), b20, b21, b22, b23, b24, b25)) ([]) = t5 m ((⟨(⟨b0, b1, b2⟩ : DealA), (⟨b3, b4, b5, b6, b7, b8, b9, b10, b11, b12⟩ : DealB), b13, b14, b15, b16, b17, b18, b19⟩ : KDeal), b20, b21, b22, b23, b24, b25) := by kernel_rfl
    exact N5.tells KN_none T22.right (W := []) (by kernel_rfl) (by kernel_rfl) (by kernel_rfl) all0 (G.trans hm)) hsh hd hz hval
end Go.Proofs.Ytoiijpphfckdjaa
