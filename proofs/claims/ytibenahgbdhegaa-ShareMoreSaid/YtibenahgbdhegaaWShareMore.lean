/- The law ShareMore answers true. Conditions: none. -/
import Derived.Test.YtibenahgbdhegaaShareAid
namespace Go.Proofs.Ytibenahgbdhegaa
open Go Go.Proofs.Ytibenahgbdhegaa.Ev
set_option linter.unusedVariables false
set_option linter.unusedSimpArgs false
set_option linter.unnecessarySimpa false
theorem inOrd_in : ∀ (l : List Int) (n : Int), 0 ≤ n → ∀ x ∈ inOrd n l, 0 ≤ x ∧ x ≤ n
  | [], n, _, x, h => by simp [inOrd] at h
  | c :: l, n, h, x, hx => by
    simp only [inOrd, List.mem_cons] at hx
    rcases hx with rfl | hx
    · omega
    · have := inOrd_in l _ (by omega) x hx
      omega
theorem inOrd_append : ∀ (l1 l2 : List Int) (n : Int), inOrd n (l1 ++ l2) = inOrd n l1 ++ inOrd (n - (inOrd n l1).sum) l2
  | [], l2, n => by simp [inOrd]
  | c :: l1, l2, n => by
    simp only [List.cons_append, inOrd, List.sum_cons]
    rw [inOrd_append l1 l2]
    congr 3
    omega
theorem inOrd_mono : ∀ (l : List Int) (n n' : Int), 0 ≤ n → n ≤ n' → (∀ x ∈ l, 0 ≤ x) → ∀ i, (inOrd n l).getD i 0 ≤ (inOrd n' l).getD i 0
  | [], n, n', _, _, _, i => by simp [inOrd]
  | c :: l, n, n', h1, h2, hb, i => by
    have hc := hb c (by simp)
    simp only [inOrd]
    cases i with
    | zero => simp only [List.getD_cons_zero]; omega
    | succ i =>
      simp only [List.getD_cons_succ]
      exact inOrd_mono l _ _ (by omega) (by omega) (fun x hx => hb x (by simp [hx])) i
theorem inOrd_le : ∀ (l : List Int) (n : Int), 0 ≤ n → (∀ x ∈ l, 0 ≤ x) → (inOrd n l).sum ≤ n := fun l n h hb => by
  rw [inOrd_sum l n h hb]; omega
/-- A claim parted in two beside each other has as much. -/
theorem inOrd_parted {l1 l2 : List Int} {c p n : Int} (hn : 0 ≤ n) (hb : ∀ x ∈ l1, 0 ≤ x) (h1 : 0 ≤ p) (h2 : p ≤ c) :
    (inOrd n (l1 ++ p :: (c - p) :: l2)).getD l1.length 0 + (inOrd n (l1 ++ p :: (c - p) :: l2)).getD (l1.length + 1) 0 = (inOrd n (l1 ++ c :: l2)).getD l1.length 0 := by
  have hr : 0 ≤ n - (inOrd n l1).sum := by have := inOrd_le l1 n hn hb; omega
  rw [inOrd_append, inOrd_append]
  have hl := inOrd_len l1 n
  generalize n - (inOrd n l1).sum = r at *
  generalize inOrd n l1 = z at *
  have g : ∀ (w : List Int) (i : Nat), (z ++ w).getD (l1.length + i) 0 = w.getD i 0 := by
    intro w i
    rw [← hl]
    simp [List.getD_eq_getElem?_getD, List.getElem?_append_right]
  have g0 := fun w => g w 0
  simp only [Nat.add_zero] at g0
  rw [g0, g, g0]
  simp only [inOrd, List.getD_cons_zero, List.getD_cons_succ]
  omega
theorem proV_minus {n : Int} {l : List Int} (h : (-1 : Int) ∈ l) : proV n l = List.replicate l.length 0 := by
  have : sumOk l = false := by
    cases hk : sumOk l with
    | false => rfl
    | true => have := (sumOk_inv hk).1 _ h; omega
  unfold proV
  rw [this]
  rfl


/-! cascade/cascadelaw4.ShareMore -/
def N7 : Pn := ⟨[.int .i64, .int .i64, .ints .i64, .int .i64, .int .i64], []⟩
def X7 : Pn := ⟨[.bool], []⟩
def L7_0s (m : Nat) (k : List Un → Option (List Un)) : List Un → Option (List Un)
  | [.i a0, .i a1, .i a2, .i a3, .i a4, .l a5, .l a6, .l a7] =>
    bif decide (a4 < a3) then
     bif decide ((0 : Int) ≤ a4 ∧ a4 < (a7.length : Int)) then
      bif decide (a4.toNat < a7.length) then
       bif decide ((0 : Int) ≤ a4 ∧ a4 < (a6.length : Int)) then
        bif decide (a4.toNat < a6.length) then
         bif (decide ((a7.getD a4.toNat 0) < (a6.getD a4.toNat 0))) then
          some [.b false]
         else
          k [.i a0, .i a1, .i a2, .i a3, .i (IntKind.i64.wrap (a4 + 1)), .l a5, .l a6, .l a7]
        else
         none
       else
        none
      else
       none
     else
      none
    else
     bif (a5.length : Int) == 0 then
      bif decide (a2 ≤ 9223372036854775807 ∧ ([] : List Int).length < 1099511627776) then
       bif ((proV a2 ([] : List Int)).length : Int) == 0 then
        some [.b true]
       else
        some [.b false]
      else
       none
     else
      lt ((IntKind.i64.wrap ((a5.length : Int) - 1)) : Int) fun x11 =>
      bif decide (-2305843009213693952 ≤ 0 ∧ 0 ≤ x11 ∧ x11 ≤ 2305843009213693952) then
       bif decide ((0 : Int) ≤ (within a0 0 x11) ∧ (within a0 0 x11) < (a5.length : Int)) then
        bif decide ((within a0 0 x11).toNat < a5.length) then
         lt ((a5.getD ((within a0 0 x11).toNat) 0) : Int) fun x12 =>
         bif decide (-2305843009213693952 ≤ 0 ∧ 0 ≤ x12 ∧ x12 ≤ 2305843009213693952) then
          bif decide (0 ≤ (within a0 0 x11)) && (true && decide (0 ≤ (within a0 0 x11).toNat ∧ (within a0 0 x11).toNat ≤ a5.length)) then
           bif decide ((0 + (List.take ((within a0 0 x11).toNat) a5).length) < 1099511627776 ∧ (0 + (List.take ((within a0 0 x11).toNat) a5).length) * 8 < 35184372088832) then
            bif decide ((List.take ((within a0 0 x11).toNat) a5).length = 0) then
             bif decide ((0 : Int) ≤ (within a0 0 x11) ∧ (within a0 0 x11) < (a5.length : Int)) then
              bif decide ((within a0 0 x11).toNat < a5.length) then
               lt ((IntKind.i64.wrap ((within a0 0 x11) + 1)) : Int) fun x15 =>
               bif true && (decide (0 ≤ x15) && decide (x15.toNat ≤ a5.length ∧ a5.length ≤ a5.length)) then
                bif decide ((2 + (List.take (a5.length - x15.toNat) (List.drop x15.toNat a5)).length) < 1099511627776 ∧ (2 + (List.take (a5.length - x15.toNat) (List.drop x15.toNat a5)).length) * 8 < 35184372088832) then
                 lt ((([(within a1 0 x12), (IntKind.i64.wrap ((a5.getD ((within a0 0 x11).toNat) 0) - (within a1 0 x12)))]) ++ (List.take (a5.length - x15.toNat) (List.drop x15.toNat a5))) : List Int) fun l16 =>
                 bif decide (a2 ≤ 9223372036854775807 ∧ l16.length < 1099511627776) then
                  bif (((inOrd (max a2 0) l16).length : Int) != (IntKind.i64.wrap ((a5.length : Int) + 1))) then
                   some [.b false]
                  else
                   bif decide ((0 : Int) ≤ (within a0 0 x11) ∧ (within a0 0 x11) < ((inOrd (max a2 0) l16).length : Int)) then
                    bif decide ((within a0 0 x11).toNat < (inOrd (max a2 0) l16).length) then
                     lt ((IntKind.i64.wrap ((within a0 0 x11) + 1)) : Int) fun x20 =>
                     bif decide ((0 : Int) ≤ x20 ∧ x20 < ((inOrd (max a2 0) l16).length : Int)) then
                      bif decide (x20.toNat < (inOrd (max a2 0) l16).length) then
                       bif decide ((0 : Int) ≤ (within a0 0 x11) ∧ (within a0 0 x11) < (a6.length : Int)) then
                        bif decide ((within a0 0 x11).toNat < a6.length) then
                         bif (IntKind.i64.wrap (((inOrd (max a2 0) l16).getD ((within a0 0 x11).toNat) 0) + ((inOrd (max a2 0) l16).getD x20.toNat 0))) != (a6.getD ((within a0 0 x11).toNat) 0) then
                          some [.b false]
                         else
                          bif decide ((0 + a5.length) < 1099511627776 ∧ (0 + a5.length) * 8 < 35184372088832) then
                           bif decide ((0 : Int) ≤ (within a0 0 x11) ∧ (within a0 0 x11) < (a5.length : Int)) then
                            bif decide ((within a0 0 x11).toNat < a5.length) then
                             lt ((List.set a5 ((within a0 0 x11).toNat) (-1)) : List Int) fun l24 =>
                             bif decide (a2 ≤ 9223372036854775807 ∧ l24.length < 1099511627776) then
                              bif decide ((proV a2 l24).length < 1099511627776) then
                               bif ((sumV (proV a2 l24)) == 0) then
                                bif decide (a2 ≤ 9223372036854775807 ∧ l24.length < 1099511627776) then
                                 bif (((proV a2 l24).length : Int) == (a5.length : Int)) then
                                  some [.b true]
                                 else
                                  some [.b false]
                                else
                                 none
                               else
                                some [.b false]
                              else
                               none
                             else
                              none
                            else
                             none
                           else
                            none
                          else
                           none
                        else
                         none
                       else
                        none
                      else
                       none
                     else
                      none
                    else
                     none
                   else
                    none
                 else
                  none
                else
                 none
               else
                none
              else
               none
             else
              none
            else
             lt ((List.take ((within a0 0 x11).toNat) a5) : List Int) fun l27 =>
             bif decide ((0 : Int) ≤ (within a0 0 x11) ∧ (within a0 0 x11) < (a5.length : Int)) then
              bif decide ((within a0 0 x11).toNat < a5.length) then
               bif decide ((l27.length + 2) < 1099511627776 ∧ (l27.length + 2) * 8 < 35184372088832) then
                lt ((l27 ++ ([(within a1 0 x12), (IntKind.i64.wrap ((a5.getD ((within a0 0 x11).toNat) 0) - (within a1 0 x12)))])) : List Int) fun l30 =>
                lt ((IntKind.i64.wrap ((within a0 0 x11) + 1)) : Int) fun x31 =>
                bif true && (decide (0 ≤ x31) && decide (x31.toNat ≤ a5.length ∧ a5.length ≤ a5.length)) then
                 bif decide ((l30.length + (List.take (a5.length - x31.toNat) (List.drop x31.toNat a5)).length) < 1099511627776 ∧ (l30.length + (List.take (a5.length - x31.toNat) (List.drop x31.toNat a5)).length) * 8 < 35184372088832) then
                  lt ((l30 ++ (List.take (a5.length - x31.toNat) (List.drop x31.toNat a5))) : List Int) fun l32 =>
                  bif decide (a2 ≤ 9223372036854775807 ∧ l32.length < 1099511627776) then
                   bif (((inOrd (max a2 0) l32).length : Int) != (IntKind.i64.wrap ((a5.length : Int) + 1))) then
                    some [.b false]
                   else
                    bif decide ((0 : Int) ≤ (within a0 0 x11) ∧ (within a0 0 x11) < ((inOrd (max a2 0) l32).length : Int)) then
                     bif decide ((within a0 0 x11).toNat < (inOrd (max a2 0) l32).length) then
                      lt ((IntKind.i64.wrap ((within a0 0 x11) + 1)) : Int) fun x36 =>
                      bif decide ((0 : Int) ≤ x36 ∧ x36 < ((inOrd (max a2 0) l32).length : Int)) then
                       bif decide (x36.toNat < (inOrd (max a2 0) l32).length) then
                        bif decide ((0 : Int) ≤ (within a0 0 x11) ∧ (within a0 0 x11) < (a6.length : Int)) then
                         bif decide ((within a0 0 x11).toNat < a6.length) then
                          bif (IntKind.i64.wrap (((inOrd (max a2 0) l32).getD ((within a0 0 x11).toNat) 0) + ((inOrd (max a2 0) l32).getD x36.toNat 0))) != (a6.getD ((within a0 0 x11).toNat) 0) then
                           some [.b false]
                          else
                           bif decide ((0 + a5.length) < 1099511627776 ∧ (0 + a5.length) * 8 < 35184372088832) then
                            bif decide ((0 : Int) ≤ (within a0 0 x11) ∧ (within a0 0 x11) < (a5.length : Int)) then
                             bif decide ((within a0 0 x11).toNat < a5.length) then
                              lt ((List.set a5 ((within a0 0 x11).toNat) (-1)) : List Int) fun l40 =>
                              bif decide (a2 ≤ 9223372036854775807 ∧ l40.length < 1099511627776) then
                               bif decide ((proV a2 l40).length < 1099511627776) then
                                bif ((sumV (proV a2 l40)) == 0) then
                                 bif decide (a2 ≤ 9223372036854775807 ∧ l40.length < 1099511627776) then
                                  bif (((proV a2 l40).length : Int) == (a5.length : Int)) then
                                   some [.b true]
                                  else
                                   some [.b false]
                                 else
                                  none
                                else
                                 some [.b false]
                               else
                                none
                              else
                               none
                             else
                              none
                            else
                             none
                           else
                            none
                         else
                          none
                        else
                         none
                       else
                        none
                      else
                       none
                     else
                      none
                    else
                     none
                  else
                   none
                 else
                  none
                else
                 none
               else
                none
              else
               none
             else
              none
           else
            none
          else
           none
         else
          none
        else
         none
       else
        none
      else
       none
  | _ => none
def L7_0 (m : Nat) : Nat → List Un → Option (List Un) := iterS (L7_0s m)
theorem L7_0_succ (m : Nat) (n : Nat) : L7_0 m (n + 1) = L7_0s m (L7_0 m n) := rfl
def P7_0 : Pn := ⟨[.any, .any, .any, .int .i64, .int .i64, .any, .any, .any, .any, .any, .any, .buf 0 1, .int .i64, .any, .buf 1 1, .buf 2 1, .any, .any, .any, .any, .any, .any, .any, .any, .any, .any, .any, .any, .any, .any, .any, .any, .any, .any, .any, .any, .any, .any, .any, .any, .any, .any, .any, .any, .any, .any, .any, .any, .any, .any, .any, .int .i64, .int .i64, .any, .any, .any, .any, .any, .any, .any, .any, .any, .any, .any, .any, .any, .any, .any, .any, .any, .any, .any, .any, .any, .any, .any, .any, .any, .any, .any, .any, .any, .any, .any, .any, .any, .any, .any, .any, .any, .any, .any, .any, .any, .any, .any, .any, .any, .any, .any, .any, .any, .any, .any, .any, .any, .any, .any, .any, .any, .any, .any, .any, .any, .any, .any, .any, .any, .any, .any, .any, .any, .any, .any, .any, .any, .any, .any, .any, .any, .any, .any, .any, .any, .any, .any, .any, .any, .any, .any, .any, .any, .any, .any, .any, .any, .any, .any, .any, .any, .any, .any, .any, .any, .any, .any, .any, .any], [.ints .i64, .ints .i64, .ints .i64]⟩
def S7_0 (F : List Un → Option (List Un)) : StopS := ⟨[.lp [0, 1, 0, 1, 1, 1, 1, 1], .blk 0, .code [1, 1, 1, 1, 1, 1]], P7_0, F⟩
def t7 (m : Nat) (a0 : Int) (a1 : Int) (a2 : List Int) (a3 : Int) (a4 : Int) : Option (List Un) :=
  lt ((within a0 0 8796093022208) : Int) fun x1 =>
  bif decide (x1 ≤ 9223372036854775807 ∧ (claimsV a2).length < 1099511627776) then
   lt ((inOrd (max x1 0) (claimsV a2)) : List Int) fun l3 =>
   lt ((IntKind.i64.wrap (x1 + (within a1 0 8796093022208))) : Int) fun x4 =>
   bif decide (x4 ≤ 9223372036854775807 ∧ (claimsV a2).length < 1099511627776) then
    lt ((inOrd (max x4 0) (claimsV a2)) : List Int) fun l5 =>
    bif ((l3.length : Int) != ((claimsV a2).length : Int)) then
     some [.b false]
    else
     bif ((l5.length : Int) != ((claimsV a2).length : Int)) then
      some [.b false]
     else
      L7_0 m m [.i a3, .i a4, .i x1, .i ((claimsV a2).length : Int), .i 0, .l (claimsV a2), .l l3, .l l5]
   else
    none
  else
   none
def T7 : TabS := tabS TE [(10, e10), (11, e11), (17, e17), (18, e18)]
theorem T7_right : TabRight Try.prog [] (ofTab TE) T7 := tabS_right (all1 right10 (all1 right11 (all1 right17 (all1 right18 all0))))
theorem G7_0 (m : Nat) (k : List Un → Option (List Un)) (a0 : Int) (a1 : Int) (a2 : Int) (a3 : Int) (a4 : Int) (a5 : List Int) (a6 : List Int) (a7 : List Int) : roadFromS Try.prog [] T7 KN (bodyOf (fnOf Try.prog 7)) [0, 1, 0, 1, 1, 1, 1, 1] [.blk 0, .code [1, 1, 1, 1, 1, 1]] P7_0 [.i a0, .i a1, .i a2, .i a3, .i a4, .l a5, .l a6, .l a7] (kksS Try.prog (fnOf Try.prog 7).results.toList X7 0 [S7_0 k]) = L7_0s m k [.i a0, .i a1, .i a2, .i a3, .i a4, .l a5, .l a6, .l a7] := by kernel_rfl
theorem Y7_0 {m : Nat} {k : List Un → Option (List Un)} {xs : List Un} {v : List Un} (h : L7_0s m k xs = some v) : ∃ a0 a1 a2 a3 a4 a5 a6 a7, xs = [.i a0, .i a1, .i a2, .i a3, .i a4, .l a5, .l a6, .l a7] := by
  unfold L7_0s at h
  split at h
  · exact ⟨_, _, _, _, _, _, _, _, rfl⟩
  · cases h
theorem H7_0 (m : Nat) : ∀ n, HoldsS Try.prog [] (ofTab TE) (fnOf Try.prog 7).results.toList X7 0 (bodyOf (fnOf Try.prog 7)) (S7_0 (L7_0 m n)) :=
  StopS.iter KN_none T7_right (mk := S7_0) (Fs := L7_0s m) (W := fun k => [S7_0 k]) (p := [0, 1, 0, 1, 1, 1, 1, 1]) (rest := [.blk 0, .code [1, 1, 1, 1, 1, 1]]) (pat := P7_0)
    (fun _ => rfl) (fun _ => rfl) (fun _ => rfl) (by kernel_rfl) (by kernel_rfl)
    (fun k h => (all1 h all0))
    (fun k xs v h => by
      obtain ⟨a0, a1, a2, a3, a4, a5, a6, a7, rfl⟩ := Y7_0 h
      exact (G7_0 m k a0 a1 a2 a3 a4 a5 a6 a7).trans h)
theorem G7 (m : Nat) (a0 : Int) (a1 : Int) (a2 : List Int) (a3 : Int) (a4 : Int) : roadInS Try.prog [] T7 KN (fnOf Try.prog 7) N7 [.i a0, .i a1, .l a2, .i a3, .i a4] (kksS Try.prog (fnOf Try.prog 7).results.toList X7 0 [S7_0 (L7_0 m m)]) = t7 m a0 a1 a2 a3 a4 := by kernel_rfl
theorem tells7 (m : Nat) (a0 : Int) (a1 : Int) (a2 : List Int) (a3 : Int) (a4 : Int) {ys : List Un} (h : t7 m a0 a1 a2 a3 a4 = some ys) : TellsS Try.prog [] (ofTab TE) 7 N7 X7 [.i a0, .i a1, .l a2, .i a3, .i a4] ys :=
  tells_road KN_none T7_right (W := [S7_0 (L7_0 m m)]) (by kernel_rfl) (by kernel_rfl) (by kernel_rfl)
    (all1 (H7_0 m m) all0) ((G7 m a0 a1 a2 a3 a4).trans h)

theorem morL7 (m : Nat) (at' cut a : Int) (c y : List Int) (ha : 0 ≤ a ∧ a ≤ 8796093022208) (hs : c.length ≤ 12) (hb : ∀ x ∈ c, 0 ≤ x ∧ x ≤ 1099511627776) (yl : y.length = c.length) (hy : ∀ i, (inOrd a c).getD i 0 ≤ y.getD i 0) : ∀ (r i n : Nat), r < n → i + r = c.length →
    L7_0 m n [.i at', .i cut, .i a, .i (c.length : Int), .i (i : Int), .l c, .l (inOrd a c), .l y] = some [.b true] := by
  have xl := inOrd_len c a
  intro r
  induction r with
  | zero =>
    intro i n hn hr
    obtain ⟨n, rfl⟩ := one_more n (by omega)
    rw [L7_0_succ]; unfold L7_0s; dsimp only
    by_cases hc : c = []
    · subst hc
      repeat' (first
        | with_reducible rfl
        | (with_reducible refine lt_i ?_; intro x hx; (try simp (disch := omega) only [wr, if_pos, if_neg, Int.sub_zero, Int.zero_add, proV_len, List.length_append, List.length_cons, List.length_nil, List.length_replicate, List.length_take, List.length_drop, Int.natCast_add, Int.toNat_natCast] at hx); (try simp only [min_if', max_if'] at hx); subst hx)
        | (with_reducible refine bif_t ?_ ?_; · ((try simp (disch := omega) only [wr, if_pos, if_neg, proV_len, List.length_append, List.length_cons, List.length_nil, List.length_replicate, List.length_take, List.length_drop, Int.natCast_add, Int.toNat_natCast]); (first | done | ((try simp only [min_if', max_if']); (first | done | ((try simp only [Bool.true_and, Bool.and_true, Bool.and_eq_true, Bool.and_eq_false_iff, Bool.or_eq_true, Bool.or_eq_false_iff, true_and, and_true, decide_eq_true_eq, decide_eq_false_iff_not, beq_iff_eq, beq_eq_false_iff_ne, bne_iff_ne, bne_eq_false_iff_eq, ne_eq, Bool.not_eq_true', Bool.not_eq_false', Decidable.not_not]) <;> omega))))))
        | (with_reducible refine bif_f ?_ ?_; · ((try simp (disch := omega) only [wr, if_pos, if_neg, proV_len, List.length_append, List.length_cons, List.length_nil, List.length_replicate, List.length_take, List.length_drop, Int.natCast_add, Int.toNat_natCast]); (first | done | ((try simp only [min_if', max_if']); (first | done | ((try simp only [Bool.true_and, Bool.and_true, Bool.and_eq_true, Bool.and_eq_false_iff, Bool.or_eq_true, Bool.or_eq_false_iff, true_and, and_true, decide_eq_true_eq, decide_eq_false_iff_not, beq_iff_eq, beq_eq_false_iff_ne, bne_iff_ne, bne_eq_false_iff_eq, ne_eq, Bool.not_eq_true', Bool.not_eq_false', Decidable.not_not]) <;> omega))))))
        | (with_reducible refine bif_s ?_ ?_ <;> (intro hc; (try simp (disch := omega) only [wr, if_pos, if_neg, proV_len, List.length_append, List.length_cons, List.length_nil, List.length_replicate, List.length_take, List.length_drop, Int.natCast_add, Int.toNat_natCast] at hc); (try simp only [min_if', max_if'] at hc); (try simp only [Bool.true_and, Bool.and_true, Bool.and_eq_true, Bool.and_eq_false_iff, Bool.or_eq_true, Bool.or_eq_false_iff, true_and, and_true, decide_eq_true_eq, decide_eq_false_iff_not, beq_iff_eq, beq_eq_false_iff_ne, bne_iff_ne, bne_eq_false_iff_eq, ne_eq, Bool.not_eq_true', Bool.not_eq_false', Decidable.not_not] at hc)))
        | fail "stuck")
    · have hpos := List.length_pos_iff.2 hc
      have hk := within_le (a := at') (lo := 0) (hi := (c.length : Int) - 1) (by omega)
      obtain ⟨k, hwk⟩ := Int.eq_ofNat_of_zero_le hk.1
      rw [hwk] at hk
      have hkl : k < c.length := by omega
      have hx0 := hb _ (getD_mem hkl)
      have hp := within_le (a := cut) (lo := 0) (hi := c.getD k 0) (by omega)
      obtain ⟨p, hwp⟩ : ∃ p, within cut 0 (c.getD k 0) = p := ⟨_, rfl⟩
      rw [hwp] at hp
      have hm : max a 0 = a := by omega
      have tn : ((k : Int) + 1).toNat = k + 1 := by omega
      have hdl : List.take (c.length - (k + 1)) (List.drop (k + 1) c) = List.drop (k + 1) c := List.take_of_length_le (by simp)
      have ec : c = List.take k c ++ c.getD k 0 :: List.drop (k + 1) c := by
        have : c.getD k 0 = c[k] := by rw [List.getD_eq_getElem?_getD, List.getElem?_eq_getElem hkl]; rfl
        rw [this, List.getElem_cons_drop, List.take_append_drop]
      have tl : (List.take k c).length = k := by simp; omega
      have dl : (List.drop (k + 1) c).length = c.length - (k + 1) := by simp
      have par := inOrd_parted (l1 := List.take k c) (l2 := List.drop (k + 1) c) (c := c.getD k 0) (p := p) ha.1 (fun x hx => (hb x (List.mem_of_mem_take hx)).1) hp.1 hp.2
      rw [tl, ← ec] at par
      have hin := fun l => inOrd_in l a ha.1
      have em : (-1 : Int) ∈ List.set c k (-1) := by rw [List.mem_iff_getElem]; exact ⟨k, by simpa using hkl, by simp⟩
      have e5 : proV a (List.set c k (-1)) = List.replicate c.length 0 := by rw [proV_minus em]; simp
      have e6 : sumV (List.replicate c.length 0) = 0 := by
        have := (sumV_ok (l := List.replicate c.length 0) (b := 0) (by omega) (fun x hx => by have := (List.mem_replicate.1 hx).2; omega) (by omega)).1
        rw [this, sum_rep]
      have app1 : (List.take k c ++ [p, c.getD k 0 - p]) ++ List.drop (k + 1) c = List.take k c ++ p :: (c.getD k 0 - p) :: List.drop (k + 1) c := by simp
      have app0 : (List.take k c).length = 0 → [p, c.getD k 0 - p] ++ List.drop (k + 1) c = List.take k c ++ p :: (c.getD k 0 - p) :: List.drop (k + 1) c := by
        intro h; rw [List.eq_nil_of_length_eq_zero h]; rfl
      have zl : (inOrd a (List.take k c ++ p :: (c.getD k 0 - p) :: List.drop (k + 1) c)).length = c.length + 1 := by rw [inOrd_len]; simp only [List.length_append, List.length_cons, tl, dl]; omega
      have hA := hin _ _ (getD_mem (l := inOrd a (List.take k c ++ p :: (c.getD k 0 - p) :: List.drop (k + 1) c)) (i := k) (by omega))
      have hB := hin _ _ (getD_mem (l := inOrd a (List.take k c ++ p :: (c.getD k 0 - p) :: List.drop (k + 1) c)) (i := k + 1) (by omega))
      repeat' (first
        | with_reducible rfl
        | (with_reducible refine lt_i ?_; intro x hx; (try simp (disch := omega) only [wr, if_pos, if_neg, Int.sub_zero, Int.zero_add, hwk, tn, hwp, hm, hdl, app1, app0, zl, par, e5, e6, xl, List.length_set, List.length_append, List.length_cons, List.length_nil, List.length_replicate, List.length_take, List.length_drop, Int.natCast_add, Int.toNat_natCast] at hx); (try simp only [min_if', max_if'] at hx); subst hx)
        | (with_reducible refine bif_t ?_ ?_; · ((try simp (disch := omega) only [wr, if_pos, if_neg, hwk, tn, hwp, hm, hdl, app1, app0, zl, par, e5, e6, xl, List.length_set, List.length_append, List.length_cons, List.length_nil, List.length_replicate, List.length_take, List.length_drop, Int.natCast_add, Int.toNat_natCast]); (first | done | ((try simp only [min_if', max_if']); (first | done | ((try simp only [Bool.true_and, Bool.and_true, Bool.and_eq_true, Bool.and_eq_false_iff, Bool.or_eq_true, Bool.or_eq_false_iff, true_and, and_true, decide_eq_true_eq, decide_eq_false_iff_not, beq_iff_eq, beq_eq_false_iff_ne, bne_iff_ne, bne_eq_false_iff_eq, ne_eq, Bool.not_eq_true', Bool.not_eq_false', Decidable.not_not]) <;> omega))))))
        | (with_reducible refine bif_f ?_ ?_; · ((try simp (disch := omega) only [wr, if_pos, if_neg, hwk, tn, hwp, hm, hdl, app1, app0, zl, par, e5, e6, xl, List.length_set, List.length_append, List.length_cons, List.length_nil, List.length_replicate, List.length_take, List.length_drop, Int.natCast_add, Int.toNat_natCast]); (first | done | ((try simp only [min_if', max_if']); (first | done | ((try simp only [Bool.true_and, Bool.and_true, Bool.and_eq_true, Bool.and_eq_false_iff, Bool.or_eq_true, Bool.or_eq_false_iff, true_and, and_true, decide_eq_true_eq, decide_eq_false_iff_not, beq_iff_eq, beq_eq_false_iff_ne, bne_iff_ne, bne_eq_false_iff_eq, ne_eq, Bool.not_eq_true', Bool.not_eq_false', Decidable.not_not]) <;> omega))))))
        | (with_reducible refine bif_s ?_ ?_ <;> (intro hc; (try simp (disch := omega) only [wr, if_pos, if_neg, hwk, tn, hwp, hm, hdl, app1, app0, zl, par, e5, e6, xl, List.length_set, List.length_append, List.length_cons, List.length_nil, List.length_replicate, List.length_take, List.length_drop, Int.natCast_add, Int.toNat_natCast] at hc); (try simp only [min_if', max_if'] at hc); (try simp only [Bool.true_and, Bool.and_true, Bool.and_eq_true, Bool.and_eq_false_iff, Bool.or_eq_true, Bool.or_eq_false_iff, true_and, and_true, decide_eq_true_eq, decide_eq_false_iff_not, beq_iff_eq, beq_eq_false_iff_ne, bne_iff_ne, bne_eq_false_iff_eq, ne_eq, Bool.not_eq_true', Bool.not_eq_false', Decidable.not_not] at hc)))
        | fail "stuck")
  | succ r ih =>
    intro i n hn hr
    obtain ⟨n, rfl⟩ := one_more n (by omega)
    have := ih (i + 1) n (by omega) (by omega)
    have hyi := hy i
    simp only [Int.natCast_add] at this
    rw [L7_0_succ]; unfold L7_0s; dsimp only
    simp only [Int.toNat_natCast]
    repeat' (first
      | with_reducible rfl
      | (with_reducible refine lt_i ?_; intro x hx; (try simp (disch := omega) only [wr, if_pos, if_neg, Int.sub_zero, Int.zero_add, xl, yl, List.length_append, List.length_cons, List.length_nil, List.length_replicate, List.length_take, List.length_drop, Int.natCast_add, Int.toNat_natCast] at hx); (try simp only [min_if', max_if'] at hx); subst hx)
      | (with_reducible refine bif_t ?_ ?_; · ((try simp (disch := omega) only [wr, if_pos, if_neg, xl, yl, List.length_append, List.length_cons, List.length_nil, List.length_replicate, List.length_take, List.length_drop, Int.natCast_add, Int.toNat_natCast]); (first | done | ((try simp only [min_if', max_if']); (first | done | ((try simp only [Bool.true_and, Bool.and_true, Bool.and_eq_true, Bool.and_eq_false_iff, Bool.or_eq_true, Bool.or_eq_false_iff, true_and, and_true, decide_eq_true_eq, decide_eq_false_iff_not, beq_iff_eq, beq_eq_false_iff_ne, bne_iff_ne, bne_eq_false_iff_eq, ne_eq, Bool.not_eq_true', Bool.not_eq_false', Decidable.not_not]) <;> omega))))))
      | (with_reducible refine bif_f ?_ ?_; · ((try simp (disch := omega) only [wr, if_pos, if_neg, xl, yl, List.length_append, List.length_cons, List.length_nil, List.length_replicate, List.length_take, List.length_drop, Int.natCast_add, Int.toNat_natCast]); (first | done | ((try simp only [min_if', max_if']); (first | done | ((try simp only [Bool.true_and, Bool.and_true, Bool.and_eq_true, Bool.and_eq_false_iff, Bool.or_eq_true, Bool.or_eq_false_iff, true_and, and_true, decide_eq_true_eq, decide_eq_false_iff_not, beq_iff_eq, beq_eq_false_iff_ne, bne_iff_ne, bne_eq_false_iff_eq, ne_eq, Bool.not_eq_true', Bool.not_eq_false', Decidable.not_not]) <;> omega))))))
      | (with_reducible refine bif_s ?_ ?_ <;> (intro hc; (try simp (disch := omega) only [wr, if_pos, if_neg, xl, yl, List.length_append, List.length_cons, List.length_nil, List.length_replicate, List.length_take, List.length_drop, Int.natCast_add, Int.toNat_natCast] at hc); (try simp only [min_if', max_if'] at hc); (try simp only [Bool.true_and, Bool.and_true, Bool.and_eq_true, Bool.and_eq_false_iff, Bool.or_eq_true, Bool.or_eq_false_iff, true_and, and_true, decide_eq_true_eq, decide_eq_false_iff_not, beq_iff_eq, beq_eq_false_iff_ne, bne_iff_ne, bne_eq_false_iff_eq, ne_eq, Bool.not_eq_true', Bool.not_eq_false', Decidable.not_not] at hc)))
      | fail "stuck")
    simp (disch := omega) only [wr]
    exact this

theorem spec7 (a0 : Int) (w0 : (Lit.int .i64 a0).wf = true) (a1 : Int) (w1 : (Lit.int .i64 a1).wf = true) (a2 : List Int) (w2 : ∀ n ∈ a2, (Lit.int .i64 n).wf = true) (a3 : Int) (w3 : (Lit.int .i64 a3).wf = true) (a4 : Int) (w4 : (Lit.int .i64 a4).wf = true) : ∃ m, t7 m a0 a1 a2 a3 a4 = some [.b true] := by
  unfold t7
  have hcl := claimsV_len a2
  have hcm := claimsV_mem (l := a2)
  generalize claimsV a2 = c at *
  have hc0 : ∀ x ∈ c, 0 ≤ x := fun x hx => (hcm x hx).1
  have hw := within_le (a := a0) (lo := 0) (hi := 8796093022208) (by omega)
  have hv := within_le (a := a1) (lo := 0) (hi := 8796093022208) (by omega)
  generalize within a0 0 8796093022208 = a at *
  generalize within a1 0 8796093022208 = b at *
  refine ⟨13, ?_⟩
  have hm : max a 0 = a := by omega
  have hm2 : max (a + b) 0 = a + b := by omega
  have xl := inOrd_len c a
  have yl := inOrd_len c (a + b)
  have fin := morL7 13 a3 a4 a c (inOrd (a + b) c) (by omega) (by omega) hcm yl (fun i => inOrd_mono c a (a + b) hw.1 (by omega) hc0 i) c.length 0 13 (by omega) (by omega)
  repeat' (first
    | with_reducible rfl
    | (with_reducible refine lt_i ?_; intro x hx; (try simp (disch := omega) only [wr, if_pos, if_neg, Int.sub_zero, Int.zero_add, hm, hm2, xl, yl, List.length_append, List.length_cons, List.length_nil, List.length_replicate, List.length_take, List.length_drop, Int.natCast_add, Int.toNat_natCast] at hx); (try simp only [min_if', max_if'] at hx); subst hx)
    | (with_reducible refine bif_t ?_ ?_; · ((try simp (disch := omega) only [wr, if_pos, if_neg, hm, hm2, xl, yl, List.length_append, List.length_cons, List.length_nil, List.length_replicate, List.length_take, List.length_drop, Int.natCast_add, Int.toNat_natCast]); (first | done | ((try simp only [min_if', max_if']); (first | done | ((try simp only [Bool.true_and, Bool.and_true, Bool.and_eq_true, Bool.and_eq_false_iff, Bool.or_eq_true, Bool.or_eq_false_iff, true_and, and_true, decide_eq_true_eq, decide_eq_false_iff_not, beq_iff_eq, beq_eq_false_iff_ne, bne_iff_ne, bne_eq_false_iff_eq, ne_eq, Bool.not_eq_true', Bool.not_eq_false', Decidable.not_not]) <;> omega))))))
    | (with_reducible refine bif_f ?_ ?_; · ((try simp (disch := omega) only [wr, if_pos, if_neg, hm, hm2, xl, yl, List.length_append, List.length_cons, List.length_nil, List.length_replicate, List.length_take, List.length_drop, Int.natCast_add, Int.toNat_natCast]); (first | done | ((try simp only [min_if', max_if']); (first | done | ((try simp only [Bool.true_and, Bool.and_true, Bool.and_eq_true, Bool.and_eq_false_iff, Bool.or_eq_true, Bool.or_eq_false_iff, true_and, and_true, decide_eq_true_eq, decide_eq_false_iff_not, beq_iff_eq, beq_eq_false_iff_ne, bne_iff_ne, bne_eq_false_iff_eq, ne_eq, Bool.not_eq_true', Bool.not_eq_false', Decidable.not_not]) <;> omega))))))
    | (with_reducible refine bif_s ?_ ?_ <;> (intro hc; (try simp (disch := omega) only [wr, if_pos, if_neg, hm, hm2, xl, yl, List.length_append, List.length_cons, List.length_nil, List.length_replicate, List.length_take, List.length_drop, Int.natCast_add, Int.toNat_natCast] at hc); (try simp only [min_if', max_if'] at hc); (try simp only [Bool.true_and, Bool.and_true, Bool.and_eq_true, Bool.and_eq_false_iff, Bool.or_eq_true, Bool.or_eq_false_iff, true_and, and_true, decide_eq_true_eq, decide_eq_false_iff_not, beq_iff_eq, beq_eq_false_iff_ne, bne_iff_ne, bne_eq_false_iff_eq, ne_eq, Bool.not_eq_true', Bool.not_eq_false', Decidable.not_not] at hc)))
    | fail "stuck")
  exact fin

theorem walkShareMore (w : World) (a0 : Int) (w0 : (Lit.int .i64 a0).wf = true) (a1 : Int) (w1 : (Lit.int .i64 a1).wf = true) (b2 : LArg) (o2 : b2.ok w) (p2 : b2.vp = .ints .i64) (u2 : ∀ n, (∃ xs, b2.un = .l xs ∧ n ∈ xs) → (Lit.int .i64 n).wf = true) (a3 : Int) (w3 : (Lit.int .i64 a3).wf = true) (a4 : Int) (w4 : (Lit.int .i64 a4).wf = true) : Calls Try.prog 7 #[.int .i64 a0, .int .i64 a1, b2.val, .int .i64 a3, .int .i64 a4] w fun e w' => e = .returned (.bool true) ∧ RowKit.Below w.heap.size w w' := by
  obtain ⟨x2, hx2⟩ := LArg.list p2
  obtain ⟨m, hm⟩ := spec7 a0 w0 a1 w1 x2 (fun n hn => u2 n ⟨_, hx2, hn⟩) a3 w3 a4 w4
  exact law_lists Seat.mix Seat.names TE_right (xs := [.i .i64 a0, .i .i64 a1, b2, .i .i64 a3, .i .i64 a4]) (vps := N7.vals) (tells7 m a0 a1 x2 a3 a4 hm) (by simp only [List.map_cons, List.map_nil, hx2] <;> rfl) (by simp only [List.map_cons, List.map_nil, p2] <;> rfl)
    (by intro a ha; simp only [List.mem_cons, List.not_mem_nil, or_false] at ha; rcases ha with rfl | rfl | rfl | rfl | rfl <;> first | assumption | trivial)
end Go.Proofs.Ytibenahgbdhegaa
