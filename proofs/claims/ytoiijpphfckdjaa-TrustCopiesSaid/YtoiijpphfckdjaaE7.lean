/-
  The evaluator's append and copy are the machine's, second part; every operation.
-/
import Derived.Test.YtoiijpphfckdjaaE6
namespace Go.Proofs.Ytoiijpphfckdjaa.Ev
open Go
set_option linter.unusedSimpArgs false

section
variable {P : Program} {f : Fm} {H : Heap} {w : World}

theorem run_append_room' {t ty e : TypeId} {i : TypeInfo} (ht : P.underlying t = some (.slice e)) (hi : P.info? e = some i)
    {g o sLen sCap : Nat} {cur : Array Value} {e' : TypeId} (hg : w.heap[g]? = some (.cells cur e' (0, 0)))
    {x : Value} {a : Addr} {m c : Nat} (hx : x = .slice (some a) m c) {news : List Value} (hf : (Builtin.firstCells i.size m x).run P w = .ok news.toArray w) (hc : ∀ u ∈ news, isCell u = true)
    (hroom : sLen + m ≤ sCap) (hfit : o + sLen * i.size + news.length ≤ cur.size) :
    (Builtin.append_ #[t, t] ty #[.slice (some ⟨g, o, none⟩) sLen sCap, x]).run P w =
      .ok (.slice (some ⟨g, o, none⟩) (sLen + m) sCap) (w.setRow g (cur.toList.take (o + sLen * i.size) ++ news ++ cur.toList.drop (o + sLen * i.size + news.length)).toArray) := by
  subst hx
  have hst := run_storeCells_at P g (o + sLen * i.size) e' news 0 cur w hg (by simpa using hfit) (fun u hu => isCell_one (hc u hu))
  simp only [Nat.add_zero] at hst
  simp [Builtin.append_, run_underlying ht, sizeOf, typeInfo, hi, Builtin.lenOf, hroom, hf, Addr.add_eq, hst]

theorem run_append_zero {t ty e : TypeId} {i : TypeInfo} (ht : P.underlying t = some (.slice e)) (hi : P.info? e = some i)
    {a b : Option Addr} {sLen sCap c : Nat} (hroom : sLen ≤ sCap) :
    (Builtin.append_ #[t, t] ty #[.slice a sLen sCap, .slice b 0 c]).run P w = .ok (.slice a sLen sCap) w := by
  cases a <;> cases b <;> simp [Builtin.append_, run_underlying ht, sizeOf, typeInfo, hi, Builtin.lenOf, hroom, Builtin.firstCells, loadCells, loadCellsFrom, storeCells]

theorem size_zeroCells' (z : Array Value) (n : Nat) : (Builtin.zeroCells z n).size = n * z.size := by simp [Builtin.zeroCells]

/-- The new row of an append that moves. -/
theorem grown_room {olds news : List Value} {z : Array Value} {need cap size : Nat} (hlen : olds.length + news.length = need * size) (hz : z.size = size) (hge : need ≤ cap) :
    (olds.toArray ++ news.toArray ++ Builtin.zeroCells z (cap - need)).size = cap * size := by
  simp only [Array.size_append, List.size_toArray, size_zeroCells', hz, hlen, ← Nat.add_mul]
  congr 1; omega

theorem VL.append_zero {cs cs' : List Value} (h : VL f cs cs') (_hc : ∀ u ∈ cs, isCell u = true) (rest : Array Value) :
    ∀ (i : Nat) v, cs[i]? = some v → ∃ v', (cs'.toArray ++ rest)[i]? = some v' ∧ V f v v' := by
  intro i v hi
  obtain ⟨v', h1, h2⟩ := h.get hi
  have hlt : i < cs'.length := (List.getElem?_eq_some_iff.1 h1).1
  refine ⟨v', ?_, h2⟩
  rw [Array.getElem?_append, if_pos (by simpa using hlt)]
  simpa using h1

theorem sliceLen {s s' : Value} (h : V f s s') {a : Option Addr} {n c : Nat} (hs : s = .slice a n c) : ∃ a' c', s' = .slice a' n c' := by
  subst hs
  cases h with
  | slNil => exact ⟨_, _, rfl⟩
  | slX => exact ⟨_, _, rfl⟩
  | slL => exact ⟨_, _, rfl⟩

theorem appendE_sound (hR : R f H w) {t u ty : TypeId} {s s' x x' v : Value} {H' : Heap} (hfree : ∀ j, H.size ≤ j → j < H'.size → f j = none) (hs : V f s s') (hx : V f x x')
    (h : appendE P H t u s x = some (v, H')) :
    ∃ f' w' v', (Builtin.append_ #[t, u] ty #[s', x']).run P w = .ok v' w' ∧ V f' v v' ∧ Stp f H w f' H' w' ∧ R f' H' w' := by
  unfold appendE at h
  split at h
  case isFalse => cases h
  rename_i htu
  subst htu
  split at h
  case h_2 => cases h
  rename_i elem base sLen sCap xa n xc hu
  cases hi : P.info? elem with
  | none => simp [hi] at h
  | some i =>
  cases hz : i.zero with
  | none => simp [hi, hz] at h
  | some z =>
  simp only [hi, hz] at h
  split at h
  case h_2 => cases h
  rename_i zc new hzc hnew
  split at h
  case isFalse => cases h
  rename_i hcond
  obtain ⟨hzl, hsz0, hlc, hbig, hbytes⟩ := hcond
  obtain ⟨e1, hzvl, hzcell⟩ := zCells_VL f hzc
  have hzs : z.cells.size = i.size := by rw [← hzl, ← e1]; simp
  obtain ⟨xa', xc', hx'⟩ := sliceLen hx rfl
  obtain ⟨hnlen, new', hnvl, hncell, hnrun, hnaddr⟩ := sliceCells_sound (P := P) hR hx (by intro a m c e; cases e; exact Nat.le_refl _) hnew
  have hnl' : new'.length = n * i.size := by rw [← hnvl.1]; exact hnlen
  have hncell' : ∀ u ∈ new', isCell u = true := by
    intro u hu'
    obtain ⟨j, hj⟩ := List.getElem?_of_mem hu'
    have hjl : j < new.length := by rw [hnvl.1]; exact (List.getElem?_eq_some_iff.1 hj).1
    rw [(hnvl.2 j _ _ (List.getElem?_eq_getElem hjl) hj).cell]
    exact hncell _ (List.getElem_mem hjl)
  split at h
  · -- nothing is appended
    cases h
    subst hx'
    cases hs with
    | slNil => exact ⟨f, w, _, run_append_zero hu hi (Nat.le_refl _), .slNil, .refl f H w, hR⟩
    | slX b off _ _ l a hl ha => exact ⟨f, w, _, run_append_zero hu hi hlc, .slX b off _ _ l a hl ha, .refl f H w, hR⟩
    | slL b off e _ _ off' c' l hl h1 h2 h3 h4 => exact ⟨f, w, _, run_append_zero hu hi (by omega), .slL b off e _ _ off' c' l hl h1 h2 h3 h4, .refl f H w, hR⟩
  rename_i n0 m
  have hbytes : (sLen + (m + 1)) * i.bytes < 35184372088832 := hbytes
  have hbig : sLen + (m + 1) < 1099511627776 := hbig
  have hnl' : new'.length = (m + 1) * i.size := hnl'
  rcases hnaddr with h0 | ⟨xad, xm, xcc, hxe, hxc⟩
  · omega
  have hxm : xm = m + 1 := by rw [hx'] at hxe; cases hxe; rfl
  subst hxm
  rw [hxe] at hnrun ⊢
  split at h
  · -- a nil slice
    cases h
    cases hs
    have hr := run_append_nil (P := P) w t ty elem i z hu hi hz xad (m + 1) xcc new' hnl' hxc (by omega) (by omega) (by simp at hbytes; omega)
    have hge := grownCap_ge w (m + 1) 0 elem
    have hroom := grown_room (olds := []) (news := new') (z := z.cells) (need := m + 1) (cap := grownCap w (m + 1) 0 elem) (size := i.size) (by simpa using hnl') hzs hge
    have hroom : (new'.toArray ++ Builtin.zeroCells z.cells (grownCap w (m + 1) 0 elem - (m + 1))).size = grownCap w (m + 1) 0 elem * i.size := by simpa using hroom
    obtain ⟨f', g1, g2, g3⟩ := hR.drew.push (hfree _ (Nat.le_refl _) (by simp [pushV])) (grownCap w (m + 1) 0 elem * i.size) new
      (new'.toArray ++ Builtin.zeroCells z.cells (grownCap w (m + 1) 0 elem - (m + 1))) elem hncell (hnvl.append_zero hncell _) (by rw [hroom]; exact Nat.le_refl _)
    refine ⟨f', _, _, hr, ?_, g2.drew, g3⟩
    exact .slL H.size 0 i.size _ _ 0 _ _ g1 (Nat.le_refl _) hge (by simp) (fun _ => rfl)
  · rename_i b off sp
    split at h
    · -- in its room
      rename_i hfitE
      have hfitE : sLen + (m + 1) ≤ sCap := by simpa using hfitE
      simp only [Option.map_eq_some_iff] at h
      obtain ⟨H2, hset, hv⟩ := h
      cases hv
      obtain ⟨l, C, e, hl, hw, hfit, hstp, hR'⟩ := hR.store hset hnvl hncell
      rw [← Nat.add_assoc] at hfit hstp hR'
      cases hs with
      | slX _ _ _ _ l2 a hl2 ha =>
        rw [hl] at hl2; cases hl2
        have ha : a = ⟨l.blk, l.off + off, none⟩ := by rcases ha with h | h; exact h; omega
        subst ha
        exact ⟨f, _, _, run_append_room' hu hi hw rfl hnrun hncell' hfitE hfit, .slX b off _ _ l _ hl (.inl rfl), hstp, hR'⟩
      | slL _ _ e2 _ _ off' c' l2 hl2 h1 h2 h3 h4 =>
        rw [hl] at hl2; cases hl2
        have : off' = l.off + off := h4 (by omega)
        subst this
        exact ⟨f, _, _, run_append_room' hu hi hw rfl hnrun hncell' (by omega) hfit, .slL b off e2 _ _ _ c' l hl (by omega) h2 h3 h4, hstp, hR'⟩
    · rename_i hfitE
      have hfitE : ¬ (sLen + (m + 1) ≤ sCap) := by simpa using hfitE
      split at h
      case h_2 => cases h
      rename_i old hold
      obtain ⟨holen, old', hovl, hocell, horun, hoaddr⟩ := sliceCells_sound (P := P) hR hs (by intro a m' c e; cases e; exact Nat.le_refl _) hold
      have hol' : old'.length = sLen * i.size := by rw [← hovl.1]; exact holen
      have hall := hovl.append hnvl
      have hallc : ∀ u ∈ old ++ new, isCell u = true := by
        intro u hu'
        rcases List.mem_append.1 hu' with h1 | h1
        · exact hocell u h1
        · exact hncell u h1
      have hsum : old'.length + new'.length = (sLen + (m + 1)) * i.size := by rw [hol', hnl']; exact (Nat.add_mul _ _ _).symm
      -- the move, whatever the old row's capacity was
      have hgrow : ∀ (b' : Addr) (cap : Nat) (H1 : Heap), Stp f H w f H1 w → R f H1 w → H1.size = H.size → (f H.size = none) → sLen ≤ cap → cap < sLen + (m + 1) →
          (sLen = 0 ∨ ∀ (j : Nat) u, old'[j]? = some u → w.cell? (b'.add j) = some u) →
          ∃ f' w' v', (Builtin.append_ #[t, t] ty #[.slice (some b') sLen cap, .slice (some xad) (m + 1) xcc]).run P w = .ok v' w' ∧
            V f' (.slice (some ⟨H.size, 0, some i.size⟩) (sLen + (m + 1)) (sLen + (m + 1))) v' ∧ Stp f H w f' (pushV H1 (old ++ new)) w' ∧ R f' (pushV H1 (old ++ new)) w' := by
        intro b' cap H1 hs1 hR1 hsz1 hf0 hlecap hlt haddr
        have haddr' : ∀ (j : Nat) u, old'[j]? = some u → w.cell? (b'.add j) = some u := by
          rcases haddr with h0 | h1
          · intro j u hj
            have : old' = [] := by rw [h0] at hol'; simpa using hol'
            rw [this] at hj; simp at hj
          · exact h1
        have hr := run_append_grow (P := P) w t ty elem i z hu hi hz b' sLen cap old' hol' haddr' xad (m + 1) xcc new' hnl' hxc hlt (by omega) (growslice_fits hlt (by omega))
        have hge := grownCap_ge w (sLen + (m + 1)) cap elem
        have hroom := grown_room (olds := old') (news := new') (z := z.cells) (need := sLen + (m + 1)) (cap := grownCap w (sLen + (m + 1)) cap elem) (size := i.size) hsum hzs hge
        have hcc : old'.toArray ++ new'.toArray = (old' ++ new').toArray := by simp
        rw [hcc] at hr hroom
        obtain ⟨f', g1, g2, g3⟩ := hR1.drew.push (by rw [hsz1]; exact hf0) (grownCap w (sLen + (m + 1)) cap elem * i.size) (old ++ new)
          ((old' ++ new').toArray ++ Builtin.zeroCells z.cells (grownCap w (sLen + (m + 1)) cap elem - (sLen + (m + 1)))) elem hallc (hall.append_zero hallc _) (by rw [hroom]; exact Nat.le_refl _)
        refine ⟨f', _, _, hr, ?_, hs1.trans g2.drew, g3⟩
        rw [← hsz1]
        exact .slL H1.size 0 i.size _ _ 0 _ _ g1 (Nat.le_refl _) hge (by simp) (fun _ => rfl)
      split at h
      · -- a loose block
        rename_i e
        split at h
        case h_2 => cases h
        rename_i k hk
        split at h
        case isFalse => cases h
        rename_i hcond2
        simp only [Bool.and_eq_true, beq_iff_eq, decide_eq_true_eq] at hcond2
        obtain ⟨⟨⟨⟨hmine, hesz⟩, hoff⟩, hcl⟩, hpos⟩ := hcond2
        subst hoff
        subst hesz
        cases h
        have hf0 : f H.size = none := hfree _ (Nat.le_refl _) (by simp [pushV])
        obtain ⟨hd1, hd2⟩ := hR.drop hk hmine
        obtain ⟨l2, C, e, fr, hl2, hw, hcells, hmm⟩ := hR.blk b k hk
        obtain ⟨hfr, hrm⟩ := hmm hmine
        subst hfr
        have hkc : k.cells = old := by
          simp only [sliceCells, getCells, hk] at hold
          split at hold
          · have e2 := Option.some.inj hold
            rw [← e2, List.drop_zero, List.take_of_length_le (by omega)]
          · cases hold
        cases hs with
        | slL _ _ _ _ _ off' c' l hl h1 h2 h3 h4 =>
          have e3 : l2 = l := Option.some.inj (hl2.symm.trans hl)
          rw [e3] at hw hcells hrm
          have hoff' : off' = l.off + 0 := h4 (by omega)
          rw [Nat.add_zero] at hoff'
          subst hoff'
          by_cases hroomC : sLen + (m + 1) ≤ c'
          · -- it has room behind it
            have hle : l.off + (sLen + (m + 1)) * i.size ≤ C.size := by
              have : (sLen + (m + 1)) * i.size ≤ c' * i.size := Nat.mul_le_mul_right _ hroomC
              omega
            have hfit : l.off + k.cells.length + new'.length ≤ C.size := by
              rw [Nat.add_mul] at hle
              omega
            obtain ⟨f', g1, g2, g3⟩ := hR.move hf0 hk hmine hl hw hnvl hncell hfit
            rw [hkc] at g2 g3
            rw [holen] at g2 g3
            refine ⟨f', _, _, run_append_room' hu hi hw rfl hnrun hncell' hroomC (by rw [← hcl]; exact hfit), ?_, g2, g3⟩
            exact V.slL H.size 0 i.size _ _ l.off c' ⟨l.blk, l.off, l.room⟩ g1 (Nat.le_refl _) hroomC h3 (fun _ => rfl)
          · have hoa : sLen = 0 ∨ ∀ (j : Nat) u, old'[j]? = some u → w.cell? ((⟨l.blk, l.off, none⟩ : Addr).add j) = some u := by
              rcases hoaddr with h0 | ⟨a, m', c, he, hc⟩
              · exact .inl h0
              · cases he; exact .inr hc
            obtain ⟨f', w', v', r1, r2, r3, r4⟩ := hgrow ⟨l.blk, l.off, none⟩ c' (H.put b none) hd1 hd2 rfl hf0 (by omega) (by omega) hoa
            exact ⟨f', w', v', r1, r2, r3, r4⟩
      · -- an exact one
        cases h
        have hf0 : f H.size = none := hfree _ (Nat.le_refl _) (by simp [pushV])
        cases hs with
        | slX _ _ _ _ l a0 hl ha =>
          have hoa : sLen = 0 ∨ ∀ (j : Nat) u, old'[j]? = some u → w.cell? (a0.add j) = some u := by
            rcases hoaddr with h0 | ⟨a, m', c, he, hc⟩
            · exact .inl h0
            · cases he; exact .inr hc
          obtain ⟨f', w', v', r1, r2, r3, r4⟩ := hgrow a0 sCap H (.refl f H w) hR rfl hf0 hlc (by omega) hoa
          exact ⟨f', w', v', r1, r2, r3, r4⟩
end
end Go.Proofs.Ytoiijpphfckdjaa.Ev
