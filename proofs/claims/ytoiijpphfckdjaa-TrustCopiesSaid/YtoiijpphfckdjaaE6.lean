/-
  The evaluator's append and copy are the machine's.
-/
import Derived.Test.YtoiijpphfckdjaaE5
namespace Go.Proofs.Ytoiijpphfckdjaa.Ev
open Go
set_option linter.unusedSimpArgs false

section
variable {P : Program} {f : Fm} {H : Heap} {w : World}

/-- A block of the call's own is let go. -/
theorem R.drop (hR : R f H w) {b : Nat} {k : Blk} (hb : H.get b = some k) (hm : H.mine b k = true) : Stp f H w f (H.put b none) w ∧ R f (H.put b none) w := by
  have hget : ∀ x c, (H.put b none).get x = some c → x ≠ b ∧ H.get x = some c := by
    intro x c hx
    by_cases e : x = b
    · subst e; rw [Heap.get_put_same H x _ hb] at hx; cases hx
    · exact ⟨e, by rwa [Heap.get_put_other _ _ _ _ e] at hx⟩
  refine ⟨⟨.refl f, fun _ _ => rfl, Nat.le_refl _, rfl, rfl, ?_, Nat.le_refl _, rfl, rfl, rfl, fun _ _ _ => rfl, ?_⟩, ⟨?_, hR.big, hR.lk, ?_⟩⟩
  · intro x _ hx
    rw [Heap.root_put, if_neg]
    intro e
    have := mine_iff.1 hm
    omega
  · intro cb _ ⟨x, c, m, hx, hxm, hfm, hcb⟩
    exact ⟨x, c, m, (hget x c hx).2, by simpa [mine_iff] using hxm, hfm, hcb⟩
  · intro x c hx
    obtain ⟨l, C, e, fr, h1, h3, h4, h5⟩ := hR.blk x c (hget x c hx).2
    exact ⟨l, C, e, fr, h1, h3, h4, fun hxm => h5 (by simpa [mine_iff] using hxm)⟩
  · intro x y c d l m hx hy hxm hne hl hm'
    exact hR.inj x y c d l m (hget x c hx).2 (hget y d hy).2 (by simpa [mine_iff] using hxm) hne hl hm'

/-- A loose block goes on in its own row. -/
theorem R.move (hR : R f H w) (hfree : f H.size = none) {b : Nat} {k : Blk} (hb : H.get b = some k) (hm : H.mine b k = true) {l : Loc} (hl : f b = some l)
    {C : Array Value} {e : TypeId} {fr : Nat × Nat} (hw : w.heap[l.blk]? = some (.cells C e fr)) {vs vs' : List Value} (hv : VL f vs vs') (hc : ∀ u ∈ vs, isCell u = true)
    (hfit : l.off + k.cells.length + vs'.length ≤ C.size) :
    ∃ f', f' H.size = some ⟨l.blk, l.off, l.room⟩ ∧
      Stp f H w f' (pushV (H.put b none) (k.cells ++ vs)) (w.setRow l.blk (C.toList.take (l.off + k.cells.length) ++ vs' ++ C.toList.drop (l.off + k.cells.length + vs'.length)).toArray) ∧
      R f' (pushV (H.put b none) (k.cells ++ vs)) (w.setRow l.blk (C.toList.take (l.off + k.cells.length) ++ vs' ++ C.toList.drop (l.off + k.cells.length + vs'.length)).toArray) := by
  obtain ⟨l2, C2, e2, fr2, hf2, hw2, hcs, hmm⟩ := hR.blk b k hb
  rw [hl] at hf2; cases hf2
  rw [hw] at hw2; cases hw2
  obtain ⟨hfr, hroom⟩ := hmm hm
  subst hfr
  let L : Loc := ⟨l.blk, l.off, l.room⟩
  let f' : Fm := fun x => if x = H.size then some L else f x
  have hf0 : f' H.size = some L := by simp [f']
  have hle : Le f f' := by
    intro x m hx
    by_cases e : x = H.size
    · subst e; rw [hfree] at hx; cases hx
    · simp [f', e, hx]
  let D : Array Value := (C.toList.take (l.off + k.cells.length) ++ vs' ++ C.toList.drop (l.off + k.cells.length + vs'.length)).toArray
  have hDd : (C.toList.take (l.off + k.cells.length) ++ vs' ++ C.toList.drop (l.off + k.cells.length + vs'.length)).toArray = D := rfl
  rw [hDd]
  have hDsize : D.size = C.size := by simp [D]; omega
  have hDget : ∀ i, i < k.cells.length + vs'.length → D[l.off + i]? = if i < k.cells.length then C[l.off + i]? else vs'[i - k.cells.length]? := by
    intro i hi
    simp only [D, List.getElem?_toArray, List.getElem?_append, List.length_append, List.length_take, Array.length_toList, List.getElem?_take]
    have hmin : min (l.off + k.cells.length) C.size = l.off + k.cells.length := by omega
    rw [hmin]
    by_cases h1 : i < k.cells.length
    · rw [if_pos (by omega), if_pos (by omega), if_pos (by omega), if_pos h1]; simp
    · rw [if_pos (by omega), if_neg (by omega), if_neg h1]; congr 1; omega
  have hold : ∀ x c, (pushV (H.put b none) (k.cells ++ vs)).get x = some c → x ≠ H.size → x ≠ b ∧ H.get x = some c ∧ f' x = f x := by
    intro x c hx hne
    have hlt : x < (H.put b none).size := by have := Heap.get_lt hx; simp [pushV] at this; simp; omega
    rw [pushV, Heap.get_push_old _ _ _ hlt] at hx
    by_cases e : x = b
    · subst e; rw [Heap.get_put_same H x _ hb] at hx; cases hx
    · exact ⟨e, by rwa [Heap.get_put_other _ _ _ _ e] at hx, by simp [f', hne]⟩
  have hnew : ∀ c, (pushV (H.put b none) (k.cells ++ vs)).get H.size = some c → c = ⟨k.cells ++ vs⟩ := by
    intro c hx
    have := (Heap.get_root hx).1
    rw [pushV, Heap.root_push] at this
    simpa using this.symm
  have hbl : b < H.size := Heap.get_lt hb
  refine ⟨f', hf0, ⟨hle, ?_, ?_, rfl, rfl, ?_, by simp, rfl, rfl, rfl, ?_, ?_⟩, ⟨?_, ?_, ?_, ?_⟩⟩
  · intro x hx
    simp [pushV] at hx
    by_cases e : x = H.size
    · omega
    · simp [f', e]
  · simp [pushV]
  · intro x hx hlk
    have := mine_iff.1 hm
    rw [pushV, Heap.root_push, if_neg (by simp; omega), Heap.root_put, if_neg (by omega)]
  · intro cb _ hn
    exact setRow_other w l.blk cb _ (fun ex => hn ⟨b, k, l, hb, hm, hl, ex.symm⟩)
  · intro cb _ ⟨x, c, m, hx, hxm, hfm, hcb⟩
    by_cases e : x = H.size
    · subst e
      rw [hf0] at hfm; cases hfm
      exact ⟨b, k, l, hb, hm, hl, hcb⟩
    · obtain ⟨_, h1, h2⟩ := hold x c hx e
      exact ⟨x, c, m, h1, by simpa [mine_iff, pushV] using hxm, by rw [← h2]; exact hfm, hcb⟩
  · intro x c hx
    by_cases ex : x = H.size
    · subst ex
      have := hnew c hx
      subst this
      refine ⟨L, D, e, (0, 0), hf0, setRow_heap w l.blk C _ e (0, 0) hw, ?_, ?_⟩
      · intro i v hi
        have hil : i < k.cells.length + vs'.length := by
          have h1 := (List.getElem?_eq_some_iff.1 hi).1
          have h2 := hv.1
          simp at h1; omega
        have hD := hDget i hil
        show isCell v = true ∧ ∃ v', D[l.off + i]? = some v' ∧ V f' v v'
        rw [hD]
        simp only [List.getElem?_append] at hi
        by_cases h1 : i < k.cells.length
        · rw [if_pos h1] at hi ⊢
          obtain ⟨a1, v', a2, a3⟩ := hcs i v hi
          exact ⟨a1, v', a2, a3.mono hle⟩
        · rw [if_neg h1] at hi ⊢
          obtain ⟨v', a2, a3⟩ := hv.get hi
          exact ⟨hc v (List.mem_of_getElem? hi), v', a2, a3.mono hle⟩
      · intro _
        refine ⟨rfl, ?_⟩
        show l.room ≤ D.size
        omega
    · obtain ⟨hxb, h1, h2⟩ := hold x c hx ex
      obtain ⟨m, C', e', fr, hfm, hw', hcs', hmm'⟩ := hR.blk x c h1
      have hne' : m.blk ≠ l.blk := Ne.symm (hR.inj b x k c l m hb h1 hm (Ne.symm hxb) hl hfm)
      refine ⟨m, C', e', fr, by rw [h2]; exact hfm, by rw [setRow_other w l.blk m.blk _ hne']; exact hw', ?_, fun hxm => hmm' (by simpa [mine_iff, pushV] using hxm)⟩
      intro i v hi
      obtain ⟨a1, v', a2, a3⟩ := hcs' i v hi
      exact ⟨a1, v', a2, a3.mono hle⟩
  · intro x m hx
    rw [setRow_size]
    by_cases ex : x = H.size
    · subst ex; rw [hf0] at hx; cases hx
      exact hR.big b l hl
    · exact hR.big x m (by simpa [f', ex] using hx)
  · have := hR.lk
    simp [pushV]; omega
  · intro x y c d m n hx hy hxm hne hfm hfn
    by_cases ex : x = H.size
    · subst ex
      rw [hf0] at hfm; cases hfm
      obtain ⟨hyb, h3, h4⟩ := hold y d hy (Ne.symm hne)
      exact hR.inj b y k d l n hb h3 hm (Ne.symm hyb) hl (by rw [← h4]; exact hfn)
    · obtain ⟨hxb, h1, h2⟩ := hold x c hx ex
      have hxm' : H.mine x c = true := by simpa [mine_iff, pushV] using hxm
      by_cases ey : y = H.size
      · subst ey
        rw [hf0] at hfn; cases hfn
        exact hR.inj x b c k m l h1 hb hxm' hxb (by rw [← h2]; exact hfm) hl
      · obtain ⟨hyb, h3, h4⟩ := hold y d hy ey
        exact hR.inj x y c d m n h1 h3 hxm' hne (by rw [← h2]; exact hfm) (by rw [← h4]; exact hfn)

/-- The first cells of a slice. -/
theorem sliceCells_sound (hR : R f H w) {size n : Nat} {x x' : Value} {cs : List Value} (hx : V f x x') (hn : ∀ a m c, x = .slice a m c → n ≤ m) (h : sliceCells H size n x = some cs) :
    cs.length = n * size ∧ ∃ cs', VL f cs cs' ∧ (∀ u ∈ cs, isCell u = true) ∧ (Builtin.firstCells size n x').run P w = .ok cs'.toArray w ∧
      (n = 0 ∨ ∃ a m c, x' = .slice (some a) m c ∧ ∀ (j : Nat) v, cs'[j]? = some v → w.cell? (a.add j) = some v) := by
  unfold sliceCells at h
  split at h
  · cases hx
    split at h
    · rename_i h0; cases h; subst h0
      exact ⟨by simp, [], .nil f, by simp, by simp [Builtin.firstCells], .inl rfl⟩
    · cases h
  · rename_i b off sp m c
    obtain ⟨hlen, l, C, e, fr, hl, hw, cs', hvl, hcell, hc⟩ := hR.cells h
    by_cases h0 : n = 0
    · subst h0
      have : cs = [] := by simpa using hlen
      subst this
      cases hx <;> exact ⟨by simp, [], .nil f, by simp, by simp [Builtin.firstCells, loadCells, loadCellsFrom], .inl rfl⟩
    · cases hx with
      | slX _ _ _ _ l2 a hl2 ha =>
        rw [hl] at hl2; cases hl2
        have ha : a = ⟨l.blk, l.off + off, none⟩ := by
          rcases ha with h | h
          · exact h
          · have := hn _ _ _ rfl
            omega
        subst ha
        have hcc : ∀ (j : Nat) v, cs'[j]? = some v → w.cell? ((⟨l.blk, l.off + off, none⟩ : Addr).add j) = some v := by
          intro j v hj; rw [Addr.add_eq, cellAt hw]; exact hc j v hj
        refine ⟨hlen, cs', hvl, hcell, ?_, .inr ⟨_, _, _, rfl, hcc⟩⟩
        exact run_firstCells_some w size n _ m c cs' (by rw [← hvl.1]; exact hlen) hcc
      | slL _ _ _ _ _ off' c' l2 hl2 hnc hcc hr ho =>
        rw [hl] at hl2; cases hl2
        have := hn _ _ _ rfl
        have : off' = l.off + off := ho (by omega)
        subst this
        have hcc : ∀ (j : Nat) v, cs'[j]? = some v → w.cell? ((⟨l.blk, l.off + off, none⟩ : Addr).add j) = some v := by
          intro j v hj; rw [Addr.add_eq, cellAt hw]; exact hc j v hj
        refine ⟨hlen, cs', hvl, hcell, ?_, .inr ⟨_, _, _, rfl, hcc⟩⟩
        exact run_firstCells_some w size n _ m c' cs' (by rw [← hvl.1]; exact hlen) hcc
  · cases h
end
end Go.Proofs.Ytoiijpphfckdjaa.Ev
