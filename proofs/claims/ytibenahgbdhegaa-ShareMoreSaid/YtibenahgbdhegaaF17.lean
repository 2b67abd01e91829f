/-
  The end of a law of whole numbers and lists of whole numbers.
-/
import Derived.Test.YtibenahgbdhegaaF16
namespace Go.Proofs.Ytibenahgbdhegaa.Ev
open Go
open Go.RowKit (Below)
open Go.ChangeShapes Go.WideShapes
set_option linter.unusedVariables false
set_option linter.unusedSimpArgs false

/-- An argument. -/
inductive LArg where
  | i (k : IntKind) (n : Int)
  | nil (k : IntKind)
  | s (k : IntKind) (b off len cap : Nat) (zs : List Int)
def LArg.val : LArg → Value
  | .i k n => .int k n
  | .nil _ => .slice none 0 0
  | .s _ b off len cap _ => .slice (some ⟨b, off, none⟩) len cap
def LArg.ok (w : World) : LArg → Prop
  | .s k b off len cap zs => len ≤ cap ∧ zs.length = cap ∧ ∃ C e fr, w.heap[b]? = some (.cells C e fr) ∧ ∀ i, i < cap → C[off + i]? = some (.int k (zs.getD i 0))
  | _ => True
def LArg.un : LArg → Un
  | .i _ n => .i n
  | .nil _ => .l []
  | .s _ _ _ len _ zs => .l (zs.take len)
def LArg.vp : LArg → VP
  | .i k _ => .int k
  | .nil k => .ints k
  | .s k _ _ _ _ _ => .ints k

theorem LArg.list {a : LArg} {k : IntKind} (h : a.vp = .ints k) : ∃ xs, a.un = .l xs := by
  cases a with
  | i k n => cases h
  | nil k => exact ⟨_, rfl⟩
  | s => exact ⟨_, rfl⟩

/-- What a slice of whole numbers that an argument is looks like. -/
theorem open_lints {H : Type} {enc : TypeId × Value → H} {P : Program} {w : World} {t e : TypeId} {k : IntKind} {v : Value} {d : DataW H} {ps : List MemPlace} {base : Nat} (ht : P.underlying t = some (.slice e)) (he : P.underlying e = some (.int k)) (hc : P.cellsOf e = 1)
    (hval : Value.okWide P w .any base t v) (h : DataW.Trod enc P w 0 (fun _ => true) true t v d ps) : ∃ a : LArg, a.val = v ∧ a.ok w ∧ a.vp = .ints k ∧ (∀ n, (∃ xs, a.un = .l xs ∧ n ∈ xs) → (Lit.int k n).wf = true) := by
  obtain ⟨a0, len0, cap0, rfl⟩ := okWide_slice ht hval
  obtain ⟨fuel, hf⟩ := h
  rcases open_ints ht he hc hf with ⟨h1, _⟩ | ⟨a, len, cap, zs, h1, _, h2, _, h3, _, h4, h5⟩
  · have h1 : (Value.slice a0 len0 cap0) = .slice none 0 0 := by simpa [Value.cells] using h1
    exact ⟨.nil k, h1.symm, trivial, rfl, fun n ⟨xs, hx, hn⟩ => by cases hx; cases hn⟩
  · have h1 : (Value.slice a0 len0 cap0) = .slice (some a) len cap := by simpa [Value.cells] using h1
    rw [h1] at hval ⊢
    simp only [Value.okWide, ht, Cell.okWide, Cell.ok] at hval
    obtain ⟨_, _, _, hsp, row, cells, hsh, _⟩ := hval
    obtain ⟨b, off, spot⟩ := a
    have hsp : spot = none := hsp
    subst hsp
    simp only [if_true] at h3
    have hblk : ∃ C e fr, w.heap[b]? = some (.cells C e fr) := by
      unfold World.shape? at hsh
      split at hsh
      · rename_i C e fr hC; exact ⟨C, e, fr, hC⟩
      · cases hsh
    obtain ⟨C, e', fr, hC⟩ := hblk
    refine ⟨.s k b off len cap zs, rfl, ⟨h2, h3, C, e', fr, hC, fun i hi => ?_⟩, rfl, fun n ⟨xs, hx, hn⟩ => ?_⟩
    · have := h4 i (by omega)
      rw [show (⟨b, off, none⟩ : Addr).add i = ⟨b, off + i, none⟩ from add_plain ..] at this
      unfold World.cell? at this
      simp only [hC] at this
      simpa using this
    · cases hx
      exact h5 n (List.mem_of_mem_take hn)

/-- Nothing of one's own. -/
def phi0 : Phi := ⟨fun _ => none, fun _ => False⟩
def hp0 : SHeap := ⟨0, .e, 0, []⟩

theorem own0 (x : Nat) : ¬ Own phi0 hp0 x := by
  rintro (h | ⟨id, B, h, _⟩)
  · exact h
  · have := SHeap.get_lt h; simp [hp0] at this
theorem sim0 {H : Heap} (hl : H.lock ≤ H.size) (hh : H.hid = []) : Sim phi0 hp0 H := by
  refine ⟨fun id B h => ?_, fun id id' B B' x h => ?_, fun _ _ => rfl, (fun id x h => by cases h), Nat.le_refl _, hl, fun x _ => by rw [hh]; rfl⟩
  · have := SHeap.get_lt h; simp [hp0] at this
  · have := SHeap.get_lt h; simp [hp0] at this

theorem lists_set (w : World) : ∀ (as : List LArg), (∀ a ∈ as, a.ok w) → ∃ (f : Fm) (H : Heap) (vs : List Value), R f H w ∧ H.lock = H.size ∧ H.hid = [] ∧ (∀ j, H.size ≤ j → f j = none) ∧
    VL f vs (as.map LArg.val) ∧ DVL phi0 H (Own phi0 hp0) (VP.tos (as.map LArg.vp) (as.map LArg.un)) vs
  | [], _ => ⟨fun _ => none, Ev.nil, [], R.nil w, rfl, rfl, fun _ _ => rfl, .nil _, .nil⟩
  | a :: as, h => by
    obtain ⟨f, H, vs, hR, hl, hh, hf, hv, hd⟩ := lists_set w as (fun b hb => h b (by simp [hb]))
    have ha := h a (by simp)
    cases a with
    | i k n => exact ⟨f, H, .int k n :: vs, hR, hl, hh, hf, .cons (.int k n) hv, .cons (.i k n) hd⟩
    | nil k => exact ⟨f, H, .slice none 0 0 :: vs, hR, hl, hh, hf, .cons .slNil hv, .cons (.deepNil _ rfl) hd⟩
    | s k b off len cap zs =>
      obtain ⟨h1, h2, C, e, fr, h3, h4⟩ := ha
      let f' : Fm := fun x => if x = H.size then some ⟨b, off, 0⟩ else f x
      let H' : Heap := { pushV H (zs.map (.int k)) with lock := H.size + 1 }
      have hle : Le f f' := fun x l hx => by
        have : x ≠ H.size := by rintro rfl; rw [hf _ (Nat.le_refl _)] at hx; cases hx
        show (if x = H.size then _ else _) = _
        rw [if_neg this]; exact hx
      have hnew : f' H.size = some ⟨b, off, 0⟩ := if_pos rfl
      have hroot : ∀ x, H'.root.get x = if x = H.size then some ⟨zs.map (.int k)⟩ else H.root.get x := fun x => Heap.root_push _ _ _
      have hsz : H'.size = H.size + 1 := rfl
      have hhid : H'.hid = [] := hh
      have hget : ∀ x, H'.get x = if x = H.size then some ⟨zs.map (.int k)⟩ else H.get x := by
        intro x
        by_cases e : x = H.size
        · subst e
          rw [if_pos rfl]
          unfold Heap.get
          rw [if_pos (by omega), hhid, hroot, if_pos rfl]
          rfl
        · rw [if_neg e]
          unfold Heap.get
          by_cases hx : x < H.size
          · rw [if_pos (by omega), if_pos hx, hhid, hh, hroot, if_neg e]
          · rw [if_neg (by omega), if_neg hx]
      refine ⟨f', H', .slice (some ⟨H.size, 0, none⟩) len cap :: vs, ⟨?_, ?_, Nat.le_refl _, ?_⟩, rfl, hh, ?_, .cons ?_ ⟨hv.1, fun i v v' g1 g2 => (hv.2 i v v' g1 g2).mono hle⟩, .cons ?_ ?_⟩
      · intro x B hx
        rw [hget] at hx
        split at hx
        · rename_i e1
          cases hx; subst e1
          refine ⟨⟨b, off, 0⟩, C, e, fr, hnew, h3, fun i v hi => ?_, fun hm => ?_⟩
          · have hi' : i < cap := by
              have := (List.getElem?_eq_some_iff.1 hi).1
              rw [List.length_map, h2] at this; exact this
            rw [List.getElem?_map] at hi
            have hz : zs[i]? = some zs[i] := List.getElem?_eq_getElem (by omega)
            rw [hz] at hi
            cases hi
            refine ⟨rfl, _, h4 i hi', ?_⟩
            rw [List.getD_eq_getElem?_getD, hz]
            exact .int k _
          · rw [mine_iff] at hm
            have : H.size + 1 ≤ H.size := hm
            omega
        · obtain ⟨l, C', e', fr', g1, g2, g3, g4⟩ := hR.blk x B hx
          refine ⟨l, C', e', fr', hle _ _ g1, g2, fun i v hi => ?_, fun hm => ?_⟩
          · obtain ⟨g5, v', g6, g7⟩ := g3 i v hi
            exact ⟨g5, v', g6, g7.mono hle⟩
          · rw [mine_iff] at hm
            have h5 : H.size + 1 ≤ x := hm
            have := Heap.get_lt hx
            omega
      · intro x l hx
        have hx : (if x = H.size then some (⟨b, off, 0⟩ : Loc) else f x) = some l := hx
        split at hx
        · cases hx
          obtain ⟨hlt, _⟩ := Array.getElem?_eq_some_iff.1 h3
          exact hlt
        · exact hR.big x l hx
      · intro x y B B' l m hx _ hm
        rw [mine_iff] at hm
        have h5 : H.size + 1 ≤ x := hm
        have : x < H.size + 1 := Heap.get_lt hx
        omega
      · intro j hj
        have hj : H.size + 1 ≤ j := hj
        show (if j = H.size then _ else _) = _
        rw [if_neg (by omega)]
        exact hf j (by omega)
      · exact .slX H.size 0 len cap ⟨b, off, 0⟩ hnew
      · have hlen : (Cont.ints k (zs.take len)).len = len := by simp [Cont.len]; omega
        have := DV.deep (φ := phi0) (H := H') (own := Own phi0 hp0) (.ints k (zs.take len)) H.size 0 none cap ⟨zs.map (.int k)⟩ (.inl rfl) (by rw [hlen]; exact h1) (by rw [hget, if_pos rfl]) (own0 _)
          (by rw [hlen]; simp only [Cont.w, List.length_map]; omega) (fun r hr j s hs v hv => by
            rw [hlen] at hr
            simp only [Cont.row] at hs
            cases j with
            | succ j => simp at hs
            | zero =>
              simp at hs; subst hs
              simp only [Cont.w, Nat.mul_one, Nat.zero_add, Nat.add_zero, List.getElem?_map] at hv
              have hz : zs[r]? = some zs[r] := List.getElem?_eq_getElem (by omega)
              rw [hz] at hv
              cases hv
              rw [List.getElem?_take, if_pos hr, hz]
              exact .i k _)
        rw [hlen] at this
        exact this
      · refine DVL.mono (φ' := phi0) (own' := Own phi0 hp0) ⟨fun _ _ h => h, fun x c g1 g2 => ⟨?_, g2⟩, fun id x c' g1 => by cases g1⟩ hd
        have := Heap.get_lt g1
        rw [hget, if_neg (by omega)]
        exact g1

theorem tos_len : ∀ (ps : List VP) (us : List Un), (VP.tos ps us).length = ps.length
  | [], _ => rfl
  | p :: ps, us => by simp [VP.tos, tos_len ps]

section
variable {P : Program} {L : List FuncId} {TE : Tab}

/-- A law of whole numbers and lists of them. -/
theorem law_lists (hmix : P.follows .mixedOrders = true) (hname : namesOk P = true) (hT : Known.right P TE) {g : FuncId} {xs : List LArg} {us : List Un} {vps : List VP}
    (h : TellsS P L (ofTab TE) g ⟨vps, []⟩ ⟨[.bool], []⟩ us [.b true]) (hus : us = xs.map LArg.un) (hvp : vps = xs.map LArg.vp) {w : World} (hok : ∀ a ∈ xs, a.ok w) :
    Calls P g (xs.map LArg.val).toArray w fun e w' => e = .returned (.bool true) ∧ Below w.heap.size w w' := by
  subst hus
  subst hvp
  obtain ⟨f, H, vs, hR, hl, hh, hf, hv, hd⟩ := lists_set w xs hok
  obtain ⟨N, y, H', φ', h1, _, h3⟩ := h phi0 H vs (sim0 (Nat.le_of_eq hl) hh) hd
  have : y = .bool true := by
    simp only [Pn.valsTo, VP.tos, VP.to, packS] at h3
    cases h3
    rfl
  subst this
  exact calls_of hmix hname (Known.right_of hT) h1 hR hl hf hv
end
end Go.Proofs.Ytibenahgbdhegaa.Ev
