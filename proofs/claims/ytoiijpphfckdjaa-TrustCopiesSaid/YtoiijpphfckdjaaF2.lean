/-
  What the partly unknown values stand for in the evaluator's heap; laws of that relation.
-/
import Derived.Test.YtoiijpphfckdjaaF1
namespace Go.Proofs.Ytoiijpphfckdjaa.Ev
noncomputable section
open Go
set_option linter.unusedVariables false
set_option linter.unusedSimpArgs false

/-! ### The tree -/
theorem STr.get_put (b : Option SBlk) : ∀ (f : Nat) (t : STr) (k j : Nat), k < f → (STr.put b f t k).get j = if j = k then b else t.get j := by
  intro f
  induction f with
  | zero => intro t k j h; omega
  | succ f ih =>
    intro t k j h
    have tl : ∀ m, t.left.get m = (match t with | .e => none | .n _ l _ => l.get m) := by intro m; cases t <;> rfl
    have tr : ∀ m, t.right.get m = (match t with | .e => none | .n _ _ r => r.get m) := by intro m; cases t <;> rfl
    simp only [STr.put]
    by_cases h0 : k = 0
    · subst h0
      simp only [if_true, STr.get]
      by_cases hj : j = 0
      · simp [hj]
      · simp only [hj, if_false, tl, tr]
        cases t <;> simp [STr.get, hj]
    · simp only [h0, if_false]
      by_cases h1 : k % 2 = 1
      · simp only [h1, if_true, STr.get]
        by_cases hj : j = 0
        · subst hj
          simp only [if_true]
          rw [if_neg (by omega)]
          cases t <;> simp [STr.get, STr.val]
        · simp only [hj, if_false]
          by_cases hj1 : j % 2 = 1
          · simp only [hj1, if_true]
            rw [ih _ _ _ (by omega)]
            by_cases e : j = k
            · subst e; simp
            · rw [if_neg (by omega), if_neg e, tl]
              cases t <;> simp [STr.get, hj, hj1]
          · simp only [hj1, if_false, tr]
            rw [if_neg (by omega)]
            cases t <;> simp [STr.get, hj, hj1]
      · simp only [h1, if_false, STr.get]
        by_cases hj : j = 0
        · subst hj
          simp only [if_true]
          rw [if_neg (by omega)]
          cases t <;> simp [STr.get, STr.val]
        · simp only [hj, if_false]
          by_cases hj1 : j % 2 = 1
          · simp only [hj1, if_true, tl]
            rw [if_neg (by omega)]
            cases t <;> simp [STr.get, hj, hj1]
          · simp only [hj1, if_false]
            rw [ih _ _ _ (by omega)]
            by_cases e : j = k
            · subst e; simp
            · rw [if_neg (by omega), if_neg e, tr]
              cases t <;> simp [STr.get, hj, hj1]

theorem SHeap.root_push (S : SHeap) (b : SBlk) (k : Nat) : (S.push b).root.get k = if k = S.size then some b else S.root.get k :=
  STr.get_put _ _ _ _ _ (Nat.lt_succ_self _)
theorem SHeap.root_put (S : SHeap) (j : Nat) (b : Option SBlk) (k : Nat) : (S.put j b).root.get k = if k = j then b else S.root.get k :=
  STr.get_put _ _ _ _ _ (Nat.lt_succ_self _)
theorem SHeap.get_lt {S : SHeap} {k : Nat} {b : SBlk} (h : S.get k = some b) : k < S.size := by
  unfold SHeap.get at h
  split at h
  · assumption
  · cases h
theorem SHeap.get_root {S : SHeap} {k : Nat} {b : SBlk} (h : S.get k = some b) : S.root.get k = some b ∧ hidden S.hid k = false := by
  unfold SHeap.get at h
  split at h
  · split at h
    · cases h
    · rename_i hh; exact ⟨h, by cases hx : hidden S.hid k <;> simp_all⟩
  · cases h
theorem SHeap.get_of {S : SHeap} {k : Nat} (h1 : k < S.size) (h2 : hidden S.hid k = false) : S.get k = S.root.get k := by
  unfold SHeap.get; rw [if_pos h1, h2]; rfl
theorem SHeap.get_put (S : SHeap) (j k : Nat) (b : Option SBlk) {c : SBlk} (h : (S.put j b).get k = some c) : (k = j ∧ b = some c) ∨ (k ≠ j ∧ S.get k = some c) := by
  have h1 := SHeap.get_lt h
  have h2 := SHeap.get_root h
  rw [SHeap.root_put] at h2
  by_cases e : k = j
  · rw [if_pos e] at h2; exact .inl ⟨e, h2.1⟩
  · rw [if_neg e] at h2
    exact .inr ⟨e, (SHeap.get_of (S := S) h1 h2.2).trans h2.1⟩
theorem SHeap.get_push (S : SHeap) (b : SBlk) (k : Nat) {c : SBlk} (h : (S.push b).get k = some c) : (k = S.size ∧ b = c) ∨ (k < S.size ∧ S.get k = some c) := by
  have h1 := SHeap.get_lt h
  have h2 := SHeap.get_root h
  rw [SHeap.root_push] at h2
  by_cases e : k = S.size
  · rw [if_pos e] at h2; exact .inl ⟨e, Option.some.inj h2.1⟩
  · rw [if_neg e] at h2
    have h3 : k < S.size := by have : (S.push b).size = S.size + 1 := rfl; omega
    exact .inr ⟨h3, (SHeap.get_of (S := S) h3 h2.2).trans h2.1⟩

/-! ### The relation -/
/-- Where the blocks of one's own are (or that there is none, where they are empty); what is not to be looked at otherwise. -/
structure Phi where
  m : Nat → Option (Option Nat)
  ban : Nat → Prop
instance : CoeFun Phi (fun _ => Nat → Option (Option Nat)) := ⟨Phi.m⟩
/-- One block more. -/
def Phi.add (φ : Phi) (n : Nat) (y : Option Nat) : Phi := ⟨fun j => if j = n then some y else φ j, φ.ban⟩

inductive DV (φ : Phi) (H : Heap) (own : Nat → Prop) : SV → Value → Prop where
  | any (v : Value) : DV φ H own .any v
  | i (k : IntKind) (n : Int) : DV φ H own (.i k n) (.int k n)
  | b (x : Bool) : DV φ H own (.b x) (.bool x)
  | str (s : ByteArray) : DV φ H own (.str s) (.string s)
  | nilp : DV φ H own .nilp (.pointer none)
  | nils : DV φ H own .nils (.slice none 0 0)
  | nilf : DV φ H own .nilf .nilFunc
  | nili : DV φ H own .nili .nilIface
  | ptr (id row w col x : Nat) (h : φ id = some (some x)) : DV φ H own (.ptr id row w col) (.pointer (some ⟨x, row * w + col, none⟩))
  | buf (id w : Nat) (ex : Bool) (x n : Nat) (sp : Option Nat) (h : φ id = some (some x)) (hn : ∀ c, H.root.get x = some c → c.cells.length = n * w)
      (hs : sp = none ∨ (ex = false ∧ sp = some w ∧ 0 < n)) : DV φ H own (.buf id w ex) (.slice (some ⟨x, 0, sp⟩) n n)
  | bufNil (id w : Nat) (h : φ id = some none) : DV φ H own (.buf id w false) (.slice none 0 0)
  | sl (id off len w x o : Nat) (sp : Option Nat) (cap : Nat) (h : φ id = some (some x)) (ho : len = 0 ∨ o = off * w) (hs : sp = none ∨ sp = some w) (hc : len ≤ cap)
      (hin : ∀ c, H.root.get x = some c → o + len * w ≤ c.cells.length ∧ off * w + len * w ≤ c.cells.length) :
      DV φ H own (.sl id off len w) (.slice (some ⟨x, o, sp⟩) len cap)
  | slNil (id w : Nat) (h : φ id = some none) : DV φ H own (.sl id 0 0 w) (.slice none 0 0)
  | deepNil (c : Cont) (h : c.len = 0) : DV φ H own (.deep c) (.slice none 0 0)
  | deep (c : Cont) (x o : Nat) (sp : Option Nat) (cap : Nat) (blk : Blk) (hs : sp = none ∨ sp = some c.w) (hc : c.len ≤ cap)
      (hb : H.get x = some blk) (ho : ¬ own x) (hl : o + c.len * c.w ≤ blk.cells.length)
      (hcells : ∀ r, r < c.len → ∀ (j : Nat) (s : SV), (c.row r)[j]? = some s → ∀ v, blk.cells[o + r * c.w + j]? = some v → DV φ H own s v) :
      DV φ H own (.deep c) (.slice (some ⟨x, o, sp⟩) c.len cap)
  | dp (c : Cont) (row col x o : Nat) (blk : Blk) (hb : H.get x = some blk) (ho : ¬ own x) (hl : o + c.len * c.w ≤ blk.cells.length)
      (hcells : ∀ r, r < c.len → ∀ (j : Nat) (s : SV), (c.row r)[j]? = some s → ∀ v, blk.cells[o + r * c.w + j]? = some v → DV φ H own s v) :
      DV φ H own (.dp c row col) (.pointer (some ⟨x, o + row * c.w + col, none⟩))
  | npNil (id w col : Nat) (n : Int) (hn : n < 0) : DV φ H own (.np id w col n) (.pointer none)
  | np (id w col x : Nat) (n : Int) (hn : 0 ≤ n) (h : φ id = some (some x)) : DV φ H own (.np id w col n) (.pointer (some ⟨x, n.toNat * w + col, none⟩))
  | fn (g : Nat) (x y : List SV) (x' y' : Array Value) (hx : x.length = x'.size) (hy : y.length = y'.size)
      (vx : ∀ (i : Nat) s v, x[i]? = some s → x'[i]? = some v → DV φ H own s v) (vy : ∀ (i : Nat) s v, y[i]? = some s → y'[i]? = some v → DV φ H own s v) :
      DV φ H own (.fn g x y) (.func (.func g) x' y')
  | agg (l : List SV) (x' : Array Value) (hx : l.length = x'.size) (vx : ∀ (i : Nat) s v, l[i]? = some s → x'[i]? = some v → DV φ H own s v) : DV φ H own (.agg l) (.agg x')
  | tup (l : List SV) (x' : Array Value) (hx : l.length = x'.size) (vx : ∀ (i : Nat) s v, l[i]? = some s → x'[i]? = some v → DV φ H own s v) : DV φ H own (.tup l) (.tuple x')

/-- What was said stays so. -/
structure Ext (φ : Phi) (H : Heap) (own : Nat → Prop) (φ' : Phi) (H' : Heap) (own' : Nat → Prop) : Prop where
  le : ∀ id y, φ id = some y → φ' id = some y
  deep : ∀ x c, H.get x = some c → ¬ own x → H'.get x = some c ∧ ¬ own' x
  len : ∀ id x c', φ id = some (some x) → H'.root.get x = some c' → ∃ c, H.root.get x = some c ∧ c'.cells.length = c.cells.length
theorem Ext.refl (φ : Phi) (H : Heap) (own : Nat → Prop) : Ext φ H own φ H own := ⟨fun _ _ h => h, fun _ _ h h' => ⟨h, h'⟩, fun _ _ c _ h => ⟨c, h, rfl⟩⟩
theorem Ext.trans {φ φ' φ'' : Phi} {H H' H'' : Heap} {o o' o'' : Nat → Prop} (a : Ext φ H o φ' H' o') (b : Ext φ' H' o' φ'' H'' o'') : Ext φ H o φ'' H'' o'' where
  le id y h := b.le _ _ (a.le _ _ h)
  deep x c h h' := by
    obtain ⟨h1, h2⟩ := a.deep x c h h'
    exact b.deep x c h1 h2
  len id x c' h1 h2 := by
    obtain ⟨c1, h3, h4⟩ := b.len id x c' (a.le _ _ h1) h2
    obtain ⟨c2, h5, h6⟩ := a.len id x c1 h1 h3
    exact ⟨c2, h5, h4.trans h6⟩

theorem DV.mono {φ φ' : Phi} {H H' : Heap} {own own' : Nat → Prop} (e : Ext φ H own φ' H' own') {s : SV} {v : Value} (h : DV φ H own s v) : DV φ' H' own' s v := by
  induction h with
  | any v => exact .any v
  | i k n => exact .i k n
  | b x => exact .b x
  | str s => exact .str s
  | nilp => exact .nilp
  | nils => exact .nils
  | nilf => exact .nilf
  | nili => exact .nili
  | ptr id row w col x h => exact .ptr id row w col x (e.le _ _ h)
  | buf id w ex x n sp h hn hs =>
    refine .buf id w ex x n sp (e.le _ _ h) (fun c' hc' => ?_) hs
    obtain ⟨c, h1, h2⟩ := e.len id x c' h hc'
    rw [h2]; exact hn c h1
  | bufNil id w h => exact .bufNil id w (e.le _ _ h)
  | sl id off len w x o sp cap h ho hs hc hin =>
    refine .sl id off len w x o sp cap (e.le _ _ h) ho hs hc (fun c' hc' => ?_)
    obtain ⟨c, h1, h2⟩ := e.len id x c' h hc'
    rw [h2]; exact hin c h1
  | slNil id w h => exact .slNil id w (e.le _ _ h)
  | deepNil c h => exact .deepNil c h
  | deep c x o sp cap blk hs hc hb ho hl _ ih =>
    obtain ⟨h4, h5⟩ := e.deep x blk hb ho
    exact .deep c x o sp cap blk hs hc h4 h5 hl ih
  | dp c row col x o blk hb ho hl _ ih =>
    obtain ⟨h4, h5⟩ := e.deep x blk hb ho
    exact .dp c row col x o blk h4 h5 hl ih
  | npNil id w col n hn => exact .npNil id w col n hn
  | np id w col x n hn h => exact .np id w col x n hn (e.le _ _ h)
  | fn g x y x' y' hx hy _ _ ix iy => exact .fn g x y x' y' hx hy ix iy
  | agg l x' hx _ ix => exact .agg l x' hx ix
  | tup l x' hx _ ix => exact .tup l x' hx ix

def DVL (φ : Phi) (H : Heap) (own : Nat → Prop) (l : List SV) (vs : List Value) : Prop :=
  l.length = vs.length ∧ ∀ (i : Nat) s v, l[i]? = some s → vs[i]? = some v → DV φ H own s v

section
variable {φ φ' : Phi} {H H' : Heap} {own own' : Nat → Prop}

theorem DVL.nil : DVL φ H own [] [] := ⟨rfl, fun i s v h => by simp at h⟩
theorem DVL.cons {s : SV} {v : Value} {l : List SV} {vs : List Value} (h : DV φ H own s v) (t : DVL φ H own l vs) : DVL φ H own (s :: l) (v :: vs) :=
  ⟨by simp [t.1], fun i => by
    cases i with
    | zero => intro u u' h1 h2; simp at h1 h2; subst h1; subst h2; exact h
    | succ i => intro u u' h1 h2; simp at h1 h2; exact t.2 i u u' h1 h2⟩
theorem DVL.uncons {s : SV} {l : List SV} {vs : List Value} (h : DVL φ H own (s :: l) vs) : ∃ v vs', vs = v :: vs' ∧ DV φ H own s v ∧ DVL φ H own l vs' := by
  cases vs with
  | nil => have := h.1; simp at this
  | cons v vs' =>
    exact ⟨v, vs', rfl, h.2 0 s v (by simp) (by simp), by have := h.1; simpa using this, fun i u u' a b => h.2 (i + 1) u u' (by simpa using a) (by simpa using b)⟩
theorem DVL.mono (e : Ext φ H own φ' H' own') {l : List SV} {vs : List Value} (h : DVL φ H own l vs) : DVL φ' H' own' l vs :=
  ⟨h.1, fun i s v a b => (h.2 i s v a b).mono e⟩
theorem DVL.append {a c : List SV} {b d : List Value} (h : DVL φ H own a b) (k : DVL φ H own c d) : DVL φ H own (a ++ c) (b ++ d) := by
  refine ⟨by simp [h.1, k.1], fun i v v' h1 h2 => ?_⟩
  rw [List.getElem?_append] at h1 h2
  rw [h.1] at h1
  split at h1
  · rename_i hi; rw [if_pos hi] at h2; exact h.2 i v v' h1 h2
  · rename_i hi; rw [if_neg hi] at h2; exact k.2 _ v v' h1 h2
theorem DVL.take {l : List SV} {vs : List Value} (h : DVL φ H own l vs) (n : Nat) : DVL φ H own (l.take n) (vs.take n) := by
  refine ⟨by simp [h.1], fun i v v' h1 h2 => ?_⟩
  rw [List.getElem?_take] at h1 h2
  split at h1
  · rename_i hi; rw [if_pos hi] at h2; exact h.2 i v v' h1 h2
  · cases h1
theorem DVL.drop {l : List SV} {vs : List Value} (h : DVL φ H own l vs) (n : Nat) : DVL φ H own (l.drop n) (vs.drop n) := by
  refine ⟨by simp [h.1], fun i v v' h1 h2 => ?_⟩
  rw [List.getElem?_drop] at h1 h2
  exact h.2 _ v v' h1 h2
theorem DVL.get {l : List SV} {vs : List Value} (h : DVL φ H own l vs) {i : Nat} {s : SV} (hi : l[i]? = some s) : ∃ v, vs[i]? = some v ∧ DV φ H own s v := by
  have hlt : i < vs.length := by rw [← h.1]; exact (List.getElem?_eq_some_iff.1 hi).1
  exact ⟨vs[i], List.getElem?_eq_getElem hlt, h.2 i _ _ hi (List.getElem?_eq_getElem hlt)⟩
theorem DVL.set {l : List SV} {vs : List Value} (h : DVL φ H own l vs) (i : Nat) {s : SV} {v : Value} (hv : DV φ H own s v) : DVL φ H own (l.set i s) (vs.set i v) := by
  refine ⟨by simp [h.1], fun j u u' h1 h2 => ?_⟩
  rw [List.getElem?_set] at h1 h2
  rw [h.1] at h1
  split at h1
  · rename_i e; rw [if_pos e] at h2
    split at h1
    · rename_i hl; rw [if_pos hl] at h2
      simp at h1 h2; subst h1; subst h2; exact hv
    · cases h1
  · rename_i e; rw [if_neg e] at h2; exact h.2 j u u' h1 h2

/-- What a block stands for. -/
def BV (φ : Phi) (H : Heap) (own : Nat → Prop) : SBlk → List Value → Prop
  | .cells l, cs => DVL φ H own l cs
  | .cont c, cs => cs.length = c.len * c.w ∧ ∀ r, r < c.len → ∀ (j : Nat) (s : SV), (c.row r)[j]? = some s → ∀ v, cs[r * c.w + j]? = some v → DV φ H own s v
  | .ptrs id w col rows, cs => cs.length = rows.length ∧ ∀ (r : Nat) v, r < rows.length → cs[r]? = some v → DV φ H own (.np id w col (rows.getD r 0)) v
theorem BV.mono (e : Ext φ H own φ' H' own') {B : SBlk} {cs : List Value} (h : BV φ H own B cs) : BV φ' H' own' B cs := by
  cases B with
  | cells l => exact DVL.mono e h
  | cont c => exact ⟨h.1, fun r hr j s hs v hv => (h.2 r hr j s hs v hv).mono e⟩
  | ptrs id w col rows => exact ⟨h.1, fun r v hr hv => (h.2 r v hr hv).mono e⟩

/-- Nothing is there: neither elements nor an object. -/
def SBlk.empty : SBlk → Prop
  | .cells _ => True
  | .cont c => c.len = 0
  | .ptrs _ _ _ rows => rows.length = 0

def OwnI (φ : Phi) (S : SHeap) (x : Nat) : Prop := ∃ id B, S.get id = some B ∧ φ id = some (some x)
def Own (φ : Phi) (S : SHeap) (x : Nat) : Prop := φ.ban x ∨ OwnI φ S x

/-- Blocks that may be written. -/
def OwnW (φ : Phi) (S : SHeap) (x : Nat) : Prop := ∃ id B, S.lock ≤ id ∧ S.get id = some B ∧ φ id = some (some x)
theorem OwnW.toI {φ : Phi} {S : SHeap} {x : Nat} (h : OwnW φ S x) : OwnI φ S x := by
  obtain ⟨id, B, _, h1, h2⟩ := h
  exact ⟨id, B, h1, h2⟩

structure Sim (φ : Phi) (S : SHeap) (H : Heap) : Prop where
  blk : ∀ id B, S.get id = some B → (φ id = some none ∧ B.empty) ∨ ∃ x c, φ id = some (some x) ∧ H.get x = some c ∧ (S.lock ≤ id → H.lock ≤ x) ∧ BV φ H (Own φ S) B c.cells
  inj : ∀ id id' B B' x, S.get id = some B → S.get id' = some B' → φ id = some (some x) → φ id' = some (some x) → id = id'
  fresh : ∀ id, S.size ≤ id → φ id = none
  lt : ∀ id x, φ id = some (some x) → x < H.size
  slock : S.lock ≤ S.size
  elock : H.lock ≤ H.size
  ehid : ∀ x, H.size ≤ x → hidden H.hid x = false

structure Step (φ : Phi) (S : SHeap) (H : Heap) (φ' : Phi) (S' : SHeap) (H' : Heap) : Prop where
  sim : Sim φ' S' H'
  le : ∀ id y, φ id = some y → φ' id = some y
  ban : φ'.ban = φ.ban
  own : ∀ x, x < H.size → OwnI φ' S' x → OwnI φ S x
  keep : ∀ x, x < H.size → ¬ OwnW φ S x → H'.get x = H.get x
  len : ∀ x c', x < H.size → H'.root.get x = some c' → ∃ c, H.root.get x = some c ∧ c'.cells.length = c.cells.length
  esize : H.size ≤ H'.size
  elock : H'.lock = H.lock
  ehid : H'.hid = H.hid
  ssize : S.size ≤ S'.size
  slock : S'.lock = S.lock
  shid : S'.hid = S.hid
  sroot : ∀ id, id < S.size → id < S.lock ∨ S.get id = none → S'.root.get id = S.root.get id

theorem Step.ext {S S' : SHeap} (hS : Sim φ S H) (h : Step φ S H φ' S' H') : Ext φ H (Own φ S) φ' H' (Own φ' S') where
  le := h.le
  deep x c h1 h2 := by
    have hlt := Heap.get_lt h1
    refine ⟨by rw [h.keep x hlt (fun ho => h2 (.inr ho.toI))]; exact h1, fun ho => h2 ?_⟩
    rcases ho with ho | ho
    · exact .inl (by rw [← h.ban]; exact ho)
    · exact .inr (h.own x hlt ho)
  len id x c' h1 h2 := h.len x c' (hS.lt id x h1) h2
theorem Step.refl {S : SHeap} (h : Sim φ S H) : Step φ S H φ S H :=
  ⟨h, fun _ _ h => h, rfl, fun _ _ h => h, fun _ _ _ => rfl, fun _ c _ h => ⟨c, h, rfl⟩, Nat.le_refl _, rfl, rfl, Nat.le_refl _, rfl, rfl, fun _ _ _ => rfl⟩
theorem SHeap.none_of {S S' : SHeap} {id : Nat} (h1 : S.get id = none) (hl : id < S.size) (hh : S'.hid = S.hid) (hr : S'.root.get id = S.root.get id) : S'.get id = none := by
  cases h : S'.get id with
  | none => rfl
  | some B =>
    obtain ⟨h2, h3⟩ := SHeap.get_root h
    rw [SHeap.get_of hl (by rw [← hh]; exact h3), ← hr, h2] at h1
    cases h1
theorem Step.ownW {S S' : SHeap} (a : Step φ S H φ' S' H') {x : Nat} (hx : x < H.size) (h : OwnW φ' S' x) : OwnW φ S x := by
  obtain ⟨id, B, h1, h2, h3⟩ := h
  obtain ⟨id', C, g1, g2⟩ := a.own x hx ⟨id, B, h2, h3⟩
  refine ⟨id', C, ?_, g1, g2⟩
  rcases Nat.lt_or_ge id' S.lock with hl | hl
  · exfalso
    have hs := SHeap.get_lt g1
    have hr := SHeap.get_root g1
    have hg : S'.get id' = some C := by
      rw [SHeap.get_of (Nat.lt_of_lt_of_le hs a.ssize) (by rw [a.shid]; exact hr.2), a.sroot id' hs (.inl hl)]
      exact hr.1
    have := a.sim.inj id id' B C x h2 hg h3 (a.le _ _ g2)
    subst this
    rw [a.slock] at h1
    omega
  · exact hl
theorem Step.trans {φ'' : Phi} {S S' S'' : SHeap} {H'' : Heap} (a : Step φ S H φ' S' H') (b : Step φ' S' H' φ'' S'' H'') : Step φ S H φ'' S'' H'' where
  sim := b.sim
  le id y h := b.le _ _ (a.le _ _ h)
  ban := b.ban.trans a.ban
  own x h1 h2 := a.own x h1 (b.own x (Nat.lt_of_lt_of_le h1 a.esize) h2)
  keep x h1 h2 := (b.keep x (Nat.lt_of_lt_of_le h1 a.esize) (fun h => h2 (a.ownW h1 h))).trans (a.keep x h1 h2)
  len x c' h1 h2 := by
    obtain ⟨c1, h3, h4⟩ := b.len x c' (Nat.lt_of_lt_of_le h1 a.esize) h2
    obtain ⟨c2, h5, h6⟩ := a.len x c1 h1 h3
    exact ⟨c2, h5, h4.trans h6⟩
  esize := Nat.le_trans a.esize b.esize
  elock := b.elock.trans a.elock
  ehid := b.ehid.trans a.ehid
  ssize := Nat.le_trans a.ssize b.ssize
  slock := b.slock.trans a.slock
  shid := b.shid.trans a.shid
  sroot id h1 h2 := by
    have e := a.sroot id h1 h2
    refine (b.sroot id (Nat.lt_of_lt_of_le h1 a.ssize) ?_).trans e
    rcases h2 with h2 | h2
    · exact .inl (by rw [a.slock]; exact h2)
    · exact .inr (SHeap.none_of h2 h1 a.shid e)

/-! ### Steps -/
/-- A block is written. -/
theorem Step.put' {S : SHeap} (hS : Sim φ S H) {id x : Nat} {B B' : SBlk} {c : Blk} {cs' : List Value} {H' : Heap} (hB : S.get id = some B) (hx : φ id = some (some x)) (hc : H.get x = some c) (hl : S.lock ≤ id)
    (hlen : cs'.length = c.cells.length) (hV : BV φ H (Own φ S) B' cs') (hget : ∀ y, H'.get y = if y = x then some ⟨cs'⟩ else H.get y) (hroot : ∀ y, H'.root.get y = if y = x then some ⟨cs'⟩ else H.root.get y) (hsz : H'.size = H.size) (hlk : H'.lock = H.lock) (hhd : H'.hid = H.hid) : Step φ S H φ (S.put id (some B')) H' := by
  have hown : ∀ y, OwnI φ (S.put id (some B')) y ↔ OwnI φ S y := by
    intro y
    constructor
    · rintro ⟨j, C, h1, h2⟩
      rcases SHeap.get_put _ _ _ _ h1 with ⟨rfl, _⟩ | ⟨_, h3⟩
      · exact ⟨j, B, hB, h2⟩
      · exact ⟨j, C, h3, h2⟩
    · rintro ⟨j, C, h1, h2⟩
      have h3 := SHeap.get_lt h1
      have h4 := SHeap.get_root h1
      by_cases e : j = id
      · refine ⟨j, B', ?_, h2⟩
        rw [SHeap.get_of (S := S.put id (some B')) h3 h4.2, SHeap.root_put, if_pos e]
      · refine ⟨j, C, ?_, h2⟩
        rw [SHeap.get_of (S := S.put id (some B')) h3 h4.2, SHeap.root_put, if_neg e, h4.1]
  have hOx : OwnI φ S x := ⟨id, B, hB, hx⟩
  have hext : Ext φ H (Own φ S) φ H' (Own φ (S.put id (some B'))) := by
    refine ⟨fun _ _ h => h, fun y d h1 h2 => ?_, fun j y d h1 h2 => ?_⟩
    · have e : y ≠ x := fun e => h2 (.inr (e ▸ hOx))
      exact ⟨by rw [hget, if_neg e]; exact h1, fun h => h2 (h.imp _root_.id (hown y).1)⟩
    · rw [hroot] at h2
      split at h2
      · rename_i e; cases h2; subst e; exact ⟨c, (Heap.get_root hc).1, hlen⟩
      · exact ⟨d, h2, rfl⟩
  refine ⟨⟨?_, ?_, hS.fresh, fun j y h => by rw [hsz]; exact hS.lt j y h, hS.slock, by rw [hlk, hsz]; exact hS.elock, fun y hy => by rw [hhd]; exact hS.ehid y (by rw [← hsz]; exact hy)⟩, fun _ _ h => h, rfl, fun y _ h => (hown y).1 h, ?_, ?_, by rw [hsz]; exact Nat.le_refl _, hlk, hhd, Nat.le_refl _, rfl, rfl, ?_⟩
  · intro j C h1
    rcases SHeap.get_put _ _ _ _ h1 with ⟨rfl, h2⟩ | ⟨hne, h2⟩
    · cases h2
      refine .inr ⟨x, ⟨cs'⟩, hx, by rw [hget, if_pos rfl], fun _ => ?_, hV.mono hext⟩
      rw [hlk]
      rcases hS.blk _ _ hB with ⟨h3, _⟩ | ⟨y, d, h3, h4, h5, _⟩
      · rw [hx] at h3; cases h3
      · rw [hx] at h3; cases h3; exact h5 hl
    · rcases hS.blk _ _ h2 with h3 | ⟨y, d, h3, h4, h5, h6⟩
      · exact .inl h3
      · have e : y ≠ x := by
          rintro rfl
          exact hne (hS.inj j id _ _ y h2 hB h3 hx)
        exact .inr ⟨y, d, h3, by rw [hget, if_neg e]; exact h4, by rw [hlk]; exact h5, h6.mono hext⟩
  · intro j j' C C' y h1 h2 h3 h4
    have g1 : ∃ D, S.get j = some D := by
      rcases SHeap.get_put _ _ _ _ h1 with ⟨rfl, _⟩ | ⟨_, h⟩
      · exact ⟨_, hB⟩
      · exact ⟨_, h⟩
    have g2 : ∃ D, S.get j' = some D := by
      rcases SHeap.get_put _ _ _ _ h2 with ⟨rfl, _⟩ | ⟨_, h⟩
      · exact ⟨_, hB⟩
      · exact ⟨_, h⟩
    obtain ⟨D, g1⟩ := g1
    obtain ⟨D', g2⟩ := g2
    exact hS.inj j j' D D' y g1 g2 h3 h4
  · intro y _ h
    have e : y ≠ x := by rintro rfl; exact h ⟨id, B, hl, hB, hx⟩
    rw [hget, if_neg e]
  · intro y d _ h
    rw [hroot] at h
    split at h
    · rename_i e; cases h; subst e; exact ⟨c, (Heap.get_root hc).1, hlen⟩
    · exact ⟨d, h, rfl⟩
  · intro j _ h2
    have e : j ≠ id := by
      rintro rfl
      rcases h2 with h2 | h2
      · omega
      · rw [hB] at h2; cases h2
    rw [SHeap.root_put, if_neg e]

theorem Step.put {S : SHeap} (hS : Sim φ S H) {id x : Nat} {B B' : SBlk} {c : Blk} {cs' : List Value} (hB : S.get id = some B) (hx : φ id = some (some x)) (hc : H.get x = some c) (hl : S.lock ≤ id)
    (hlen : cs'.length = c.cells.length) (hV : BV φ H (Own φ S) B' cs') : Step φ S H φ (S.put id (some B')) (H.put x (some ⟨cs'⟩)) := by
  refine Step.put' hS hB hx hc hl hlen hV (fun y => ?_) (fun y => Heap.root_put _ _ _ _) rfl rfl rfl
  by_cases e : y = x
  · rw [if_pos e, e, Heap.get_put_same _ _ _ hc]
  · rw [if_neg e, Heap.get_put_other _ _ _ _ e]
/-- The same cells are seen otherwise. -/
theorem Step.see {S : SHeap} (hS : Sim φ S H) {id x : Nat} {B B' : SBlk} {c : Blk} (hB : S.get id = some B) (hx : φ id = some (some x)) (hc : H.get x = some c) (hl : S.lock ≤ id)
    (hV : BV φ H (Own φ S) B' c.cells) : Step φ S H φ (S.put id (some B')) H := by
  refine Step.put' hS hB hx hc hl rfl hV (fun y => ?_) (fun y => ?_) rfl rfl rfl
  · split
    · rename_i e; rw [e]; exact hc
    · rfl
  · split
    · rename_i e; rw [e]; exact (Heap.get_root hc).1
    · rfl

/-- A block is let go of. -/
theorem Step.drop {S : SHeap} (hS : Sim φ S H) {id : Nat} {B : SBlk} (hB : S.get id = some B) (hl : S.lock ≤ id) : Step φ S H φ (S.put id none) H := by
  have hsub : ∀ j C, (S.put id none).get j = some C → S.get j = some C := by
    intro j C h
    rcases SHeap.get_put _ _ _ _ h with ⟨_, h2⟩ | ⟨_, h2⟩
    · cases h2
    · exact h2
  have hown : ∀ y, OwnI φ (S.put id none) y → OwnI φ S y := fun y ⟨j, C, h1, h2⟩ => ⟨j, C, hsub _ _ h1, h2⟩
  have hext : Ext φ H (Own φ S) φ H (Own φ (S.put id none)) := ⟨fun _ _ h => h, fun y d h1 h2 => ⟨h1, fun h => h2 (h.imp _root_.id (hown y))⟩, fun j y d h1 h2 => ⟨d, h2, rfl⟩⟩
  refine ⟨⟨?_, ?_, hS.fresh, hS.lt, hS.slock, hS.elock, hS.ehid⟩, fun _ _ h => h, rfl, fun y _ h => hown y h, fun _ _ _ => rfl, fun _ d _ h => ⟨d, h, rfl⟩, Nat.le_refl _, rfl, rfl, Nat.le_refl _, rfl, rfl, ?_⟩
  · intro j C h1
    rcases hS.blk _ _ (hsub _ _ h1) with h3 | ⟨y, d, h3, h4, h5, h6⟩
    · exact .inl h3
    · exact .inr ⟨y, d, h3, h4, h5, h6.mono hext⟩
  · intro j j' C C' y h1 h2 h3 h4
    exact hS.inj j j' C C' y (hsub _ _ h1) (hsub _ _ h2) h3 h4
  · intro j _ h2
    have e : j ≠ id := by
      rintro rfl
      rcases h2 with h2 | h2
      · omega
      · rw [hB] at h2; cases h2
    rw [SHeap.root_put, if_neg e]

/-- A new block: in new memory, or in memory that was let go of just now. -/
theorem Step.gen {S S1 : SHeap} (hS : Sim φ S H) (B : SBlk) (y : Option Nat) {H' : Heap} (hsub : ∀ j C, S1.get j = some C → S.get j = some C) (hs1 : S1.size = S.size) (hl1 : S1.lock = S.lock) (hh1 : S1.hid = S.hid)
    (hr1 : ∀ j, j < S.size → j < S.lock ∨ S.get j = none → S1.root.get j = S.root.get j)
    (hsz : H.size ≤ H'.size) (hlk : H'.lock = H.lock) (hhid : H'.hid = H.hid)
    (hkeep : ∀ x, x < H.size → (OwnI φ S1 x ∨ ¬ OwnW φ S x) → H'.get x = H.get x)
    (hlen : ∀ x c', x < H.size → H'.root.get x = some c' → ∃ c, H.root.get x = some c ∧ c'.cells.length = c.cells.length)
    (hy : ∀ x, y = some x → (H.size ≤ x ∨ OwnI φ S x) ∧ ¬ OwnI φ S1 x ∧ x < H'.size ∧ H.lock ≤ x)
    (h0 : y = none → B.empty)
    (hV : ∀ x, y = some x → ∃ c, H'.get x = some c ∧ (Ext φ H (Own φ S) (φ.add S.size y) H' (Own (φ.add S.size y) (S1.push B)) →
      BV (φ.add S.size y) H' (Own (φ.add S.size y) (S1.push B)) B c.cells)) :
    Step φ S H (φ.add S.size y) (S1.push B) H' := by
  have hbn : (φ.add S.size y).ban = φ.ban := rfl
  have hf0 : (φ.add S.size y) S.size = some y := by simp [Phi.add]
  have hne : ∀ j, j ≠ S.size → (φ.add S.size y) j = φ j := fun j h => by simp [Phi.add, h]
  generalize hφ' : (φ.add S.size y) = φ' at *
  have hle : ∀ j z, φ j = some z → φ' j = some z := by
    intro j z h
    by_cases e : j = S.size
    · subst e; rw [hS.fresh _ (Nat.le_refl _)] at h; cases h
    · rw [hne j e]; exact h
  have hsz0 : (S1.push B).size = S.size + 1 := by show S1.size + 1 = _; rw [hs1]
  have hget : ∀ j C, (S1.push B).get j = some C → (j = S.size ∧ B = C) ∨ (j < S.size ∧ S1.get j = some C) := by
    intro j C h
    have := SHeap.get_push _ _ _ h
    rwa [hs1] at this
  have hown : ∀ z, OwnI φ' (S1.push B) z → OwnI φ S1 z ∨ y = some z := by
    rintro z ⟨j, C, h1, h2⟩
    rcases hget _ _ h1 with ⟨rfl, _⟩ | ⟨hlt, h3⟩
    · rw [hf0] at h2; exact .inr (Option.some.inj h2)
    · rw [hne j (by omega)] at h2; exact .inl ⟨j, C, h3, h2⟩
  have hown1 : ∀ z, OwnI φ S1 z → OwnI φ S z := fun z ⟨j, C, h1, h2⟩ => ⟨j, C, hsub _ _ h1, h2⟩
  have hext : Ext φ H (Own φ S) φ' H' (Own φ' (S1.push B)) := by
    refine ⟨hle, fun x d h1 h2 => ?_, fun j x d h1 h2 => hlen x d (hS.lt j x h1) h2⟩
    have hlt := Heap.get_lt h1
    refine ⟨by rw [hkeep x hlt (.inr (fun h => h2 (.inr h.toI)))]; exact h1, fun h => ?_⟩
    rcases h with h | h
    · exact h2 (.inl (by rw [← hbn]; exact h))
    rcases hown x h with h | h
    · exact h2 (.inr (hown1 x h))
    · rcases (hy x h).1 with h | h
      · omega
      · exact h2 (.inr h)
  refine ⟨⟨?_, ?_, ?_, ?_, ?_, by rw [hlk]; exact Nat.le_trans hS.elock hsz, fun x hx => by rw [hhid]; exact hS.ehid x (Nat.le_trans hsz hx)⟩, hle, hbn, ?_, fun x h1 h2 => hkeep x h1 (.inr h2), hlen, hsz, hlk, hhid, by omega, hl1, hh1, ?_⟩
  · intro j C h1
    rcases hget _ _ h1 with ⟨rfl, rfl⟩ | ⟨hlt, h3⟩
    · cases y with
      | none => exact .inl ⟨hf0, h0 rfl⟩
      | some x =>
        obtain ⟨c, h4, h5⟩ := hV x rfl
        exact .inr ⟨x, c, hf0, h4, fun _ => by rw [hlk]; exact (hy x rfl).2.2.2, h5 hext⟩
    · have h4 := hsub _ _ h3
      rcases hS.blk _ _ h4 with h5 | ⟨x, c, h5, h6, h7, h8⟩
      · exact .inl ⟨by rw [hne j (by omega)]; exact h5.1, h5.2⟩
      · have hlt' := hS.lt j x h5
        refine .inr ⟨x, c, by rw [hne j (by omega)]; exact h5, by rw [hkeep x hlt' (.inl ⟨j, C, h3, h5⟩)]; exact h6, fun h => by rw [hlk]; exact h7 (by rw [← hl1]; exact h), h8.mono hext⟩
  · intro j j' C C' x h1 h2 h3 h4
    rcases hget _ _ h1 with ⟨rfl, _⟩ | ⟨hlt, g1⟩
    · rcases hget _ _ h2 with ⟨rfl, _⟩ | ⟨hlt', g2⟩
      · rfl
      · exfalso
        rw [hf0] at h3; rw [hne j' (by omega)] at h4
        exact (hy x (Option.some.inj h3)).2.1 ⟨j', C', g2, h4⟩
    · rcases hget _ _ h2 with ⟨rfl, _⟩ | ⟨hlt', g2⟩
      · exfalso
        rw [hf0] at h4; rw [hne j (by omega)] at h3
        exact (hy x (Option.some.inj h4)).2.1 ⟨j, C, g1, h3⟩
      · rw [hne j (by omega)] at h3; rw [hne j' (by omega)] at h4
        exact hS.inj j j' C C' x (hsub _ _ g1) (hsub _ _ g2) h3 h4
  · intro j hj
    rw [hne j (by omega)]
    exact hS.fresh j (by omega)
  · intro j x h
    by_cases e : j = S.size
    · subst e; rw [hf0] at h; exact (hy x (Option.some.inj h)).2.2.1
    · rw [hne j e] at h
      have := hS.lt j x h
      omega
  · rw [show (S1.push B).lock = S1.lock from rfl, hl1, hsz0]
    have := hS.slock
    omega
  · intro x hx h
    rcases hown x h with h | h
    · exact hown1 x h
    · rcases (hy x h).1 with h' | h'
      · omega
      · exact h'
  · intro j h1 h2
    rw [SHeap.root_push, if_neg (by omega)]
    exact hr1 j h1 h2

/-- A new block in new memory. -/
theorem Step.push {S : SHeap} (hS : Sim φ S H) (B : SBlk) (cs : List Value) (hB : BV φ H (Own φ S) B cs) :
    Step φ S H (φ.add S.size (some H.size)) (S.push B) (pushV H cs) := by
  have hold : ∀ x, x < H.size → (pushV H cs).get x = H.get x := fun x hx => Heap.get_push_old _ _ _ hx
  refine Step.gen hS B (some H.size) (fun _ _ h => h) rfl rfl rfl (fun _ _ _ => rfl) (by simp [pushV]) rfl rfl (fun x hx _ => hold x hx) (fun x c' hx h => ⟨c', by rw [pushV, Heap.root_push, if_neg (by omega)] at h; exact h, rfl⟩) ?_ (fun h => by cases h) ?_
  · intro x hx
    cases hx
    refine ⟨.inl (Nat.le_refl _), ?_, by simp [pushV], hS.elock⟩
    rintro ⟨j, C, _, h⟩
    have := hS.lt j _ h
    omega
  · intro x hx
    cases hx
    refine ⟨⟨cs⟩, ?_, fun e => hB.mono e⟩
    unfold Heap.get
    rw [if_pos (by simp [pushV]), show (pushV H cs).hid = H.hid from rfl, hS.ehid _ (Nat.le_refl _)]
    simp [pushV, Heap.root_push]
end
end
end Go.Proofs.Ytoiijpphfckdjaa.Ev
