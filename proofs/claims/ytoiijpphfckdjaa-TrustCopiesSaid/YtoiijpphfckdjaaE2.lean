/-
  The relation between the evaluator's heap and the machine's memory; its laws.
-/
import Derived.Test.YtoiijpphfckdjaaE1
namespace Go.Proofs.Ytoiijpphfckdjaa.Ev
open Go

/-! ### The tree -/
theorem Tr.get_put (b : Option Blk) : ∀ (f : Nat) (t : Tr) (k j : Nat), k < f → (Tr.put b f t k).get j = if j = k then b else t.get j := by
  intro f
  induction f with
  | zero => intro t k j h; omega
  | succ f ih =>
    intro t k j h
    have tl : ∀ m, t.left.get m = (match t with | .e => none | .n _ l _ => l.get m) := by intro m; cases t <;> rfl
    have tr : ∀ m, t.right.get m = (match t with | .e => none | .n _ _ r => r.get m) := by intro m; cases t <;> rfl
    simp only [Tr.put]
    by_cases h0 : k = 0
    · subst h0
      simp only [if_true, Tr.get]
      by_cases hj : j = 0
      · simp [hj]
      · simp only [hj, if_false, tl, tr]
        cases t <;> simp [Tr.get, hj]
    · simp only [h0, if_false]
      by_cases h1 : k % 2 = 1
      · simp only [h1, if_true, Tr.get]
        by_cases hj : j = 0
        · subst hj
          simp only [if_true]
          rw [if_neg (by omega)]
          cases t <;> simp [Tr.get, Tr.val]
        · simp only [hj, if_false]
          by_cases hj1 : j % 2 = 1
          · simp only [hj1, if_true]
            rw [ih _ _ _ (by omega)]
            by_cases e : j = k
            · subst e; simp
            · rw [if_neg (by omega), if_neg e, tl]
              cases t <;> simp [Tr.get, hj, hj1]
          · simp only [hj1, if_false, tr]
            rw [if_neg (by omega)]
            cases t <;> simp [Tr.get, hj, hj1]
      · simp only [h1, if_false, Tr.get]
        by_cases hj : j = 0
        · subst hj
          simp only [if_true]
          rw [if_neg (by omega)]
          cases t <;> simp [Tr.get, Tr.val]
        · simp only [hj, if_false]
          by_cases hj1 : j % 2 = 1
          · simp only [hj1, if_true, tl]
            rw [if_neg (by omega)]
            cases t <;> simp [Tr.get, hj, hj1]
          · simp only [hj1, if_false]
            rw [ih _ _ _ (by omega)]
            by_cases e : j = k
            · subst e; simp
            · rw [if_neg (by omega), if_neg e, tr]
              cases t <;> simp [Tr.get, hj, hj1]

theorem Heap.root_push (H : Heap) (b : Blk) (k : Nat) : (H.push b).root.get k = if k = H.size then some b else H.root.get k :=
  Tr.get_put _ _ _ _ _ (Nat.lt_succ_self _)
theorem Heap.root_put (H : Heap) (j : Nat) (b : Option Blk) (k : Nat) : (H.put j b).root.get k = if k = j then b else H.root.get k :=
  Tr.get_put _ _ _ _ _ (Nat.lt_succ_self _)
@[simp] theorem Heap.size_push (H : Heap) (b : Blk) : (H.push b).size = H.size + 1 := rfl
@[simp] theorem Heap.size_put (H : Heap) (j : Nat) (b : Option Blk) : (H.put j b).size = H.size := rfl
@[simp] theorem Heap.lock_push (H : Heap) (b : Blk) : (H.push b).lock = H.lock := rfl
@[simp] theorem Heap.lock_put (H : Heap) (j : Nat) (b : Option Blk) : (H.put j b).lock = H.lock := rfl
@[simp] theorem Heap.hid_push (H : Heap) (b : Blk) : (H.push b).hid = H.hid := rfl
@[simp] theorem Heap.hid_put (H : Heap) (j : Nat) (b : Option Blk) : (H.put j b).hid = H.hid := rfl

theorem Heap.get_lt {H : Heap} {k : Nat} {b : Blk} (h : H.get k = some b) : k < H.size := by
  unfold Heap.get at h
  split at h
  · assumption
  · cases h
theorem Heap.get_root {H : Heap} {k : Nat} {b : Blk} (h : H.get k = some b) : H.root.get k = some b ∧ hidden H.hid k = false := by
  unfold Heap.get at h
  split at h
  · split at h
    · cases h
    · rename_i hh; exact ⟨h, by cases hx : hidden H.hid k <;> simp_all⟩
  · cases h
theorem Heap.get_put_other (H : Heap) (j k : Nat) (b : Option Blk) (h : k ≠ j) : (H.put j b).get k = H.get k := by
  simp [Heap.get, Heap.root_put, h]
theorem Heap.get_put_same (H : Heap) (j : Nat) (b : Option Blk) {c : Blk} (hb : H.get j = some c) : (H.put j b).get j = b := by
  have := Heap.get_root hb
  simp [Heap.get, Heap.root_put, this.2, Heap.get_lt hb]
theorem Heap.get_push_old (H : Heap) (b : Blk) (k : Nat) (h : k < H.size) : (H.push b).get k = H.get k := by
  have h1 : k ≠ H.size := by omega
  have h2 : k < H.size + 1 := by omega
  simp [Heap.get, Heap.root_push, h, h1, h2]

/-! ### Places and values -/
structure Loc where
  blk : Nat
  off : Nat
  room : Nat

abbrev Fm := Nat → Option Loc

inductive V (f : Fm) : Value → Value → Prop where
  | bool (b : Bool) : V f (.bool b) (.bool b)
  | int (k : IntKind) (n : Int) : V f (.int k n) (.int k n)
  | str (s : ByteArray) : V f (.string s) (.string s)
  | ptrNil : V f (.pointer none) (.pointer none)
  | slNil : V f (.slice none 0 0) (.slice none 0 0)
  | nilFunc : V f .nilFunc .nilFunc
  | nilIface : V f .nilIface .nilIface
  | ptr (b off : Nat) (l : Loc) (h : f b = some l) : V f (.pointer (some ⟨b, off, none⟩)) (.pointer (some ⟨l.blk, l.off + off, none⟩))
  | slX (b off n c : Nat) (l : Loc) (a : Addr) (h : f b = some l) (ha : a = ⟨l.blk, l.off + off, none⟩ ∨ (n = 0 ∧ c = 0)) :
      V f (.slice (some ⟨b, off, none⟩) n c) (.slice (some a) n c)
  | slL (b off e n c off' c' : Nat) (l : Loc) (h : f b = some l) (hn : n ≤ c) (hc : c ≤ c')
      (hr : off' + c' * e ≤ l.room) (ho : 0 < c → off' = l.off + off) :
      V f (.slice (some ⟨b, off, some e⟩) n c) (.slice (some ⟨l.blk, off', none⟩) n c')
  | func (g : FuncId) (x x' y y' : Array Value) (hx : x.size = x'.size) (hy : y.size = y'.size)
      (vx : ∀ (i : Nat) v v', x[i]? = some v → x'[i]? = some v' → V f v v') (vy : ∀ (i : Nat) v v', y[i]? = some v → y'[i]? = some v' → V f v v') :
      V f (.func (.func g) x y) (.func (.func g) x' y')
  | agg (x x' : Array Value) (hx : x.size = x'.size) (hc : ∀ (i : Nat) v, x[i]? = some v → isCell v = true)
      (vx : ∀ (i : Nat) v v', x[i]? = some v → x'[i]? = some v' → V f v v') : V f (.agg x) (.agg x')
  | tuple (x x' : Array Value) (hx : x.size = x'.size) (vx : ∀ (i : Nat) v v', x[i]? = some v → x'[i]? = some v' → V f v v') : V f (.tuple x) (.tuple x')

def Le (f g : Fm) : Prop := ∀ x l, f x = some l → g x = some l
theorem Le.refl (f : Fm) : Le f f := fun _ _ h => h
theorem Le.trans {f g h : Fm} (a : Le f g) (b : Le g h) : Le f h := fun x l e => b x l (a x l e)

theorem V.mono {f g : Fm} (hle : Le f g) {v v' : Value} (h : V f v v') : V g v v' := by
  induction h with
  | bool b => exact .bool b
  | int k n => exact .int k n
  | str s => exact .str s
  | ptrNil => exact .ptrNil
  | slNil => exact .slNil
  | nilFunc => exact .nilFunc
  | nilIface => exact .nilIface
  | ptr b off l h => exact .ptr b off l (hle _ _ h)
  | slX b off n c l a h ha => exact .slX b off n c l a (hle _ _ h) ha
  | slL b off e n c off' c' l h hn hc hr ho => exact .slL b off e n c off' c' l (hle _ _ h) hn hc hr ho
  | func g x x' y y' hx hy _ _ ix iy => exact .func g x x' y y' hx hy ix iy
  | agg x x' hx hc _ ix => exact .agg x x' hx hc ix
  | tuple x x' hx _ ix => exact .tuple x x' hx ix

theorem V.cell {f : Fm} {v v' : Value} (h : V f v v') : isCell v' = isCell v := by cases h <;> rfl
theorem isCell_one {v : Value} (h : isCell v = true) : v.oneCell' = true := by cases v <;> simp_all [isCell, Value.oneCell']
theorem V.undef (f : Fm) : V f Go.undef Go.undef := .tuple _ _ rfl (fun i v v' h _ => by simp at h)
theorem V.constOk (f : Fm) {v : Value} (h : Ev.constOk v = true) : V f v v := by
  unfold Ev.constOk at h
  split at h <;> first | constructor | cases h

/-- Lists of related values. -/
def VL (f : Fm) (xs ys : List Value) : Prop := xs.length = ys.length ∧ ∀ (i : Nat) v v', xs[i]? = some v → ys[i]? = some v' → V f v v'
theorem VL.nil (f : Fm) : VL f [] [] := ⟨rfl, fun i v v' h => by simp at h⟩
theorem VL.cons {f : Fm} {v v' : Value} {xs ys : List Value} (h : V f v v') (t : VL f xs ys) : VL f (v :: xs) (v' :: ys) :=
  ⟨by simp [t.1], fun i => by
    cases i with
    | zero => intro u u' h1 h2; simp at h1 h2; subst h1; subst h2; exact h
    | succ i => intro u u' h1 h2; simp at h1 h2; exact t.2 i u u' h1 h2⟩
theorem VL.append {f : Fm} {a b c d : List Value} (h : VL f a b) (k : VL f c d) : VL f (a ++ c) (b ++ d) := by
  refine ⟨by simp [h.1, k.1], fun i v v' h1 h2 => ?_⟩
  rw [List.getElem?_append] at h1 h2
  rw [h.1] at h1
  split at h1
  · rename_i hi; rw [if_pos hi] at h2; exact h.2 i v v' h1 h2
  · rename_i hi; rw [if_neg hi] at h2; exact k.2 _ v v' h1 h2
theorem VL.mono {f g : Fm} (hle : Le f g) {xs ys : List Value} (h : VL f xs ys) : VL g xs ys := ⟨h.1, fun i v v' a b => (h.2 i v v' a b).mono hle⟩
theorem VL.get {f : Fm} {xs ys : List Value} (h : VL f xs ys) {i : Nat} {v : Value} (hi : xs[i]? = some v) : ∃ v', ys[i]? = some v' ∧ V f v v' := by
  have hlt : i < ys.length := by rw [← h.1]; exact (List.getElem?_eq_some_iff.1 hi).1
  exact ⟨ys[i], List.getElem?_eq_getElem hlt, h.2 i _ _ hi (List.getElem?_eq_getElem hlt)⟩
theorem VL.take {f : Fm} {xs ys : List Value} (h : VL f xs ys) (n : Nat) : VL f (xs.take n) (ys.take n) := by
  refine ⟨by simp [h.1], fun i v v' h1 h2 => ?_⟩
  rw [List.getElem?_take] at h1 h2
  split at h1
  · rename_i hi; rw [if_pos hi] at h2; exact h.2 i v v' h1 h2
  · cases h1
theorem VL.drop {f : Fm} {xs ys : List Value} (h : VL f xs ys) (n : Nat) : VL f (xs.drop n) (ys.drop n) := by
  refine ⟨by simp [h.1], fun i v v' h1 h2 => ?_⟩
  rw [List.getElem?_drop] at h1 h2
  exact h.2 _ v v' h1 h2
theorem VL.set {f : Fm} {xs ys : List Value} (h : VL f xs ys) (i : Nat) {v v' : Value} (hv : V f v v') : VL f (xs.set i v) (ys.set i v') := by
  refine ⟨by simp [h.1], fun j u u' h1 h2 => ?_⟩
  rw [List.getElem?_set] at h1 h2
  rw [h.1] at h1
  split at h1
  · rename_i e; rw [if_pos e] at h2
    split at h1
    · rename_i hl; rw [if_pos hl] at h2
      simp at h1 h2; subst h1; subst h2; exact hv
    · cases h1
  · rename_i e; rw [if_neg e] at h2; exact h.2 j u u' h1 h2

theorem VL.of_agg {f : Fm} {x x' : Array Value} (h : V f (.agg x) (.agg x')) : VL f x.toList x'.toList ∧ ∀ v ∈ x.toList, isCell v = true := by
  cases h with
  | agg _ _ hx hc vx =>
    refine ⟨⟨by simpa using hx, fun i v v' a b => vx i v v' (by simpa using a) (by simpa using b)⟩, fun v hv => ?_⟩
    obtain ⟨i, hi⟩ := List.getElem?_of_mem hv
    exact hc i v (by simpa using hi)
theorem V.of_list {f : Fm} {x x' : List Value} (h : VL f x x') (hc : ∀ v ∈ x, isCell v = true) : V f (.agg x.toArray) (.agg x'.toArray) :=
  .agg _ _ (by simpa using h.1) (fun i v a => hc v (List.mem_of_getElem? (by simpa using a))) (fun i v v' a b => h.2 i v v' (by simpa using a) (by simpa using b))

theorem V.valCells {f : Fm} {v v' : Value} {cs : List Value} (h : V f v v') (hc : Ev.valCells v = some cs) : VL f cs v'.cells.toList ∧ ∀ u ∈ cs, isCell u = true := by
  cases h with
  | agg x x' hx hcx vx =>
    simp [Ev.valCells] at hc
    subst hc
    exact VL.of_agg (.agg x x' hx hcx vx)
  | tuple => simp [Ev.valCells] at hc
  | bool b => simp [Ev.valCells] at hc; subst hc; exact ⟨.cons (.bool b) (.nil f), by simp [isCell]⟩
  | int k n => simp [Ev.valCells] at hc; subst hc; exact ⟨.cons (.int k n) (.nil f), by simp [isCell]⟩
  | str s => simp [Ev.valCells] at hc; subst hc; exact ⟨.cons (.str s) (.nil f), by simp [isCell]⟩
  | ptrNil => simp [Ev.valCells] at hc; subst hc; exact ⟨.cons .ptrNil (.nil f), by simp [isCell]⟩
  | slNil => simp [Ev.valCells] at hc; subst hc; exact ⟨.cons .slNil (.nil f), by simp [isCell]⟩
  | nilFunc => simp [Ev.valCells] at hc; subst hc; exact ⟨.cons .nilFunc (.nil f), by simp [isCell]⟩
  | nilIface => simp [Ev.valCells] at hc; subst hc; exact ⟨.cons .nilIface (.nil f), by simp [isCell]⟩
  | ptr b off l h => simp [Ev.valCells] at hc; subst hc; exact ⟨.cons (.ptr b off l h) (.nil f), by simp [isCell]⟩
  | slX b off n c l a h ha => simp [Ev.valCells] at hc; subst hc; exact ⟨.cons (.slX b off n c l a h ha) (.nil f), by simp [isCell]⟩
  | slL b off e n c off' c' l h hn hc' hr ho => simp [Ev.valCells] at hc; subst hc; exact ⟨.cons (.slL b off e n c off' c' l h hn hc' hr ho) (.nil f), by simp [isCell]⟩
  | func g x x' y y' hx hy vx vy => simp [Ev.valCells] at hc; subst hc; exact ⟨.cons (.func g x x' y y' hx hy vx vy) (.nil f), by simp [isCell]⟩

/-! ### Heap and memory -/
structure R (f : Fm) (H : Heap) (w : World) : Prop where
  blk : ∀ x b, H.get x = some b → ∃ l C e fr, f x = some l ∧ w.heap[l.blk]? = some (.cells C e fr) ∧
    (∀ (i : Nat) v, b.cells[i]? = some v → isCell v = true ∧ ∃ v', C[l.off + i]? = some v' ∧ V f v v') ∧
    (H.mine x b = true → fr = (0, 0) ∧ l.room ≤ C.size)
  big : ∀ x l, f x = some l → l.blk < w.heap.size
  lk : H.lock ≤ H.size
  inj : ∀ x y b c l m, H.get x = some b → H.get y = some c → H.mine x b = true → x ≠ y → f x = some l → f y = some m → l.blk ≠ m.blk

def ownedAt (f : Fm) (H : Heap) (cb : Nat) : Prop := ∃ x b l, H.get x = some b ∧ H.mine x b = true ∧ f x = some l ∧ l.blk = cb

structure Stp (f : Fm) (H : Heap) (w : World) (f' : Fm) (H' : Heap) (w' : World) : Prop where
  le : Le f f'
  out : ∀ x, ¬ (H.size ≤ x ∧ x < H'.size) → f' x = f x
  size : H.size ≤ H'.size
  lock : H'.lock = H.lock
  hid : H'.hid = H.hid
  root : ∀ x, x < H.size → x < H.lock → H'.root.get x = H.root.get x
  wsize : w.heap.size ≤ w'.heap.size
  os : w'.os = w.os
  tape : w'.tape = w.tape
  output : w'.output = w.output
  keep : ∀ cb, cb < w.heap.size → ¬ ownedAt f H cb → w'.heap[cb]? = w.heap[cb]?
  own : ∀ cb, cb < w.heap.size → ownedAt f' H' cb → ownedAt f H cb

theorem Stp.refl (f : Fm) (H : Heap) (w : World) : Stp f H w f H w :=
  ⟨.refl f, fun _ _ => rfl, Nat.le_refl _, rfl, rfl, fun _ _ _ => rfl, Nat.le_refl _, rfl, rfl, rfl, fun _ _ _ => rfl, fun _ _ h => h⟩

theorem Stp.trans {f g h : Fm} {A B C : Heap} {u v w : World} (a : Stp f A u g B v) (b : Stp g B v h C w) : Stp f A u h C w where
  le := a.le.trans b.le
  out x hx := by
    have := a.size; have := b.size
    rw [b.out x (by omega), a.out x (by omega)]
  size := Nat.le_trans a.size b.size
  lock := b.lock.trans a.lock
  hid := b.hid.trans a.hid
  root x h1 h2 := (b.root x (Nat.lt_of_lt_of_le h1 a.size) (by rw [a.lock]; exact h2)).trans (a.root x h1 h2)
  wsize := Nat.le_trans a.wsize b.wsize
  os := b.os.trans a.os
  tape := b.tape.trans a.tape
  output := b.output.trans a.output
  keep cb h1 h2 := (b.keep cb (Nat.lt_of_lt_of_le h1 a.wsize) (fun h => h2 (a.own cb h1 h))).trans (a.keep cb h1 h2)
  own cb h1 h2 := a.own cb h1 (b.own cb (Nat.lt_of_lt_of_le h1 a.wsize) h2)

/-- The memory's part alone has moved on by draws. -/
theorem Stp.drew {f f' : Fm} {H H' : Heap} {w w' : World} (h : Stp f H w.drew f' H' w') : Stp f H w f' H' w' :=
  ⟨h.le, h.out, h.size, h.lock, h.hid, h.root, h.wsize, h.os, h.tape, h.output, h.keep, h.own⟩
theorem R.drew {f : Fm} {H : Heap} {w : World} (h : R f H w) : R f H w.drew := ⟨h.blk, h.big, h.lk, h.inj⟩

theorem mine_iff {H : Heap} {x : Nat} {b : Blk} : H.mine x b = true ↔ H.lock ≤ x := by simp [Heap.mine]

/-- Reading cells. -/
theorem R.cells {f : Fm} {H : Heap} {w : World} (h : R f H w) {b off n : Nat} {cs : List Value} (hg : getCells H b off n = some cs) :
    cs.length = n ∧ ∃ l C e fr, f b = some l ∧ w.heap[l.blk]? = some (.cells C e fr) ∧
      ∃ cs', VL f cs cs' ∧ (∀ u ∈ cs, isCell u = true) ∧ ∀ (j : Nat) v, cs'[j]? = some v → C[l.off + off + j]? = some v := by
  unfold getCells at hg
  cases hb : H.get b with
  | none => simp [hb] at hg
  | some k =>
    simp only [hb] at hg
    split at hg
    · rename_i hl
      cases hg
      obtain ⟨l, C, e, fr, hf, hw, hc, _⟩ := h.blk b k hb
      have hlen : ((k.cells.drop off).take n).length = n := by simp; omega
      refine ⟨hlen, l, C, e, fr, hf, hw, ((List.range n).map fun j => C.getD (l.off + off + j) Go.undef), ⟨by simp; omega, ?_⟩, ?_, ?_⟩
      · intro i v v' h1 h2
        rw [List.getElem?_take] at h1
        split at h1
        · rename_i hi
          rw [List.getElem?_drop] at h1
          obtain ⟨_, v'', hv'', hV⟩ := hc _ v h1
          simp [hi] at h2
          rw [show l.off + (off + i) = l.off + off + i by omega] at hv''
          simp [hv''] at h2
          subst h2
          exact hV
        · cases h1
      · intro u hu
        obtain ⟨i, hi⟩ := List.getElem?_of_mem hu
        rw [List.getElem?_take] at hi
        split at hi
        · rw [List.getElem?_drop] at hi; exact (hc _ u hi).1
        · cases hi
      · intro j v hj
        have hjn : j < n := by
          have := (List.getElem?_eq_some_iff.1 hj).1
          simpa using this
        have h1 : k.cells[off + j]? = some k.cells[off + j] := List.getElem?_eq_getElem (by omega)
        obtain ⟨_, v'', hv'', _⟩ := hc _ _ h1
        rw [show l.off + (off + j) = l.off + off + j by omega] at hv''
        simp [hjn, hv''] at hj
        subst hj
        exact hv''
    · cases hg

theorem heap_alloc_new' (w : World) (o : Obj) : (w.alloc o).heap[w.heap.size]? = some o := by
  show (w.heap.push o)[w.heap.size]? = _
  simp
theorem heap_alloc_old' (w : World) (o : Obj) {k : Nat} (h : k < w.heap.size) : (w.alloc o).heap[k]? = w.heap[k]? := by
  show (w.heap.push o)[k]? = _
  rw [Array.getElem?_push, if_neg (by omega)]

/-- A new block. -/
theorem R.push {f : Fm} {H : Heap} {w : World} (h : R f H w) (hfree : f H.size = none) (room : Nat) (cs : List Value) (C : Array Value) (e : TypeId)
    (hc : ∀ u ∈ cs, isCell u = true) (hv : ∀ (i : Nat) v, cs[i]? = some v → ∃ v', C[i]? = some v' ∧ V f v v') (hr : room ≤ C.size) :
    ∃ f', f' H.size = some ⟨w.heap.size, 0, room⟩ ∧ Stp f H w f' (pushV H cs) (w.alloc (.cells C e)) ∧ R f' (pushV H cs) (w.alloc (.cells C e)) := by
  let f' : Fm := fun x => if x = H.size then some ⟨w.heap.size, 0, room⟩ else f x
  have hle : Le f f' := by
    intro x l hx
    by_cases e : x = H.size
    · subst e; rw [hfree] at hx; cases hx
    · simp [f', e, hx]
  have hsz : (w.alloc (.cells C e)).heap.size = w.heap.size + 1 := by show (w.heap.push _).size = _; simp
  have hold : ∀ x b, (pushV H cs).get x = some b → x ≠ H.size → H.get x = some b ∧ f' x = f x := by
    intro x b hx hne
    have hlt : x < H.size := by have := Heap.get_lt hx; simp [pushV] at this; omega
    refine ⟨?_, by simp [f', hne]⟩
    rwa [pushV, Heap.get_push_old _ _ _ hlt] at hx
  have hnew : ∀ b, (pushV H cs).get H.size = some b → b = ⟨cs⟩ := by
    intro b hb
    have := (Heap.get_root hb).1
    rw [pushV, Heap.root_push] at this
    simpa using this.symm
  have hf0 : f' H.size = some ⟨w.heap.size, 0, room⟩ := by simp [f']
  refine ⟨f', hf0, ⟨hle, ?_, ?_, rfl, rfl, ?_, by omega, rfl, rfl, rfl, ?_, ?_⟩, ⟨?_, ?_, ?_, ?_⟩⟩
  · intro x hx
    simp [pushV] at hx
    by_cases e : x = H.size
    · omega
    · simp [f', e]
  · simp [pushV]
  · intro x hx _
    rw [pushV, Heap.root_push, if_neg (by omega)]
  · intro cb hcb _
    exact heap_alloc_old' w _ hcb
  · intro cb hcb ⟨x, b, l, hx, hm, hl, hb⟩
    by_cases e : x = H.size
    · subst e
      rw [hf0] at hl
      cases hl
      simp at hb; omega
    · obtain ⟨h1, h2⟩ := hold x b hx e
      exact ⟨x, b, l, h1, by simpa [mine_iff, pushV] using hm, by rw [← h2]; exact hl, hb⟩
  · intro x b hx
    by_cases e : x = H.size
    · subst e
      have := hnew b hx
      subst this
      refine ⟨_, C, _, _, hf0, heap_alloc_new' w _, ?_, ?_⟩
      · intro i v hi
        obtain ⟨v', h1, h2⟩ := hv i v hi
        exact ⟨hc v (List.mem_of_getElem? hi), v', by simpa using h1, h2.mono hle⟩
      · intro _
        exact ⟨rfl, hr⟩
    · obtain ⟨h1, h2⟩ := hold x b hx e
      obtain ⟨l, C', e', fr, hf, hw, hcs, hm⟩ := h.blk x b h1
      refine ⟨l, C', e', fr, by rw [h2]; exact hf, ?_, ?_, ?_⟩
      · rw [heap_alloc_old' w _ (h.big x l hf)]; exact hw
      · intro i v hi
        obtain ⟨a1, v', a2, a3⟩ := hcs i v hi
        exact ⟨a1, v', a2, a3.mono hle⟩
      · intro hmm
        exact hm (by simpa [mine_iff, pushV] using hmm)
  · intro x l hx
    rw [hsz]
    by_cases e : x = H.size
    · subst e; rw [hf0] at hx; cases hx; simp
    · have := h.big x l (by simpa [f', e] using hx)
      omega
  · have := h.lk
    simp [pushV]; omega
  · intro x y b c l m hx hy hm hne hl hmm
    by_cases ex : x = H.size
    · subst ex
      rw [hf0] at hl; cases hl
      obtain ⟨h1, h2⟩ := hold y c hy (Ne.symm hne)
      have := h.big y m (by rw [← h2]; exact hmm)
      simp; omega
    · obtain ⟨h1, h2⟩ := hold x b hx ex
      by_cases ey : y = H.size
      · subst ey
        rw [hf0] at hmm; cases hmm
        have := h.big x l (by rw [← h2]; exact hl)
        simp; omega
      · obtain ⟨h3, h4⟩ := hold y c hy ey
        exact h.inj x y b c l m h1 h3 (by simpa [mine_iff, pushV] using hm) hne (by rw [← h2]; exact hl) (by rw [← h4]; exact hmm)

/-- Cells are written. -/
theorem R.store {f : Fm} {H H' : Heap} {w : World} (h : R f H w) {b off : Nat} {vs vs' : List Value} (hs : setCells H b off vs = some H') (hv : VL f vs vs') (hc : ∀ u ∈ vs, isCell u = true) :
    ∃ l C e, f b = some l ∧ w.heap[l.blk]? = some (.cells C e (0, 0)) ∧ l.off + off + vs'.length ≤ C.size ∧
      Stp f H w f H' (w.setRow l.blk (C.toList.take (l.off + off) ++ vs' ++ C.toList.drop (l.off + off + vs'.length)).toArray) ∧
      R f H' (w.setRow l.blk (C.toList.take (l.off + off) ++ vs' ++ C.toList.drop (l.off + off + vs'.length)).toArray) := by
  unfold setCells at hs
  cases hb : H.get b with
  | none => simp [hb] at hs
  | some k =>
    simp only [hb] at hs
    split at hs
    · rename_i hcond
      simp only [Bool.and_eq_true, decide_eq_true_eq] at hcond
      obtain ⟨⟨hm, hpos⟩, hlen⟩ := hcond
      cases hs
      obtain ⟨l, C, e, fr, hf, hw, hcs, hmm⟩ := h.blk b k hb
      obtain ⟨hfr, hroom⟩ := hmm hm
      subst hfr
      have hvl := hv.1
      -- the concrete row reaches as far as the block's cells
      have hCs : ∀ i, i < k.cells.length → l.off + i < C.size := by
        intro i hi
        obtain ⟨_, v', hv', _⟩ := hcs i _ (List.getElem?_eq_getElem hi)
        exact (Array.getElem?_eq_some_iff.1 hv').1
      have hfit : l.off + off + vs'.length ≤ C.size := by
        have := hCs (off + vs'.length - 1) (by omega)
        omega
      let D : Array Value := (C.toList.take (l.off + off) ++ vs' ++ C.toList.drop (l.off + off + vs'.length)).toArray
      have hD : (C.toList.take (l.off + off) ++ vs' ++ C.toList.drop (l.off + off + vs'.length)).toArray = D := rfl
      have hDsize : D.size = C.size := by simp [D]; omega
      have hDget : ∀ i, D[l.off + i]? = if i < off then C[l.off + i]? else if i < off + vs'.length then vs'[i - off]? else C[l.off + i]? := by
        intro i
        simp only [D, List.getElem?_toArray, List.getElem?_append, List.length_append, List.length_take, Array.length_toList, List.getElem?_take, List.getElem?_drop]
        have hmin : min (l.off + off) C.size = l.off + off := by omega
        rw [hmin]
        by_cases h1 : i < off
        · rw [if_pos (by omega), if_pos (by omega), if_pos (by omega), if_pos h1]; simp
        · by_cases h2 : i < off + vs'.length
          · rw [if_pos (by omega), if_neg (by omega), if_neg h1, if_pos h2]; congr 1; omega
          · rw [if_neg (by omega), if_neg h1, if_neg h2]; simp; congr 1; omega
      have hget : ∀ x c, (H.put b (some ⟨k.cells.take off ++ vs ++ k.cells.drop (off + vs.length)⟩)).get x = some c →
          (x = b ∧ c = ⟨k.cells.take off ++ vs ++ k.cells.drop (off + vs.length)⟩) ∨ (x ≠ b ∧ H.get x = some c) := by
        intro x c hx
        by_cases ex : x = b
        · subst ex
          rw [Heap.get_put_same H x _ hb] at hx
          exact .inl ⟨rfl, (Option.some.inj hx).symm⟩
        · rw [Heap.get_put_other _ _ _ _ ex] at hx
          exact .inr ⟨ex, hx⟩
      have hmineb : H.mine b k = true := hm
      refine ⟨l, C, e, hf, hw, hfit, ?_, ?_⟩
      · refine ⟨.refl f, fun _ _ => rfl, Nat.le_refl _, rfl, rfl, ?_, by simp, rfl, rfl, rfl, ?_, ?_⟩
        · intro x _ hx
          rw [Heap.root_put, if_neg]
          intro ex
          have := mine_iff.1 hm
          omega
        · intro cb _ hn
          exact setRow_other w l.blk cb _ (fun ex => hn ⟨b, k, l, hb, hm, hf, ex.symm⟩)
        · intro cb _ ⟨x, c, m, hx, hxm, hfm, hcb⟩
          rcases hget x c hx with ⟨rfl, rfl⟩ | ⟨_, hx'⟩
          · exact ⟨x, k, m, hb, by simpa [mine_iff] using hxm, hfm, hcb⟩
          · exact ⟨x, c, m, hx', by simpa [mine_iff] using hxm, hfm, hcb⟩
      · refine ⟨?_, by simpa using h.big, h.lk, ?_⟩
        · intro x c hx
          rcases hget x c hx with ⟨rfl, rfl⟩ | ⟨hne, hx'⟩
          · refine ⟨l, D, e, (0, 0), hf, setRow_heap w l.blk C _ e (0, 0) hw, ?_, ?_⟩
            · intro i v hi
              rw [hDget i]
              simp only [List.getElem?_append, List.length_append, List.length_take, List.getElem?_take, List.getElem?_drop] at hi
              have hmin : min off k.cells.length = off := by omega
              rw [hmin] at hi
              by_cases h1 : i < off
              · rw [if_pos (by omega), if_pos h1, if_pos h1] at hi
                rw [if_pos h1]
                exact hcs i v hi
              · by_cases h2 : i < off + vs.length
                · rw [if_pos (by omega), if_neg h1] at hi
                  rw [if_neg h1, if_pos (by omega)]
                  obtain ⟨v', h3, h4⟩ := hv.get hi
                  exact ⟨hc v (List.mem_of_getElem? hi), v', h3, h4⟩
                · rw [if_neg (by omega)] at hi
                  rw [if_neg h1, if_neg (by omega)]
                  have : off + vs.length + (i - (off + vs.length)) = i := by omega
                  rw [this] at hi
                  exact hcs i v hi
            · intro hxm
              refine ⟨rfl, ?_⟩
              simp only [hDsize]
              exact hroom
          · obtain ⟨m, C', e', fr, hfm, hw', hcs', hmm'⟩ := h.blk x c hx'
            have hne' : m.blk ≠ l.blk := Ne.symm (h.inj b x k c l m hb hx' hm (Ne.symm hne) hf hfm)
            exact ⟨m, C', e', fr, hfm, by rw [setRow_other w l.blk m.blk _ hne']; exact hw', hcs', fun hxm => hmm' (by simpa [mine_iff] using hxm)⟩
        · intro x y c d m n hx hy hxm hne hfm hfn
          have hx1 : ∃ c', H.get x = some c' ∧ H.mine x c' = true := by
            rcases hget x c hx with ⟨rfl, rfl⟩ | ⟨_, hx'⟩
            · exact ⟨k, hb, hm⟩
            · exact ⟨c, hx', by simpa [mine_iff] using hxm⟩
          have hy1 : ∃ d', H.get y = some d' := by
            rcases hget y d hy with ⟨rfl, rfl⟩ | ⟨_, hy'⟩
            · exact ⟨k, hb⟩
            · exact ⟨d, hy'⟩
          obtain ⟨c', hc', hcm⟩ := hx1
          obtain ⟨d', hd'⟩ := hy1
          exact h.inj x y c' d' m n hc' hd' hcm hne hfm hfn
    · cases hs
end Go.Proofs.Ytoiijpphfckdjaa.Ev
