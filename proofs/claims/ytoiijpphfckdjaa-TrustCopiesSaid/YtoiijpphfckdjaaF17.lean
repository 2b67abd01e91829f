/-
  The arguments of a law: data of any depth.
-/
import Derived.Test.YtoiijpphfckdjaaF16
namespace Go.Proofs.Ytoiijpphfckdjaa.Ev
noncomputable section
open Go
open Go.RowKit (Below)
set_option linter.unusedVariables false
set_option linter.unusedSimpArgs false

/-- Nothing of one's own. -/
def phi0 : Phi := ⟨fun _ => none, fun _ => False⟩
def hp0 : SHeap := ⟨0, .e, 0, []⟩
theorem own0 (x : Nat) : ¬ Own phi0 hp0 x := by
  rintro (h | ⟨id, B, h, _⟩)
  · exact h
  · have := SHeap.get_lt h; simp [hp0] at this
theorem sim0 {H : Heap} (hl : H.lock ≤ H.size) (hh : H.hid = []) : Sim phi0 hp0 H := by
  refine ⟨fun id B h => ?_, fun id id' B B' x h => ?_, fun _ _ => rfl, (fun id x h => by cases h), Nat.le_refl _, hl, fun x _ => by rw [hh]; rfl⟩
  · have := SHeap.get_lt h; simp [hp0] at this
  · have := SHeap.get_lt h; simp [hp0] at this

/-! ### Data that is well formed -/
mutual
def WfS : Sch → Dat → Prop
  | .int k, d => (Lit.int k d.int).wf = true
  | .bool, _ => True
  | .ints k, d => d.sub.length ≤ 140737488355328 ∧ ∀ x ∈ d.sub, (Lit.int k x.int).wf = true
  | .recs l, d => d.sub.length ≤ 140737488355328 ∧ ∀ x ∈ d.sub, WfR l x.sub
def WfR : List Sch → List Dat → Prop
  | [], [] => True
  | s :: l, d :: r => WfS s d ∧ WfR l r
  | _, _ => False
end
theorem WfR.len : ∀ {l : List Sch} {r : List Dat}, WfR l r → r.length = l.length
  | [], [], _ => rfl
  | s :: l, d :: r, h => by simp [WfR] at h; simp [h.2.len]
  | [], _ :: _, h => by simp [WfR] at h
  | _ :: _, [], h => by simp [WfR] at h
theorem WfR.append : ∀ {a b : List Sch} {r s : List Dat}, WfR a r → WfR b s → WfR (a ++ b) (r ++ s)
  | [], _, [], _, _, h => h
  | x :: a, _, d :: r, _, h, k => by simp only [WfR, List.cons_append] at h ⊢; exact ⟨h.1, h.2.append k⟩
  | [], _, _ :: _, _, h, _ => by simp [WfR] at h
  | _ :: _, _, [], _, h, _ => by simp [WfR] at h

/-- What stands in cells of these kinds. -/
def svs : List Sch → List Dat → List SV
  | s :: l, d :: r => decS s d :: svs l r
  | _, _ => []
theorem svs_append : ∀ {a b : List Sch} {r s : List Dat}, r.length = a.length → svs (a ++ b) (r ++ s) = svs a r ++ svs b s
  | [], _, [], _, _ => rfl
  | x :: a, _, d :: r, _, h => by simp only [List.cons_append, svs]; rw [svs_append (by simpa using h)]
  | [], _, _ :: _, _, h => by simp at h
  | _ :: _, _, [], _, h => by simp at h
theorem svs_get : ∀ {a : List Sch} {r : List Dat} (j : Nat), r.length = a.length → (svs a r)[j]? = (a[j]?).map fun s => decS s (r.getD j (.n 0))
  | [], [], j, _ => by simp [svs]
  | x :: a, d :: r, 0, _ => by simp [svs]
  | x :: a, d :: r, j + 1, h => by simpa [svs] using svs_get (a := a) (r := r) j (by simpa using h)
  | [], _ :: _, _, h => by simp at h
  | _ :: _, [], _, h => by simp at h

/-! ### The evaluator's heap grows by what is looked at -/
structure RW (f : Fm) (H : Heap) (w : World) : Prop where
  r : R f H w
  lock : H.lock = H.size
  hid : H.hid = []
  free : ∀ j, H.size ≤ j → f j = none
theorem RW.nil (w : World) : RW (fun _ => none) Ev.nil w := ⟨R.nil w, rfl, rfl, fun _ _ => rfl⟩
def Grow (f : Fm) (H : Heap) (f' : Fm) (H' : Heap) : Prop := Le f f' ∧ ∀ x c, H.get x = some c → H'.get x = some c
theorem Grow.refl (f : Fm) (H : Heap) : Grow f H f H := ⟨Le.refl f, fun _ _ h => h⟩
theorem Grow.trans {f g h : Fm} {H K M : Heap} (a : Grow f H g K) (b : Grow g K h M) : Grow f H h M := ⟨a.1.trans b.1, fun x c hx => b.2 x c (a.2 x c hx)⟩
theorem Grow.ext {f f' : Fm} {H H' : Heap} (g : Grow f H f' H') : Ext phi0 H (Own phi0 hp0) phi0 H' (Own phi0 hp0) :=
  ⟨fun _ _ h => h, fun x c h1 h2 => ⟨g.2 x c h1, h2⟩, fun id x c' h1 => by cases h1⟩

theorem RW.push {f : Fm} {H : Heap} {w : World} (h : RW f H w) (cs : List Value) (l : Loc) {C : Array Value} {e : TypeId} {fr : Nat × Nat} (hl : w.heap[l.blk]? = some (.cells C e fr))
    (hc : ∀ (i : Nat) v, cs[i]? = some v → isCell v = true ∧ ∃ v', C[l.off + i]? = some v' ∧ V f v v') :
    ∃ f' H', RW f' H' w ∧ Grow f H f' H' ∧ H'.get H.size = some ⟨cs⟩ ∧ f' H.size = some l := by
  let f' : Fm := fun x => if x = H.size then some l else f x
  let H' : Heap := { pushV H cs with lock := H.size + 1 }
  have hle : Le f f' := fun x m hx => by
    have : x ≠ H.size := by rintro rfl; rw [h.free _ (Nat.le_refl _)] at hx; cases hx
    show (if x = H.size then _ else _) = _
    rw [if_neg this]; exact hx
  have hnew : f' H.size = some l := if_pos rfl
  have hroot : ∀ x, H'.root.get x = if x = H.size then some ⟨cs⟩ else H.root.get x := fun x => Heap.root_push _ _ _
  have hsz : H'.size = H.size + 1 := rfl
  have hhid : H'.hid = [] := h.hid
  have hget : ∀ x, H'.get x = if x = H.size then some ⟨cs⟩ else H.get x := by
    intro x
    by_cases e : x = H.size
    · subst e
      rw [if_pos rfl]
      unfold Heap.get
      rw [if_pos (by omega), hhid, hroot, if_pos rfl]
      rfl
    · rw [if_neg e]
      unfold Heap.get
      by_cases hx : x < H.size
      · rw [if_pos (by omega), if_pos hx, hhid, h.hid, hroot, if_neg e]
      · rw [if_neg (by omega), if_neg hx]
  refine ⟨f', H', ⟨⟨?_, ?_, Nat.le_refl _, ?_⟩, rfl, hhid, ?_⟩, ⟨hle, fun x c hx => ?_⟩, by rw [hget, if_pos rfl], hnew⟩
  · intro x B hx
    rw [hget] at hx
    split at hx
    · rename_i e1
      cases hx; subst e1
      refine ⟨l, C, e, fr, hnew, hl, fun i v hi => ?_, fun hm => ?_⟩
      · obtain ⟨h1, v', h2, h3⟩ := hc i v hi
        exact ⟨h1, v', h2, h3.mono hle⟩
      · rw [mine_iff] at hm
        have : H.size + 1 ≤ H.size := hm
        omega
    · obtain ⟨m, C', e', fr', g1, g2, g3, g4⟩ := h.r.blk x B hx
      refine ⟨m, C', e', fr', hle _ _ g1, g2, fun i v hi => ?_, fun hm => ?_⟩
      · obtain ⟨g5, v', g6, g7⟩ := g3 i v hi
        exact ⟨g5, v', g6, g7.mono hle⟩
      · rw [mine_iff] at hm
        have h5 : H.size + 1 ≤ x := hm
        have := Heap.get_lt hx
        omega
  · intro x m hx
    have hx : (if x = H.size then some l else f x) = some m := hx
    split at hx
    · cases hx
      obtain ⟨hlt, _⟩ := Array.getElem?_eq_some_iff.1 hl
      exact hlt
    · exact h.r.big x m hx
  · intro x y B B' m m' hx _ hm
    rw [mine_iff] at hm
    have h5 : H.size + 1 ≤ x := hm
    have : x < H.size + 1 := Heap.get_lt hx
    omega
  · intro j hj
    have hj : H.size + 1 ≤ j := hj
    show (if j = H.size then _ else _) = _
    rw [if_neg (by omega)]
    exact h.free j (by omega)
  · have := Heap.get_lt hx
    rw [hget, if_neg (by omega)]
    exact hx

/-- Cells of these kinds may be looked at. -/
def Good (w : World) (ss : List Sch) (cs : List Value) : Prop := ∀ f H, RW f H w → ∃ f' H' cs' r, RW f' H' w ∧ Grow f H f' H' ∧ VL f' cs' cs ∧ (∀ v ∈ cs', isCell v = true) ∧
  DVL phi0 H' (Own phi0 hp0) (svs ss r) cs' ∧ WfR ss r

theorem Good.nil (w : World) : Good w [] [] := fun f H h => ⟨f, H, [], [], h, .refl f H, .nil f, by simp, .nil, trivial⟩
theorem Good.append {w : World} {a b : List Sch} {c d : List Value} (h : Good w a c) (k : Good w b d) : Good w (a ++ b) (c ++ d) := by
  intro f H hR
  obtain ⟨f1, H1, c1, r1, a1, a2, a3, a4, a5, a6⟩ := h f H hR
  obtain ⟨f2, H2, c2, r2, b1, b2, b3, b4, b5, b6⟩ := k f1 H1 a1
  refine ⟨f2, H2, c1 ++ c2, r1 ++ r2, b1, a2.trans b2, (a3.mono b2.1).append b3, fun v hv => ?_, ?_, a6.append b6⟩
  · rcases List.mem_append.1 hv with h | h
    · exact a4 v h
    · exact b4 v h
  · rw [svs_append a6.len]
    exact (a5.mono b2.ext).append b5
theorem Good.flatten {w : World} : ∀ {l : List (List Sch × List Value)}, (∀ p ∈ l, Good w p.1 p.2) → Good w (l.map (·.1)).flatten (l.map (·.2)).flatten
  | [], _ => Good.nil w
  | p :: l, h => by
    simp only [List.map_cons, List.flatten_cons]
    exact (h p (by simp)).append (Good.flatten fun q hq => h q (by simp [hq]))

/-! ### Types -/
section
variable (P : Program)
def fitFs (r : TypeId → Option (List Sch)) : List Field → Nat → Option (List Sch × Nat)
  | [], n => some ([], n)
  | f :: fs, n =>
    match r f.type with
    | some l => (match decide (f.offset = n ∧ l.length = P.cellsOf f.type) with
      | true => (match fitFs r fs (n + l.length) with | some (m, k) => some (l ++ m, k) | none => none)
      | false => none)
    | none => none
/-- The cells of a type, if it is whole numbers and rows throughout. -/
def fitT : Nat → TypeId → Option (List Sch)
  | 0, _ => none
  | d + 1, t =>
    match P.underlying t with
    | some (.int k) => some [.int k]
    | some .bool => some [.bool]
    | some (.slice e) =>
      (match P.underlying e with
       | some (.int k) => (match decide (P.cellsOf e = 1 ∧ 0 < P.bytesOf e) with | true => some [.ints k] | false => none)
       | _ => (match fitT d e with
         | some l => (match decide (l.length = P.cellsOf e ∧ 0 < l.length ∧ 0 < P.bytesOf e) with | true => some [.recs l] | false => none)
         | none => none))
    | some (.struct fs) => (match fitFs P (fitT d) fs.toList 0 with | some (l, n) => (match decide (n = P.cellsOf t) with | true => some l | false => none) | none => none)
    | some (.array n e) => (match fitT d e with
      | some l => (match decide (l.length = P.cellsOf e ∧ P.cellsOf t = n * l.length) with | true => some (List.replicate n l).flatten | false => none)
      | none => none)
    | _ => none
end

theorem mapM_mem {α β : Type} {g : α → Option β} : ∀ {l : List α} {r : List β}, l.mapM g = some r → ∀ x ∈ l, ∃ y ∈ r, g x = some y
  | [], _, _, x, hx => by simp at hx
  | a :: l, r, h, x, hx => by
    rw [List.mapM_cons] at h
    cases ha : g a with
    | none => rw [ha] at h; cases h
    | some y =>
      rw [ha] at h
      cases hl : l.mapM g with
      | none => simp [hl] at h
      | some s =>
        simp [hl] at h
        subst h
        rcases List.mem_cons.1 hx with rfl | hx
        · exact ⟨y, by simp, ha⟩
        · obtain ⟨z, h1, h2⟩ := mapM_mem hl x hx
          exact ⟨z, by simp [h1], h2⟩
theorem weightsAll_mem {HH : Type} {P : Program} {e : TypeId} {n : Nat} {d : DataW HH} : ∀ {l : List (DataW HH)}, d ∈ l → n ∈ d.weights P e → n ∈ DataW.weightsAll P e l
  | [], h, _ => by simp at h
  | x :: l, h, hn => by
    rw [DataW.weightsAll]
    rcases List.mem_cons.1 h with rfl | h
    · exact List.mem_append_left _ hn
    · exact List.mem_append_right _ (weightsAll_mem h hn)
/-- No slice in it is too long. -/
def Slim {HH : Type} (P : Program) (t : TypeId) (d : DataW HH) : Prop := ∀ n ∈ d.weights P t, n ≤ reachBytes
theorem mapM_slim {HH α : Type} {P : Program} {T : α → TypeId} {g : α → Option (DataW HH × List MemPlace)} : ∀ {l : List α} {r : List (DataW HH × List MemPlace)}, l.mapM g = some r → (∀ n ∈ DataW.weightsEach P (l.map T) (r.map (·.1)), n ≤ reachBytes) → ∀ x ∈ l, ∃ y, g x = some y ∧ Slim P (T x) y.1
  | [], _, _, _, x, hx => by simp at hx
  | a :: l, r, h, hz, x, hx => by
    rw [List.mapM_cons] at h
    cases ha : g a with
    | none => rw [ha] at h; cases h
    | some y =>
      rw [ha] at h
      cases hl : l.mapM g with
      | none => simp [hl] at h
      | some s =>
        simp [hl] at h
        subst h
        simp only [List.map_cons, DataW.weightsEach] at hz
        rcases List.mem_cons.1 hx with rfl | hx
        · exact ⟨y, ha, fun n hn => hz n (List.mem_append_left _ hn)⟩
        · exact mapM_slim hl (fun n hn => hz n (List.mem_append_right _ hn)) x hx
theorem mapM_some {α β : Type} {g : α → Option β} : ∀ {l : List α} {r : List β}, l.mapM g = some r → ∀ x ∈ l, ∃ y, g x = some y
  | [], _, _, x, hx => by simp at hx
  | a :: l, r, h, x, hx => by
    rw [List.mapM_cons] at h
    cases ha : g a with
    | none => rw [ha] at h; cases h
    | some y =>
      rw [ha] at h
      cases hl : l.mapM g with
      | none => simp [hl] at h
      | some s =>
        rcases List.mem_cons.1 hx with rfl | hx
        · exact ⟨y, ha⟩
        · exact mapM_some hl x hx
theorem mapM_get {α β : Type} {g : α → Option β} : ∀ {l : List α} {r : List β}, l.mapM g = some r → r.length = l.length ∧ ∀ (i : Nat) x, l[i]? = some x → ∃ y, r[i]? = some y ∧ g x = some y
  | [], r, h => by
    rw [List.mapM_nil] at h
    cases h
    exact ⟨rfl, fun i x hx => by simp at hx⟩
  | a :: l, r, h => by
    rw [List.mapM_cons] at h
    cases ha : g a with
    | none => rw [ha] at h; cases h
    | some y =>
      rw [ha] at h
      cases hl : l.mapM g with
      | none => simp [hl] at h
      | some s =>
        rw [hl] at h
        have h : some (y :: s) = some r := h
        cases h
        obtain ⟨h1, h2⟩ := mapM_get hl
        refine ⟨by simp [h1], fun i x hx => ?_⟩
        cases i with
        | zero => simp at hx; subst hx; exact ⟨y, by simp, ha⟩
        | succ i => simpa using h2 i x (by simpa using hx)

theorem cells_at {w : World} {a : Addr} {n : Nat} {cs : List Value} (h : w.cells? 0 a n = some cs) : cs.length = n ∧ ∀ j, j < n → w.cell? (a.add j) = cs[j]? := by
  unfold World.cells? at h
  rw [if_pos (Nat.zero_le _)] at h
  obtain ⟨h1, h2⟩ := mapM_get h
  refine ⟨by rw [h1]; simp, fun j hj => ?_⟩
  obtain ⟨y, h3, h4⟩ := h2 j j (by simp [hj])
  rw [h4, h3]

theorem flat_get : ∀ {l : List (List Value)} {n : Nat}, (∀ x ∈ l, x.length = n) → l.flatten.length = l.length * n ∧ ∀ (i j : Nat) x, l[i]? = some x → j < n → l.flatten[i * n + j]? = x[j]?
  | [], n, _ => ⟨by simp, fun i j x h => by simp at h⟩
  | a :: l, n, h => by
    have ha : a.length = n := h a (by simp)
    obtain ⟨h1, h2⟩ := flat_get (l := l) (n := n) fun x hx => h x (by simp [hx])
    refine ⟨by simp only [List.flatten_cons, List.length_append, List.length_cons]; rw [h1, ha, Nat.add_mul]; omega, fun i j x hi hj => ?_⟩
    simp only [List.flatten_cons]
    cases i with
    | zero =>
      simp at hi; subst hi
      rw [Nat.zero_mul, Nat.zero_add, List.getElem?_append_left (by omega)]
    | succ i =>
      rw [List.getElem?_append_right (by rw [ha, Nat.add_mul]; omega), ha]
      rw [show (i + 1) * n + j - n = i * n + j by rw [Nat.add_mul]; omega]
      exact h2 i j x (by simpa using hi) hj

/-- Data, row by row. -/
def rowsD (n : Nat) : Nat → List Dat → List Dat
  | 0, _ => []
  | m + 1, r => .r (r.take n) :: rowsD n m (r.drop n)
theorem rowsD_len (n : Nat) : ∀ (m : Nat) (r : List Dat), (rowsD n m r).length = m
  | 0, _ => rfl
  | m + 1, r => by simp [rowsD, rowsD_len n m]
theorem rowsD_get (n : Nat) : ∀ (m : Nat) (r : List Dat) (i : Nat), i < m → (rowsD n m r)[i]? = some (.r ((r.drop (i * n)).take n))
  | m + 1, r, 0, _ => by simp [rowsD]
  | m + 1, r, i + 1, h => by
    simp only [rowsD, List.getElem?_cons_succ]
    rw [rowsD_get n m _ i (by omega), List.drop_drop, Nat.add_mul, Nat.one_mul, Nat.add_comm n]
theorem WfR.split : ∀ {a b : List Sch} {r : List Dat}, WfR (a ++ b) r → WfR a (r.take a.length) ∧ WfR b (r.drop a.length)
  | [], b, r, h => by simpa [WfR] using h
  | x :: a, b, d :: r, h => by
    simp only [List.cons_append, WfR] at h
    obtain ⟨h1, h2⟩ := WfR.split h.2
    simp only [List.length_cons, List.take_succ_cons, List.drop_succ_cons, WfR]
    exact ⟨⟨h.1, h1⟩, h2⟩
  | x :: a, b, [], h => by simp [WfR] at h
theorem WfR.rows {l : List Sch} : ∀ (m : Nat) {r : List Dat}, WfR (List.replicate m l).flatten r → ∀ d ∈ rowsD l.length m r, WfR l d.sub
  | 0, r, _, d, hd => by simp [rowsD] at hd
  | m + 1, r, h, d, hd => by
    rw [List.replicate_succ, List.flatten_cons] at h
    obtain ⟨h1, h2⟩ := h.split
    simp only [rowsD, List.mem_cons] at hd
    rcases hd with rfl | hd
    · exact h1
    · exact WfR.rows m h2 d hd

section
variable {P : Program} {HH : Type} {enc : TypeId × Value → HH} {w : World}

theorem fitFs_good {r : TypeId → Option (List Sch)} {g : TypeId → List Value → Option (DataW HH × List MemPlace)} (ih : ∀ t cs x ss, g t cs = some x → Slim P t x.1 → r t = some ss → Good w ss cs ∧ cs.length = ss.length) (cs : List Value) :
    ∀ {fs : List Field} {n m : Nat} {l : List Sch}, fitFs P r fs n = some (l, m) → (∀ f ∈ fs, ∃ y, g f.type ((cs.drop f.offset).take (P.cellsOf f.type)) = some y ∧ Slim P f.type y.1) → n + l.length = m ∧ (m ≤ cs.length → Good w l ((cs.drop n).take l.length))
  | [], n, m, l, h, _ => by cases h; exact ⟨by simp, fun _ => by simpa using Good.nil w⟩
  | f :: fs, n, m, l, h, hg => by
    simp only [fitFs] at h
    split at h
    · rename_i a ha
      split at h
      · rename_i hc
        obtain ⟨h1, h2⟩ := of_decide_eq_true hc
        split at h
        · rename_i b k hb
          cases h
          obtain ⟨y, hy⟩ := hg f (by simp)
          obtain ⟨g1, g2⟩ := ih _ _ _ _ hy.1 hy.2 ha
          obtain ⟨e1, e2⟩ := fitFs_good ih cs hb (fun q hq => hg q (by simp [hq]))
          refine ⟨by simp; omega, fun hle => ?_⟩
          have := g1.append (e2 hle)
          rw [h1, ← h2] at this
          rw [List.length_append]
          have e : (cs.drop n).take (a.length + b.length) = (cs.drop n).take a.length ++ (cs.drop (n + a.length)).take b.length := by
            rw [List.take_add, List.drop_drop]
          rw [e]; exact this
        · cases h
      · cases h
    · cases h

theorem trod_int {fuel : Nat} {t : TypeId} {k : IntKind} {cs : List Value} {x : DataW HH × List MemPlace} (hu : P.underlying t = some (.int k)) (h : DataW.trod enc P w 0 (fun _ => true) true (fuel + 1) t cs = some x) :
    ∃ n, cs = [.int k n] ∧ (Lit.int k n).wf = true := by
  rcases cs with _ | ⟨v, _ | ⟨v2, tl⟩⟩
  · simp [DataW.trod, hu] at h
  · cases v <;> simp only [DataW.trod, hu, reduceCtorEq] at h
    split at h
    · rename_i hc
      exact ⟨_, by rw [hc.1], hc.2⟩
    · cases h
  · simp [DataW.trod, hu] at h
theorem trod_bool {fuel : Nat} {t : TypeId} {cs : List Value} {x : DataW HH × List MemPlace} (hu : P.underlying t = some .bool) (h : DataW.trod enc P w 0 (fun _ => true) true (fuel + 1) t cs = some x) :
    ∃ b, cs = [.bool b] := by
  rcases cs with _ | ⟨v, _ | ⟨v2, tl⟩⟩
  · simp [DataW.trod, hu] at h
  · cases v <;> simp only [DataW.trod, hu, reduceCtorEq] at h
    exact ⟨_, rfl⟩
  · simp [DataW.trod, hu] at h
theorem trod_slice {fuel : Nat} {t e : TypeId} {cs : List Value} {x : DataW HH × List MemPlace} (hu : P.underlying t = some (.slice e)) (h : DataW.trod enc P w 0 (fun _ => true) true (fuel + 1) t cs = some x) :
    cs = [.slice none 0 0] ∨ ∃ a len cap, cs = [.slice (some a) len cap] ∧ len ≤ cap ∧ (Slim P t x.1 → cap * P.bytesOf e ≤ reachBytes) ∧ ∀ i, i < cap → ∃ c y, w.cells? 0 (a.add (i * P.cellsOf e)) (P.cellsOf e) = some c ∧ DataW.trod enc P w 0 (fun _ => true) true fuel e c = some y ∧ (Slim P t x.1 → Slim P e y.1) := by
  rcases cs with _ | ⟨v, _ | ⟨v2, tl⟩⟩
  · simp [DataW.trod, hu] at h
  · cases v <;> simp only [DataW.trod, hu, reduceCtorEq] at h
    rename_i a len cap
    cases a with
    | none =>
      left
      cases len <;> cases cap <;> simp [DataW.trod, hu] at h
      rfl
    | some a =>
      right
      simp only [DataW.trod, hu] at h
      split at h
      · rename_i hc
        rw [Option.bind_eq_some_iff] at h
        obtain ⟨elems, h1, h2⟩ := h
        rw [Option.map_eq_some_iff] at h2
        obtain ⟨rest, h2, hx⟩ := h2
        simp only [if_true] at h2
        have hw : x.1.weights P t = ((elems.map (·.1)).length + (rest.map (·.1)).length) * P.bytesOf e :: (DataW.weightsAll P e (elems.map (·.1)) ++ DataW.weightsAll P e (rest.map (·.1))) := by
          rw [← hx]; simp only [DataW.weights, hu]
        have l1 := (mapM_get h1).1
        have l2 := (mapM_get h2).1
        rw [List.length_range] at l1 l2
        refine ⟨a, len, cap, rfl, hc.2.1, fun hs => ?_, fun i hi => ?_⟩
        · have := hs _ (by rw [hw]; exact List.mem_cons_self ..)
          rw [List.length_map, List.length_map, l1, l2] at this
          rwa [show len + (cap - len) = cap by omega] at this
        have key : ∃ y, (w.cells? 0 (a.add (i * P.cellsOf e)) (P.cellsOf e)).bind (DataW.trod enc P w 0 (fun _ => true) true fuel e) = some y ∧ (Slim P t x.1 → Slim P e y.1) := by
          by_cases hl : i < len
          · obtain ⟨y, hm, hy⟩ := mapM_mem h1 i (List.mem_range.2 hl)
            exact ⟨y, hy, fun hs n hn => hs n (by rw [hw]; exact List.mem_cons_of_mem _ (List.mem_append_left _ (weightsAll_mem (List.mem_map.2 ⟨y, hm, rfl⟩) hn)))⟩
          · obtain ⟨y, hm, hy⟩ := mapM_mem h2 (i - len) (List.mem_range.2 (by omega))
            rw [show len + (i - len) = i by omega] at hy
            exact ⟨y, hy, fun hs n hn => hs n (by rw [hw]; exact List.mem_cons_of_mem _ (List.mem_append_right _ (weightsAll_mem (List.mem_map.2 ⟨y, hm, rfl⟩) hn)))⟩
        obtain ⟨y, hy, hys⟩ := key
        rw [Option.bind_eq_some_iff] at hy
        obtain ⟨c, g1, g2⟩ := hy
        exact ⟨c, y, g1, g2, hys⟩
      · cases h
  · simp [DataW.trod, hu] at h
theorem trod_struct {fuel : Nat} {t : TypeId} {fs : Array Field} {cs : List Value} {x : DataW HH × List MemPlace} (hu : P.underlying t = some (.struct fs)) (h : DataW.trod enc P w 0 (fun _ => true) true (fuel + 1) t cs = some x) :
    cs.length = P.cellsOf t ∧ (Slim P t x.1 → ∀ f ∈ fs.toList, ∃ y, DataW.trod enc P w 0 (fun _ => true) true fuel f.type ((cs.drop f.offset).take (P.cellsOf f.type)) = some y ∧ Slim P f.type y.1) := by
  simp only [DataW.trod, hu] at h
  split at h
  · rename_i hc
    rw [Option.map_eq_some_iff] at h
    obtain ⟨xs, h1, hx⟩ := h
    refine ⟨hc, fun hs f hf => mapM_slim (T := fun f => f.type) h1 (fun n hn => hs n ?_) f hf⟩
    rw [← hx]
    simp only [DataW.weights, hu]
    exact hn
  · cases h
theorem trod_array {fuel n : Nat} {t e : TypeId} {cs : List Value} {x : DataW HH × List MemPlace} (hu : P.underlying t = some (.array n e)) (h : DataW.trod enc P w 0 (fun _ => true) true (fuel + 1) t cs = some x) :
    cs.length = P.cellsOf t ∧ ∀ i, i < n → ∃ y, DataW.trod enc P w 0 (fun _ => true) true fuel e ((cs.drop (i * P.cellsOf e)).take (P.cellsOf e)) = some y ∧ (Slim P t x.1 → Slim P e y.1) := by
  simp only [DataW.trod, hu] at h
  split at h
  · rename_i hc
    rw [Option.map_eq_some_iff] at h
    obtain ⟨xs, h1, hx⟩ := h
    refine ⟨hc, fun i hi => ?_⟩
    obtain ⟨y, hm, hy⟩ := mapM_mem h1 i (List.mem_range.2 hi)
    refine ⟨y, hy, fun hs n hn => hs n ?_⟩
    rw [← hx]
    simp only [DataW.weights, hu]
    exact weightsAll_mem (List.mem_map.2 ⟨y, hm, rfl⟩) hn
  · cases h

/-- So many rows beside each other. -/
theorem Good.rows {l : List Sch} {cs : List Value} : ∀ (n : Nat), cs.length = n * l.length → (∀ i, i < n → Good w l ((cs.drop (i * l.length)).take l.length)) → Good w (List.replicate n l).flatten cs
  | 0, hl, _ => by
    have : cs = [] := by simpa using hl
    subst this
    exact Good.nil w
  | n + 1, hl, h => by
    rw [List.replicate_succ, List.flatten_cons]
    have h0 := h 0 (by omega)
    have hr := Good.rows (l := l) (cs := cs.drop l.length) n (by rw [List.length_drop, hl, Nat.add_mul]; omega) (fun i hi => by
      have := h (i + 1) (by omega)
      rwa [Nat.add_mul, Nat.one_mul, Nat.add_comm, ← List.drop_drop] at this)
    have := h0.append hr
    rwa [Nat.zero_mul, List.drop_zero, List.take_append_drop] at this

theorem rep_get {α : Type} {l : List α} {n j : Nat} (hn : l.length = n) (hj : j < n) : ∀ {m i : Nat}, i < m → ((List.replicate m l).flatten)[i * n + j]? = l[j]?
  | m + 1, 0, _ => by
    rw [List.replicate_succ, List.flatten_cons, Nat.zero_mul, Nat.zero_add, List.getElem?_append_left (by omega)]
  | m + 1, i + 1, h => by
    rw [List.replicate_succ, List.flatten_cons, List.getElem?_append_right (by rw [hn, Nat.add_mul]; omega), hn,
      show (i + 1) * n + j - n = i * n + j by rw [Nat.add_mul]; omega]
    exact rep_get hn hj (by omega)
/-- A slice of rows. -/
theorem Good.slice (hblk : ∃ (k0 : Nat) (C : Array Value) (e : TypeId) (fr : Nat × Nat), w.heap[k0]? = some (.cells C e fr)) {l : List Sch} {s : Sch} {a : Addr} {len cap n : Nat} (hcap : len ≤ cap) (hn : l.length = n) (hn1 : 0 < n)
    (hrows : ∀ i, i < cap → ∃ c, w.cells? 0 (a.add (i * n)) n = some c ∧ Good w l c)
    (hs : ∀ (r : List Dat), WfR (List.replicate len l).flatten r → ∃ (d : Dat) (c : Cont), decS s d = .deep c ∧ WfS s d ∧ c.len = len ∧ c.w = n ∧ ∀ i, i < len → c.row i = svs l ((r.drop (i * n)).take n)) :
    Good w [s] [.slice (some a) len cap] := by
  -- the rows' cells
  have hall : ∃ css : List (List Value), css.length = len ∧ ∀ (i : Nat) c, css[i]? = some c → w.cells? 0 (a.add (i * n)) n = some c ∧ Good w l c := by
    have : ∀ m, m ≤ len → ∃ css : List (List Value), css.length = m ∧ ∀ (i : Nat) c, css[i]? = some c → w.cells? 0 (a.add (i * n)) n = some c ∧ Good w l c := by
      intro m
      induction m with
      | zero => intro _; exact ⟨[], rfl, fun i c h => by simp at h⟩
      | succ m ih =>
        intro hm
        obtain ⟨css, h1, h2⟩ := ih (by omega)
        obtain ⟨c, h3, h4⟩ := hrows m (by omega)
        refine ⟨css ++ [c], by simp [h1], fun i d hd => ?_⟩
        rw [List.getElem?_append] at hd
        split at hd
        · exact h2 i d hd
        · rename_i hi
          have : i = m := by
            have := (List.getElem?_eq_some_iff.1 hd).1
            simp at this; omega
          subst this
          rw [h1] at hd
          simp at hd; subst hd
          exact ⟨h3, h4⟩
    exact this len (Nat.le_refl _)
  obtain ⟨css, hcl, hcss⟩ := hall
  have hlen : ∀ c ∈ css, c.length = n := by
    intro c hc
    obtain ⟨i, hi⟩ := List.getElem?_of_mem hc
    exact (cells_at (hcss i c hi).1).1
  obtain ⟨hfl, hfg⟩ := flat_get hlen
  rw [hcl] at hfl
  have hg : Good w (List.replicate len l).flatten css.flatten := by
    refine Good.rows len (by rw [hfl, hn]) (fun i hi => ?_)
    have hi' : css[i]? = some css[i] := List.getElem?_eq_getElem (by omega)
    have e : (css.flatten.drop (i * l.length)).take l.length = css[i] := by
      apply List.ext_getElem?
      intro j
      rw [List.getElem?_take, List.getElem?_drop, hn]
      have hci : (css[i]).length = n := hlen _ (List.getElem_mem _)
      split
      · rename_i hj; exact hfg i j _ hi' hj
      · rw [List.getElem?_eq_none (by omega)]
    rw [e]
    exact (hcss i _ hi').2
  intro f H hR
  obtain ⟨f1, H1, cs', r, a1, a2, a3, a4, a5, a6⟩ := hg f H hR
  obtain ⟨d, c, hd1, hd2, hd3, hd4, hd5⟩ := hs r a6
  have hcl' : cs'.length = len * n := by rw [a3.1, hfl]
  -- where it lies
  have hloc : ∃ (lo : Loc) (C : Array Value) (e : TypeId) (fr : Nat × Nat), w.heap[lo.blk]? = some (.cells C e fr) ∧ (∀ (i : Nat) v, cs'[i]? = some v → isCell v = true ∧ ∃ v', C[lo.off + i]? = some v' ∧ V f1 v v') ∧ (a = ⟨lo.blk, lo.off + 0, none⟩ ∨ (len = 0 ∧ cap = 0)) := by
    by_cases hz : cap = 0
    · obtain ⟨k0, C, e, fr, hk⟩ := hblk
      have : cs' = [] := by
        apply List.eq_nil_of_length_eq_zero
        rw [hcl']
        have : len = 0 := by omega
        rw [this]; simp
      subst this
      exact ⟨⟨k0, 0, 0⟩, C, e, fr, hk, fun i v h => by simp at h, .inr ⟨by omega, hz⟩⟩
    · have hn0 : n ≠ 0 := by omega
      · obtain ⟨c0, h0, _⟩ := hrows 0 (by omega)
        obtain ⟨h1, h2⟩ := cells_at h0
        have h3 := h2 0 (by omega)
        rw [Nat.zero_mul] at h3
        have h3 : w.cell? a = c0[0]? := by simpa [Addr.add] using h3
        rw [List.getElem?_eq_getElem (by omega)] at h3
        unfold World.cell? at h3
        split at h3
        · rename_i C e fr hC
          split at h3
          · cases h3
          · rename_i hsp
            obtain ⟨b, off, sp⟩ := a
            have : sp = none := by cases sp <;> simp at hsp ⊢
            subst this
            refine ⟨⟨b, off, 0⟩, C, e, fr, hC, fun j v hv => ?_, .inl rfl⟩
            refine ⟨a4 v (List.mem_of_getElem? hv), ?_⟩
            have hj : j < len * n := by rw [← hcl']; exact (List.getElem?_eq_some_iff.1 hv).1
            have hn' : 0 < n := by omega
            have hi : j / n < len := by rw [Nat.div_lt_iff_lt_mul hn']; exact hj
            have hjm := Nat.mod_lt j hn'
            have hjd : j / n * n + j % n = j := by rw [Nat.mul_comm]; exact Nat.div_add_mod j n
            obtain ⟨v', h4, h5⟩ := a3.get hv
            refine ⟨v', ?_, h5⟩
            have hci : css[j / n]? = some css[j / n] := List.getElem?_eq_getElem (by omega)
            have h6 := hfg (j / n) (j % n) _ hci hjm
            rw [hjd, h4] at h6
            obtain ⟨h7, h8⟩ := cells_at (hcss _ _ hci).1
            have h9 := h8 (j % n) hjm
            rw [← h6] at h9
            have hadd : ((⟨b, off, none⟩ : Addr).add (j / n * n)).add (j % n) = ⟨b, off + j, none⟩ := by
              rw [Addr.add_eq, Addr.add_eq, Nat.add_assoc, hjd]
            rw [hadd] at h9
            unfold World.cell? at h9
            have hC' : w.heap[b]? = some (.cells C e fr) := hC
            simp only [hC'] at h9
            simpa using h9
        · cases h3
  obtain ⟨lo, C, e, fr, b1, b2, b3⟩ := hloc
  obtain ⟨f2, H2, c1, c2, c3, c4⟩ := a1.push cs' lo b1 b2
  refine ⟨f2, H2, [.slice (some ⟨H1.size, 0, none⟩) len cap], [d], c1, a2.trans c2, .cons (.slX H1.size 0 len cap lo a c4 b3) (.nil f2), by simp [isCell], ?_, ⟨hd2, trivial⟩⟩
  have hDV : DV phi0 H2 (Own phi0 hp0) (.deep c) (.slice (some ⟨H1.size, 0, none⟩) c.len cap) := by
    refine .deep c H1.size 0 none cap ⟨cs'⟩ (.inl rfl) (by omega) c3 (own0 _) (by rw [hd3, hd4, Nat.zero_add]; exact Nat.le_of_eq hcl'.symm) (fun i hi j sv hsv v hv => ?_)
    rw [hd3] at hi
    rw [hd5 i hi] at hsv
    rw [hd4, Nat.zero_add] at hv
    have ha6 := a6.len
    have hrl : r.length = len * n := by rw [ha6]; simp [hn]
    have hin := row_in (w := n) hi
    have hsg := svs_get (a := l) (r := (r.drop (i * n)).take n) j (by simp; omega)
    rw [hsg] at hsv
    have hjl : j < n := by
      rw [← hn]
      cases hlj : l[j]? with
      | none => rw [hlj] at hsv; cases hsv
      | some q => exact (List.getElem?_eq_some_iff.1 hlj).1
    refine (a5.2 (i * n + j) sv v ?_ hv).mono c2.ext
    rw [svs_get _ ha6]
    have e1 : ((List.replicate len l).flatten)[i * n + j]? = l[j]? := rep_get hn hjl hi
    rw [e1]
    rw [← hsv]
    congr 1
    funext q
    congr 1
    rw [List.getD_eq_getElem?_getD, List.getD_eq_getElem?_getD, List.getElem?_take, if_pos hjl, List.getElem?_drop]
  rw [hd3] at hDV
  simp only [svs]
  rw [hd1]
  exact .cons hDV .nil

theorem reach_len {n z : Nat} (hz : 0 < z) (h : n * z ≤ reachBytes) : n ≤ 140737488355328 := by
  have : n * 1 ≤ n * z := Nat.mul_le_mul_left n hz
  have : reachBytes ≤ 140737488355328 := by decide
  omega
/-- Data that is trodden may be looked at. -/
theorem open_cells (hblk : ∃ (k0 : Nat) (C : Array Value) (e : TypeId) (fr : Nat × Nat), w.heap[k0]? = some (.cells C e fr)) : ∀ (fuel : Nat) (t : TypeId) (cs : List Value) x (D : Nat) (ss : List Sch),
    DataW.trod enc P w 0 (fun _ => true) true fuel t cs = some x → Slim P t x.1 → fitT P D t = some ss → Good w ss cs ∧ cs.length = ss.length
  | 0, _, _, _, _, _, h, _, _ => by cases h
  | fuel + 1, t, cs, x, 0, ss, _, _, hf => by cases hf
  | fuel + 1, t, cs, x, D + 1, ss, h, hz, hf => by
    have ih := open_cells hblk fuel
    unfold fitT at hf
    split at hf
    · -- a whole number
      rename_i k hu
      cases hf
      obtain ⟨n, rfl, hw⟩ := trod_int hu h
      refine ⟨fun f H hR => ⟨f, H, [.int k n], [.n n], hR, .refl f H, .cons (.int _ _) (.nil f), by simp [isCell], .cons (.i _ _) .nil, ?_⟩, rfl⟩
      exact ⟨hw, trivial⟩
    · rename_i hu
      cases hf
      obtain ⟨b, rfl⟩ := trod_bool hu h
      refine ⟨fun f H hR => ⟨f, H, [.bool b], [.n (if b then 1 else 0)], hR, .refl f H, .cons (.bool _) (.nil f), by simp [isCell], .cons ?_ .nil, ⟨trivial, trivial⟩⟩, rfl⟩
      cases b
      · exact .b false
      · exact .b true
    · -- a slice
      rename_i e hu
      split at hf
      · rename_i k he
        split at hf
        · rename_i hc
          obtain ⟨hc, hbyte⟩ := of_decide_eq_true hc
          cases hf
          rcases trod_slice hu h with rfl | ⟨a, len, cap, rfl, hcap, hreach, hrows⟩
          · exact ⟨fun f H hR => ⟨f, H, [.slice none 0 0], [.r []], hR, .refl f H, .cons .slNil (.nil f), by simp [isCell], .cons (.deepNil _ rfl) .nil, ⟨⟨by simp [Dat.sub], fun x hx => by simp [Dat.sub] at hx⟩, trivial⟩⟩, rfl⟩
          · refine ⟨Good.slice (l := [.int k]) (n := 1) hblk hcap rfl (by omega) (fun i hi => ?_) (fun r hr => ?_), rfl⟩
            · obtain ⟨c, y, h1, h2, h3⟩ := hrows i hi
              rw [hc] at h1
              exact ⟨c, h1, (ih _ _ _ 1 [.int k] h2 (h3 hz) (by simp [fitT, he])).1⟩
            · have hrl : r.length = len := by rw [hr.len]; simp
              refine ⟨.r r, .ints k (r.map Dat.int), rfl, ⟨Nat.le_trans (by show r.length ≤ cap; omega) (reach_len hbyte (hreach hz)), ?_⟩, by simp [Cont.len, hrl], rfl, fun i hi => ?_⟩
              · intro x hx
                have := WfR.rows (l := [.int k]) len hr
                obtain ⟨i, hi⟩ := List.getElem?_of_mem (show x ∈ r from hx)
                have hil : i < len := by rw [← hrl]; exact (List.getElem?_eq_some_iff.1 hi).1
                have := this (.r ((r.drop (i * 1)).take 1)) (List.mem_of_getElem? (rowsD_get 1 len r i hil))
                have e : (r.drop (i * 1)).take 1 = [x] := by
                  rw [Nat.mul_one]
                  apply List.ext_getElem?
                  intro j
                  rw [List.getElem?_take, List.getElem?_drop]
                  cases j with
                  | zero => simpa using hi
                  | succ j => simp
                rw [e] at this
                exact this.1
              · have e : (r.drop (i * 1)).take 1 = [r.getD i (.n 0)] := by
                  rw [Nat.mul_one]
                  apply List.ext_getElem?
                  intro j
                  rw [List.getElem?_take, List.getElem?_drop]
                  cases j with
                  | zero => simp [List.getD_eq_getElem?_getD, List.getElem?_eq_getElem (show i < r.length by omega)]
                  | succ j => simp
                rw [e]
                simp only [Cont.row, svs, decS, List.getD_eq_getElem?_getD, List.getElem?_map]
                rw [List.getElem?_eq_getElem (show i < r.length by omega)]
                rfl
        · cases hf
      · split at hf
        · rename_i l hl
          split at hf
          · rename_i hc
            obtain ⟨hc, hc1, hbyte⟩ := of_decide_eq_true hc
            cases hf
            rcases trod_slice hu h with rfl | ⟨a, len, cap, rfl, hcap, hreach, hrows⟩
            · exact ⟨fun f H hR => ⟨f, H, [.slice none 0 0], [.r []], hR, .refl f H, .cons .slNil (.nil f), by simp [isCell], .cons (.deepNil _ rfl) .nil, ⟨⟨by simp [Dat.sub], fun x hx => by simp [Dat.sub] at hx⟩, trivial⟩⟩, rfl⟩
            · refine ⟨Good.slice (l := l) (n := P.cellsOf e) hblk hcap hc (by omega) (fun i hi => ?_) (fun r hr => ?_), rfl⟩
              · obtain ⟨c, y, h1, h2, h3⟩ := hrows i hi
                exact ⟨c, h1, (ih _ _ _ D l h2 (h3 hz) hl).1⟩
              · refine ⟨.r (rowsD l.length len r), .recs l (rowsD l.length len r), rfl, ⟨Nat.le_trans (by show (rowsD l.length len r).length ≤ cap; rw [rowsD_len]; exact hcap) (reach_len hbyte (hreach hz)), WfR.rows len hr⟩, rowsD_len _ _ _, hc, fun i hi => ?_⟩
                simp only [Cont.row]
                rw [List.getD_eq_getElem?_getD, rowsD_get _ _ _ _ hi, Option.getD_some, ← hc]
                have hrl : r.length = len * l.length := by rw [hr.len]; simp
                have hin := row_in (w := l.length) hi
                apply List.ext_getElem?
                intro j
                rw [rowFrom_get, svs_get j (by simp; omega), Nat.zero_add]
                rfl
          · cases hf
        · cases hf
    · -- a struct
      rename_i fs hu
      split at hf
      · rename_i l n hl
        split at hf
        · rename_i hc
          have hc := of_decide_eq_true hc
          cases hf
          obtain ⟨h1, h2⟩ := trod_struct hu h
          obtain ⟨g1, g2⟩ := fitFs_good (fun t cs x ss a z b => ih t cs x D ss a z b) cs hl (h2 hz)
          have := g2 (by omega)
          rw [List.drop_zero, List.take_of_length_le (by omega)] at this
          exact ⟨this, by omega⟩
        · cases hf
      · cases hf
    · -- an array
      rename_i n e hu
      split at hf
      · rename_i l hl
        split at hf
        · rename_i hc
          obtain ⟨h0, hc⟩ := of_decide_eq_true hc
          cases hf
          obtain ⟨h1, h2⟩ := trod_array hu h
          refine ⟨Good.rows n (by rw [h1, hc]) (fun i hi => ?_), by rw [h1, hc]; simp⟩
          obtain ⟨y, hy, hys⟩ := h2 i hi
          rw [h0]
          exact (ih _ _ _ D l hy (hys hz) hl).1
        · cases hf
      · cases hf
    · cases hf
end
end
end Go.Proofs.Ytoiijpphfckdjaa.Ev
