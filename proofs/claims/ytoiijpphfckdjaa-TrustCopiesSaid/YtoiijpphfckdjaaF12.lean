/-
  Patterns of values and memory with unknowns in them.
-/
import Derived.Test.YtoiijpphfckdjaaF11
namespace Go.Proofs.Ytoiijpphfckdjaa.Ev
noncomputable section
open Go
set_option linter.unusedVariables false
set_option linter.unusedSimpArgs false

/-- An unknown. -/
inductive Un where
  | i (n : Int)
  | b (x : Bool)
  | l (xs : List Int)
  | d (xs : List Dat)

/-- What stands in a place. ptr, buf: of a block of the pattern; np: a pointer to a row of a block, or nil (below nought). -/
inductive VP where
  | any
  | int (k : IntKind)
  | bool
  | nilp
  | nils
  | nilf
  | ptr (j w col : Nat)
  | np (j w col : Nat)
  | buf (j w : Nat)
  | sl (j w : Nat)
  | ints (k : IntKind)
  | recs (l : List Sch)
  | dpt (l : List Sch)
  | fn (g : Nat) (x y : List VP)
  | agg (l : List VP)

mutual
def VP.size : VP → Nat
  | .int _ => 1
  | .np _ _ _ => 1
  | .sl _ _ => 2
  | .bool => 1
  | .ints _ => 1
  | .recs _ => 1
  | .dpt _ => 1
  | .fn _ x y => VP.sizes x + VP.sizes y
  | .agg l => VP.sizes l
  | _ => 0
def VP.sizes : List VP → Nat
  | [] => 0
  | p :: ps => p.size + VP.sizes ps
end

mutual
def VP.to : VP → List Un → SV
  | .any, _ => .any
  | .int k, .i n :: _ => .i k n
  | .bool, .b x :: _ => .b x
  | .nilp, _ => .nilp
  | .nils, _ => .nils
  | .nilf, _ => .nilf
  | .ptr j w col, _ => .ptr j 0 w col
  | .np j w col, .i n :: _ => .np j w col n
  | .buf j w, _ => .buf j w false
  | .sl j w, .i off :: .i len :: _ => .sl j off.toNat len.toNat w
  | .ints k, .l xs :: _ => .deep (.ints k xs)
  | .recs s, .d xs :: _ => .deep (.recs s xs)
  | .dpt s, .d xs :: _ => .dp (.recs s xs) 0 0
  | .fn g x y, us => .fn g (VP.tos x us) (VP.tos y (us.drop (VP.sizes x)))
  | .agg l, us => .agg (VP.tos l us)
  | _, _ => .any
def VP.tos : List VP → List Un → List SV
  | [], _ => []
  | p :: ps, us => p.to us :: VP.tos ps (us.drop p.size)
end

/-- Which block of the pattern is which; none: there is none, it is empty. -/
abbrev Sub := List (Nat × Option Nat)
def Sub.get : Sub → Nat → Option (Option Nat)
  | [], _ => none
  | (j, x) :: r, k => if k = j then some x else Sub.get r k
def Sub.bind (σ : Sub) (j : Nat) (x : Option Nat) : Option Sub :=
  match σ.get j with
  | none => some ((j, x) :: σ)
  | some y => match x, y with
    | some a, some b => if a = b then some σ else none
    | none, none => some σ
    | _, _ => none

/-- What is looked at is not handed over as well. -/
def seen : SV → Sub → Option Sub
  | .buf id _ _, σ => σ.bind (1000000 + id) (some id)
  | .sl id _ _ _, σ => σ.bind (1000000 + id) (some id)
  | _, σ => some σ

/-- The elements of a slice that is only looked at: whole numbers. -/
def asInts (S : SHeap) (k : IntKind) : SV → Option (List Int)
  | .nils => some []
  | .deep (.ints k' xs) => if k = k' then some xs else none
  | .buf id w ex => match viewS S (.buf id w ex) with | some (.ints k' xs) => if k = k' then some xs else none | _ => none
  | .sl id off len w => match viewS S (.sl id off len w) with | some (.ints k' xs) => if k = k' then some xs else none | _ => none
  | _ => none
def asRecs (S : SHeap) (l : List Sch) : SV → Option (List Dat)
  | .nils => some []
  | .deep (.recs l' xs) => match schsEq l l' with | true => some xs | false => none
  | .buf id w ex => match viewS S (.buf id w ex) with | some (.recs l' xs) => (match schsEq l l' with | true => some xs | false => none) | _ => none
  | .sl id off len w => match viewS S (.sl id off len w) with | some (.recs l' xs) => (match schsEq l l' with | true => some xs | false => none) | _ => none
  | _ => none

/-- Cells as a row that is only looked at. -/
def asCell (S : SHeap) : Sch → SV → Option Dat
  | .int k, .i k' n => if k = k' then some (.n n) else none
  | .bool, .b x => some (.n (bif x then 1 else 0))
  | .ints k, s => (match asInts S k s with | some xs => some (.r (xs.map .n)) | none => none)
  | .recs l, s => (match asRecs S l s with | some xs => some (.r xs) | none => none)
  | _, _ => none
def asRow (S : SHeap) : List Sch → List SV → Option (List Dat)
  | [], [] => some []
  | a :: l, s :: ss => (match asCell S a s, asRow S l ss with | some d, some r => some (d :: r) | _, _ => none)
  | _, _ => none
def seenL : List SV → Sub → Option Sub
  | [], σ => some σ
  | s :: ss, σ => (match seen s σ with | some τ => seenL ss τ | none => none)
section
variable (S : SHeap)
mutual
def VP.of : VP → SV → Sub → Option (List Un × Sub)
  | .any, _, σ => some ([], σ)
  | .int k, .i k' n, σ => if k = k' then some ([.i n], σ) else none
  | .bool, .b x, σ => some ([.b x], σ)
  | .nilp, .nilp, σ => some ([], σ)
  | .nils, .nils, σ => some ([], σ)
  | .nilf, .nilf, σ => some ([], σ)
  | .ptr j w col, .ptr id row w' col', σ => if row = 0 ∧ w = w' ∧ col = col' ∧ j < 1000000 then (match σ.bind j (some id) with | some τ => some ([], τ) | none => none) else none
  | .np _ _ _, .nilp, σ => some ([.i (-1)], σ)
  | .np j w col, .ptr id row w' col', σ => if w = w' ∧ col = col' ∧ j < 1000000 then (match σ.bind j (some id) with | some τ => some ([.i (row : Int)], τ) | none => none) else none
  | .np j w col, .np id w' col' n, σ => if w = w' ∧ col = col' ∧ j < 1000000 then (match σ.bind j (some id) with | some τ => some ([.i n], τ) | none => none) else none
  | .buf j w, .buf id w' _, σ => if w = w' ∧ j < 1000000 then (match σ.bind j (some id) with | some τ => some ([], τ) | none => none) else none
  | .sl j w, .sl id off len w', σ => if w = w' ∧ j < 1000000 then (match σ.bind j (some id) with | some τ => some ([.i (off : Int), .i (len : Int)], τ) | none => none) else none
  | .buf j _, .nils, σ => if j < 1000000 then (match σ.bind j none with | some τ => some ([], τ) | none => none) else none
  | .ints k, s, σ => (match asInts S k s, seen s σ with | some xs, some τ => some ([.l xs], τ) | _, _ => none)
  | .recs l, s, σ => (match asRecs S l s, seen s σ with | some xs, some τ => some ([.d xs], τ) | _, _ => none)
  | .dpt l, .dp c row col, σ => if row = 0 ∧ col = 0 then (match c with | .recs l' xs => (match schsEq l l' with | true => some ([.d xs], σ) | false => none) | _ => none) else none
  | .dpt l, .ptr id row w col, σ => if row = 0 ∧ col = 0 then (match S.get id with
      | some (.cells cs) => (match asRow S l cs, seenL (.buf id w true :: cs) σ with | some r, some τ => some ([.d [.r r]], τ) | _, _ => none)
      | _ => none) else none
  | .fn g x y, .fn g' x' y', σ => if g = g' then
      (match VP.ofs x x' σ with
       | some (a, τ) => (match VP.ofs y y' τ with | some (c, υ) => some (a ++ c, υ) | none => none)
       | none => none) else none
  | .agg l, .agg l', σ => VP.ofs l l' σ
  | _, _, _ => none
def VP.ofs : List VP → List SV → Sub → Option (List Un × Sub)
  | [], [], σ => some ([], σ)
  | p :: ps, s :: ss, σ =>
    (match p.of s σ with
     | some (a, τ) => (match VP.ofs ps ss τ with | some (c, υ) => some (a ++ c, υ) | none => none)
     | none => none)
  | _, _, _ => none
end
end

/-- What stands in a block; gone: nothing any more. -/
inductive BP where
  | cells (l : List VP)
  | ints (k : IntKind)
  | recs (l : List Sch)
  | ptrs (j w col : Nat)
  | gone
def BP.size : BP → Nat
  | .cells l => VP.sizes l
  | .gone => 0
  | _ => 1
def BP.to : BP → List Un → Option SBlk
  | .cells l, us => some (.cells (VP.tos l us))
  | .ints k, .l xs :: _ => some (.cont (.ints k xs))
  | .recs s, .d xs :: _ => some (.cont (.recs s xs))
  | .ptrs j w col, .l xs :: _ => some (.ptrs j w col xs)
  | .gone, _ => none
  | _, _ => some (.cells [])
def BP.of (S : SHeap) : BP → SBlk → Sub → Option (List Un × Sub)
  | .cells l, .cells l', σ => VP.ofs S l l' σ
  | .ints k, .cont (.ints k' xs), σ => if k = k' then some ([.l xs], σ) else none
  | .recs l, .cont (.recs l' xs), σ => (match schsEq l l' with | true => some ([.d xs], σ) | false => none)
  | .ptrs j w col, .ptrs id w' col' xs, σ => if w = w' ∧ col = col' ∧ j < 1000000 then (match σ.bind j (some id) with | some τ => some ([.l xs], τ) | none => none) else none
  | _, _, _ => none
mutual
/-- What is said of what isn't there. -/
def VP.dflt : VP → List Un
  | .int _ => [.i 0]
  | .np _ _ _ => [.i (-1)]
  | .sl _ _ => [.i 0, .i 0]
  | .bool => [.b false]
  | .ints _ => [.l []]
  | .recs _ => [.d []]
  | .dpt _ => [.d []]
  | .fn _ x y => VP.dflts x ++ VP.dflts y
  | .agg l => VP.dflts l
  | _ => []
def VP.dflts : List VP → List Un
  | [] => []
  | p :: ps => p.dflt ++ VP.dflts ps
end
def BP.nil : BP → List Un
  | .cells l => VP.dflts l
  | .ints _ => [.l []]
  | .recs _ => [.d []]
  | .ptrs _ _ _ => [.l []]
  | .gone => []
def BP.isGone : BP → Bool
  | .gone => true
  | _ => false

/-- Blocks j, j + 1, .. -/
def bpsOf (S : SHeap) : Nat → List BP → Sub → Option (List Un × Sub)
  | _, [], σ => some ([], σ)
  | j, p :: ps, σ =>
    match p.isGone with
    | true => bpsOf S (j + 1) ps σ
    | false =>
      match σ.get j with
      | some (some id) =>
        (match S.get id with
         | some B => (match p.of S B σ with
           | some (a, τ) => (match bpsOf S (j + 1) ps τ with | some (c, υ) => some (a ++ c, υ) | none => none)
           | none => none)
         | none => none)
      | some none => (match bpsOf S (j + 1) ps σ with | some (c, υ) => some (p.nil ++ c, υ) | none => none)
      | none => (match bpsOf S (j + 1) ps ((j, none) :: σ) with | some (c, υ) => some (p.nil ++ c, υ) | none => none)
def bpsTo : List BP → List Un → List (Option SBlk)
  | [], _ => []
  | p :: ps, us => p.to us :: bpsTo ps (us.drop p.size)

def SHeap.pushO (S : SHeap) (b : Option SBlk) : SHeap := { S with size := S.size + 1, root := S.root.put b (S.size + 1) S.size }
/-- A heap of these blocks. -/
def heapOf (l : List (Option SBlk)) : SHeap := l.foldl SHeap.pushO ⟨0, .e, 0, []⟩

def Sub.keys (σ : Sub) (n lk lock : Nat) : Bool := σ.all fun p => decide (1000000 ≤ p.1) || (decide (p.1 < n) && (match p.2 with | some id => (decide (p.1 < lk) || decide (lock ≤ id)) | none => true))
def Sub.apart : Sub → Bool
  | [] => true
  | (j, x) :: r => (match x with
    | some a => r.all fun p => (match p.2 with | some c => a != c | none => true) || p.1 == j
    | none => true) && Sub.apart r
/-- These blocks are the same here and there. -/
def idn (K : List Nat) : Sub := K.map fun j => (j, some j)

/-- Values and memory as a pattern. -/
structure Pn where
  vals : List VP
  blks : List BP
  /-- So many of the blocks are only looked at. -/
  lk : Nat
def Pn.size (p : Pn) : Nat := VP.sizes p.vals
def Pn.of (p : Pn) (σ0 : Sub) (vs : List SV) (S : SHeap) : Option (List Un × Sub) :=
  match VP.ofs S p.vals vs σ0 with
  | some (a, σ) =>
    (match bpsOf S 0 p.blks σ with
     | some (c, τ) => if Sub.keys τ p.blks.length p.lk S.lock = true ∧ Sub.apart τ = true ∧ (p.blks.length ≤ 1000000 ∧ p.lk ≤ p.blks.length) ∧ (σ0.all fun q => decide (q.1 < p.blks.length)) = true then some (a ++ c, τ) else none
     | none => none)
  | none => none
def Pn.valsTo (p : Pn) (us : List Un) : List SV := VP.tos p.vals us
def Pn.heapTo (p : Pn) (us : List Un) : SHeap := { heapOf (bpsTo p.blks (us.drop p.size)) with lock := p.lk }
/-- The blocks that are handed back. -/
def keptOf (en ex : Pn) : List Nat := (List.range en.blks.length).filter fun j => match ex.blks[j]? with | some b => !b.isGone | none => false

/-! ### Sound -/
def Sub.le (σ τ : Sub) : Prop := ∀ j x, σ.get j = some x → τ.get j = some x
theorem Sub.le_refl (σ : Sub) : Sub.le σ σ := fun _ _ h => h
theorem Sub.le_trans {a b c : Sub} (h : Sub.le a b) (k : Sub.le b c) : Sub.le a c := fun j x hx => k j x (h j x hx)
theorem Sub.bind_le {σ τ : Sub} {j : Nat} {x : Option Nat} (h : σ.bind j x = some τ) : Sub.le σ τ ∧ τ.get j = some x := by
  unfold Sub.bind at h
  split at h
  · rename_i hn
    cases h
    refine ⟨fun k y hk => ?_, by simp [Sub.get]⟩
    simp only [Sub.get]
    split
    · rename_i e; subst e; rw [hn] at hk; cases hk
    · exact hk
  · rename_i y hy
    split at h
    · split at h
      · rename_i e; cases h; subst e; exact ⟨Sub.le_refl _, hy⟩
      · cases h
    · cases h; exact ⟨Sub.le_refl _, hy⟩
    · cases h

section
variable {φ : Phi} {S : SHeap} {H : Heap}

/-- Blocks told anew. -/
def Phi.sub (φ : Phi) (ban : Nat → Prop) (τ : Sub) (n : Nat) : Phi := ⟨fun j => if j < n then (match τ.get j with | some (some id) => φ id | some none => some none | none => none) else none, ban⟩

/-- Values without blocks of one's own in them. -/
def flat : SV → Prop
  | .i _ _ => True
  | .b _ => True
  | .deep _ => True
  | _ => False
theorem flat_dec (s : Sch) (d : Dat) : flat (decS s d) := by cases s <;> trivial
theorem flat_row {c : Cont} {r j : Nat} {s : SV} (h : (c.row r)[j]? = some s) : flat s := by
  cases c with
  | ints k xs =>
    simp only [Cont.row] at h
    cases j with
    | zero => simp at h; subst h; trivial
    | succ j => simp at h
  | recs l xs =>
    simp only [Cont.row] at h
    rw [rowFrom_get] at h
    cases hl : l[j]? with
    | none => rw [hl] at h; cases h
    | some sc => rw [hl] at h; cases h; exact flat_dec _ _
theorem DV.flat_tr {own own' : Nat → Prop} {φ' : Phi} (ho : ∀ x, own' x → own x) {s : SV} {v : Value} (h : DV φ H own s v) : flat s → DV φ' H own' s v := by
  induction h with
  | i k n => intro _; exact .i k n
  | b x => intro _; exact .b x
  | deepNil c h => intro _; exact .deepNil c h
  | deep c x o sp cap blk hs hc hb hx hl _ ih =>
    intro _
    exact .deep c x o sp cap blk hs hc hb (fun h => hx (ho x h)) hl (fun r hr j s hj v hv => ih r hr j s hj v hv (flat_row hj))
  | _ => intro h; exact h.elim

/-- A view of a list of one's own, or a list that is only looked at. -/
theorem deep_of_view (hS : Sim φ S H) {s : SV} {v : Value} {c : Cont} (hv : DV φ H (Own φ S) s v) (h : viewS S s = some c) (hs : ∀ c, s ≠ .deep c) {φ' : Phi} {own' : Nat → Prop}
    (hcell : ∀ s v, flat s → DV φ H (Own φ S) s v → DV φ' H own' s v) (hout : ∀ id x, (∃ B, S.get id = some B) → φ id = some (some x) → (∃ w ex, s = .buf id w ex) ∨ (∃ o n w, s = .sl id o n w) → ¬ own' x) : DV φ' H own' (.deep c) v := by
  have reg : ∀ (c : Cont) (x o : Nat) (sp : Option Nat) (cap : Nat) (blk : Blk), H.get x = some blk → Rgn φ H (Own φ S) c blk.cells o → c.len ≤ cap → (sp = none ∨ sp = some c.w) → ¬ own' x → DV φ' H own' (.deep c) (.slice (some ⟨x, o, sp⟩) c.len cap) := by
    intro c x o sp cap blk hb hr hc hsp hx
    exact .deep c x o sp cap blk hsp hc hb hx hr.1 (fun r hr' j s hs v hv => hcell s v (flat_row hs) (hr.2 r hr' j s hs v hv))
  unfold viewS at h
  split at h
  · rename_i id w ex
    split at h
    · rename_i d hB
      split at h
      · rename_i hw
        simp only [Bool.and_eq_true, beq_iff_eq, decide_eq_true_eq] at hw
        cases h
        cases hv with
        | buf _ _ _ x n sp hx hn hsp =>
          rcases hS.blk _ _ hB with ⟨h0, _⟩ | ⟨y, d, h1, h2, _, h4⟩
          · rw [hx] at h0; cases h0
          · rw [hx] at h1; cases h1
            have e1 := hn d (Heap.get_root h2).1
            have e2 := h4.1
            have : n = c.len := by
              rw [e1, hw.1] at e2
              exact Nat.eq_of_mul_eq_mul_right (by omega) e2
            subst this
            refine reg c x 0 sp _ d h2 (BV.rgn h4) (Nat.le_refl _) ?_ (hout id x ⟨_, hB⟩ hx (.inl ⟨w, ex, rfl⟩))
            rcases hsp with h | ⟨_, h, _⟩
            · exact .inl h
            · exact .inr (by rw [h, hw.1])
        | bufNil _ _ hx =>
          rcases hS.blk _ _ hB with ⟨_, h0⟩ | ⟨y, d, h1, _⟩
          · exact .deepNil _ h0
          · rw [hx] at h1; cases h1
      · cases h
    · cases h
  · rename_i id off len w
    split at h
    · rename_i d hB
      split at h
      · rename_i hw
        simp only [Bool.and_eq_true, beq_iff_eq, decide_eq_true_eq] at hw
        cases h
        cases hv with
        | sl _ _ _ _ x o sp cap hx ho hsp hc hin =>
          rcases hS.blk _ _ hB with ⟨h0, _⟩ | ⟨y, b, h1, h2, _, h4⟩
          · rw [hx] at h0; cases h0
          · rw [hx] at h1; cases h1
            obtain ⟨i1, i2⟩ := hin b (Heap.get_root h2).1
            have e2 := h4.1
            have hle : off + len ≤ d.len := by
              rw [e2, hw.1, ← Nat.add_mul] at i2
              exact Nat.le_of_mul_le_mul_right i2 (by omega)
            have hcut := (BV.rgn h4).cut hle
            have hl := d.cut_len hle
            have hsp' : sp = none ∨ sp = some (d.cut off len).w := by rw [d.cut_w, ← hw.1]; exact hsp
            have hx' := hout id x ⟨_, hB⟩ hx (.inr ⟨off, len, w, rfl⟩)
            rcases ho with h0 | h0
            · subst h0
              have := reg (d.cut off 0) x o sp cap b h2 ⟨by rw [hl]; omega, fun r hr => by rw [hl] at hr; omega⟩ (by rw [hl]; omega) hsp' hx'
              rw [hl] at this
              exact this
            · rw [Nat.zero_add, ← hw.1, ← h0] at hcut
              have := reg (d.cut off len) x o sp cap b h2 hcut (by rw [hl]; exact hc) hsp' hx'
              rw [hl] at this
              exact this
        | slNil _ _ hx =>
          rcases hS.blk _ _ hB with ⟨_, h0⟩ | ⟨y, b, h1, _⟩
          · have h0 : d.len = 0 := h0
            exact .deepNil _ (d.cut_len (by omega))
          · rw [hx] at h1; cases h1
      · cases h
    · cases h
  · exact absurd rfl (hs _)
  · cases h

theorem seen_le {s : SV} {σ τ : Sub} (h : seen s σ = some τ) : Sub.le σ τ ∧ ∀ id, ((∃ w ex, s = .buf id w ex) ∨ (∃ o n w, s = .sl id o n w)) → τ.get (1000000 + id) = some (some id) := by
  unfold seen at h
  split at h
  · obtain ⟨h1, h2⟩ := Sub.bind_le h
    refine ⟨h1, ?_⟩
    rintro id (⟨w, ex, e⟩ | ⟨o, n, w, e⟩)
    · cases e; exact h2
    · cases e
  · obtain ⟨h1, h2⟩ := Sub.bind_le h
    refine ⟨h1, ?_⟩
    rintro id (⟨w, ex, e⟩ | ⟨o, n, w, e⟩)
    · cases e
    · cases e; exact h2
  · rename_i h1 h2
    cases h
    refine ⟨Sub.le_refl _, ?_⟩
    rintro id (⟨w, ex, e⟩ | ⟨o, n, w, e⟩)
    · exact absurd e (h1 id w ex)
    · exact absurd e (h2 id o n w)

theorem asInts_sound (hS : Sim φ S H) {k : IntKind} {s : SV} {xs : List Int} (h : asInts S k s = some xs) {φ' : Phi} {own' : Nat → Prop} (ho : ∀ x, own' x → Own φ S x)
    (hout : ∀ id x, (∃ B, S.get id = some B) → φ id = some (some x) → (∃ w ex, s = .buf id w ex) ∨ (∃ o n w, s = .sl id o n w) → ¬ own' x) {v : Value} (hv : DV φ H (Own φ S) s v) : DV φ' H own' (.deep (.ints k xs)) v := by
  have hcell : ∀ s v, flat s → DV φ H (Own φ S) s v → DV φ' H own' s v := fun s v hf hd => hd.flat_tr ho hf
  unfold asInts at h
  split at h
  · cases h; cases hv; exact .deepNil _ rfl
  · split at h
    · rename_i e; cases h; subst e; exact hv.flat_tr ho trivial
    · cases h
  · split at h
    · rename_i hvw
      split at h
      · rename_i e; cases h; subst e; exact deep_of_view hS hv hvw (fun c e => by cases e) hcell hout
      · cases h
    · cases h
  · split at h
    · rename_i hvw
      split at h
      · rename_i e; cases h; subst e; exact deep_of_view hS hv hvw (fun c e => by cases e) hcell hout
      · cases h
    · cases h
  · cases h
theorem asRecs_sound (hS : Sim φ S H) {l : List Sch} {s : SV} {xs : List Dat} (h : asRecs S l s = some xs) {φ' : Phi} {own' : Nat → Prop} (ho : ∀ x, own' x → Own φ S x)
    (hout : ∀ id x, (∃ B, S.get id = some B) → φ id = some (some x) → (∃ w ex, s = .buf id w ex) ∨ (∃ o n w, s = .sl id o n w) → ¬ own' x) {v : Value} (hv : DV φ H (Own φ S) s v) : DV φ' H own' (.deep (.recs l xs)) v := by
  have hcell : ∀ s v, flat s → DV φ H (Own φ S) s v → DV φ' H own' s v := fun s v hf hd => hd.flat_tr ho hf
  unfold asRecs at h
  split at h
  · cases h; cases hv; exact .deepNil _ rfl
  · split at h
    · rename_i e; cases h; have := schEq_eq.2 _ _ e; subst this; exact hv.flat_tr ho trivial
    · cases h
  · split at h
    · rename_i hvw
      split at h
      · rename_i e; cases h; have := schEq_eq.2 _ _ e; subst this; exact deep_of_view hS hv hvw (fun c e => by cases e) hcell hout
      · cases h
    · cases h
  · split at h
    · rename_i hvw
      split at h
      · rename_i e; cases h; have := schEq_eq.2 _ _ e; subst this; exact deep_of_view hS hv hvw (fun c e => by cases e) hcell hout
      · cases h
    · cases h
  · cases h

theorem seenL_le : ∀ {ss : List SV} {σ τ : Sub}, seenL ss σ = some τ → Sub.le σ τ ∧ ∀ s ∈ ss, ∀ id, ((∃ w ex, s = .buf id w ex) ∨ (∃ o n w, s = .sl id o n w)) → τ.get (1000000 + id) = some (some id)
  | [], σ, τ, h => by cases h; exact ⟨Sub.le_refl _, fun s hs => by simp at hs⟩
  | a :: ss, σ, τ, h => by
    simp only [seenL] at h
    split at h
    · rename_i τ' h1
      obtain ⟨a1, a2⟩ := seen_le h1
      obtain ⟨b1, b2⟩ := seenL_le h
      refine ⟨Sub.le_trans a1 b1, fun s hs id he => ?_⟩
      rcases List.mem_cons.1 hs with rfl | hs
      · exact b1 _ _ (a2 id he)
      · exact b2 s hs id he
    · cases h
theorem asCell_sound (hS : Sim φ S H) {c : Sch} {s : SV} {d : Dat} (h : asCell S c s = some d) {φ' : Phi} {own' : Nat → Prop} (ho : ∀ x, own' x → Own φ S x)
    (hout : ∀ id x, (∃ B, S.get id = some B) → φ id = some (some x) → (∃ w ex, s = .buf id w ex) ∨ (∃ o n w, s = .sl id o n w) → ¬ own' x) {v : Value} (hv : DV φ H (Own φ S) s v) : DV φ' H own' (decS c d) v := by
  unfold asCell at h
  split at h
  · split at h
    · rename_i e; subst e; cases h; cases hv; exact .i _ _
    · cases h
  · rename_i x
    cases h; cases hv
    have : (Dat.int (.n (bif x then 1 else 0)) != 0) = x := by cases x <;> rfl
    simp only [decS, this]
    exact .b x
  · split at h
    · rename_i xs h1
      cases h
      have := asInts_sound hS h1 (φ' := φ') ho hout hv
      have e : (xs.map Dat.n).map Dat.int = xs := by rw [List.map_map]; exact List.map_id xs
      simp only [decS, Dat.sub, e]
      exact this
    · cases h
  · split at h
    · rename_i xs h1
      cases h
      exact asRecs_sound hS h1 (φ' := φ') ho hout hv
    · cases h
  · cases h
theorem asRow_at : ∀ {l : List Sch} {ss : List SV} {r : List Dat}, asRow S l ss = some r → l.length = ss.length ∧ r.length = ss.length ∧ ∀ (j : Nat) c s d, l[j]? = some c → ss[j]? = some s → r[j]? = some d → asCell S c s = some d
  | [], [], r, h => by cases h; exact ⟨rfl, rfl, fun j c s d h => by simp at h⟩
  | [], _ :: _, _, h => by cases h
  | _ :: _, [], _, h => by cases h
  | a :: l, s :: ss, r, h => by
    simp only [asRow] at h
    split at h
    · rename_i d q h1 h2
      cases h
      obtain ⟨g1, g2, g3⟩ := asRow_at h2
      refine ⟨by simp [g1], by simp [g2], fun j c s' d' a1 a2 a3 => ?_⟩
      cases j with
      | zero => simp at a1 a2 a3; subst a1; subst a2; subst a3; exact h1
      | succ j => exact g3 j c s' d' (by simpa using a1) (by simpa using a2) (by simpa using a3)
    · cases h
/-- What a match says. -/
structure Fine (φ : Phi) (S : SHeap) (own' : Nat → Prop) (n : Nat) (υ : Sub) : Prop where
  keys : ∀ (j : Nat) y, υ.get j = some y → j < n ∨ 1000000 ≤ j
  out : ∀ (id x : Nat), υ.get (1000000 + id) = some (some id) → (∃ B, S.get id = some B) → φ id = some (some x) → ¬ own' x
def Fits (φ : Phi) (S : SHeap) (H : Heap) (ban : Nat → Prop) (n : Nat) (own' : Nat → Prop) (υ : Sub) (s s' : SV) : Prop := ∀ v, DV φ H (Own φ S) s v → DV (φ.sub ban υ n) H own' s' v

theorem Phi.sub_at {ban : Nat → Prop} {υ : Sub} {n j : Nat} {y : Option Nat} {own' : Nat → Prop} (hf : Fine φ S own' n υ) (hj : j < 1000000) (h : υ.get j = some y) : (φ.sub ban υ n) j = (match y with | some id => φ id | none => some none) := by
  have hn : j < n := by
    rcases hf.keys j y h with h | h <;> omega
  unfold Phi.sub
  simp only [if_pos hn, h]
  cases y <;> rfl

section
variable {ban : Nat → Prop} {n : Nat} {own' : Nat → Prop}

theorem Fits.agg {υ : Sub} {ss ss' : List SV} (hl : ss'.length = ss.length) (h : ∀ (i : Nat) s s', ss[i]? = some s → ss'[i]? = some s' → Fits φ S H ban n own' υ s s') : Fits φ S H ban n own' υ (.agg ss) (.agg ss') := by
  intro v hv
  cases hv with
  | agg l x' hx vx =>
    refine .agg _ _ (by rw [hl]; exact hx) (fun i s v h1 h2 => ?_)
    have hi : i < ss.length := by rw [← hl]; exact (List.getElem?_eq_some_iff.1 h1).1
    exact h i _ s (List.getElem?_eq_getElem hi) h1 v (vx i _ v (List.getElem?_eq_getElem hi) h2)
theorem Fits.fn {υ : Sub} {g : Nat} {x y x2 y2 : List SV} (hl : x2.length = x.length) (hm : y2.length = y.length) (h : ∀ (i : Nat) s s', x[i]? = some s → x2[i]? = some s' → Fits φ S H ban n own' υ s s')
    (k : ∀ (i : Nat) s s', y[i]? = some s → y2[i]? = some s' → Fits φ S H ban n own' υ s s') : Fits φ S H ban n own' υ (.fn g x y) (.fn g x2 y2) := by
  intro v hv
  cases hv with
  | fn _ _ _ x' y' hx hy vx vy =>
    refine .fn g _ _ _ _ (by rw [hl]; exact hx) (by rw [hm]; exact hy) (fun i s v h1 h2 => ?_) (fun i s v h1 h2 => ?_)
    · have hi : i < x.length := by rw [← hl]; exact (List.getElem?_eq_some_iff.1 h1).1
      exact h i _ s (List.getElem?_eq_getElem hi) h1 v (vx i _ v (List.getElem?_eq_getElem hi) h2)
    · have hi : i < y.length := by rw [← hm]; exact (List.getElem?_eq_some_iff.1 h1).1
      exact k i _ s (List.getElem?_eq_getElem hi) h1 v (vy i _ v (List.getElem?_eq_getElem hi) h2)

def AllFit (φ : Phi) (S : SHeap) (H : Heap) (ban : Nat → Prop) (n : Nat) (own' : Nat → Prop) (υ : Sub) (ss ss' : List SV) : Prop := ss'.length = ss.length ∧ ∀ (i : Nat) s s', ss[i]? = some s → ss'[i]? = some s' → Fits φ S H ban n own' υ s s'

mutual
theorem VP_of (hS : Sim φ S H) (ho : ∀ x, own' x → Own φ S x) : ∀ (p : VP) (s : SV) (σ τ : Sub) (a : List Un), VP.of S p s σ = some (a, τ) →
    Sub.le σ τ ∧ a.length = p.size ∧ ∀ υ, Sub.le τ υ → Fine φ S own' n υ → ∀ rest, Fits φ S H ban n own' υ s (p.to (a ++ rest))
  | .any, s, σ, τ, a, h => by
    simp only [VP.of, Option.some.injEq, Prod.mk.injEq] at h
    obtain ⟨rfl, rfl⟩ := h
    exact ⟨Sub.le_refl _, rfl, fun _ _ _ _ v _ => .any v⟩
  | .int k, s, σ, τ, a, h => by
    cases s <;> simp only [VP.of] at h <;> try (cases h; done)
    split at h
    · rename_i e
      cases h; subst e
      exact ⟨Sub.le_refl _, rfl, fun _ _ _ _ v hv => by cases hv; exact .i _ _⟩
    · cases h
  | .bool, s, σ, τ, a, h => by
    cases s <;> simp only [VP.of] at h <;> try (cases h; done)
    cases h
    exact ⟨Sub.le_refl _, rfl, fun _ _ _ _ v hv => by cases hv; exact .b _⟩
  | .nilp, s, σ, τ, a, h => by
    cases s <;> simp only [VP.of] at h <;> try (cases h; done)
    cases h
    exact ⟨Sub.le_refl _, rfl, fun _ _ _ _ v hv => by cases hv; exact .nilp⟩
  | .nils, s, σ, τ, a, h => by
    cases s <;> simp only [VP.of] at h <;> try (cases h; done)
    cases h
    exact ⟨Sub.le_refl _, rfl, fun _ _ _ _ v hv => by cases hv; exact .nils⟩
  | .nilf, s, σ, τ, a, h => by
    cases s <;> simp only [VP.of] at h <;> try (cases h; done)
    cases h
    exact ⟨Sub.le_refl _, rfl, fun _ _ _ _ v hv => by cases hv; exact .nilf⟩
  | .ptr j w col, s, σ, τ, a, h => by
    cases s <;> simp only [VP.of] at h <;> try (cases h; done)
    split at h
    · rename_i e
      obtain ⟨rfl, rfl, rfl, hj⟩ := e
      split at h
      · rename_i τ' hb
        cases h
        obtain ⟨h1, h2⟩ := Sub.bind_le hb
        refine ⟨h1, rfl, fun υ hle hf rest v hv => ?_⟩
        cases hv with
        | ptr _ _ _ _ x hx => exact .ptr j 0 w col x (by rw [Phi.sub_at hf hj (hle _ _ h2)]; exact hx)
      · cases h
    · cases h
  | .np j w col, s, σ, τ, a, h => by
    cases s <;> simp only [VP.of] at h <;> try (cases h; done)
    · cases h
      exact ⟨Sub.le_refl _, rfl, fun _ _ _ _ v hv => by cases hv; exact .npNil _ _ _ _ (by omega)⟩
    · split at h
      · rename_i e
        obtain ⟨rfl, rfl, hj⟩ := e
        split at h
        · rename_i τ' hb
          cases h
          obtain ⟨h1, h2⟩ := Sub.bind_le hb
          refine ⟨h1, rfl, fun υ hle hf rest v hv => ?_⟩
          cases hv with
          | ptr _ _ _ _ x hx => exact .np j w col x _ (by omega) (by rw [Phi.sub_at hf hj (hle _ _ h2)]; exact hx)
        · cases h
      · cases h
    · split at h
      · rename_i e
        obtain ⟨rfl, rfl, hj⟩ := e
        split at h
        · rename_i τ' hb
          cases h
          obtain ⟨h1, h2⟩ := Sub.bind_le hb
          refine ⟨h1, rfl, fun υ hle hf rest v hv => ?_⟩
          cases hv with
          | npNil _ _ _ _ hn => exact .npNil j w col _ hn
          | np _ _ _ x _ hn hx => exact .np j w col x _ hn (by rw [Phi.sub_at hf hj (hle _ _ h2)]; exact hx)
        · cases h
      · cases h
  | .sl j w, s, σ, τ, a, h => by
    cases s <;> simp only [VP.of] at h <;> try (cases h; done)
    split at h
    · rename_i e
      obtain ⟨rfl, hj⟩ := e
      split at h
      · rename_i τ' hb
        cases h
        obtain ⟨h1, h2⟩ := Sub.bind_le hb
        refine ⟨h1, rfl, fun υ hle hf rest v hv => ?_⟩
        have hat := Phi.sub_at (ban := ban) hf hj (hle _ _ h2)
        cases hv with
        | sl _ _ _ _ x o sp cap hx ho hs hc hin => exact .sl j _ _ w x o sp cap (by rw [hat]; exact hx) ho hs hc hin
        | slNil _ _ hx => exact .slNil j w (by rw [hat]; exact hx)
      · cases h
    · cases h
  | .buf j w, s, σ, τ, a, h => by
    cases s <;> simp only [VP.of] at h <;> try (cases h; done)
    · split at h
      · rename_i hj
        split at h
        · rename_i τ' hb
          cases h
          obtain ⟨h1, h2⟩ := Sub.bind_le hb
          refine ⟨h1, rfl, fun υ hle hf rest v hv => ?_⟩
          cases hv
          exact .bufNil j w (by rw [Phi.sub_at hf hj (hle _ _ h2)])
        · cases h
      · cases h
    · split at h
      · rename_i e
        obtain ⟨rfl, hj⟩ := e
        split at h
        · rename_i τ' hb
          cases h
          obtain ⟨h1, h2⟩ := Sub.bind_le hb
          refine ⟨h1, rfl, fun υ hle hf rest v hv => ?_⟩
          have hat := Phi.sub_at (ban := ban) hf hj (hle _ _ h2)
          cases hv with
          | buf _ _ _ x n sp hx hn hs =>
            refine .buf j _ false x n sp (by rw [hat]; exact hx) hn ?_
            rcases hs with h | ⟨_, h⟩
            · exact .inl h
            · exact .inr ⟨rfl, h⟩
          | bufNil _ _ hx => exact .bufNil j _ (by rw [hat]; exact hx)
        · cases h
      · cases h
  | .ints k, s, σ, τ, a, h => by
    simp only [VP.of] at h
    split at h
    · rename_i xs τ' h1 h2
      cases h
      obtain ⟨g1, g2⟩ := seen_le h2
      refine ⟨g1, rfl, fun υ hle hf rest v hv => ?_⟩
      exact asInts_sound hS h1 ho (fun id x hB hx hs => hf.out id x (hle _ _ (g2 id hs)) hB hx) hv
    · cases h
  | .recs l, s, σ, τ, a, h => by
    simp only [VP.of] at h
    split at h
    · rename_i xs τ' h1 h2
      cases h
      obtain ⟨g1, g2⟩ := seen_le h2
      refine ⟨g1, rfl, fun υ hle hf rest v hv => ?_⟩
      exact asRecs_sound hS h1 ho (fun id x hB hx hs => hf.out id x (hle _ _ (g2 id hs)) hB hx) hv
    · cases h
  | .dpt l, s, σ, τ, a, h => by
    cases s <;> simp only [VP.of] at h <;> try (cases h; done)
    · rename_i id row w col
      split at h
      · rename_i e
        obtain ⟨rfl, rfl⟩ := e
        split at h
        · rename_i cs hB
          split at h
          · rename_i r τ' h1 h2
            cases h
            obtain ⟨g1, g2⟩ := seenL_le h2
            obtain ⟨k1, k2, k3⟩ := asRow_at h1
            refine ⟨g1, rfl, fun υ hle hf rest v hv => ?_⟩
            cases hv with
            | ptr _ _ _ _ x hx =>
              rcases hS.blk _ _ hB with ⟨q0, _⟩ | ⟨y, c, q1, q2, _, q4⟩
              · rw [hx] at q0; cases q0
              · rw [hx] at q1; cases q1
                have hout : ∀ s ∈ cs, ∀ id x, (∃ B, S.get id = some B) → φ id = some (some x) → (∃ w ex, s = .buf id w ex) ∨ (∃ o n w, s = .sl id o n w) → ¬ own' x :=
                  fun s hs id x hB hx he => hf.out id x (hle _ _ (g2 s (List.mem_cons_of_mem _ hs) id he)) hB hx
                have hno : ¬ own' x := hf.out id x (hle _ _ (g2 _ (List.mem_cons_self ..) id (.inl ⟨_, _, rfl⟩))) ⟨_, hB⟩ hx
                have hcl : cs.length = c.cells.length := q4.1
                rw [show 0 * w + 0 = 0 + 0 * (Cont.recs l [.r r]).w + 0 by simp]
                refine .dp (.recs l [.r r]) 0 0 x 0 c q2 hno (by simp [Cont.len, Cont.w]; omega) (fun rr hr j s' hs' u hu => ?_)
                have hr : rr = 0 := by simp [Cont.len] at hr; exact hr
                subst hr
                simp only [Cont.row, List.getD_cons_zero, rowFrom_get, Nat.zero_mul, Nat.zero_add] at hs' hu
                have hj : j < cs.length := by rw [hcl]; exact (List.getElem?_eq_some_iff.1 hu).1
                have hlj : l[j]? = some l[j] := List.getElem?_eq_getElem (by omega)
                rw [hlj, Option.map_some] at hs'
                cases hs'
                have hrj : r[j]? = some r[j] := List.getElem?_eq_getElem (by omega)
                have hd : (Dat.r r).fld j = r[j] := by simp [Dat.fld, Dat.sub, List.getD_eq_getElem?_getD, hrj]
                have hsj : cs[j]? = some cs[j] := List.getElem?_eq_getElem hj
                try rw [hd]
                exact asCell_sound hS (k3 j _ _ _ hlj hsj hrj) ho (hout _ (List.getElem_mem _)) (q4.2 j _ u hsj hu)
          · cases h
        · cases h
      · cases h
    · split at h
      · rename_i e
        obtain ⟨rfl, rfl⟩ := e
        split at h
        · split at h
          · rename_i e
            cases h
            have := schEq_eq.2 _ _ e; subst this
            refine ⟨Sub.le_refl _, rfl, fun _ _ _ _ v hv => ?_⟩
            cases hv with
            | dp _ _ _ x o blk hb hno hl hc => exact .dp _ 0 0 x o blk hb (fun h => hno (ho x h)) hl (fun r hr j s hs v hv => (hc r hr j s hs v hv).flat_tr ho (flat_row hs))
          · cases h
        · cases h
      · cases h
  | .fn g x y, s, σ, τ, a, h => by
    cases s <;> simp only [VP.of] at h <;> try (cases h; done)
    split at h
    · rename_i e
      subst e
      split at h
      · rename_i c τ1 h1
        split at h
        · rename_i d τ2 h2
          cases h
          obtain ⟨a1, a2, a3⟩ := VPs_of hS ho x _ _ _ _ h1
          obtain ⟨b1, b2, b3⟩ := VPs_of hS ho y _ _ _ _ h2
          refine ⟨Sub.le_trans a1 b1, by simp [VP.size, a2, b2], fun υ hle hf rest => ?_⟩
          simp only [VP.to, List.append_assoc]
          rw [← a2, List.drop_left]
          obtain ⟨c1, c2⟩ := a3 υ (Sub.le_trans b1 hle) hf (d ++ rest)
          obtain ⟨d1, d2⟩ := b3 υ hle hf rest
          exact Fits.fn c1 d1 c2 d2
        · cases h
      · cases h
    · cases h
  | .agg l, s, σ, τ, a, h => by
    cases s <;> simp only [VP.of] at h <;> try (cases h; done)
    obtain ⟨a1, a2, a3⟩ := VPs_of hS ho l _ _ _ _ h
    refine ⟨a1, by simp [VP.size, a2], fun υ hle hf rest => ?_⟩
    obtain ⟨c1, c2⟩ := a3 υ hle hf rest
    exact Fits.agg c1 c2
theorem VPs_of (hS : Sim φ S H) (ho : ∀ x, own' x → Own φ S x) : ∀ (ps : List VP) (ss : List SV) (σ τ : Sub) (a : List Un), VP.ofs S ps ss σ = some (a, τ) →
    Sub.le σ τ ∧ a.length = VP.sizes ps ∧ ∀ υ, Sub.le τ υ → Fine φ S own' n υ → ∀ rest, AllFit φ S H ban n own' υ ss (VP.tos ps (a ++ rest))
  | [], ss, σ, τ, a, h => by
    cases ss <;> simp only [VP.ofs] at h <;> try (cases h; done)
    cases h
    exact ⟨Sub.le_refl _, rfl, fun _ _ _ _ => ⟨rfl, fun i s s' h1 h2 => by simp at h1⟩⟩
  | p :: ps, ss, σ, τ, a, h => by
    cases ss <;> simp only [VP.ofs] at h <;> try (cases h; done)
    rename_i s ss
    split at h
    · rename_i c τ1 h1
      split at h
      · rename_i d τ2 h2
        cases h
        obtain ⟨a1, a2, a3⟩ := VP_of hS ho p _ _ _ _ h1
        obtain ⟨b1, b2, b3⟩ := VPs_of hS ho ps _ _ _ _ h2
        refine ⟨Sub.le_trans a1 b1, by simp [VP.sizes, a2, b2], fun υ hle hf rest => ?_⟩
        simp only [VP.tos, List.append_assoc]
        rw [← a2, List.drop_left]
        have c1 := a3 υ (Sub.le_trans b1 hle) hf (d ++ rest)
        obtain ⟨d1, d2⟩ := b3 υ hle hf rest
        refine ⟨by simp [d1], fun i u u' h3 h4 => ?_⟩
        cases i with
        | zero =>
          simp at h3 h4
          subst h3; subst h4
          exact c1
        | succ i =>
          simp only [List.getElem?_cons_succ] at h3 h4
          exact d2 i u u' h3 h4
      · cases h
    · cases h
end
end
end
end
end Go.Proofs.Ytoiijpphfckdjaa.Ev
