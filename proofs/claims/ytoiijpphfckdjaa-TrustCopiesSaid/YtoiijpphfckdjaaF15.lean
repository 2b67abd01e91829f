/-
  What is said of a function, in use at a call.
-/
import Derived.Test.YtoiijpphfckdjaaF14
namespace Go.Proofs.Ytoiijpphfckdjaa.Ev
noncomputable section
open Go
set_option linter.unusedVariables false
set_option linter.unusedSimpArgs false

/-! ### Blocks get other numbers -/
mutual
def renS (ρ : Nat → Nat) : SV → SV
  | .ptr id row w col => .ptr (ρ id) row w col
  | .buf id w ex => .buf (ρ id) w ex
  | .sl id off len w => .sl (ρ id) off len w
  | .np id w col n => .np (ρ id) w col n
  | .fn g x y => .fn g (rensS ρ x) (rensS ρ y)
  | .agg l => .agg (rensS ρ l)
  | .tup l => .tup (rensS ρ l)
  | v => v
def rensS (ρ : Nat → Nat) : List SV → List SV
  | [] => []
  | v :: l => renS ρ v :: rensS ρ l
end
mutual
/-- Without lists that are looked at elsewhere. -/
def leanS : SV → Bool
  | .deep _ => false
  | .dp _ _ _ => false
  | .fn _ x y => leansS x && leansS y
  | .agg l => leansS l
  | .tup l => leansS l
  | _ => true
def leansS : List SV → Bool
  | [] => true
  | v :: l => leanS v && leansS l
end
def Sch.flat : Sch → Bool
  | .int _ => true
  | .bool => true
  | _ => false
def leanC : Cont → Bool
  | .ints _ _ => true
  | .recs l _ => l.all Sch.flat
def renB (ρ : Nat → Nat) : SBlk → SBlk
  | .cells l => .cells (rensS ρ l)
  | .cont c => .cont c
  | .ptrs id w col rows => .ptrs (ρ id) w col rows
def leanB : SBlk → Bool
  | .cells l => leansS l
  | .cont c => leanC c
  | .ptrs _ _ _ _ => true

theorem rensS_get (ρ : Nat → Nat) : ∀ (l : List SV) (i : Nat), (rensS ρ l)[i]? = (l[i]?).map (renS ρ)
  | [], i => by simp [rensS]
  | v :: l, 0 => by simp [rensS]
  | v :: l, i + 1 => by simp only [rensS, List.getElem?_cons_succ]; exact rensS_get ρ l i
theorem rensS_len (ρ : Nat → Nat) : ∀ (l : List SV), (rensS ρ l).length = l.length
  | [] => rfl
  | v :: l => by simp [rensS, rensS_len ρ l]
theorem leansS_get : ∀ {l : List SV} {i : Nat} {s : SV}, leansS l = true → l[i]? = some s → leanS s = true
  | [], i, s, _, h => by simp at h
  | v :: l, 0, s, hl, h => by simp only [leansS, Bool.and_eq_true] at hl; simp at h; subst h; exact hl.1
  | v :: l, i + 1, s, hl, h => by simp only [leansS, Bool.and_eq_true] at hl; exact leansS_get hl.2 (by simpa using h)
theorem lean_row {c : Cont} (h : leanC c = true) {r j : Nat} {s : SV} (hs : (c.row r)[j]? = some s) : (∃ k n, s = .i k n) ∨ ∃ x, s = .b x := by
  cases c with
  | ints k xs =>
    simp only [Cont.row] at hs
    cases j with
    | zero => simp at hs; subst hs; exact .inl ⟨_, _, rfl⟩
    | succ j => simp at hs
  | recs l xs =>
    simp only [Cont.row] at hs
    rw [rowFrom_get] at hs
    cases hl : l[j]? with
    | none => rw [hl] at hs; cases hs
    | some sc =>
      rw [hl] at hs; cases hs
      simp only [leanC, List.all_eq_true] at h
      have := h sc (List.mem_of_getElem? hl)
      cases sc with
      | int k => exact .inl ⟨_, _, rfl⟩
      | bool => exact .inr ⟨_, rfl⟩
      | ints k => cases this
      | recs l => cases this

section
variable {φ φ' φ'' : Phi} {H H' : Heap} {own own' : Nat → Prop} {ρ : Nat → Nat}

theorem DV.ren (hρ : ∀ j y, φ j = some y → φ' (ρ j) = some y) {s : SV} {v : Value} (h : DV φ H own s v) : leanS s = true → DV φ' H own' (renS ρ s) v := by
  induction h with
  | any v => intro _; exact .any v
  | i k n => intro _; exact .i k n
  | b x => intro _; exact .b x
  | str s => intro _; exact .str s
  | nilp => intro _; exact .nilp
  | nils => intro _; exact .nils
  | nilf => intro _; exact .nilf
  | nili => intro _; exact .nili
  | ptr id row w col x h => intro _; exact .ptr _ row w col x (hρ _ _ h)
  | buf id w ex x n sp h hn hs => intro _; exact .buf _ w ex x n sp (hρ _ _ h) hn hs
  | bufNil id w h => intro _; exact .bufNil _ w (hρ _ _ h)
  | sl id off len w x o sp cap h ho hs hc hin => intro _; exact .sl _ off len w x o sp cap (hρ _ _ h) ho hs hc hin
  | slNil id w h => intro _; exact .slNil _ w (hρ _ _ h)
  | deepNil c h => intro h; cases h
  | deep c x o sp cap blk hs hc hb ho hl _ ih => intro h; cases h
  | dp c row col x o blk hb ho hl _ ih => intro h; cases h
  | npNil id w col n hn => intro _; exact .npNil _ w col n hn
  | np id w col x n hn h => intro _; exact .np _ w col x n hn (hρ _ _ h)
  | fn g x y x' y' hx hy _ _ ix iy =>
    intro h
    simp only [leanS, Bool.and_eq_true] at h
    refine .fn g _ _ x' y' (by rw [rensS_len]; exact hx) (by rw [rensS_len]; exact hy) (fun i s v h1 h2 => ?_) (fun i s v h1 h2 => ?_)
    · rw [rensS_get, Option.map_eq_some_iff] at h1
      obtain ⟨u, h3, rfl⟩ := h1
      exact ix i u v h3 h2 (leansS_get h.1 h3)
    · rw [rensS_get, Option.map_eq_some_iff] at h1
      obtain ⟨u, h3, rfl⟩ := h1
      exact iy i u v h3 h2 (leansS_get h.2 h3)
  | agg l x' hx _ ix =>
    intro h
    refine .agg _ x' (by rw [rensS_len]; exact hx) (fun i s v h1 h2 => ?_)
    rw [rensS_get, Option.map_eq_some_iff] at h1
    obtain ⟨u, h3, rfl⟩ := h1
    exact ix i u v h3 h2 (leansS_get (by simpa [leanS] using h) h3)
  | tup l x' hx _ ix =>
    intro h
    refine .tup _ x' (by rw [rensS_len]; exact hx) (fun i s v h1 h2 => ?_)
    rw [rensS_get, Option.map_eq_some_iff] at h1
    obtain ⟨u, h3, rfl⟩ := h1
    exact ix i u v h3 h2 (leansS_get (by simpa [leanS] using h) h3)

theorem ren_flat {s : SV} (h : flat s) : renS ρ s = s := by cases s <;> first | rfl | exact h.elim
/-- The same, where lists that are looked at stay so. -/
theorem DV.ren' (hρ : ∀ j y, φ j = some y → φ' (ρ j) = some y) (ho : ∀ x c, H.get x = some c → ¬ own x → ¬ own' x) {s : SV} {v : Value} (h : DV φ H own s v) : DV φ' H own' (renS ρ s) v := by
  induction h with
  | any v => exact .any v
  | i k n => exact .i k n
  | b x => exact .b x
  | str s => exact .str s
  | nilp => exact .nilp
  | nils => exact .nils
  | nilf => exact .nilf
  | nili => exact .nili
  | ptr id row w col x h => exact .ptr _ row w col x (hρ _ _ h)
  | buf id w ex x n sp h hn hs => exact .buf _ w ex x n sp (hρ _ _ h) hn hs
  | bufNil id w h => exact .bufNil _ w (hρ _ _ h)
  | sl id off len w x o sp cap h h1 hs hc hin => exact .sl _ off len w x o sp cap (hρ _ _ h) h1 hs hc hin
  | slNil id w h => exact .slNil _ w (hρ _ _ h)
  | deepNil c h => exact .deepNil c h
  | deep c x o sp cap blk hs hc hb h1 hl _ ih =>
    refine .deep c x o sp cap blk hs hc hb (ho x blk hb h1) hl (fun r hr j s hj v hv => ?_)
    have := ih r hr j s hj v hv
    rwa [ren_flat (flat_row hj)] at this
  | dp c row col x o blk hb h1 hl _ ih =>
    refine .dp c row col x o blk hb (ho x blk hb h1) hl (fun r hr j s hj v hv => ?_)
    have := ih r hr j s hj v hv
    rwa [ren_flat (flat_row hj)] at this
  | npNil id w col n hn => exact .npNil _ w col n hn
  | np id w col x n hn h => exact .np _ w col x n hn (hρ _ _ h)
  | fn g x y x' y' hx hy _ _ ix iy =>
    refine .fn g _ _ x' y' (by rw [rensS_len]; exact hx) (by rw [rensS_len]; exact hy) (fun i s v h1 h2 => ?_) (fun i s v h1 h2 => ?_)
    · rw [rensS_get, Option.map_eq_some_iff] at h1
      obtain ⟨u, h3, rfl⟩ := h1
      exact ix i u v h3 h2
    · rw [rensS_get, Option.map_eq_some_iff] at h1
      obtain ⟨u, h3, rfl⟩ := h1
      exact iy i u v h3 h2
  | agg l x' hx _ ix =>
    refine .agg _ x' (by rw [rensS_len]; exact hx) (fun i s v h1 h2 => ?_)
    rw [rensS_get, Option.map_eq_some_iff] at h1
    obtain ⟨u, h3, rfl⟩ := h1
    exact ix i u v h3 h2
  | tup l x' hx _ ix =>
    refine .tup _ x' (by rw [rensS_len]; exact hx) (fun i s v h1 h2 => ?_)
    rw [rensS_get, Option.map_eq_some_iff] at h1
    obtain ⟨u, h3, rfl⟩ := h1
    exact ix i u v h3 h2

theorem BV.ren (hρ : ∀ j y, φ j = some y → φ' (ρ j) = some y) {B : SBlk} {cs : List Value} (h : BV φ H own B cs) (hl : leanB B = true ∨ ∀ x c, H.get x = some c → ¬ own x → ¬ own' x) : BV φ' H own' (renB ρ B) cs := by
  cases B with
  | cells l =>
    refine ⟨by rw [rensS_len]; exact h.1, fun i s v h1 h2 => ?_⟩
    rw [rensS_get, Option.map_eq_some_iff] at h1
    obtain ⟨u, h3, rfl⟩ := h1
    rcases hl with hl | hl
    · exact (h.2 i u v h3 h2).ren hρ (leansS_get hl h3)
    · exact (h.2 i u v h3 h2).ren' hρ hl
  | cont c =>
    refine ⟨h.1, fun r hr j s hs v hv => ?_⟩
    have := h.2 r hr j s hs v hv
    rcases hl with hl | hl
    · rcases lean_row hl hs with ⟨k, n, rfl⟩ | ⟨x, rfl⟩
      · cases this; exact .i _ _
      · cases this; exact .b _
    · have := this.ren' (ρ := ρ) hρ hl
      rwa [ren_flat (flat_row hs)] at this
  | ptrs id w col rows =>
    refine ⟨h.1, fun r v hr hv => ?_⟩
    have := h.2 r v hr hv
    cases this with
    | npNil _ _ _ _ hn => exact .npNil _ _ _ _ hn
    | np _ _ _ x _ hn hx => exact .np _ _ _ x _ hn (hρ _ _ hx)
theorem renB_empty {B : SBlk} (h : B.empty) : (renB ρ B).empty := by cases B <;> exact h
end

/-! ### Blocks are laid back -/
def lookupP : List (Nat × Option SBlk) → Nat → Option (Option SBlk)
  | [], _ => none
  | (j, b) :: r, k => if k = j then some b else lookupP r k
def putMany : List (Nat × Option SBlk) → SHeap → SHeap
  | [], S => S
  | (j, b) :: r, S => (putMany r S).put j b
theorem putMany_frame : ∀ (l : List (Nat × Option SBlk)) (S : SHeap), (putMany l S).size = S.size ∧ (putMany l S).lock = S.lock ∧ (putMany l S).hid = S.hid
  | [], S => ⟨rfl, rfl, rfl⟩
  | p :: r, S => putMany_frame r S
theorem putMany_root : ∀ (l : List (Nat × Option SBlk)) (S : SHeap) (k : Nat), (putMany l S).root.get k = match lookupP l k with | some b => b | none => S.root.get k
  | [], S, k => rfl
  | (j, b) :: r, S, k => by
    simp only [putMany, lookupP]
    rw [SHeap.root_put]
    split
    · rfl
    · exact putMany_root r S k
theorem lookupP_mem : ∀ {l : List (Nat × Option SBlk)} {k : Nat} {b : Option SBlk}, lookupP l k = some b → (k, b) ∈ l
  | [], k, b, h => by cases h
  | (j, c) :: r, k, b, h => by
    simp only [lookupP] at h
    split at h
    · rename_i e; cases h; subst e; simp
    · exact List.mem_cons_of_mem _ (lookupP_mem h)
theorem lookupP_none : ∀ {l : List (Nat × Option SBlk)} {k : Nat}, lookupP l k = none → ∀ b, (k, b) ∉ l
  | [], k, h, b => by simp
  | (j, c) :: r, k, h, b => by
    simp only [lookupP] at h
    split at h
    · cases h
    · rename_i e
      intro hm
      rcases List.mem_cons.1 hm with hm | hm
      · cases hm; exact e rfl
      · exact lookupP_none h b hm

/-- Is the block laid back in its own place? -/
def inPl (K : List Nat) (τ : Sub) (j : Nat) : Option Nat := match K.contains j with | true => (match τ.get j with | some (some id) => some id | _ => none) | false => none
/-- The number that a block gets. -/
def rhoOf (K : List Nat) (τ : Sub) (n j : Nat) : Nat := match inPl K τ j with | some id => id | none => n + j
def handed (lk : Nat) (K : List Nat) (τ : Sub) (ρ : Nat → Nat) (Bs : List (Option SBlk)) (n : Nat) : List (Nat × Option SBlk) :=
  (List.range n).filterMap fun j => match decide (lk ≤ j) with
    | true => (match τ.get j with | some (some id) => some (id, match K.contains j with | true => ((Bs[j]?).join).map (renB ρ) | false => none) | _ => none)
    | false => none
def viewedP (τ : Sub) : List (Nat × Option SBlk) := τ.filterMap fun p => match decide (1000000 ≤ p.1) with | true => (match p.2 with | some id => some (id, none) | none => none) | false => none
def viewedOk (τ : Sub) (S : SHeap) : Bool := (viewedP τ).all fun p => decide (S.lock ≤ p.1) && (S.get p.1).isSome
def newBs (lk : Nat) (K : List Nat) (τ : Sub) (ρ : Nat → Nat) : Nat → List (Option SBlk) → List (Option SBlk)
  | _, [] => []
  | j, b :: r => (match decide (lk ≤ j) with
    | true => (match inPl K τ j with | some _ => none | none => b.map (renB ρ))
    | false => none) :: newBs lk K τ ρ (j + 1) r
theorem newBs_len (lk : Nat) (K : List Nat) (τ : Sub) (ρ : Nat → Nat) : ∀ (j : Nat) (l : List (Option SBlk)), (newBs lk K τ ρ j l).length = l.length
  | _, [] => rfl
  | j, b :: r => by simp [newBs, newBs_len lk K τ ρ]
theorem newBs_get {lk : Nat} {K : List Nat} {τ : Sub} {ρ : Nat → Nat} : ∀ {l : List (Option SBlk)} {j i : Nat} {B : SBlk}, (newBs lk K τ ρ j l)[i]? = some (some B) → (inPl K τ (j + i) = none ∧ lk ≤ j + i) ∧ ∃ C, l[i]? = some (some C) ∧ B = renB ρ C
  | [], j, i, B, h => by simp [newBs] at h
  | b :: r, j, 0, B, h => by
    simp only [newBs, List.getElem?_cons_zero, Option.some.injEq] at h
    split at h
    · rename_i hl
      split at h
      · cases h
      · rename_i e
        rw [Option.map_eq_some_iff] at h
        obtain ⟨C, rfl, rfl⟩ := h
        exact ⟨⟨e, of_decide_eq_true hl⟩, C, by simp, rfl⟩
    · cases h
  | b :: r, j, i + 1, B, h => by
    simp only [newBs, List.getElem?_cons_succ] at h
    obtain ⟨h1, C, h2, h3⟩ := newBs_get h
    exact ⟨by rw [show j + (i + 1) = j + 1 + i by omega]; exact h1, C, by simpa using h2, h3⟩
theorem bpsTo_some : ∀ {ps : List BP} {us : List Un} {j : Nat} {p : BP}, ps[j]? = some p → p.isGone = false → ∃ B, (bpsTo ps us)[j]? = some (some B)
  | [], us, j, p, h, _ => by simp at h
  | q :: ps, us, 0, p, h, hg => by
    simp only [List.getElem?_cons_zero, Option.some.injEq] at h
    subst h
    simp only [bpsTo, List.getElem?_cons_zero, Option.some.injEq]
    unfold BP.to
    split <;> first | exact ⟨_, rfl⟩ | cases hg
  | q :: ps, us, j + 1, p, h, hg => by
    simp only [bpsTo, List.getElem?_cons_succ]
    exact bpsTo_some (by simpa using h) hg
def laidBack (pairs : List (Nat × Option SBlk)) (news : List (Option SBlk)) (S : SHeap) : SHeap := news.foldl SHeap.pushO (putMany pairs S)

structure EntS where
  en : Pn
  ex : Pn
  f : List Un → Option (Bool × List Un)
def leanO : Option SBlk → Bool
  | some B => leanB B
  | none => true
def EntS.lean (e : EntS) (ys : List Un) : Bool := leansS (e.ex.valsTo ys) && (bpsTo e.ex.blks (ys.drop e.ex.size)).all leanO
/-- What is only looked at is handed back. -/
def lkOk (en ex : Pn) : Bool := (List.range en.lk).all (fun j => (keptOf en ex).contains j) && decide (ex.lk ≤ en.lk)
def EntS.run (e : EntS) (args : List SV) (S : SHeap) : Option (Bool × SV × SHeap) :=
  match e.en.blks.any BP.isGone || !lkOk e.en e.ex, e.en.of [] args S with
  | false, some (us, τ) =>
    (match e.f us with
     | some (c, ys) =>
       (match e.lean ys with
        | true => some (c, renS (rhoOf (keptOf e.en e.ex) τ S.size) (packS (e.ex.valsTo ys)),
            laidBack (handed e.en.lk (keptOf e.en e.ex) τ (rhoOf (keptOf e.en e.ex) τ S.size) (bpsTo e.ex.blks (ys.drop e.ex.size)) e.en.blks.length) (newBs e.en.lk (keptOf e.en e.ex) τ (rhoOf (keptOf e.en e.ex) τ S.size) 0 (bpsTo e.ex.blks (ys.drop e.ex.size))) S)
        | false =>
          (match S.hid.isEmpty && viewedOk τ S with
           | true => some (c, renS (rhoOf (keptOf e.en e.ex) τ S.size) (packS (e.ex.valsTo ys)),
              laidBack (handed e.en.lk (keptOf e.en e.ex) τ (rhoOf (keptOf e.en e.ex) τ S.size) (bpsTo e.ex.blks (ys.drop e.ex.size)) e.en.blks.length ++ viewedP τ) (newBs e.en.lk (keptOf e.en e.ex) τ (rhoOf (keptOf e.en e.ex) τ S.size) 0 (bpsTo e.ex.blks (ys.drop e.ex.size))) S)
           | false => none))
     | none => none)
  | _, _ => none

section
variable {P : Program} {L : List FuncId} {O : Known} {φ : Phi} {S : SHeap} {H : Heap}

theorem packS_lean {l : List SV} (h : leansS l = true) : leanS (packS l) = true := by
  match l, h with
  | [], _ => rfl
  | [s], h => simp only [leansS, Bool.and_true] at h; exact h
  | a :: b :: l, h => exact h
theorem kept_lt {en ex : Pn} {j : Nat} (h : j ∈ keptOf en ex) : j < en.blks.length ∧ ∃ b, ex.blks[j]? = some b ∧ b.isGone = false := by
  simp only [keptOf, List.mem_filter, List.mem_range] at h
  refine ⟨h.1, ?_⟩
  have h2 := h.2
  split at h2
  · rename_i b hb; exact ⟨b, hb, by simpa using h2⟩
  · cases h2

/-- What is behind a call: ln tells that nothing of what was looked at is handed back. -/
theorem back_sound {en ex : Pn} {g : FuncId} {us ys : List Un} {τ : Sub} {args : List SV} (hE : TellsS P L O g en ex us ys) (hof : en.of [] args S = some (us, τ)) (hgn : en.blks.any BP.isGone = false) (hlo : lkOk en ex = true) (ln : Bool) (pairs : List (Nat × Option SBlk))
    (hln : ln = true → leansS (ex.valsTo ys) = true ∧ (bpsTo ex.blks (ys.drop ex.size)).all leanO = true)
    (hnl : ln = false → NB φ S H ∧ (∀ p ∈ viewedP τ, S.lock ≤ p.1 ∧ (S.get p.1).isSome = true))
    (hpairs : pairs = handed en.lk (keptOf en ex) τ (rhoOf (keptOf en ex) τ S.size) (bpsTo ex.blks (ys.drop ex.size)) en.blks.length ++ (bif ln then [] else viewedP τ))
    {vs : List Value} (hS : Sim φ S H) (hd : DVL φ H (Own φ S) args vs) :
    ∃ N y H', callE P L O N g vs H = some (y, H') ∧ Got φ S H (laidBack pairs (newBs en.lk (keptOf en ex) τ (rhoOf (keptOf en ex) τ S.size) 0 (bpsTo ex.blks (ys.drop ex.size))) S) (renS (rhoOf (keptOf en ex) τ S.size) (packS (ex.valsTo ys))) H' y := by
  generalize hρ : rhoOf (keptOf en ex) τ S.size = ρ at hpairs ⊢
  generalize hBs : bpsTo ex.blks (ys.drop ex.size) = Bs at hpairs hln ⊢
  -- what is written in
  simp only [lkOk, Bool.and_eq_true, decide_eq_true_eq] at hlo
  obtain ⟨hlo1, hlo2⟩ := hlo
  have hlkK : ∀ j, j < en.lk → j ∈ keptOf en ex := fun j hj => by
    have := List.all_eq_true.1 hlo1 j (List.mem_range.2 hj)
    simpa using this
  have hmemH : ∀ j id, en.lk ≤ j → j < en.blks.length → τ.get j = some (some id) → ∃ b, (id, b) ∈ pairs := by
    intro j id hl hj hid
    refine ⟨(match (keptOf en ex).contains j with | true => ((Bs[j]?).join).map (renB ρ) | false => none), ?_⟩
    rw [hpairs]
    refine List.mem_append_left _ (List.mem_filterMap.2 ⟨j, List.mem_range.2 hj, ?_⟩)
    rw [decide_eq_true hl, hid]
  have hmemV : ln = false → ∀ id, τ.get (1000000 + id) = some (some id) → (id, none) ∈ pairs := by
    intro hl id hid
    rw [hpairs, hl]
    refine List.mem_append_right _ (List.mem_filterMap.2 ⟨(1000000 + id, some id), sub_mem hid, ?_⟩)
    simp
  let ban1 : Nat → Prop := fun x => ln = false ∧ (φ.ban x ∨ ∃ k C, S.get k = some C ∧ φ k = some (some x) ∧ lookupP pairs k = none ∧ ∀ j, j < en.blks.length → τ.get j ≠ some (some k))
  obtain ⟨hS1, hd1, ho1, hp1, _, hap, hkeys, _, ho1W⟩ := Pn_of (ban := ban1) hof hS (fun x hx => by
    rcases hx.2 with h | ⟨k, C, h1, h2, _⟩
    · exact .inl h
    · exact .inr ⟨k, C, h1, h2⟩) (fun id x B hid hB hx hb => by
    obtain ⟨hl, hb⟩ := hb
    rcases hb with hb | ⟨k, C, h1, h2, h3, _⟩
    · exact ((hnl hl).1 x hb).2 ⟨id, B, hB, hx⟩
    · have := hS.inj id k B C x hB h1 hx h2
      subst this
      exact lookupP_none h3 _ (hmemV hl id hid))
  generalize hφ1 : φ.sub ban1 τ en.blks.length = φ1 at hS1 hd1 ho1 hp1 ho1W
  have hb1 : φ1.ban = ban1 := by rw [← hφ1]; rfl
  have hnb1 : NB φ1 (en.heapTo us) H := by
    intro x hx
    rw [hb1] at hx
    obtain ⟨hl, hx⟩ := hx
    rcases hx with hx | ⟨k, C, h1, h2, h3, h9⟩
    · obtain ⟨a, b⟩ := (hnl hl).1 x hx
      refine ⟨a, fun h => b ?_⟩
      obtain ⟨j, id, B, _, _, g3, g4⟩ := ho1 x h
      exact ⟨id, B, g3, g4⟩
    · refine ⟨hS.lt k x h2, fun h => ?_⟩
      obtain ⟨j, id, B, g1, g2, g3, g4⟩ := ho1 x h
      have := hS.inj k id C B x h1 g3 h2 g4
      subst this
      exact h9 j g1 g2
  obtain ⟨N, y, H', φ', hcall, hsin, hdv⟩ := hE φ1 H vs hnb1 hS1 (hd1 vs hd)
  refine ⟨N, y, H', hcall, ?_⟩
  have hBl : Bs.length = ex.blks.length := by rw [← hBs, bpsTo_len]
  have hxh : ex.heapTo ys = { heapOf Bs with lock := ex.lk } := by unfold Pn.heapTo; rw [hBs]
  rw [hxh] at hsin hdv
  have hS2 := hsin.sim
  have hgetB : ∀ (j : Nat) (B : SBlk), Bs[j]? = some (some B) → ({ heapOf Bs with lock := ex.lk } : SHeap).get j = some B := fun j B h => by
    show (heapOf Bs).get j = some B
    rw [heapOf_get, h]; rfl
  -- numbers
  have hpl : ∀ j id, inPl (keptOf en ex) τ j = some id → j ∈ keptOf en ex ∧ j < en.blks.length ∧ τ.get j = some (some id) ∧ ρ j = id := by
    intro j id h
    have h0 := h
    unfold inPl at h
    split at h
    · rename_i hk
      have hk : j ∈ keptOf en ex := by simpa using hk
      split at h
      · rename_i id' hid
        cases h
        refine ⟨hk, (kept_lt hk).1, hid, ?_⟩
        rw [← hρ]; unfold rhoOf; rw [h0]
      · cases h
    · cases h
  have hnp : ∀ j, inPl (keptOf en ex) τ j = none → ρ j = S.size + j := by
    intro j h
    rw [← hρ]; unfold rhoOf; rw [h]
  have hid : ∀ j id, j < en.blks.length → τ.get j = some (some id) → (en.lk ≤ j → S.lock ≤ id) ∧ (∃ B, S.get id = some B) := by
    intro j id hj h
    refine ⟨fun hl => ?_, ?_⟩
    · rcases keys_of hkeys h with h | ⟨_, h⟩
      · have := Pn_small hof
        omega
      · exact h id rfl hl
    · exact Pn_live hof hS hgn hj h
  -- the new table
  let φ2 : Phi := ⟨fun k => if k < S.size then φ k else φ' (k - S.size), φ.ban⟩
  have hφ2lt : ∀ k, k < S.size → φ2 k = φ k := fun k h => if_pos h
  have hφ2ge : ∀ k, S.size ≤ k → φ2 k = φ' (k - S.size) := fun k h => if_neg (by omega)
  have hlt2 : ∀ z y, φ z = some y → z < S.size := by
    intro z y h
    rcases Nat.lt_or_ge z S.size with h1 | h1
    · exact h1
    · rw [hS.fresh z h1] at h; cases h
  -- a block laid back is the one that was there
  have hsame : ∀ j id, inPl (keptOf en ex) τ j = some id → ∃ y, φ id = some y ∧ φ' j = some y := by
    intro j id h
    obtain ⟨h1, h2, h3, h4⟩ := hpl j id h
    obtain ⟨_, B, hB⟩ := hid j id h2 h3
    have e := hp1 j id h2 h3
    rcases hS.blk id B hB with ⟨k1, _⟩ | ⟨x, d, k1, _⟩
    · exact ⟨_, k1, hsin.ent j h1 _ (by rw [e]; exact k1)⟩
    · exact ⟨_, k1, hsin.ent j h1 _ (by rw [e]; exact k1)⟩
  have hρφ : ∀ j y, φ' j = some y → φ2 (ρ j) = some y := by
    intro j y h
    cases hi : inPl (keptOf en ex) τ j with
    | some id =>
      obtain ⟨y', k1, k2⟩ := hsame j id hi
      rw [(hpl j id hi).2.2.2, hφ2lt _ (hlt2 _ _ k1), k1]
      rw [k2] at h; exact h
    | none =>
      rw [hnp j hi, hφ2ge _ (by omega), show S.size + j - S.size = j by omega]
      exact h
  have hle : ∀ z y, φ z = some y → φ2 z = some y := fun z y h => by rw [hφ2lt z (hlt2 z y h)]; exact h
  -- the new blocks
  generalize hSS : laidBack pairs (newBs en.lk (keptOf en ex) τ ρ 0 Bs) S = SS
  obtain ⟨f1, f2, f3⟩ := putMany_frame pairs S
  have fr := foldl_push (newBs en.lk (keptOf en ex) τ ρ 0 Bs) (putMany pairs S)
  rw [show (newBs en.lk (keptOf en ex) τ ρ 0 Bs).foldl SHeap.pushO (putMany pairs S) = SS from hSS] at fr
  obtain ⟨r1, r2, r3, r4⟩ := fr
  rw [f1] at r1 r4
  rw [f2] at r2
  rw [f3] at r3
  rw [newBs_len] at r1 r4
  have hget : ∀ (k : Nat) (C : SBlk), SS.get k = some C → (∃ (j : Nat) (B : SBlk), (Bs[j]? = some (some B) ∧ en.lk ≤ j) ∧ C = renB ρ B ∧ ρ j = k) ∨ (k < S.size ∧ lookupP pairs k = none ∧ S.get k = some C) := by
    intro k C hk
    have h1 := SHeap.get_lt hk
    obtain ⟨h2, h3⟩ := SHeap.get_root hk
    rw [r4] at h2
    rw [r3] at h3
    by_cases hge : S.size ≤ k
    · rw [if_pos ⟨hge, by rw [r1] at h1; exact h1⟩] at h2
      obtain ⟨g1, B, g2, g3⟩ := newBs_get (i := k - S.size) (B := C) (by
        cases hx : (newBs en.lk (keptOf en ex) τ ρ 0 Bs)[k - S.size]? with
        | none => rw [hx] at h2; cases h2
        | some o => rw [hx] at h2; simp at h2; rw [h2])
      rw [Nat.zero_add] at g1
      exact .inl ⟨_, B, ⟨g2, g1.2⟩, g3, by rw [hnp _ g1.1]; omega⟩
    · rw [if_neg (by omega), putMany_root] at h2
      cases hl : lookupP pairs k with
      | none =>
        rw [hl] at h2
        exact .inr ⟨by omega, rfl, (SHeap.get_of (by omega) h3).trans h2⟩
      | some b =>
        rw [hl] at h2
        have h2 : b = some C := h2
        subst h2
        have hm := lookupP_mem hl
        rw [hpairs] at hm
        rcases List.mem_append.1 hm with hm | hm
        · obtain ⟨j, hj, hj2⟩ := List.mem_filterMap.1 hm
          have hj := List.mem_range.1 hj
          split at hj2
          · rename_i hlj
            have hlj := of_decide_eq_true hlj
            split at hj2
            · rename_i id hid'
              simp only [Option.some.injEq, Prod.mk.injEq] at hj2
              obtain ⟨rfl, hj3⟩ := hj2
              split at hj3
              · rename_i hk
                rw [Option.map_eq_some_iff] at hj3
                obtain ⟨B, g1, g2⟩ := hj3
                have hi : inPl (keptOf en ex) τ j = some id := by unfold inPl; rw [hk, hid']
                refine .inl ⟨j, B, ⟨?_, hlj⟩, g2.symm, (hpl j id hi).2.2.2⟩
                cases hx : Bs[j]? with
                | none => rw [hx] at g1; cases g1
                | some o => rw [hx] at g1; simp at g1; rw [g1]
              · cases hj3
            · cases hj2
          · cases hj2
        · exfalso
          cases ln with
          | true => simp at hm
          | false =>
            have hm : (k, some C) ∈ viewedP τ := hm
            obtain ⟨p, _, hp⟩ := List.mem_filterMap.1 hm
            split at hp
            · split at hp
              · simp at hp
              · cases hp
            · cases hp
  -- what the callee had of the caller's was handed over
  have hownC : ∀ x, x < H.size → OwnI φ' { heapOf Bs with lock := ex.lk } x → ∃ (j id : Nat) (B : SBlk), j < en.blks.length ∧ τ.get j = some (some id) ∧ S.get id = some B ∧ φ id = some (some x) := fun x hx h => ho1 x (hsin.own x hx h)
  have hcls : ∀ (k : Nat) (C : SBlk) (x : Nat), SS.get k = some C → φ2 k = some (some x) → (∃ (j : Nat) (B : SBlk), (Bs[j]? = some (some B) ∧ en.lk ≤ j) ∧ φ' j = some (some x) ∧ ρ j = k) ∨ (k < S.size ∧ lookupP pairs k = none ∧ S.get k = some C ∧ φ k = some (some x)) := by
    intro k C x hk hx
    rcases hget k C hk with ⟨j, B, h1, _, h3⟩ | ⟨hlt, hno, h2⟩
    · refine .inl ⟨j, B, h1, ?_, h3⟩
      rcases hS2.blk j B (hgetB j B h1.1) with ⟨g1, _⟩ | ⟨x', _, g1, _⟩
      · have := hρφ j _ g1
        rw [h3, hx] at this; cases this
      · have := hρφ j _ g1
        rw [h3, hx] at this; cases this; exact g1
    · rw [hφ2lt k hlt] at hx
      exact .inr ⟨hlt, hno, h2, hx⟩
  have hown : ∀ x, x < H.size → OwnI φ2 SS x → OwnI φ S x := by
    rintro x hx ⟨k, C, g1, g2⟩
    rcases hcls k C x g1 g2 with ⟨j, B, h1, h2, _⟩ | ⟨_, _, h2, h3⟩
    · obtain ⟨_, id, B', _, _, h5, h6⟩ := hownC x hx ⟨j, B, hgetB j B h1.1, h2⟩
      exact ⟨id, B', h5, h6⟩
    · exact ⟨k, C, h2, h3⟩
  have ho1' : ∀ x, OwnW φ1 (en.heapTo us) x → OwnW φ S x := fun x h => by
    obtain ⟨_, id, B', _, _, _, h4, h5, h6⟩ := ho1W x h
    exact ⟨id, B', h4, h5, h6⟩
  have hkeep : ∀ x, x < H.size → ¬ OwnW φ S x → H'.get x = H.get x := fun x hx h => hsin.keep x hx (fun h' => h (ho1' x h'))
  have hext : Ext φ H (Own φ S) φ2 H' (Own φ2 SS) := by
    refine ⟨hle, fun x c h1 h2 => ?_, fun id x c' h1 h2 => hsin.len x c' (hS.lt id x h1) h2⟩
    have hx := Heap.get_lt h1
    refine ⟨by rw [hkeep x hx (fun h => h2 (.inr h.toI))]; exact h1, ?_⟩
    rintro (h | h)
    · exact h2 (.inl h)
    · exact h2 (.inr (hown x hx h))
  -- lists that are looked at
  have hdeep : ln = false → ∀ x c, H'.get x = some c → ¬ Own φ' { heapOf Bs with lock := ex.lk } x → ¬ Own φ2 SS x := by
    intro hl x c _ hno ho
    have hbn : φ'.ban = ban1 := hsin.ban.trans hb1
    rcases ho with ho | ⟨k, C, g1, g2⟩
    · exact hno (.inl (by rw [hbn]; exact ⟨hl, .inl ho⟩))
    · rcases hcls k C x g1 g2 with ⟨j, B, h1, h2, _⟩ | ⟨_, h1, h2, h3⟩
      · exact hno (.inr ⟨j, B, hgetB j B h1.1, h2⟩)
      · by_cases hj : ∃ j, j < en.blks.length ∧ τ.get j = some (some k)
        · obtain ⟨j, g3, g4⟩ := hj
          rcases Nat.lt_or_ge j en.lk with hlj | hlj
          · have hK := hlkK j hlj
            obtain ⟨_, b, hb, hbg⟩ := kept_lt hK
            obtain ⟨B, hB⟩ := bpsTo_some (us := ys.drop ex.size) hb hbg
            rw [hBs] at hB
            exact hno (.inr ⟨j, B, hgetB j B hB, hsin.ent j hK _ (by rw [hp1 j k g3 g4]; exact h3)⟩)
          · obtain ⟨b, hb⟩ := hmemH j k hlj g3 g4
            exact lookupP_none h1 b hb
        · exact hno (.inl (by rw [hbn]; exact ⟨hl, .inr ⟨k, C, h2, h3, h1, fun j g3 g4 => hj ⟨j, g3, g4⟩⟩⟩))
  have hleanB : ∀ (j : Nat) (B : SBlk), Bs[j]? = some (some B) → leanB B = true ∨ ∀ x c, H'.get x = some c → ¬ Own φ' { heapOf Bs with lock := ex.lk } x → ¬ Own φ2 SS x := by
    intro j B hj
    cases ln with
    | true => exact .inl (List.all_eq_true.1 (hln rfl).2 _ (List.mem_of_getElem? hj))
    | false => exact .inr (hdeep rfl)
  have hnew : ∀ (j : Nat) (B : SBlk), Bs[j]? = some (some B) → en.lk ≤ j → (φ2 (ρ j) = some none ∧ (renB ρ B).empty) ∨ ∃ x c, φ2 (ρ j) = some (some x) ∧ φ' j = some (some x) ∧ H'.get x = some c ∧ H'.lock ≤ x ∧ BV φ2 H' (Own φ2 SS) (renB ρ B) c.cells := by
    intro j B hj hlj
    rcases hS2.blk j B (hgetB j B hj) with ⟨h1, h2⟩ | ⟨x, c, h1, h2, h3, h4⟩
    · exact .inl ⟨hρφ j _ h1, renB_empty h2⟩
    · exact .inr ⟨x, c, hρφ j _ h1, h1, h2, h3 (Nat.le_trans hlo2 hlj), h4.ren hρφ (hleanB j B hj)⟩
  have hstay : ∀ (k : Nat) (C : SBlk) (x : Nat) (c : Blk), lookupP pairs k = none → S.get k = some C → φ k = some (some x) → H.get x = some c → H'.get x = some c := by
    intro k C x c hno h1 h2 h3
    rw [hsin.keep x (hS.lt k x h2) ?_]
    · exact h3
    · intro h
      obtain ⟨j, id, B, g0, g1, g2, _, g3, g4⟩ := ho1W x h
      have := hS.inj k id C B x h1 g3 h2 g4
      subst this
      obtain ⟨b, hb⟩ := hmemH j k g0 g1 g2
      exact lookupP_none hno b hb
  have hcross : ∀ (j : Nat) (B : SBlk) (k : Nat) (C : SBlk) (x : Nat), (Bs[j]? = some (some B) ∧ en.lk ≤ j) → φ' j = some (some x) → lookupP pairs k = none → S.get k = some C → φ k = some (some x) → False := by
    intro j B k C x h1 h2 h4 h5 h6
    obtain ⟨i, z, B', gl, g0, g1, _, g2, g3⟩ := ho1W x (hsin.ownW x (hS.lt k x h6) ⟨j, B, Nat.le_trans hlo2 h1.2, hgetB j B h1.1, h2⟩)
    have := hS.inj k z C B' x h5 g2 h6 g3
    subst this
    obtain ⟨b, hb⟩ := hmemH i k gl g0 g1
    exact lookupP_none h4 b hb
  have hstep : Step φ S H φ2 SS H' := by
    refine ⟨⟨?_, ?_, ?_, ?_, ?_, by rw [hsin.elock]; exact Nat.le_trans hS.elock hsin.esize, fun x hx => by rw [hsin.ehid]; exact hS.ehid x (Nat.le_trans hsin.esize hx)⟩, hle, rfl, hown, hkeep, hsin.len, hsin.esize, hsin.elock, hsin.ehid, by omega, r2, r3, ?_⟩
    · intro k C hk
      rcases hget k C hk with ⟨j, B, h1, rfl, h3⟩ | ⟨hlt, hno, h2⟩
      · rw [← h3]
        rcases hnew j B h1.1 h1.2 with ⟨g1, g2⟩ | ⟨x, c, g1, _, g2, g4, g3⟩
        · exact .inl ⟨g1, g2⟩
        · exact .inr ⟨x, c, g1, g2, fun _ => g4, g3⟩
      · rcases hS.blk k C h2 with ⟨g1, g2⟩ | ⟨x, c, g1, g2, g3, g4⟩
        · exact .inl ⟨hle _ _ g1, g2⟩
        · exact .inr ⟨x, c, hle _ _ g1, hstay k C x c hno h2 g1 g2, fun h => by rw [hsin.elock]; exact g3 (by rw [← r2]; exact h), g4.mono hext⟩
    · intro k k' C C' x h1 h2 h3 h4
      rcases hcls k C x h1 h3 with ⟨j, B, a1, a2, a3⟩ | ⟨a1, a2, a3, a4⟩
      · rcases hcls k' C' x h2 h4 with ⟨j', B', b1, b2, b3⟩ | ⟨b1, b2, b3, b4⟩
        · have := hS2.inj j j' B B' x (hgetB _ _ a1.1) (hgetB _ _ b1.1) a2 b2
          subst this
          rw [← a3, ← b3]
        · exact (hcross j B k' C' x a1 a2 b2 b3 b4).elim
      · rcases hcls k' C' x h2 h4 with ⟨j', B', b1, b2, b3⟩ | ⟨b1, b2, b3, b4⟩
        · exact (hcross j' B' k C x b1 b2 a2 a3 a4).elim
        · exact hS.inj k k' C C' x a3 b3 a4 b4
    · intro k hk
      rw [r1] at hk
      rw [hφ2ge k (by omega)]
      exact hS2.fresh _ (by show (heapOf Bs).size ≤ _; rw [heapOf_size]; omega)
    · intro k x hx
      by_cases hk : k < S.size
      · rw [hφ2lt k hk] at hx
        exact Nat.lt_of_lt_of_le (hS.lt k x hx) hsin.esize
      · rw [hφ2ge k (by omega)] at hx
        exact hS2.lt _ x hx
    · rw [r1, r2]
      have := hS.slock
      omega
    · intro k h1 h2
      rw [r4, if_neg (by omega), putMany_root]
      cases hl : lookupP pairs k with
      | none => rfl
      | some b =>
        exfalso
        have hm := lookupP_mem hl
        rw [hpairs] at hm
        have hbad : S.lock ≤ k ∧ ∃ B, S.get k = some B := by
          rcases List.mem_append.1 hm with hm | hm
          · obtain ⟨j, hj, hj2⟩ := List.mem_filterMap.1 hm
            have hj := List.mem_range.1 hj
            split at hj2
            · rename_i hlj
              split at hj2
              · rename_i id hid'
                simp only [Option.some.injEq, Prod.mk.injEq] at hj2
                obtain ⟨rfl, _⟩ := hj2
                exact ⟨(hid j id hj hid').1 (of_decide_eq_true hlj), (hid j id hj hid').2⟩
              · cases hj2
            · cases hj2
          · cases ln with
            | true => simp at hm
            | false =>
              obtain ⟨g1, g2⟩ := (hnl rfl).2 _ hm
              exact ⟨g1, Option.isSome_iff_exists.1 g2⟩
        obtain ⟨b1, B0, b2⟩ := hbad
        rcases h2 with h2 | h2
        · omega
        · rw [b2] at h2; cases h2
  refine ⟨φ2, hstep, ?_⟩
  cases ln with
  | true => exact hdv.ren hρφ (packS_lean (hln rfl).1)
  | false => exact hdv.ren' hρφ (hdeep rfl)

theorem EntS.sound {e : EntS} {g : FuncId} (hE : ∀ us ys, e.f us = some (true, ys) → TellsS P L O g e.en e.ex us ys) {args : List SV} {v : SV} {S' : SHeap} (h : e.run args S = some (true, v, S'))
    {vs : List Value} (hnb : NBh φ S H) (hS : Sim φ S H) (hd : DVL φ H (Own φ S) args vs) : ∃ N y H', callE P L O N g vs H = some (y, H') ∧ Got φ S H S' v H' y := by
  unfold EntS.run at h
  split at h
  case h_2 => cases h
  rename_i us τ hgn0 hof
  simp only [Bool.or_eq_false_iff, Bool.not_eq_false'] at hgn0
  obtain ⟨hgn, hlo⟩ := hgn0
  split at h
  case h_2 => cases h
  rename_i c ys hf
  split at h
  · rename_i hl
    simp only [Option.some.injEq, Prod.mk.injEq] at h
    obtain ⟨rfl, rfl, rfl⟩ := h
    simp only [EntS.lean, Bool.and_eq_true] at hl
    exact back_sound (hE us ys hf) hof hgn hlo true _ (fun _ => hl) (fun h => by cases h) (by simp) hS hd
  · split at h
    · rename_i hv
      simp only [Bool.and_eq_true, List.isEmpty_iff] at hv
      simp only [Option.some.injEq, Prod.mk.injEq] at h
      obtain ⟨rfl, rfl, rfl⟩ := h
      refine back_sound (hE us ys hf) hof hgn hlo false _ (fun h => by cases h) (fun _ => ⟨hnb hv.1, fun p hp => ?_⟩) rfl hS hd
      have := List.all_eq_true.1 hv.2 p hp
      simpa using this
    · cases h
end
end
end Go.Proofs.Ytoiijpphfckdjaa.Ev
