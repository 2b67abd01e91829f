/-
  What is left of a function, as a list of things to do; what it comes to.
-/
import Derived.Test.YtoiijpphfckdjaaE20
namespace Go.Proofs.Ytoiijpphfckdjaa.Ev
open Go

/-- A thing to do, with the way to it from the function's body. -/
inductive Item where
  | code (p : List Nat) (c : Code)
  | ops (A : Array Oper) (l : List Oper)
  | blk (id : Nat)
  | lp (p : List Nat) (b : Code)

def Item.isBlk (k : Nat) : Item → Bool
  | .blk id => k == id
  | _ => false

section
variable (P : Program) (L : List FuncId) (cl : Cl) (N : Nat)

def itemE : Item → St → Option (Ex × St)
  | .code _ c, s => codeE P L cl N c s
  | .ops A l, s => (opsE P cl A l s).map (Ex.normal, ·)
  | .blk _, s => some (.normal, s)
  | .lp _ b, s => loopN N (codeE P L cl N b) s

mutual
def itemsE : List Item → St → Option (Ex × St)
  | [], s => some (.normal, s)
  | i :: r, s =>
    match itemE P L cl N i s with
    | some (.normal, s') => itemsE r s'
    | some (.exit k, s') => leaveE k r s'
    | some (.ret, s') => some (.ret, s')
    | none => none
def leaveE (k : Nat) : List Item → St → Option (Ex × St)
  | [], s => some (.exit k, s)
  | i :: r, s =>
    match i.isBlk k with
    | true => itemsE r s
    | false => leaveE k r s
end
end

section
variable {P : Program} {L : List FuncId} {cl cl' : Cl} {N M : Nat}

theorem itemE_mono (hl : LeC cl cl') (hN : N ≤ M) {i : Item} {s : St} {r : Ex × St} (h : itemE P L cl N i s = some r) : itemE P L cl' M i s = some r := by
  cases i with
  | code p c => exact codeE_mono hl hN c h
  | ops A l =>
    simp only [itemE] at h ⊢
    cases ho : opsE P cl A l s with
    | none => rw [ho] at h; cases h
    | some s' => rw [ho] at h; rw [opsE_mono hl ho]; exact h
  | blk id => exact h
  | lp p b => exact loopN_mono hN (fun s r h => codeE_mono hl hN b h) h

theorem items_mono (hl : LeC cl cl') (hN : N ≤ M) : ∀ (l : List Item),
    (∀ {s : St} {r : Ex × St}, itemsE P L cl N l s = some r → itemsE P L cl' M l s = some r) ∧
    (∀ {k : Nat} {s : St} {r : Ex × St}, leaveE P L cl N k l s = some r → leaveE P L cl' M k l s = some r)
  | [] => ⟨fun h => by simpa [itemsE] using h, fun h => by simpa [leaveE] using h⟩
  | i :: l => by
    have ih := items_mono hl hN l
    refine ⟨fun {s r} h => ?_, fun {k s r} h => ?_⟩
    · unfold itemsE at h ⊢
      cases hi : itemE P L cl N i s with
      | none => rw [hi] at h; cases h
      | some x =>
        obtain ⟨e, s'⟩ := x
        rw [hi] at h; rw [itemE_mono hl hN hi]
        cases e with
        | normal => exact ih.1 h
        | exit k => exact ih.2 h
        | ret => exact h
    · unfold leaveE at h ⊢
      cases hb : i.isBlk k with
      | true => rw [hb] at h; exact ih.1 h
      | false => rw [hb] at h; exact ih.2 h
end

/-- What the whole comes to: some number of rounds, some depth of calls. -/
def Mean (P : Program) (L : List FuncId) (O : Known) (l : List Item) (s : St) (q : Ex × St) : Prop := ∃ N, itemsE P L (callE P L O N) N l s = some q

section
variable {P : Program} {L : List FuncId} {O : Known}

theorem itemsE_at {N M : Nat} (h : N ≤ M) {l : List Item} {s : St} {q : Ex × St} (hq : itemsE P L (callE P L O N) N l s = some q) : itemsE P L (callE P L O M) M l s = some q :=
  (items_mono (callE_mono h) h l).1 hq

theorem itemsE_append {cl : Cl} {N : Nat} : ∀ (a b : List Item) {s : St},
    (itemsE P L cl N (a ++ b) s = match itemsE P L cl N a s with
      | some (.normal, s') => itemsE P L cl N b s'
      | some (.exit k, s') => leaveE P L cl N k b s'
      | r => r) ∧
    (∀ k, leaveE P L cl N k (a ++ b) s = match leaveE P L cl N k a s with
      | some (.normal, s') => itemsE P L cl N b s'
      | some (.exit k, s') => leaveE P L cl N k b s'
      | r => r)
  | [], b, s => by simp [itemsE, leaveE]
  | i :: a, b, s => by
    refine ⟨?_, fun k => ?_⟩
    · simp only [List.cons_append]
      rw [itemsE, itemsE]
      cases hi : itemE P L cl N i s with
      | none => rfl
      | some x =>
        obtain ⟨e, s'⟩ := x
        cases e with
        | normal => exact (itemsE_append a b).1
        | exit k => exact (itemsE_append a b).2 k
        | ret => rfl
    · simp only [List.cons_append]
      rw [leaveE, leaveE]
      cases hb : i.isBlk k with
      | true => exact (itemsE_append a b).1
      | false => exact (itemsE_append a b).2 k

theorem Mean.seq {p p1 p2 : List Nat} {a b : Code} {r : List Item} {s : St} {q : Ex × St} (h : Mean P L O (.code p1 a :: .code p2 b :: r) s q) : Mean P L O (.code p (.seq a b) :: r) s q := by
  obtain ⟨N, h⟩ := h
  refine ⟨N, ?_⟩
  rw [itemsE] at h ⊢
  simp only [itemE, codeE] at h ⊢
  cases ha : codeE P L (callE P L O N) N a s with
  | none => rw [ha] at h; cases h
  | some x =>
    obtain ⟨e, s'⟩ := x
    rw [ha] at h
    cases e with
    | normal =>
      dsimp only at h ⊢
      rw [itemsE] at h
      simp only [itemE] at h
      exact h
    | exit k =>
      dsimp only at h ⊢
      rw [leaveE] at h
      exact h
    | ret => exact h

theorem Mean.block {p p1 : List Nat} {id : Nat} {b : Code} {r : List Item} {s : St} {q : Ex × St} (h : Mean P L O (.code p1 b :: .blk id :: r) s q) : Mean P L O (.code p (.block id b) :: r) s q := by
  obtain ⟨N, h⟩ := h
  refine ⟨N, ?_⟩
  rw [itemsE] at h ⊢
  simp only [itemE, codeE] at h ⊢
  cases ha : codeE P L (callE P L O N) N b s with
  | none => rw [ha] at h; cases h
  | some x =>
    obtain ⟨e, s'⟩ := x
    rw [ha] at h
    cases e with
    | normal =>
      dsimp only at h ⊢
      rw [itemsE] at h
      exact h
    | exit k =>
      dsimp only at h ⊢
      rw [leaveE] at h
      simp only [Item.isBlk] at h
      by_cases hk : k = id
      · rw [if_pos hk]; rw [beq_iff_eq.2 hk] at h; exact h
      · rw [if_neg hk]; rw [beq_eq_false_iff_ne.2 hk] at h; exact h
    | ret => exact h

theorem Mean.loop {p p1 : List Nat} {b : Code} {r : List Item} {s : St} {q : Ex × St} (h : Mean P L O (.lp p1 b :: r) s q) : Mean P L O (.code p (.loop b) :: r) s q := by
  obtain ⟨N, h⟩ := h
  exact ⟨N, by rw [itemsE] at h ⊢; simp only [itemE, codeE] at h ⊢; exact h⟩

theorem Mean.round {p p1 : List Nat} {b : Code} {r : List Item} {s : St} {q : Ex × St} (h : Mean P L O (.code p1 b :: .lp p b :: r) s q) : Mean P L O (.lp p b :: r) s q := by
  obtain ⟨N, h⟩ := h
  have h' := itemsE_at (Nat.le_succ N) h
  refine ⟨N + 1, ?_⟩
  have hm : ∀ (s : St) (r : Ex × St), codeE P L (callE P L O N) N b s = some r → codeE P L (callE P L O (N + 1)) (N + 1) b s = some r := fun s r => codeE_mono (callE_mono (Nat.le_succ N)) (Nat.le_succ N) b
  rw [itemsE] at h ⊢
  simp only [itemE] at h ⊢
  rw [loopN]
  cases ha : codeE P L (callE P L O N) N b s with
  | none => rw [ha] at h; cases h
  | some x =>
    obtain ⟨e, s'⟩ := x
    rw [ha] at h
    rw [hm _ _ ha]
    cases e with
    | normal =>
      dsimp only at h ⊢
      rw [itemsE] at h
      simp only [itemE] at h
      cases hl : loopN N (codeE P L (callE P L O N) N b) s' with
      | none => rw [hl] at h; cases h
      | some y =>
        rw [loopN_mono (Nat.le_refl N) hm hl]
        rw [hl] at h
        obtain ⟨e, s''⟩ := y
        cases e with
        | normal => exact (items_mono (callE_mono (Nat.le_succ N)) (Nat.le_succ N) r).1 h
        | exit k => exact (items_mono (callE_mono (Nat.le_succ N)) (Nat.le_succ N) r).2 h
        | ret => exact h
    | exit k =>
      dsimp only at h ⊢
      rw [leaveE] at h
      exact (items_mono (callE_mono (Nat.le_succ N)) (Nat.le_succ N) r).2 h
    | ret => exact h

theorem Mean.skip {p : List Nat} {r : List Item} {s : St} {q : Ex × St} (h : Mean P L O r s q) : Mean P L O (.code p .skip :: r) s q := by
  obtain ⟨N, h⟩ := h
  exact ⟨N, by rw [itemsE]; simpa only [itemE, codeE] using h⟩
theorem Mean.label {p : List Nat} {k : Nat} {r : List Item} {s : St} {q : Ex × St} (h : Mean P L O r s q) : Mean P L O (.code p (.label k) :: r) s q := by
  obtain ⟨N, h⟩ := h
  exact ⟨N, by rw [itemsE]; simpa only [itemE, codeE] using h⟩
theorem Mean.blk {id : Nat} {r : List Item} {s : St} {q : Ex × St} (h : Mean P L O r s q) : Mean P L O (.blk id :: r) s q := by
  obtain ⟨N, h⟩ := h
  exact ⟨N, by rw [itemsE]; simpa only [itemE] using h⟩
theorem Mean.ret {p : List Nat} {r : List Item} {s : St} : Mean P L O (.code p .ret :: r) s (.ret, s) := ⟨0, by rw [itemsE]; simp only [itemE, codeE]⟩
theorem Mean.nil {s : St} : Mean P L O [] s (.normal, s) := ⟨0, by rw [itemsE]⟩

/-- What an exit leaves. -/
def leave (k : Nat) : List Item → Option (List Item)
  | [] => none
  | i :: r => match i.isBlk k with | true => some r | false => leave k r

theorem leave_E {cl : Cl} {N k : Nat} {s : St} : ∀ {r r' : List Item}, leave k r = some r' → leaveE P L cl N k r s = itemsE P L cl N r' s
  | [], _, h => by simp [leave] at h
  | i :: r, r', h => by
    rw [leaveE]
    rw [leave] at h
    cases hb : i.isBlk k with
    | true => rw [hb] at h; cases h; rfl
    | false => rw [hb] at h; exact leave_E h

theorem Mean.exit {p : List Nat} {k : Nat} {r r' : List Item} {s : St} {q : Ex × St} (hr : leave k r = some r') (h : Mean P L O r' s q) : Mean P L O (.code p (.exit k) :: r) s q := by
  obtain ⟨N, h⟩ := h
  exact ⟨N, by rw [itemsE]; simp only [itemE, codeE]; rw [leave_E hr]; exact h⟩

theorem Mean.cond {p p1 : List Nat} {x : Operand} {a b : Code} {r : List Item} {s : St} {q : Ex × St} {t : Bool} (hx : opnd s.fr x = some (.bool t)) (h : Mean P L O (.code p1 (match t with | true => a | false => b) :: r) s q) :
    Mean P L O (.code p (.cond x a b) :: r) s q := by
  obtain ⟨N, h⟩ := h
  refine ⟨N, ?_⟩
  rw [itemsE] at h ⊢
  simp only [itemE, codeE] at h ⊢
  rw [hx]
  cases t <;> exact h

theorem Mean.region {p : List Nat} {id : Nat} {ops : Array Oper} {r : List Item} {s : St} {q : Ex × St} (h : Mean P L O (.ops ops ops.toList :: r) s q) : Mean P L O (.code p (.region id ops false) :: r) s q := by
  obtain ⟨N, h⟩ := h
  exact ⟨N, by rw [itemsE] at h ⊢; simp only [itemE, codeE] at h ⊢; exact h⟩

theorem Mean.draw {p : List Nat} {id : Nat} {ops : Array Oper} {r : List Item} {s s' : St} {q : Ex × St} (hd : ∃ N, drawE P L (callE P L O N) ops s = some s') (h : Mean P L O r s' q) : Mean P L O (.code p (.region id ops true) :: r) s q := by
  obtain ⟨N, h⟩ := h
  obtain ⟨M, hd⟩ := hd
  refine ⟨max N M, ?_⟩
  rw [itemsE]
  simp only [itemE, codeE]
  rw [drawE_mono (callE_mono (Nat.le_max_right N M)) hd]
  exact itemsE_at (Nat.le_max_left N M) h

theorem Mean.opsNil {A : Array Oper} {r : List Item} {s : St} {q : Ex × St} (h : Mean P L O r s q) : Mean P L O (.ops A [] :: r) s q := by
  obtain ⟨N, h⟩ := h
  exact ⟨N, by rw [itemsE]; simp only [itemE, opsE, Option.map]; exact h⟩

theorem Mean.op {A : Array Oper} {o : Oper} {l : List Oper} {r : List Item} {s : St} {q : Ex × St} {v : Value} {H : Heap} (hw : wantedE A s.fr o = true) (ho : ∃ N, opE P (callE P L O N) (opnd s.fr) o s.hp = some (v, H))
    (h : Mean P L O (.ops A l :: r) ⟨putE s.fr o.dst v, H⟩ q) : Mean P L O (.ops A (o :: l) :: r) s q := by
  obtain ⟨N, h⟩ := h
  obtain ⟨M, ho⟩ := ho
  refine ⟨max N M, ?_⟩
  have h := itemsE_at (Nat.le_max_left N M) h
  rw [itemsE] at h ⊢
  simp only [itemE] at h ⊢
  rw [opsE, hw]; dsimp only
  rw [opE_mono (callE_mono (Nat.le_max_right N M)) ho]
  exact h

theorem Mean.opSkip {A : Array Oper} {o : Oper} {l : List Oper} {r : List Item} {s : St} {q : Ex × St} (hw : wantedE A s.fr o = false)
    (h : Mean P L O (.ops A l :: r) ⟨putE s.fr o.dst undef, s.hp⟩ q) : Mean P L O (.ops A (o :: l) :: r) s q := by
  obtain ⟨N, h⟩ := h
  refine ⟨N, ?_⟩
  rw [itemsE] at h ⊢
  simp only [itemE] at h ⊢
  rw [opsE, hw]
  exact h
end
end Go.Proofs.Ytoiijpphfckdjaa.Ev
