/-
  A region that draws its order: whatever order is drawn, it comes to what the text's order comes to.
-/
import Derived.Test.YtoiijpphfckdjaaE13
namespace Go.Proofs.Ytoiijpphfckdjaa.Ev
open Go
set_option linter.unusedSimpArgs false

section
variable (P : Program) (L : List FuncId) (cl : FuncId → List Value → Heap → Option (Value × Heap))

structure Can (ops : Array Oper) (A : Array Nat) (s0 s' : St) (rs : List Rec) (S : Nat → St) : Prop where
  len : rs.length = ops.size
  ini : S 0 = s0
  fin : S ops.size = s'
  step : ∀ i o, ops[i]? = some o → ∃ r, rs[i]? = some r ∧ recOf P L cl ops A i o (S i) (rs.take i) = some r ∧ S (i + 1) = ⟨putE (S i).fr o.dst r.v, r.h1⟩
  stat : staticOk ops A s0.fr.length = true
  pairs : pairsOk P A rs = true
end

section
variable {P : Program} {L : List FuncId} {cl : FuncId → List Value → Heap → Option (Value × Heap)}
variable {nt : Nat} {ops : Array Oper} {A : Array Nat} {s0 s' : St} {rs : List Rec} {S : Nat → St}

/-! ### What was looked at once -/
theorem static_at (h : staticOk ops A nt = true) {i : Nat} {o : Oper} (ho : ops[i]? = some o) :
    (∀ e ∈ o.after, Region.binds .any e = true → e.on < i) ∧
    (∀ k, k < ops.size → getB A i k = true → k < i ∧ ∃ e ∈ o.after, Region.binds .any e = true ∧ (e.on = k ∨ getB A e.on k = true)) ∧
    (∀ d, o.dst = some d → d < nt) ∧
    (∀ k q d, ops[k]? = some q → q.dst = some d → i = k ∨ (o.dst ≠ some d ∧ (d ∈ o.looksAt ops → getB A i k = true ∨ getB A k i = true))) ∧
    (∀ cs b, o.op ≠ .select cs b) := by
  unfold staticOk at h
  have hm : (o, i) ∈ ops.toList.zipIdx := by rw [List.mem_zipIdx_iff_getElem?]; simpa using ho
  have h1 := List.all_eq_true.1 h (o, i) hm
  simp only [Bool.and_eq_true] at h1
  obtain ⟨⟨⟨⟨a1, a2⟩, a3⟩, a4⟩, a5⟩ := h1
  refine ⟨?_, ?_, ?_, ?_, ?_⟩
  · intro e he hb
    have := List.all_eq_true.1 a1 e (by simpa using he)
    simpa [hb] using this
  · intro k hk hg
    have := List.all_eq_true.1 a2 k (by simpa using hk)
    simp only [hg, Bool.not_true, Bool.false_or, Bool.and_eq_true, decide_eq_true_eq, List.any_eq_true, Bool.or_eq_true, beq_iff_eq] at this
    obtain ⟨h1, e, he, hb, h2⟩ := this
    exact ⟨h1, e, by simpa using he, hb, h2⟩
  · intro d hd
    rw [hd] at a3
    simpa using a3
  · intro k q d hq hd
    have hm2 : (q, k) ∈ ops.toList.zipIdx := by rw [List.mem_zipIdx_iff_getElem?]; simpa using hq
    have := List.all_eq_true.1 a4 (q, k) hm2
    simp only [hd, Bool.or_eq_true, beq_iff_eq, Bool.and_eq_true, bne_iff_ne, Bool.not_eq_true'] at this
    rcases this with h1 | ⟨h1, h2⟩
    · exact .inl h1
    · refine .inr ⟨h1, fun hmem => ?_⟩
      rcases h2 with (h2 | h2) | h2
      · rw [List.contains_eq_mem] at h2
        simp [hmem] at h2
      · exact .inl h2
      · exact .inr h2
  · intro cs b hop
    rw [hop] at a5
    cases a5

def Closed (ops : Array Oper) (p : Nat → Bool) : Prop := ∀ i o, ops[i]? = some o → p i = true → ∀ e ∈ o.after, Region.binds .any e = true → p e.on = true

theorem anc_closed (hst : staticOk ops A nt = true) {p : Nat → Bool} (hp : Closed ops p) : ∀ (i k : Nat), i < ops.size → k < ops.size → p i = true → getB A i k = true → p k = true := by
  intro i
  induction i using Nat.strongRecOn with
  | _ i ih =>
    intro k hi hk hpi hg
    have ho : ops[i]? = some ops[i] := Array.getElem?_eq_getElem hi
    obtain ⟨h1, h2, _⟩ := static_at hst ho
    obtain ⟨hki, e, he, hb, h3⟩ := h2 k hk hg
    have hlt := h1 e he hb
    have hpe := hp i _ ho hpi e he hb
    rcases h3 with h3 | h3
    · rw [← h3]; exact hpe
    · exact ih e.on hlt k (by omega) hk hpe h3

/-- The same, of an operation that may come up now. -/
theorem anc_ready (hst : staticOk ops A nt = true) {p : Nat → Bool} (hp : Closed ops p) {i : Nat} {o : Oper} (ho : ops[i]? = some o)
    (hr : ∀ e ∈ o.after, Region.binds .any e = true → p e.on = true) {k : Nat} (hk : k < ops.size) (hg : getB A i k = true) : p k = true := by
  obtain ⟨h1, h2, _⟩ := static_at hst ho
  obtain ⟨hki, e, he, hb, h3⟩ := h2 k hk hg
  have hlt := h1 e he hb
  have hi : i < ops.size := (Array.getElem?_eq_some_iff.1 ho).1
  rcases h3 with h3 | h3
  · rw [← h3]; exact hr e he hb
  · exact anc_closed hst hp e.on k (by omega) hk (hr e he hb) h3

/-! ### The run in the text's order -/
theorem Can.rec_at (h : Can P L cl ops A s0 s' rs S) {i : Nat} (hi : i < ops.size) :
    ∃ r, rs[i]? = some r ∧ recOf P L cl ops A i ops[i] (S i) (rs.take i) = some r ∧ S (i + 1) = ⟨putE (S i).fr ops[i].dst r.v, r.h1⟩ ∧ r.h0 = (S i).hp ∧ r.h1 = (S (i + 1)).hp := by
  obtain ⟨r, h1, h2, h3⟩ := h.step i ops[i] (Array.getElem?_eq_getElem hi)
  refine ⟨r, h1, h2, h3, ?_, by rw [h3]⟩
  rcases recOf_cases h2 with ⟨_, rfl⟩ | ⟨_, ⟨v, _, rfl⟩ | ⟨t, a, p, v, _, _, _, rfl⟩ | ⟨v, H', _, rfl⟩ | ⟨v, H', _, rfl⟩⟩ <;> rfl

theorem Can.fr_at (h : Can P L cl ops A s0 s' rs S) (hfr : ClFr cl) {i : Nat} (hi : i < ops.size) : Fr (S i).hp (S (i + 1)).hp := by
  obtain ⟨r, h1, h2, h3, h4, h5⟩ := h.rec_at hi
  rw [← h5]
  rcases recOf_cases h2 with ⟨_, rfl⟩ | ⟨_, ⟨v, _, rfl⟩ | ⟨t, a, p, v, _, _, _, rfl⟩ | ⟨v, H', hop, rfl⟩ | ⟨v, H', hop, rfl⟩⟩
  · exact .refl _
  · exact .refl _
  · exact .refl _
  · have := opE_fr hfr hop
    exact ⟨this.size, rfl, rfl, fun x h1 _ => this.root x h1 h1⟩
  · exact opE_fr hfr hop

theorem Can.fr_upto (h : Can P L cl ops A s0 s' rs S) (hfr : ClFr cl) : ∀ (j i : Nat), i ≤ j → j ≤ ops.size → Fr (S i).hp (S j).hp := by
  intro j
  induction j with
  | zero => intro i hi _; have : i = 0 := by omega
            subst this; exact .refl _
  | succ j ih =>
    intro i hi hj
    by_cases e : i = j + 1
    · subst e; exact .refl _
    · exact (ih i (by omega) (by omega)).trans (h.fr_at hfr (by omega))

def Loud (rs : List Rec) (i : Nat) : Prop := ∃ r, rs[i]? = some r ∧ r.kind = .loud

/-- Where nothing is loud, what was there stays. -/
theorem Can.root_upto (h : Can P L cl ops A s0 s' rs S) (hfr : ClFr cl) : ∀ (j i : Nat), i ≤ j → j ≤ ops.size → (∀ k, i ≤ k → k < j → ¬ Loud rs k) →
    ∀ x, x < (S i).hp.size → (S j).hp.root.get x = (S i).hp.root.get x := by
  intro j
  induction j with
  | zero => intro i hi _ _ x _; have : i = 0 := by omega
            subst this; rfl
  | succ j ih =>
    intro i hi hj hn x hx
    by_cases e : i = j + 1
    · subst e; rfl
    · rw [← ih i (by omega) (by omega) (fun k h1 h2 => hn k h1 (by omega)) x hx]
      have hsz : (S i).hp.size ≤ (S j).hp.size := (h.fr_upto hfr j i (by omega) (by omega)).size
      obtain ⟨r, h1, h2, h3, h4, h5⟩ := h.rec_at (i := j) (by omega)
      rw [← h5]
      rcases recOf_cases h2 with ⟨_, rfl⟩ | ⟨_, ⟨v, _, rfl⟩ | ⟨t, a, p, v, _, _, _, rfl⟩ | ⟨v, H', hop, rfl⟩ | ⟨v, H', hop, rfl⟩⟩
      · rfl
      · rfl
      · rfl
      · have := opE_fr hfr hop
        exact this.root x (by show x < (S j).hp.size; omega) (by show x < (S j).hp.size; omega)
      · exact absurd ⟨_, h1, rfl⟩ (hn j (by omega) (by omega))

/-- The frame of the text's order. -/
theorem Can.frame (h : Can P L cl ops A s0 s' rs S) : ∀ i, i ≤ ops.size → (S i).fr.length = s0.fr.length ∧ ∀ t,
    (∀ k q r, k < i → ops[k]? = some q → rs[k]? = some r → q.dst = some t → (S i).fr.getD t undef = r.v) ∧
    ((∀ k q, k < i → ops[k]? = some q → q.dst ≠ some t) → (S i).fr.getD t undef = s0.fr.getD t undef) := by
  intro i
  induction i with
  | zero => intro _; rw [h.ini]; exact ⟨rfl, fun t => ⟨fun k q r hk => by omega, fun _ => rfl⟩⟩
  | succ i ih =>
    intro hi
    obtain ⟨hlen, hf⟩ := ih (by omega)
    have hio : ops[i]? = some ops[i] := Array.getElem?_eq_getElem (by omega)
    obtain ⟨r, h1, h2, h3, h4, h5⟩ := h.rec_at (i := i) (by omega)
    obtain ⟨_, _, s3, s4, _⟩ := static_at h.stat hio
    rw [h3]
    refine ⟨by cases ops[i].dst <;> simp [putE, hlen], fun t => ⟨?_, ?_⟩⟩
    · intro k q rk hk hq hrk hd
      by_cases e : k = i
      · subst e
        rw [hio] at hq; cases hq
        rw [h1] at hrk; cases hrk
        rw [hd]
        have hlt := s3 t hd
        simp only [putE, List.getD_eq_getElem?_getD, List.getElem?_set, if_true]
        rw [if_pos (by rw [hlen]; exact hlt)]; rfl
      · have hne : ops[i].dst ≠ some t := by
          rcases s4 k q t hq hd with h6 | ⟨h6, _⟩
          · exact absurd h6.symm e
          · exact h6
        have : (putE (S i).fr ops[i].dst r.v).getD t undef = (S i).fr.getD t undef := by
          cases hdd : ops[i].dst with
          | none => rfl
          | some d =>
            rw [hdd] at hne
            simp only [putE, List.getD_eq_getElem?_getD, List.getElem?_set]
            rw [if_neg (fun e2 => hne (by rw [e2]))]
        rw [this]
        exact (hf t).1 k q rk (by omega) hq hrk hd
    · intro hn
      have hne : ops[i].dst ≠ some t := hn i _ (by omega) hio
      have : (putE (S i).fr ops[i].dst r.v).getD t undef = (S i).fr.getD t undef := by
        cases hdd : ops[i].dst with
        | none => rfl
        | some d =>
          rw [hdd] at hne
          simp only [putE, List.getD_eq_getElem?_getD, List.getElem?_set]
          rw [if_neg (fun e2 => hne (by rw [e2]))]
      rw [this]
      exact (hf t).2 (fun k q hk hq => hn k q (by omega) hq)

/-- Two operations of which one is loud, and the other one looks at memory otherwise than by a plain load, wait for each other. -/
theorem Can.comparable (h : Can P L cl ops A s0 s' rs S) {i j : Nat} {a b : Rec} (ha : rs[i]? = some a) (hb : rs[j]? = some b) (hl : b.kind = .loud)
    (hk : a.kind = .quiet ∨ a.kind = .loud) (hne : i ≠ j) : getB A i j = true ∨ getB A j i = true := by
  have h1 := List.all_eq_true.1 h.pairs (a, i) (by rw [List.mem_zipIdx_iff_getElem?]; exact ha)
  have h2 := List.all_eq_true.1 h1 (b, j) (by rw [List.mem_zipIdx_iff_getElem?]; exact hb)
  simp only [pairOk, hl] at h2
  rcases hk with hk | hk <;> simp only [hk, Bool.or_eq_true, beq_iff_eq] at h2 <;> rcases h2 with (h2 | h2) | h2
  · exact absurd h2 hne
  · exact .inl h2
  · exact .inr h2
  · exact absurd h2 hne
  · exact .inl h2
  · exact .inr h2

/-- A plain load that doesn't wait for a loud operation, nor that for it. -/
theorem Can.load_pair (h : Can P L cl ops A s0 s' rs S) {i j : Nat} {a b : Rec} (ha : rs[i]? = some a) (hb : rs[j]? = some b) (hl : b.kind = .loud)
    (hk : a.kind = .load) (h1 : getB A i j = false) (h2 : getB A j i = false) : ∃ t p, a.ld = some (t, p) ∧ loadE P (if j < i then veil b.h0 (getB A i) (rs.take j) else b.h1) t p = some a.v := by
  have h3 := List.all_eq_true.1 h.pairs (a, i) (by rw [List.mem_zipIdx_iff_getElem?]; exact ha)
  have h4 := List.all_eq_true.1 h3 (b, j) (by rw [List.mem_zipIdx_iff_getElem?]; exact hb)
  simp only [pairOk, hl, hk, h1, h2, Bool.false_or] at h4
  split at h4
  · rename_i t p hld
    split at h4
    · rename_i v hv
      exact ⟨t, p, hld, by rw [hv, eqv_eq h4]⟩
    · cases h4
  · cases h4
end
end Go.Proofs.Ytoiijpphfckdjaa.Ev
