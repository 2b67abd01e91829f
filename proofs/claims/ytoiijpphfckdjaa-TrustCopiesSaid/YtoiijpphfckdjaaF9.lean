/-
  Regions that draw their order, over partly unknown values.
-/
import Derived.Test.YtoiijpphfckdjaaF8
namespace Go.Proofs.Ytoiijpphfckdjaa.Ev
noncomputable section
open Go
set_option linter.unusedVariables false
set_option linter.unusedSimpArgs false

theorem hidden_maskS (p : Nat → Bool) : ∀ (rs : List SRec) (k x : Nat), hidden (maskS p rs k) x = true ↔ ∃ j r, rs[j]? = some r ∧ p (k + j) = false ∧ r.n0 ≤ x ∧ x < r.n1 := by
  intro rs
  induction rs with
  | nil => intro k x; simp [maskS, hidden]
  | cons r rs ih =>
    intro k x
    have hcons : (∃ j r', (r :: rs)[j]? = some r' ∧ p (k + j) = false ∧ r'.n0 ≤ x ∧ x < r'.n1) ↔ (p k = false ∧ r.n0 ≤ x ∧ x < r.n1) ∨ ∃ j r', rs[j]? = some r' ∧ p (k + 1 + j) = false ∧ r'.n0 ≤ x ∧ x < r'.n1 := by
      constructor
      · rintro ⟨j, r', h1, h2, h3, h4⟩
        cases j with
        | zero => simp at h1; subst h1; exact .inl ⟨by simpa using h2, h3, h4⟩
        | succ j => exact .inr ⟨j, r', by simpa using h1, by rw [show k + 1 + j = k + (j + 1) by omega]; exact h2, h3, h4⟩
      · rintro (⟨h1, h2, h3⟩ | ⟨j, r', h1, h2, h3, h4⟩)
        · exact ⟨0, r, by simp, by simpa using h1, h2, h3⟩
        · exact ⟨j + 1, r', by simpa using h1, by rw [show k + (j + 1) = k + 1 + j by omega]; exact h2, h3, h4⟩
    rw [hcons]
    unfold maskS
    cases hp : p k with
    | true => simp only [if_true]; rw [ih]; simp
    | false =>
      simp only [Bool.false_eq_true, if_false, hidden, Bool.or_eq_true, Bool.and_eq_true, decide_eq_true_eq]
      rw [ih]
      simp

theorem maskS_ne (p : Nat → Bool) : ∀ (rs : List SRec) (k : Nat) (l : List (Nat × Nat)), maskS p rs k ++ l ≠ []
  | [], _, _ => by simp [maskS]
  | r :: rs, k, l => by
    unfold maskS
    split
    · exact maskS_ne p rs _ l
    · simp

section
variable {R : Type} {P : Program} {L : List FuncId} {O : Known} {T : TabS} {A : Array Nat}

def SR (rs : List SRec) (j id : Nat) : Prop := ∃ r, rs[j]? = some r ∧ r.n0 ≤ id ∧ id < r.n1
def ER (rs : List Rec) (j x : Nat) : Prop := ∃ r, rs[j]? = some r ∧ r.h0.size ≤ x ∧ x < r.h1.size
def kindOk : Kd → Kd → Prop
  | .loud, .quiet => True
  | .loud, .loud => True
  | .quiet, .quiet => True
  | .pure, .pure => True
  | .load, .load => True
  | _, _ => False
/-- From i on nothing was written to that block. -/
def calm (rs : List SRec) (i k y : Nat) : Prop := ∀ (j : Nat) (c : SRec), i ≤ j → j ≤ k → rs[j]? = some c → c.kind = .loud → farB c y = true

structure RI (P : Program) (A : Array Nat) (base : Nat) (φ : Phi) (S : SHeap) (H : Heap) (rsS : List SRec) (rsE : List Rec) : Prop where
  sim : Sim φ S H
  len : rsS.length = rsE.length
  ban : ∀ x, base ≤ x → φ.ban x
  corr : ∀ id B x, S.get id = some B → φ id = some (some x) → x < base ∨ ∃ j m, SR rsS j id ∧ ER rsE m x ∧ (m = j ∨ getB A j m = true)
  esz : ∀ (j : Nat) (r : Rec), rsE[j]? = some r → base ≤ r.h0.size ∧ r.h0.size ≤ r.h1.size ∧ r.h1.size ≤ H.size
  emono : ∀ (j j' : Nat) (r r' : Rec), j < j' → rsE[j]? = some r → rsE[j']? = some r' → r.h1.size ≤ r'.h0.size
  ssz : ∀ (j : Nat) (r : SRec), rsS[j]? = some r → r.n0 ≤ S.size ∧ r.n1 ≤ S.size
  hbase : base ≤ H.size
  kinds : ∀ (j : Nat) (a : SRec) (b : Rec), rsS[j]? = some a → rsE[j]? = some b → kindOk a.kind b.kind
  loads : ∀ (i : Nat) (a : SRec) (b : Rec), rsS[i]? = some a → rsE[i]? = some b → a.kind = .load → ∃ t p, b.ld = some (t, p) ∧ (selfS a.v = true → eqv b.v b.v = true) ∧
    ∀ y, a.ld = some y → ∃ x0 o, p = .pointer (some ⟨x0, o, none⟩) ∧ φ y = some (some x0) ∧ (calm rsS i rsS.length y → (∃ B, S.get y = some B) ∧ loadE P H t p = some b.v) ∧
      ∀ (k : Nat) (d : Rec), i < k → rsE[k]? = some d → calm rsS i k y → loadE P d.h1 t p = some b.v
  res : ∀ (i : Nat) (a : SRec) (b : Rec) (t : TypeId) (p : SV), rsS[i]? = some a → rsE[i]? = some b → a.re = some (t, p) → ∃ pv, b.ld = some (t, pv) ∧ DV φ H (Own φ S) p pv ∧ DV φ H (Own φ S) a.v b.v
  back : ∀ (j : Nat) (c : SRec) (d : Rec), rsS[j]? = some c → rsE[j]? = some d → ∀ y B x0, S.get y = some B → φ y = some (some x0) → y < c.n0 → calm rsS j rsS.length y → d.h0.get x0 = H.get x0
  lates : ∀ (i : Nat) (a : SRec) (b : Rec), rsS[i]? = some a → rsE[i]? = some b → a.kind = .load → ∀ y, a.ld = some y → ∀ (j : Nat) (c : SRec) (d : Rec), j < i → rsS[j]? = some c → rsE[j]? = some d → y < c.n0 → calm rsS j i y →
    ∃ t p, b.ld = some (t, p) ∧ loadE P (Ev.veil d.h0 (getB A i) (rsE.take j)) t p = some b.v
  oks : ∀ (j : Nat) (c : SRec) (d : Rec), rsS[j]? = some c → rsE[j]? = some d → ∀ i ∈ c.ok, i < j ∧ ∃ b t pv v, rsE[i]? = some b ∧ b.ld = some (t, pv) ∧ loadE P d.h1 t pv = some v ∧ eqv b.v v = true

variable {base : Nat} {φ : Phi} {S : SHeap} {H : Heap} {rsS : List SRec} {rsE : List Rec}

/-- What is awaited is awaited by those that await it. -/
def TransOk (A : Array Nat) (n : Nat) : Prop := ∀ i j m, i < n → j < n → getB A i j = true → getB A j m = true → getB A i m = true
theorem transOk_of {n : Nat} (h : transOk A n = true) : TransOk A n := by
  intro i j m hi hj h1 h2
  unfold transOk at h
  rw [List.all_eq_true] at h
  have h := h i (List.mem_range.2 hi)
  rw [List.all_eq_true] at h
  have h := h j (List.mem_range.2 hj)
  rw [h1] at h
  simp only [Bool.not_true, Bool.false_or, beq_iff_eq] at h
  unfold getB at h2 ⊢
  rw [← h, Nat.testBit_or, h2, Bool.or_true]

/-- Phi while one operation is carried out: nothing of one's own is looked at otherwise. -/
def Phi.shut (φ : Phi) (S : SHeap) : Phi := ⟨φ.m, Own φ S⟩

theorem RI.hidE (I : RI P A base φ S H rsS rsE) (p : Nat → Bool) {x : Nat} (hx : x < base ∨ H.size ≤ x) : hidden (maskOf p rsE 0) x = false := by
  cases hh : hidden (maskOf p rsE 0) x with
  | false => rfl
  | true =>
    obtain ⟨j, r, h1, _, h2, h3⟩ := (hidden_maskOf p rsE 0 x).1 hh
    have := I.esz j r h1
    omega
theorem RI.hidS (I : RI P A base φ S H rsS rsE) (p : Nat → Bool) {id : Nat} (hx : S.size ≤ id) : hidden (maskS p rsS 0) id = false := by
  cases hh : hidden (maskS p rsS 0) id with
  | false => rfl
  | true =>
    obtain ⟨j, r, h1, _, h2, h3⟩ := (hidden_maskS p rsS 0 id).1 hh
    have := I.ssz j r h1
    omega

theorem hidden_mem : ∀ {l : List (Nat × Nat)} {x : Nat}, hidden l x = true → ∃ p ∈ l, p.1 ≤ x ∧ x < p.2
  | [], x, h => by cases h
  | (a, b) :: l, x, h => by
    simp only [hidden, Bool.or_eq_true, Bool.and_eq_true, decide_eq_true_eq] at h
    rcases h with h | h
    · exact ⟨(a, b), by simp, h⟩
    · obtain ⟨p, h1, h2⟩ := hidden_mem h
      exact ⟨p, List.mem_cons_of_mem _ h1, h2⟩
theorem farO_hid {S : SHeap} {fr : List SV} {o : Oper} {id : Nat} (h : S.size ≤ id) : hidden (farO S fr o) id = false := by
  cases hh : hidden (farO S fr o) id with
  | false => rfl
  | true =>
    obtain ⟨p, h1, h2, h3⟩ := hidden_mem hh
    unfold farO at h1
    split at h1
    · split at h1
      · unfold farM at h1
        obtain ⟨k, hk, hk2⟩ := List.mem_filterMap.1 h1
        have hk := List.mem_range.1 hk
        split at hk2
        · cases hk2
        · cases hk2
          have h3 : id < k + 1 := h3
          omega
      · cases h1
    · cases h1
theorem veil_get_of {K : Heap} {p : Nat → Bool} {rs : List Rec} {x : Nat} {c : Blk} (h : K.get x = some c) (hh : hidden (maskOf p rs 0) x = false) : (veil K p rs).get x = some c := by
  obtain ⟨h1, h2⟩ := Heap.get_root h
  unfold Heap.get
  rw [if_pos (show x < (veil K p rs).size by have : x < K.size := Heap.get_lt h; exact this), show hidden (veil K p rs).hid x = false by
    show hidden (maskOf p rs 0 ++ K.hid) x = false
    rw [hidden_append, hh, h2]; rfl]
  exact h1
theorem maskOf_take {p : Nat → Bool} {rs : List Rec} {j x : Nat} (h : hidden (maskOf p rs 0) x = false) : hidden (maskOf p (rs.take j) 0) x = false := by
  cases hh : hidden (maskOf p (rs.take j) 0) x with
  | false => rfl
  | true =>
    obtain ⟨k, r, h1, h2, h3⟩ := (hidden_maskOf p _ 0 x).1 hh
    rw [List.getElem?_take] at h1
    split at h1
    · rw [(hidden_maskOf p rs 0 x).2 ⟨k, r, h1, h2, h3⟩] at h; cases h
    · cases h1

/-- What is seen there is seen here. -/
theorem RI.seen (I : RI P A base φ S H rsS rsE) {i n : Nat} (hn : TransOk A n) (hi : i < n) (hlen : rsS.length ≤ n) {id x : Nat} {B : SBlk} (hB : S.get id = some B) (hv : hidden (maskS (getB A i) rsS 0) id = false) (hx : φ id = some (some x)) :
    hidden (maskOf (getB A i) rsE 0) x = false := by
  rcases I.corr id B x hB hx with h | ⟨j, m, ⟨a, h1, h2, h3⟩, ⟨b, h4, h5, h6⟩, hjm⟩
  · exact I.hidE _ (.inl h)
  · cases hh : hidden (maskOf (getB A i) rsE 0) x with
    | false => rfl
    | true =>
      exfalso
      obtain ⟨j', r, g1, g2, g3, g4⟩ := (hidden_maskOf _ rsE 0 x).1 hh
      rw [Nat.zero_add] at g2
      have hm : j' = m := by
        rcases Nat.lt_trichotomy j' m with h | h | h
        · have := I.emono j' m r b h g1 h4; omega
        · exact h
        · have := I.emono m j' b r h h4 g1; omega
      subst hm
      have hpj : getB A i j = true := by
        cases hp : getB A i j with
        | true => rfl
        | false =>
          have := (hidden_maskS (getB A i) rsS 0 id).2 ⟨j, a, h1, by rw [Nat.zero_add]; exact hp, h2, h3⟩
          rw [this] at hv; cases hv
      have hj : j < n := by
        have := (List.getElem?_eq_some_iff.1 h1).1
        omega
      rcases hjm with rfl | hjm
      · rw [hpj] at g2; cases g2
      · rw [hn i j j' hi hj hpj hjm] at g2; cases g2

theorem hidden_app {a b : List (Nat × Nat)} {x : Nat} (h1 : hidden a x = false) (h2 : hidden b x = false) : hidden (a ++ b) x = false := by rw [hidden_append, h1, h2]; rfl
theorem hidden_app' {a b : List (Nat × Nat)} {x : Nat} (h : hidden (a ++ b) x = false) : hidden a x = false ∧ hidden b x = false := by
  rw [hidden_append, Bool.or_eq_false_iff] at h; exact h
theorem Heap.get_of {H : Heap} {k : Nat} (h1 : k < H.size) (h2 : hidden H.hid k = false) : H.get k = H.root.get k := by
  unfold Heap.get; rw [if_pos h1, h2]; rfl

theorem RI.veil_get (I : RI P A base φ S H rsS rsE) (p : Nat → Bool) {x : Nat} {c : Blk} (h : H.get x = some c) (hh : hidden (maskOf p rsE 0) x = false) : (veil H p rsE).get x = some c := by
  obtain ⟨h1, h2⟩ := Heap.get_root h
  exact (Heap.get_of (H := veil H p rsE) (show x < H.size from Heap.get_lt h) (hidden_app hh h2)).trans h1
theorem veil_get_inv {p : Nat → Bool} {x : Nat} {c : Blk} (h : (veil H p rsE).get x = some c) : H.get x = some c ∧ hidden (maskOf p rsE 0) x = false := by
  obtain ⟨h1, h2⟩ := Heap.get_root h
  obtain ⟨h3, h4⟩ := hidden_app' h2
  have hlt : x < H.size := Heap.get_lt (H := veil H p rsE) h
  exact ⟨(Heap.get_of (H := H) hlt h4).trans h1, h3⟩
theorem hide_get_inv {M : List (Nat × Nat)} {id : Nat} {B : SBlk} (h : (hideM S M).get id = some B) : S.get id = some B ∧ hidden M id = false := by
  obtain ⟨h1, h2⟩ := SHeap.get_root h
  obtain ⟨h3, h4⟩ := hidden_app' h2
  have hlt : id < S.size := SHeap.get_lt (S := hideM S M) h
  exact ⟨(SHeap.get_of (S := S) hlt h4).trans h1, h3⟩
theorem veilS_get_inv {p : Nat → Bool} {id : Nat} {B : SBlk} (h : (veilS S p rsS).get id = some B) : S.get id = some B ∧ hidden (maskS p rsS 0) id = false := by
  obtain ⟨h1, h2⟩ := SHeap.get_root h
  obtain ⟨h3, h4⟩ := hidden_app' h2
  have hlt : id < S.size := SHeap.get_lt (S := veilS S p rsS) h
  exact ⟨(SHeap.get_of (S := S) hlt h4).trans h1, h3⟩

/-- Under a veil. -/
theorem RI.veil (I : RI P A base φ S H rsS rsE) {i n : Nat} (hn : TransOk A n) (hi : i < n) (hlen : rsS.length ≤ n) :
    Ext φ H (Own φ S) (φ.shut S) (veil H (getB A i) rsE) (Own (φ.shut S) (veilS S (getB A i) rsS)) ∧ Sim (φ.shut S) (veilS S (getB A i) rsS) (veil H (getB A i) rsE) := by
  have hown : ∀ x, Own (φ.shut S) (veilS S (getB A i) rsS) x → Own φ S x := by
    rintro x (h | ⟨id, B, h1, h2⟩)
    · exact h
    · exact .inr ⟨id, B, (veilS_get_inv h1).1, h2⟩
  have hext : Ext φ H (Own φ S) (φ.shut S) (Ev.veil H (getB A i) rsE) (Own (φ.shut S) (veilS S (getB A i) rsS)) := by
    refine ⟨fun _ _ h => h, fun x c h1 h2 => ⟨?_, fun h => h2 (hown x h)⟩, fun id x c' _ h => ⟨c', h, rfl⟩⟩
    have hb : x < base := by
      rcases Nat.lt_or_ge x base with h | h
      · exact h
      · exact absurd (.inl (I.ban x h)) h2
    exact I.veil_get _ h1 (I.hidE _ (.inl hb))
  refine ⟨hext, ⟨?_, ?_, I.sim.fresh, I.sim.lt, Nat.le_refl _, Nat.le_refl _, ?_⟩⟩
  · intro id B h
    obtain ⟨h1, h2⟩ := veilS_get_inv h
    rcases I.sim.blk id B h1 with h3 | ⟨x, c, h3, h4, h5, h6⟩
    · exact .inl h3
    · refine .inr ⟨x, c, h3, I.veil_get _ h4 (I.seen hn hi hlen h1 h2 h3), fun hl => ?_, h6.mono hext⟩
      have : id < S.size := SHeap.get_lt h1
      have : S.size ≤ id := hl
      omega
  · intro id id' B B' x h1 h2 h3 h4
    exact I.sim.inj id id' B B' x (veilS_get_inv h1).1 (veilS_get_inv h2).1 h3 h4
  · intro x hx
    exact hidden_app (I.hidE _ (.inr hx)) (I.sim.ehid x hx)

/-- With what isn't awaited out of sight. -/
theorem RI.hide (I : RI P A base φ S H rsS rsE) (M : List (Nat × Nat)) :
    Ext φ H (Own φ S) (φ.shut S) H (Own (φ.shut S) (hideM S M)) ∧ Sim (φ.shut S) (hideM S M) H := by
  have hown : ∀ x, Own (φ.shut S) (hideM S M) x → Own φ S x := by
    rintro x (h | ⟨id, B, h1, h2⟩)
    · exact h
    · exact .inr ⟨id, B, (hide_get_inv h1).1, h2⟩
  have hext : Ext φ H (Own φ S) (φ.shut S) H (Own (φ.shut S) (hideM S M)) :=
    ⟨fun _ _ h => h, fun x c h1 h2 => ⟨h1, fun h => h2 (hown x h)⟩, fun id x c' _ h => ⟨c', h, rfl⟩⟩
  refine ⟨hext, ⟨?_, ?_, I.sim.fresh, I.sim.lt, I.sim.slock, I.sim.elock, I.sim.ehid⟩⟩
  · intro id B h
    rcases I.sim.blk id B (hide_get_inv h).1 with h3 | ⟨x, c, h3, h4, h5, h6⟩
    · exact .inl h3
    · exact .inr ⟨x, c, h3, h4, h5, h6.mono hext⟩
  · intro id id' B B' x h1 h2 h3 h4
    exact I.sim.inj id id' B B' x (hide_get_inv h1).1 (hide_get_inv h2).1 h3 h4

/-- Where an id stands. -/
theorem Sim.at {S' : SHeap} {φ' : Phi} (hS : Sim φ S H) (hle : ∀ id y, φ id = some y → φ' id = some y) {id x : Nat} {B : SBlk} (hB : S.get id = some B) (h : φ' id = some (some x)) : φ id = some (some x) := by
  rcases hS.blk id B hB with ⟨h1, _⟩ | ⟨y, c, h1, _⟩
  · rw [hle _ _ h1] at h; cases h
  · rw [hle _ _ h1] at h; rw [h1]; exact h

/-- Behind an operation under a veil. -/
theorem RI.unveil (I : RI P A base φ S H rsS rsE) {i : Nat} {φ1 : Phi} {S1 : SHeap} {H1 : Heap} (hst : Step (φ.shut S) (veilS S (getB A i) rsS) (Ev.veil H (getB A i) rsE) φ1 S1 H1) (hfr : Fr (Ev.veil H (getB A i) rsE) H1) :
    Step φ S H ⟨φ1.m, φ.ban⟩ (unveilS S S1) (Ev.unveil H H1) ∧ (∀ s v, DV φ1 H1 (Own φ1 S1) s v → DV ⟨φ1.m, φ.ban⟩ (Ev.unveil H H1) (Own ⟨φ1.m, φ.ban⟩ (unveilS S S1)) s v) ∧
    (∀ x, x < H.size → (Ev.unveil H H1).get x = H.get x) ∧
    (∀ id B x, (unveilS S S1).get id = some B → φ1 id = some (some x) → (id < S.size ∧ S.get id = some B ∧ φ id = some (some x)) ∨ (S.size ≤ id ∧ id < S1.size ∧ H.size ≤ x ∧ x < H1.size)) ∧
    (∀ id, id < S.size → (unveilS S S1).get id = S.get id) := by
  have hHs : H.size ≤ H1.size := hst.esize
  have hSs : S.size ≤ S1.size := hst.ssize
  have hE1 : ∀ x, x < H.size → (Ev.unveil H H1).get x = H.get x := by
    intro x hx
    unfold Heap.get
    rw [if_pos (show x < (Ev.unveil H H1).size from Nat.lt_of_lt_of_le hx hHs), if_pos hx]
    show (if hidden H.hid x = true then none else H1.root.get x) = _
    rw [hfr.root x hx hx]; rfl
  have hH1hid : H1.hid = maskOf (getB A i) rsE 0 ++ H.hid := hst.ehid
  have hS1hid : S1.hid = maskS (getB A i) rsS 0 ++ S.hid := hst.shid
  have hE2 : ∀ x, H.size ≤ x → (Ev.unveil H H1).get x = H1.get x := by
    intro x hx
    unfold Heap.get
    have e1 := I.sim.ehid x hx
    have e2 : hidden H1.hid x = false := by rw [hH1hid]; exact hidden_app (I.hidE _ (.inr hx)) e1
    show (if x < H1.size then (if hidden H.hid x = true then none else H1.root.get x) else none) = _
    rw [e1, e2]
  have hE3 : ∀ x c, H1.get x = some c → (Ev.unveil H H1).get x = some c := by
    intro x c h
    obtain ⟨h1, h2⟩ := Heap.get_root h
    rw [hH1hid] at h2
    exact (Heap.get_of (H := Ev.unveil H H1) (show x < H1.size from Heap.get_lt h) (hidden_app' h2).2).trans h1
  have hS1 : ∀ id, id < S.size → (unveilS S S1).get id = S.get id := by
    intro id hid
    unfold SHeap.get
    rw [if_pos (show id < (unveilS S S1).size from Nat.lt_of_lt_of_le hid hSs), if_pos hid]
    show (if hidden S.hid id = true then none else S1.root.get id) = _
    rw [hst.sroot id hid (.inl hid)]; rfl
  have hS2 : ∀ id B, S.size ≤ id → (unveilS S S1).get id = some B → S1.get id = some B := by
    intro id B hid h
    obtain ⟨h1, h2⟩ := SHeap.get_root h
    exact (SHeap.get_of (S := S1) (show id < S1.size from SHeap.get_lt (S := unveilS S S1) h) (by rw [hS1hid]; exact hidden_app (I.hidS _ hid) h2)).trans h1
  have hle : ∀ id y, φ id = some y → φ1 id = some y := hst.le
  have hnew : ∀ id B x, S.size ≤ id → S1.get id = some B → φ1 id = some (some x) → H.size ≤ x ∧ x < H1.size := by
    intro id B x h1 h2 h3
    rcases hst.sim.blk id B h2 with ⟨h4, _⟩ | ⟨y, c, h4, h5, h6, _⟩
    · rw [h3] at h4; cases h4
    · rw [h3] at h4; cases h4
      refine ⟨?_, Heap.get_lt h5⟩
      have := h6 (by rw [hst.slock]; exact h1)
      rw [hst.elock] at this
      exact this
  have hold : ∀ id B x, S.get id = some B → φ1 id = some (some x) → φ id = some (some x) := fun id B x h1 h2 => Sim.at (S' := S) (φ' := φ1) I.sim hle h1 h2
  have hbanv : φ1.ban = Own φ S := hst.ban
  let φ' : Phi := ⟨φ1.m, φ.ban⟩
  have hownI : ∀ x, OwnI φ' (unveilS S S1) x → OwnI φ S x ∨ OwnI φ1 S1 x ∧ H.size ≤ x := by
    rintro x ⟨id, B, h1, h2⟩
    by_cases hid : id < S.size
    · rw [hS1 id hid] at h1
      exact .inl ⟨id, B, h1, hold id B x h1 h2⟩
    · have h3 := hS2 id B (by omega) h1
      exact .inr ⟨⟨id, B, h3, h2⟩, (hnew id B x (by omega) h3 h2).1⟩
  have hext : Ext φ H (Own φ S) φ' (Ev.unveil H H1) (Own φ' (unveilS S S1)) := by
    refine ⟨hle, fun x c h1 h2 => ?_, fun id x c' h1 h2 => ?_⟩
    · have hlt := Heap.get_lt h1
      refine ⟨by rw [hE1 x hlt]; exact h1, ?_⟩
      rintro (h | h)
      · exact h2 (.inl h)
      · rcases hownI x h with h | ⟨_, h⟩
        · exact h2 (.inr h)
        · omega
    · have hlt := I.sim.lt id x h1
      refine ⟨c', ?_, rfl⟩
      have := hfr.root x hlt hlt
      exact this.symm.trans h2
  have hext1 : Ext φ1 H1 (Own φ1 S1) φ' (Ev.unveil H H1) (Own φ' (unveilS S S1)) := by
    refine ⟨fun _ _ h => h, fun x c h1 h2 => ⟨hE3 x c h1, ?_⟩, fun id x c' _ h => ⟨c', h, rfl⟩⟩
    rintro (h | h)
    · exact h2 (.inl (by rw [hbanv]; exact .inl h))
    · rcases hownI x h with h | ⟨h, _⟩
      · exact h2 (.inl (by rw [hbanv]; exact .inr h))
      · exact h2 (.inr h)
  refine ⟨⟨⟨?_, ?_, ?_, ?_, ?_, ?_, ?_⟩, hle, rfl, ?_, fun x hx _ => hE1 x hx, ?_, hHs, rfl, rfl, hSs, rfl, rfl, ?_⟩, fun s v h => h.mono hext1, hE1, ?_, hS1⟩
  · intro id B h
    by_cases hid : id < S.size
    · rw [hS1 id hid] at h
      rcases I.sim.blk id B h with h3 | ⟨x, c, h3, h4, h5, h6⟩
      · exact .inl ⟨hle _ _ h3.1, h3.2⟩
      · exact .inr ⟨x, c, hle _ _ h3, by rw [hE1 x (Heap.get_lt h4)]; exact h4, h5, h6.mono hext⟩
    · have h1 := hS2 id B (by omega) h
      rcases hst.sim.blk id B h1 with h3 | ⟨x, c, h3, h4, h5, h6⟩
      · exact .inl h3
      · refine .inr ⟨x, c, h3, hE3 x c h4, fun _ => ?_, h6.mono hext1⟩
        have := (hnew id B x (by omega) h1 h3).1
        exact Nat.le_trans I.sim.elock this
  · intro id id' B B' x h1 h2 h3 h4
    by_cases hid : id < S.size
    · rw [hS1 id hid] at h1
      have g1 := hold id B x h1 h3
      by_cases hid' : id' < S.size
      · rw [hS1 id' hid'] at h2
        exact I.sim.inj id id' B B' x h1 h2 g1 (hold id' B' x h2 h4)
      · have := (hnew id' B' x (by omega) (hS2 id' B' (by omega) h2) h4).1
        have := I.sim.lt id x g1
        omega
    · have g1 := hS2 id B (by omega) h1
      by_cases hid' : id' < S.size
      · rw [hS1 id' hid'] at h2
        have := (hnew id B x (by omega) g1 h3).1
        have := I.sim.lt id' x (hold id' B' x h2 h4)
        omega
      · exact hst.sim.inj id id' B B' x g1 (hS2 id' B' (by omega) h2) h3 h4
  · exact hst.sim.fresh
  · exact hst.sim.lt
  · exact Nat.le_trans I.sim.slock hSs
  · exact Nat.le_trans I.sim.elock hHs
  · intro x hx
    exact I.sim.ehid x (Nat.le_trans hHs hx)
  · intro x hx h
    rcases hownI x h with h | ⟨_, h⟩
    · exact h
    · omega
  · intro x c' hx h
    exact ⟨c', (hfr.root x hx hx).symm.trans h, rfl⟩
  · intro id h1 _
    exact hst.sroot id h1 (.inl h1)
  · intro id B x h1 h2
    by_cases hid : id < S.size
    · rw [hS1 id hid] at h1
      exact .inl ⟨hid, h1, hold id B x h1 h2⟩
    · have g1 := hS2 id B (by omega) h1
      obtain ⟨g2, g3⟩ := hnew id B x (by omega) g1 h2
      exact .inr ⟨by omega, SHeap.get_lt g1, g2, g3⟩

/-- Behind an operation that may write. -/
theorem RI.unhide (I : RI P A base φ S H rsS rsE) {M : List (Nat × Nat)} (hM : ∀ id, S.size ≤ id → hidden M id = false) {φ1 : Phi} {S1 : SHeap} {H1 : Heap} (hst : Step (φ.shut S) (hideM S M) H φ1 S1 H1) :
    Step φ S H ⟨φ1.m, φ.ban⟩ (unveilS S S1) H1 ∧ (∀ s v, DV φ1 H1 (Own φ1 S1) s v → DV ⟨φ1.m, φ.ban⟩ H1 (Own ⟨φ1.m, φ.ban⟩ (unveilS S S1)) s v) ∧
    (∀ id B x, (unveilS S S1).get id = some B → φ1 id = some (some x) → (id < S.size ∧ (∃ B, S.get id = some B) ∧ φ id = some (some x)) ∨
      (S.size ≤ id ∧ id < S1.size ∧ ((H.size ≤ x ∧ x < H1.size) ∨ ∃ id0 B0, S.get id0 = some B0 ∧ hidden (M) id0 = false ∧ φ id0 = some (some x)))) := by
  have hSs : S.size ≤ S1.size := hst.ssize
  have hS1hid : S1.hid = M ++ S.hid := hst.shid
  have hle : ∀ id y, φ id = some y → φ1 id = some y := hst.le
  have hbanv : φ1.ban = Own φ S := hst.ban
  have hold : ∀ id B x, S.get id = some B → φ1 id = some (some x) → φ id = some (some x) := fun id B x h1 h2 => Sim.at (S' := S) (φ' := φ1) I.sim hle h1 h2
  -- a block out of sight stays; any other is seen
  have hcase : ∀ id B, (unveilS S S1).get id = some B → (id < S.size ∧ hidden (M) id = true ∧ S.get id = some B) ∨ (hidden (M) id = false ∧ S1.get id = some B) := by
    intro id B h
    obtain ⟨h1, h2⟩ := SHeap.get_root h
    have h1 : S1.root.get id = some B := h1
    have h2 : hidden S.hid id = false := h2
    have hlt : id < S1.size := SHeap.get_lt (S := unveilS S S1) h
    cases hm : hidden (M) id with
    | false => exact .inr ⟨rfl, (SHeap.get_of (S := S1) hlt (by rw [hS1hid]; exact hidden_app hm h2)).trans h1⟩
    | true =>
      have hid : id < S.size := by
        rcases Nat.lt_or_ge id S.size with h | h
        · exact h
        · rw [hM id h] at hm; cases hm
      refine .inl ⟨hid, rfl, ?_⟩
      have hn : (hideM S M).get id = none := by
        cases hg : (hideM S M).get id with
        | none => rfl
        | some C => rw [(hide_get_inv hg).2] at hm; cases hm
      have := hst.sroot id hid (.inr hn)
      rw [SHeap.get_of hid h2]
      exact this.symm.trans h1
  have hseen : ∀ id B, id < S.size → hidden (M) id = false → S1.get id = some B → ∃ C, S.get id = some C := by
    intro id B h1 h2 h3
    cases hg : (hideM S M).get id with
    | some C => exact ⟨C, (hide_get_inv hg).1⟩
    | none =>
      have e := hst.sroot id h1 (.inr hg)
      rw [SHeap.none_of hg h1 hst.shid e] at h3
      cases h3
  let φ' : Phi := ⟨φ1.m, φ.ban⟩
  have hownI : ∀ x, OwnI φ' (unveilS S S1) x → OwnI φ S x ∨ OwnI φ1 S1 x := by
    rintro x ⟨id, B, h1, h2⟩
    rcases hcase id B h1 with ⟨_, _, h⟩ | ⟨_, h⟩
    · exact .inl ⟨id, B, h, hold id B x h h2⟩
    · exact .inr ⟨id, B, h, h2⟩
  have hhidden : ∀ id B x, S.get id = some B → hidden (M) id = true → φ id = some (some x) → ¬ OwnI (φ.shut S) (hideM S M) x := by
    rintro id B x h1 h2 h3 ⟨id', B', h4, h5⟩
    obtain ⟨h6, h7⟩ := hide_get_inv h4
    have := I.sim.inj id id' B B' x h1 h6 h3 h5
    subst this
    rw [h7] at h2; cases h2
  have hsub : ∀ x, OwnI (φ.shut S) (hideM S M) x → OwnI φ S x := fun x ⟨id, B, h1, h2⟩ => ⟨id, B, (hide_get_inv h1).1, h2⟩
  have hsubW : ∀ x, OwnW (φ.shut S) (hideM S M) x → OwnW φ S x := fun x ⟨id, B, h0, h1, h2⟩ => ⟨id, B, h0, (hide_get_inv h1).1, h2⟩
  have hext : Ext φ H (Own φ S) φ' H1 (Own φ' (unveilS S S1)) := by
    refine ⟨hle, fun x c h1 h2 => ?_, fun id x c' h1 h2 => hst.len x c' (I.sim.lt id x h1) h2⟩
    have hlt := Heap.get_lt h1
    refine ⟨by rw [hst.keep x hlt (fun h => h2 (.inr (hsub x h.toI)))]; exact h1, ?_⟩
    rintro (h | h)
    · exact h2 (.inl h)
    · rcases hownI x h with h | h
      · exact h2 (.inr h)
      · exact h2 (.inr (hsub x (hst.own x hlt h)))
  have hext1 : Ext φ1 H1 (Own φ1 S1) φ' H1 (Own φ' (unveilS S S1)) := by
    refine ⟨fun _ _ h => h, fun x c h1 h2 => ⟨h1, ?_⟩, fun id x c' _ h => ⟨c', h, rfl⟩⟩
    rintro (h | h)
    · exact h2 (.inl (by rw [hbanv]; exact .inl h))
    · rcases hownI x h with h | h
      · exact h2 (.inl (by rw [hbanv]; exact .inr h))
      · exact h2 (.inr h)
  refine ⟨⟨⟨?_, ?_, hst.sim.fresh, hst.sim.lt, Nat.le_trans I.sim.slock hSs, hst.sim.elock, hst.sim.ehid⟩, hle, rfl, ?_, fun x hx h => hst.keep x hx (fun h' => h (hsubW x h')), hst.len, hst.esize, hst.elock, hst.ehid, hSs, rfl, rfl, ?_⟩, fun s v h => h.mono hext1, ?_⟩
  · intro id B h
    rcases hcase id B h with ⟨hid, hm, h1⟩ | ⟨hm, h1⟩
    · rcases I.sim.blk id B h1 with h3 | ⟨x, c, h3, h4, h5, h6⟩
      · exact .inl ⟨hle _ _ h3.1, h3.2⟩
      · exact .inr ⟨x, c, hle _ _ h3, by rw [hst.keep x (Heap.get_lt h4) (fun h => hhidden id B x h1 hm h3 h.toI)]; exact h4, by rw [hst.elock]; exact h5, h6.mono hext⟩
    · rcases hst.sim.blk id B h1 with h3 | ⟨x, c, h3, h4, h5, h6⟩
      · exact .inl h3
      · exact .inr ⟨x, c, h3, h4, fun hl => h5 (by rw [hst.slock]; exact hl), h6.mono hext1⟩
  · intro id id' B B' x h1 h2 h3 h4
    have mix : ∀ id id' B B', S.get id = some B → hidden (M) id = true → φ1 id = some (some x) → S1.get id' = some B' → φ1 id' = some (some x) → False := by
      intro id id' B B' g1 g2 g3 g4 g5
      have g6 := hold id B x g1 g3
      exact hhidden id B x g1 g2 g6 (hst.own x (I.sim.lt id x g6) ⟨id', B', g4, g5⟩)
    rcases hcase id B h1 with ⟨hid, hm, g1⟩ | ⟨hm, g1⟩
    · rcases hcase id' B' h2 with ⟨hid', hm', g2⟩ | ⟨hm', g2⟩
      · exact I.sim.inj id id' B B' x g1 g2 (hold id B x g1 h3) (hold id' B' x g2 h4)
      · exact (mix id id' B B' g1 hm h3 g2 h4).elim
    · rcases hcase id' B' h2 with ⟨hid', hm', g2⟩ | ⟨hm', g2⟩
      · exact (mix id' id B' B g2 hm' h4 g1 h3).elim
      · exact hst.sim.inj id id' B B' x g1 g2 h3 h4
  · intro x hx h
    rcases hownI x h with h | h
    · exact h
    · exact hsub x (hst.own x hx h)
  · intro id h1 h2
    refine hst.sroot id h1 ?_
    rcases h2 with h2 | h2
    · exact .inl h2
    · refine .inr ?_
      cases hg : (hideM S M).get id with
      | none => rfl
      | some C => rw [(hide_get_inv hg).1] at h2; cases h2
  · intro id B x h1 h2
    rcases hcase id B h1 with ⟨hid, hm, g1⟩ | ⟨hm, g1⟩
    · exact .inl ⟨hid, ⟨B, g1⟩, hold id B x g1 h2⟩
    · by_cases hid : id < S.size
      · obtain ⟨C, g2⟩ := hseen id B hid hm g1
        exact .inl ⟨hid, ⟨C, g2⟩, hold id C x g2 h2⟩
      · refine .inr ⟨by omega, SHeap.get_lt g1, ?_⟩
        have hlt := hst.sim.lt id x h2
        by_cases hx : x < H.size
        · obtain ⟨id0, B0, g3, g4⟩ := hst.own x hx ⟨id, B, g1, h2⟩
          obtain ⟨g5, g6⟩ := hide_get_inv g3
          exact .inr ⟨id0, B0, g5, g6, g4⟩
        · exact .inl ⟨by omega, hlt⟩
end
end
end Go.Proofs.Ytoiijpphfckdjaa.Ev
