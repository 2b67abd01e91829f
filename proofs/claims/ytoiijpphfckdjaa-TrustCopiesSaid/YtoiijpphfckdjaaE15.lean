/-
  A region that draws its order: one step of any order.
-/
import Derived.Test.YtoiijpphfckdjaaE14
namespace Go.Proofs.Ytoiijpphfckdjaa.Ev
open Go
set_option linter.unusedSimpArgs false

section
variable {P : Program} {L : List FuncId} {cl : FuncId → List Value → Heap → Option (Value × Heap)}
variable {ops : Array Oper} {A : Array Nat} {s0 s' : St} {rs : List Rec} {S : Nat → St}

def sz (S : Nat → St) (i : Nat) : Nat := (S i).hp.size
def Mh (S : Nat → St) (rs : List Rec) (p : Nat → Bool) (m : Nat) : Heap := { (S m).hp with hid := maskOf p (rs.take m) 0 ++ (S 0).hp.hid }

theorem Can.sz_mono (h : Can P L cl ops A s0 s' rs S) (hfr : ClFr cl) {i j : Nat} (hij : i ≤ j) (hj : j ≤ ops.size) : sz S i ≤ sz S j := (h.fr_upto hfr j i hij hj).size

theorem Can.get_mask (h : Can P L cl ops A s0 s' rs S) {p : Nat → Bool} {m : Nat} (hm : m ≤ ops.size) {X : Heap} (h1 : X.size = sz S m) (h2 : X.root = (S m).hp.root)
    (h3 : X.hid = maskOf p (rs.take m) 0 ++ (S 0).hp.hid) (x : Nat) (b : Blk) :
    X.get x = some b ↔ x < sz S m ∧ (S m).hp.root.get x = some b ∧ hidden (S 0).hp.hid x = false ∧ ∀ k, k < m → p k = false → ¬ (sz S k ≤ x ∧ x < sz S (k + 1)) := by
  have hh : hidden X.hid x = false ↔ hidden (S 0).hp.hid x = false ∧ ∀ k, k < m → p k = false → ¬ (sz S k ≤ x ∧ x < sz S (k + 1)) := by
    rw [h3, hidden_append, Bool.or_eq_false_iff, and_comm]
    refine and_congr_right fun _ => ?_
    rw [← Bool.not_eq_true, hidden_maskOf]
    constructor
    · intro hn k hk hp ⟨ha, hb⟩
      obtain ⟨r, g1, _, _, g4, g5⟩ := h.rec_at (i := k) (by omega)
      exact hn ⟨k, r, by rw [List.getElem?_take, if_pos hk]; exact g1, by rw [Nat.zero_add]; exact hp, by rw [g4]; exact ha, by rw [g5]; exact hb⟩
    · rintro hn ⟨k, r, g1, g2, g3, g4⟩
      rw [List.getElem?_take] at g1
      split at g1
      · rename_i hk
        obtain ⟨r2, e1, _, _, e4, e5⟩ := h.rec_at (i := k) (by omega)
        rw [g1] at e1; cases e1
        exact hn k hk (by rw [Nat.zero_add] at g2; exact g2) ⟨by rw [e4] at g3; exact g3, by rw [e5] at g4; exact g4⟩
      · cases g1
  unfold Heap.get
  rw [h1, h2]
  constructor
  · intro hx
    split at hx
    · rename_i hlt
      split at hx
      · cases hx
      · rename_i hhid
        have := hh.1 (by simpa using hhid)
        exact ⟨hlt, hx, this⟩
    · cases hx
  · rintro ⟨a1, a2, a3⟩
    rw [if_pos a1, if_neg (by rw [hh.2 a3]; simp)]
    exact a2

structure Inv (ops : Array Oper) (s0 : St) (rs : List Rec) (S : Nat → St) (f0 : Fm) (w0 : World) (a0 : Act) (p : Nat → Bool) (f : Fm) (m : Nat) (a : Act) (w : World) : Prop where
  mle : m ≤ ops.size
  mloud : m < ops.size → Loud rs m ∧ p m = false
  mfirst : ∀ j, j < m → Loud rs j → p j = true
  clos : Closed ops p
  r : R f (Mh S rs p m) w
  fsize : a.tmps.size = s0.fr.length
  defers : a.defers = a0.defers
  fr1 : ∀ t k q r, ops[k]? = some q → rs[k]? = some r → q.dst = some t → p k = true → V f r.v (a.tmps.getD t undef)
  fr2 : ∀ t, (∀ k q, ops[k]? = some q → q.dst = some t → p k = false) → V f (s0.fr.getD t undef) (a.tmps.getD t undef)
  le : Le f0 f
  out : ∀ x, ¬ (sz S 0 ≤ x ∧ x < sz S ops.size) → f x = f0 x
  free : ∀ k, k < ops.size → p k = false → ∀ x, sz S k ≤ x → x < sz S (k + 1) → f x = none
  wsize : w0.heap.size ≤ w.heap.size
  os : w.os = w0.os
  tape : w.tape = w0.tape
  output : w.output = w0.output
  keep : ∀ cb, cb < w0.heap.size → ¬ ownedAt f0 (S 0).hp cb → w.heap[cb]? = w0.heap[cb]?
  own : ∀ cb, cb < w0.heap.size → ownedAt f (Mh S rs p m) cb → ownedAt f0 (S 0).hp cb

def upd (p : Nat → Bool) (i : Nat) (j : Nat) : Bool := if j = i then true else p j

variable {f0 f : Fm} {w0 w : World} {a0 a : Act} {p : Nat → Bool} {m i : Nat} {o : Oper}

/-- What an operation that comes up now finds in its temporaries is what it finds in the text's order. -/
theorem Inv.looks (hC : Can P L cl ops A s0 s' rs S) (hI : Inv ops s0 rs S f0 w0 a0 p f m a w) (ho : ops[i]? = some o) (hpi : p i = false)
    (hr : ∀ e ∈ o.after, Region.binds .any e = true → p e.on = true) (t : Tmp) (ht : t ∈ o.looksAt ops) : V f ((S i).fr.getD t undef) (a.tmps.getD t undef) := by
  have hi : i < ops.size := (Array.getElem?_eq_some_iff.1 ho).1
  obtain ⟨_, hframe⟩ := hC.frame i (by omega)
  obtain ⟨c1, c2⟩ := hframe t
  by_cases hex : ∃ k q, ops[k]? = some q ∧ q.dst = some t ∧ i ≠ k
  · obtain ⟨k, q, hq, hd, hne⟩ := hex
    have hk : k < ops.size := (Array.getElem?_eq_some_iff.1 hq).1
    obtain ⟨_, _, _, s4, _⟩ := static_at hC.stat ho
    obtain ⟨rk, hrk, _⟩ := hC.rec_at hk
    rcases s4 k q t hq hd with e | ⟨hnd, hlook⟩
    · exact absurd e hne
    · rcases hlook ht with hg | hg
      · -- it is written ahead of this one, whatever the order
        have hpk := anc_ready hC.stat hI.clos ho hr hk hg
        have hki : k < i := ((static_at hC.stat ho).2.1 k hk hg).1
        rw [c1 k q rk hki hq hrk hd]
        exact hI.fr1 t k q rk hq hrk hd hpk
      · -- it is written behind this one
        have hik : i < k := ((static_at hC.stat hq).2.1 i hi hg).1
        have hpk : p k = false := by
          cases hp : p k with
          | false => rfl
          | true => rw [anc_closed hC.stat hI.clos k i hk hi hp hg] at hpi; cases hpi
        have huniq : ∀ k' q', ops[k']? = some q' → q'.dst = some t → k' = k := by
          intro k' q' hq' hd'
          obtain ⟨_, _, _, s4', _⟩ := static_at hC.stat hq'
          rcases s4' k q t hq hd with e | ⟨e, _⟩
          · exact e
          · exact absurd hd' e
        rw [c2 (fun k' q' hk' hq' hd' => by have := huniq k' q' hq' hd'; omega)]
        exact hI.fr2 t (fun k' q' hq' hd' => by rw [huniq k' q' hq' hd']; exact hpk)
  · have hno : ∀ k q, ops[k]? = some q → q.dst = some t → k = i := by
      intro k q hq hd
      apply Classical.byContradiction
      intro hne
      exact hex ⟨k, q, hq, hd, fun e => hne e.symm⟩
    rw [c2 (fun k q hk hq hd => by have := hno k q hq hd; omega)]
    exact hI.fr2 t (fun k q hq hd => by rw [hno k q hq hd]; exact hpi)

theorem Inv.opnd (hC : Can P L cl ops A s0 s' rs S) (hI : Inv ops s0 rs S f0 w0 a0 p f m a w) (ho : ops[i]? = some o) (hpi : p i = false)
    (hr : ∀ e ∈ o.after, Region.binds .any e = true → p e.on = true) (x : Operand) (hx : x ∈ o.op.operands) (v : Value) (hv : Ev.opnd (S i).fr x = some v) : V f v (a.eval x) := by
  cases x with
  | tmp t =>
    simp only [Ev.opnd, Option.some.injEq] at hv
    subst hv
    exact hI.looks hC ho hpi hr t (List.mem_append_left _ (List.mem_filterMap.2 ⟨.tmp t, by simpa using hx, rfl⟩))
  | const c =>
    simp only [Ev.opnd] at hv
    split at hv
    · rename_i hc; cases hv; exact V.constOk f hc
    · cases hv
  | global g => simp [Ev.opnd] at hv
  | func g => simp only [Ev.opnd, Option.some.injEq] at hv; subst hv; exact .func g _ _ _ _ rfl rfl (fun i v v' h _ => by simp at h) (fun i v v' h _ => by simp at h)

theorem Inv.wanted (hC : Can P L cl ops A s0 s' rs S) (hI : Inv ops s0 rs S f0 w0 a0 p f m a w) (ho : ops[i]? = some o) (hpi : p i = false)
    (hr : ∀ e ∈ o.after, Region.binds .any e = true → p e.on = true) : Region.wanted o (yielded ops a.tmps) = wantedE ops (S i).fr o := by
  have hi : i < ops.size := (Array.getElem?_eq_some_iff.1 ho).1
  obtain ⟨hlen, _⟩ := hC.frame i (by omega)
  unfold Region.wanted wantedE
  cases hg : o.guard with
  | none => rfl
  | some gw =>
    obtain ⟨j, want⟩ := gw
    simp only [yielded]
    cases hd : (ops[j]?).bind (·.dst) with
    | none => simp
    | some t =>
      simp only [Option.bind_some]
      have hv := hI.looks hC ho hpi hr t (by unfold Oper.looksAt; rw [hg]; simp [hd])
      simp only [Array.getD_eq_getD_getElem?, List.getD_eq_getElem?_getD] at hv
      by_cases hl : t < (S i).fr.length
      · have hl' : t < a.tmps.size := by rw [hI.fsize, ← hlen]; exact hl
        rw [List.getElem?_eq_getElem hl, Array.getElem?_eq_getElem hl'] at hv
        rw [List.getElem?_eq_getElem hl, Array.getElem?_eq_getElem hl']
        simp only [Option.getD_some] at hv
        generalize (S i).fr[t] = u at hv
        generalize a.tmps[t] = u' at hv
        cases hv <;> simp
      · have hl' : ¬ t < a.tmps.size := by rw [hI.fsize, ← hlen]; exact hl
        have e1 : (S i).fr[t]? = none := List.getElem?_eq_none (Nat.le_of_not_lt hl)
        have e2 : a.tmps[t]? = none := Array.getElem?_eq_none (Nat.le_of_not_lt hl')
        rw [e1, e2]
        simp

theorem put_get {a : Act} {d t : Tmp} {v : Value} : ((a.put (some d) v).tmps.getD t undef) = if d = t ∧ d < a.tmps.size then v else a.tmps.getD t undef := by
  simp only [Act.put, Array.getD_eq_getD_getElem?, Array.getElem?_setIfInBounds]
  by_cases e : d = t
  · subst e
    by_cases hl : d < a.tmps.size
    · simp [hl]
    · simp [hl]
  · simp [e]

theorem closed_upd {p : Nat → Bool} (hp : Closed ops p) (ho : ops[i]? = some o) (hr : ∀ e ∈ o.after, Region.binds .any e = true → p e.on = true) : Closed ops (upd p i) := by
  intro j q hq hpj e he hb
  unfold upd at hpj ⊢
  split
  · rfl
  · by_cases ej : j = i
    · subst ej
      rw [ho] at hq; cases hq
      exact hr e he hb
    · rw [if_neg ej] at hpj
      exact hp j q hq hpj e he hb

/-- What a step hands on, but for memory. -/
theorem Inv.after (hC : Can P L cl ops A s0 s' rs S) (hI : Inv ops s0 rs S f0 w0 a0 p f m a w) (ho : ops[i]? = some o) (hpi : p i = false)
    (hr : ∀ e ∈ o.after, Region.binds .any e = true → p e.on = true) {r : Rec} (hri : rs[i]? = some r) {f' : Fm} {w' : World} {v' : Value} {m' : Nat} (hV : V f' r.v v') (hle : Le f f')
    (hout : ∀ x, ¬ (sz S i ≤ x ∧ x < sz S (i + 1)) → f' x = f x) (hws : w.heap.size ≤ w'.heap.size) (hos : w'.os = w.os) (htp : w'.tape = w.tape) (hou : w'.output = w.output)
    (hkeep : ∀ cb, cb < w0.heap.size → ¬ ownedAt f0 (S 0).hp cb → w'.heap[cb]? = w.heap[cb]?)
    (hown : ∀ cb, cb < w0.heap.size → ownedAt f' (Mh S rs (upd p i) m') cb → ownedAt f0 (S 0).hp cb)
    (hm1 : m' ≤ ops.size) (hm2 : m' < ops.size → Loud rs m' ∧ upd p i m' = false) (hm3 : ∀ j, j < m' → Loud rs j → upd p i j = true)
    (hR : R f' (Mh S rs (upd p i) m') w') (hsz : ∀ a b, a ≤ b → b ≤ ops.size → sz S a ≤ sz S b) : Inv ops s0 rs S f0 w0 a0 (upd p i) f' m' (a.put o.dst v') w' := by
  have hi : i < ops.size := (Array.getElem?_eq_some_iff.1 ho).1
  obtain ⟨_, _, s3, s4, _⟩ := static_at hC.stat ho
  refine ⟨hm1, hm2, hm3, closed_upd hI.clos ho hr, hR, ?_, ?_, ?_, ?_, hI.le.trans hle, ?_, ?_, Nat.le_trans hI.wsize hws, hos.trans hI.os, htp.trans hI.tape, hou.trans hI.output, ?_, hown⟩
  · have : (a.put o.dst v').tmps.size = a.tmps.size := by cases o.dst <;> simp [Act.put]
    rw [this]; exact hI.fsize
  · rw [← hI.defers]; cases o.dst <;> rfl
  · intro t k q rk hq hrk hd hpk
    by_cases e : k = i
    · subst e
      rw [ho] at hq; cases hq
      rw [hri] at hrk; cases hrk
      rw [hd, put_get, if_pos ⟨rfl, by rw [hI.fsize]; exact s3 t hd⟩]
      exact hV
    · have hpk' : p k = true := by simpa [upd, e] using hpk
      have hne : o.dst ≠ some t := by
        rcases s4 k q t hq hd with h1 | ⟨h1, _⟩
        · exact absurd h1.symm e
        · exact h1
      have : (a.put o.dst v').tmps.getD t undef = a.tmps.getD t undef := by
        cases hdd : o.dst with
        | none => rfl
        | some d =>
          rw [hdd] at hne
          rw [put_get, if_neg (fun ⟨e2, _⟩ => hne (by rw [e2]))]
      rw [this]
      exact (hI.fr1 t k q rk hq hrk hd hpk').mono hle
  · intro t hn
    have hne : o.dst ≠ some t := by
      intro hd
      have := hn i o ho hd
      simp [upd] at this
    have : (a.put o.dst v').tmps.getD t undef = a.tmps.getD t undef := by
      cases hdd : o.dst with
      | none => rfl
      | some d =>
        rw [hdd] at hne
        rw [put_get, if_neg (fun ⟨e2, _⟩ => hne (by rw [e2]))]
    rw [this]
    refine (hI.fr2 t (fun k q hq hd => ?_)).mono hle
    have := hn k q hq hd
    unfold upd at this
    split at this
    · cases this
    · exact this
  · intro x hx
    have h1 := hsz 0 i (by omega) (by omega)
    have h2 := hsz (i + 1) ops.size (by omega) (by omega)
    rw [hout x (by omega)]
    exact hI.out x hx
  · intro k hk hpk x hx1 hx2
    unfold upd at hpk
    split at hpk
    · cases hpk
    · rename_i hki
      rw [hout x ?_]
      · exact hI.free k hk hpk x hx1 hx2
      · rintro ⟨h1, h2⟩
        rcases Nat.lt_or_gt_of_ne hki with h3 | h3
        · have := hsz (k + 1) i (by omega) (by omega); omega
        · have := hsz (i + 1) k (by omega) (by omega); omega
  · intro cb h1 h2
    rw [hkeep cb h1 h2]
    exact hI.keep cb h1 h2
end
end Go.Proofs.Ytoiijpphfckdjaa.Ev
