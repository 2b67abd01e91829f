/-
  A region that draws its order: every step of any order; the whole region.
-/
import Derived.Test.YtoiijpphfckdjaaE15
namespace Go.Proofs.Ytoiijpphfckdjaa.Ev
open Go
set_option linter.unusedSimpArgs false

section
variable {P : Program} {L : List FuncId} {cl : FuncId → List Value → Heap → Option (Value × Heap)}
variable {ops : Array Oper} {A : Array Nat} {s0 s' : St} {rs : List Rec} {S : Nat → St}
variable {f0 f : Fm} {w0 w : World} {a0 a : Act} {p : Nat → Bool} {m i : Nat} {o : Oper}

theorem R.sub {X Y : Heap} (h : R f X w) (hg : ∀ x b, Y.get x = some b → X.get x = some b) (hl : Y.lock = X.lock) (hs : Y.lock ≤ Y.size) : R f Y w := by
  refine ⟨fun x b hx => ?_, h.big, hs, fun x y b c l m hx hy hmm => ?_⟩
  · obtain ⟨l, C, e, fr, h1, h2, h3, h4⟩ := h.blk x b (hg x b hx)
    exact ⟨l, C, e, fr, h1, h2, h3, fun hmm => h4 (by rw [mine_iff] at hmm ⊢; rw [← hl]; exact hmm)⟩
  · exact h.inj x y b c l m (hg x b hx) (hg y c hy) (by rw [mine_iff] at hmm ⊢; rw [← hl]; exact hmm)
theorem owned_sub {X Y : Heap} (hg : ∀ x b, Y.get x = some b → X.get x = some b) (hl : Y.lock = X.lock) {cb : Nat} (h : ownedAt f Y cb) : ownedAt f X cb := by
  obtain ⟨x, b, l, h1, h2, h3, h4⟩ := h
  exact ⟨x, b, l, hg x b h1, by rw [mine_iff] at h2 ⊢; rw [← hl]; exact h2, h3, h4⟩

theorem Mh_size : (Mh S rs p m).size = sz S m := rfl
theorem Mh_lock (hC : Can P L cl ops A s0 s' rs S) (hfr : ClFr cl) (hm : m ≤ ops.size) : (Mh S rs p m).lock = (S 0).hp.lock := (hC.fr_upto hfr m 0 (by omega) hm).lock

theorem Can.get_Mh (hC : Can P L cl ops A s0 s' rs S) (hm : m ≤ ops.size) (x : Nat) (b : Blk) :
    (Mh S rs p m).get x = some b ↔ x < sz S m ∧ (S m).hp.root.get x = some b ∧ hidden (S 0).hp.hid x = false ∧ ∀ k, k < m → p k = false → ¬ (sz S k ≤ x ∧ x < sz S (k + 1)) :=
  hC.get_mask (X := Mh S rs p m) hm rfl rfl rfl x b

/-- A step that makes and writes nothing. -/
theorem Inv.still (hC : Can P L cl ops A s0 s' rs S) (hfr : ClFr cl) (hI : Inv ops s0 rs S f0 w0 a0 p f m a w) (ho : ops[i]? = some o) (hpi : p i = false)
    (hr : ∀ e ∈ o.after, Region.binds .any e = true → p e.on = true) {r : Rec} (hri : rs[i]? = some r) (hk : r.kind ≠ .loud) (hsame : r.h0 = r.h1) {f' : Fm} {w' : World} {v' : Value} (hV : V f' r.v v')
    (hS : Stp f (Mh S rs p m) w f' (Mh S rs p m) w') (hR : R f' (Mh S rs p m) w') : Inv ops s0 rs S f0 w0 a0 (upd p i) f' m (a.put o.dst v') w' := by
  have hi : i < ops.size := (Array.getElem?_eq_some_iff.1 ho).1
  obtain ⟨r2, e1, _, _, e4, e5⟩ := hC.rec_at hi
  rw [hri] at e1; cases e1
  have hsz : sz S i = sz S (i + 1) := by unfold sz; rw [← e4, ← e5, hsame]
  have hg : ∀ x b, (Mh S rs (upd p i) m).get x = some b → (Mh S rs p m).get x = some b := by
    intro x b hx
    rw [hC.get_Mh hI.mle] at hx ⊢
    refine ⟨hx.1, hx.2.1, hx.2.2.1, fun k hkm hpk => ?_⟩
    by_cases e : k = i
    · subst e; omega
    · exact hx.2.2.2 k hkm (by simp [upd, e, hpk])
  have hl : (Mh S rs (upd p i) m).lock = (Mh S rs p m).lock := rfl
  refine hI.after hC ho hpi hr hri hV hS.le ?_ hS.wsize hS.os hS.tape hS.output ?_ ?_ hI.mle ?_ ?_ (hR.sub hg hl hR.lk) (fun a b h1 h2 => hC.sz_mono hfr h1 h2)
  · intro x _
    exact hS.out x (by omega)
  · intro cb h1 h2
    exact hS.keep cb (Nat.lt_of_lt_of_le h1 hI.wsize) (fun h3 => h2 (hI.own cb h1 h3))
  · intro cb h1 h2
    exact hI.own cb h1 (hS.own cb (Nat.lt_of_lt_of_le h1 hI.wsize) (owned_sub hg hl h2))
  · intro hm
    obtain ⟨h1, h2⟩ := hI.mloud hm
    refine ⟨h1, ?_⟩
    have : m ≠ i := by
      rintro rfl
      obtain ⟨q, hq, hql⟩ := h1
      rw [hri] at hq; cases hq
      exact hk hql
    simp [upd, this, h2]
  · intro j hj hlj
    have := hI.mfirst j hj hlj
    unfold upd; split <;> simp [this]

/-- Where the first loud operation that is still to come stands, seen from a quiet one that comes up now. -/
theorem Inv.quiet_pos (hC : Can P L cl ops A s0 s' rs S) (hI : Inv ops s0 rs S f0 w0 a0 p f m a w) (ho : ops[i]? = some o) (hpi : p i = false)
    (hr : ∀ e ∈ o.after, Region.binds .any e = true → p e.on = true) {r : Rec} (hri : rs[i]? = some r) (hk : r.kind = .quiet) : i < m ∧ ∀ k, i ≤ k → k < m → ¬ Loud rs k := by
  have hi : i < ops.size := (Array.getElem?_eq_some_iff.1 ho).1
  have hnot : ∀ k, Loud rs k → k ≠ i := by
    rintro k ⟨q, hq, hql⟩ rfl
    rw [hri] at hq; cases hq
    rw [hk] at hql; cases hql
  have hbefore : ∀ k, k < i → Loud rs k → p k = true := by
    rintro k hki hkl
    obtain ⟨q, hq, hql⟩ := hkl
    rcases hC.comparable hri hq hql (.inl hk) (by omega) with h1 | h1
    · exact anc_ready hC.stat hI.clos ho hr (by omega) h1
    · have hko : ops[k]? = some (ops[k]'(by omega)) := Array.getElem?_eq_getElem _
      have := ((static_at hC.stat hko).2.1 i hi h1).1
      omega
  have him : i < m := by
    rcases Nat.lt_trichotomy i m with h1 | h1 | h1
    · exact h1
    · exact absurd h1.symm (hnot m (hI.mloud (by omega)).1)
    · have h2 := hI.mloud (by omega)
      rw [hbefore m h1 h2.1] at h2
      cases h2.2
  refine ⟨him, fun k h1 h2 hkl => ?_⟩
  have hki : i < k := Nat.lt_of_le_of_ne h1 (fun e => hnot k hkl e.symm)
  have hpk := hI.mfirst k h2 hkl
  obtain ⟨q, hq, hql⟩ := hkl
  have hkn : k < ops.size := by have := hI.mle; omega
  rcases hC.comparable hri hq hql (.inl hk) (by omega) with h3 | h3
  · have := ((static_at hC.stat ho).2.1 k hkn h3).1
    omega
  · rw [anc_closed hC.stat hI.clos k i hkn hi hpk h3] at hpi
    cases hpi

theorem Can.veil_get (hC : Can P L cl ops A s0 s' rs S) (hfr : ClFr cl) {j : Nat} (hj : j ≤ ops.size) (q : Nat → Bool) (x : Nat) (b : Blk) :
    (veil (S j).hp q (rs.take j)).get x = some b ↔ x < sz S j ∧ (S j).hp.root.get x = some b ∧ hidden (S 0).hp.hid x = false ∧ ∀ k, k < j → q k = false → ¬ (sz S k ≤ x ∧ x < sz S (k + 1)) :=
  hC.get_mask (X := veil (S j).hp q (rs.take j)) hj rfl rfl (by show maskOf q (rs.take j) 0 ++ (S j).hp.hid = _; rw [(hC.fr_upto hfr j 0 (by omega) hj).hid]) x b

/-- A quiet step. -/
theorem Inv.quiet (hlk0 : (S 0).hp.lock ≤ sz S 0) (hcl : ClOk P cl) (hC : Can P L cl ops A s0 s' rs S) (hfr : ClFr cl) (hI : Inv ops s0 rs S f0 w0 a0 p f m a w) (ho : ops[i]? = some o) (hpi : p i = false)
    (hr : ∀ e ∈ o.after, Region.binds .any e = true → p e.on = true) {v : Value} {H' : Heap} (hri : rs[i]? = some ⟨.quiet, v, (S i).hp, unveil (S i).hp H', none⟩)
    (hop : opE P cl (Ev.opnd (S i).fr) o (veil (S i).hp (getB A i) (rs.take i)) = some (v, H')) {Q : Exit → Act → World → Prop} :
    o.wp P a w (fun a' w' => ∃ f' m', Inv ops s0 rs S f0 w0 a0 (upd p i) f' m' a' w') Q := by
  have hi : i < ops.size := (Array.getElem?_eq_some_iff.1 ho).1
  obtain ⟨him, hnl⟩ := hI.quiet_pos hC ho hpi hr hri rfl
  have hmle := hI.mle
  obtain ⟨r2, e1, _, _, e4, e5⟩ := hC.rec_at hi
  rw [hri] at e1; cases e1
  have hH1 : (S (i + 1)).hp = unveil (S i).hp H' := e5.symm
  have hsz1 : sz S (i + 1) = H'.size := by unfold sz; rw [hH1]; rfl
  have hroot : ∀ x, x < sz S i → (S m).hp.root.get x = (S i).hp.root.get x := fun x hx => hC.root_upto hfr m i (by omega) hmle hnl x hx
  have hroot1 : ∀ x, x < sz S (i + 1) → (S m).hp.root.get x = H'.root.get x := by
    intro x hx
    have := hC.root_upto hfr m (i + 1) (by omega) hmle (fun k h1 h2 => hnl k (by omega) h2) x hx
    rw [this, hH1]; rfl
  have hmono : ∀ a b, a ≤ b → b ≤ ops.size → sz S a ≤ sz S b := fun a b h1 h2 => hC.sz_mono hfr h1 h2
  have hview : R f (veil (S i).hp (getB A i) (rs.take i)) w := by
    refine hI.r.view ?_ rfl
    intro x b hx
    rw [hC.veil_get hfr (by omega)] at hx
    rw [hC.get_Mh hmle]
    obtain ⟨h1, h2, h3, h4⟩ := hx
    refine ⟨Nat.lt_of_lt_of_le h1 (hmono i m (by omega) hmle), by rw [hroot x h1]; exact h2, h3, fun k hk hpk hx => ?_⟩
    by_cases hki : k < i
    · refine h4 k hki ?_ hx
      cases hg : getB A i k with
      | false => rfl
      | true => rw [anc_ready hC.stat hI.clos ho hr (by omega) hg] at hpk; cases hpk
    · have := hmono i k (by omega) (by omega); omega
  have hfree : ∀ j, (veil (S i).hp (getB A i) (rs.take i)).size ≤ j → j < H'.size → f j = none := fun j h1 h2 => hI.free i hi hpi j h1 (by rw [hsz1]; exact h2)
  refine op_wp hcl hview (fun x hx u hu => hI.opnd hC ho hpi hr x hx u hu) hfree hop ?_
  intro f' w' v' hV hS hR'
  have hnoown : ∀ cb, ¬ ownedAt f (veil (S i).hp (getB A i) (rs.take i)) cb := by
    rintro cb ⟨x, b, l, h1, h2, _⟩
    have := Heap.get_lt h1
    rw [mine_iff] at h2
    have e : (veil (S i).hp (getB A i) (rs.take i)).lock = (veil (S i).hp (getB A i) (rs.take i)).size := rfl
    omega
  have hlockH : H'.lock = sz S i := hS.lock
  have hhidH : H'.hid = (veil (S i).hp (getB A i) (rs.take i)).hid := hS.hid
  -- what is seen behind the step
  have hsee : ∀ x b, (Mh S rs (upd p i) m).get x = some b → (sz S i ≤ x ∧ x < sz S (i + 1) ∧ H'.get x = some b) ∨ (¬ (sz S i ≤ x ∧ x < sz S (i + 1)) ∧ (Mh S rs p m).get x = some b) := by
    intro x b hx
    rw [hC.get_Mh hmle] at hx
    obtain ⟨h1, h2, h3, h4⟩ := hx
    by_cases hin : sz S i ≤ x ∧ x < sz S (i + 1)
    · refine .inl ⟨hin.1, hin.2, ?_⟩
      have hnh : hidden H'.hid x = false := by
        rw [hhidH]
        show hidden (maskOf (getB A i) (rs.take i) 0 ++ (S i).hp.hid) x = false
        rw [(hC.fr_upto hfr i 0 (by omega) (by omega)).hid, hidden_append, h3, Bool.or_false, ← Bool.not_eq_true, hidden_maskOf]
        rintro ⟨k, q, g1, _, g3, g4⟩
        rw [List.getElem?_take] at g1
        split at g1
        · rename_i hk
          obtain ⟨q2, d1, _, _, d4, d5⟩ := hC.rec_at (i := k) (by omega)
          rw [g1] at d1; cases d1
          rw [d5] at g4
          have := hmono (k + 1) i (by omega) (by omega)
          have h5 : x < sz S (k + 1) := g4
          omega
        · cases g1
      unfold Heap.get
      rw [if_pos (by rw [← hsz1]; exact hin.2), hnh, if_neg (by simp), ← hroot1 x hin.2]
      exact h2
    · refine .inr ⟨hin, ?_⟩
      rw [hC.get_Mh hmle]
      refine ⟨h1, h2, h3, fun k hk hpk hx => ?_⟩
      by_cases e : k = i
      · subst e; exact hin hx
      · exact h4 k hk (by simp [upd, e, hpk]) hx
  have hlockM : (Mh S rs (upd p i) m).lock = (S 0).hp.lock := Mh_lock hC hfr hmle
  have hlockM0 : (Mh S rs p m).lock = (S 0).hp.lock := Mh_lock hC hfr hmle
  have hnew : ∀ x b l, (Mh S rs (upd p i) m).get x = some b → sz S i ≤ x ∧ x < sz S (i + 1) ∧ H'.get x = some b → f' x = some l → w.heap.size ≤ l.blk := by
    rintro x b l _ ⟨h1, h2, h3⟩ h4
    apply Classical.byContradiction
    intro hlt
    exact hnoown l.blk (hS.own l.blk (by omega) ⟨x, b, l, h3, by rw [mine_iff, hlockH]; exact h1, h4, rfl⟩)
  have hold : ∀ x b l, (Mh S rs p m).get x = some b → f' x = some l → f x = some l ∧ l.blk < w.heap.size := by
    intro x b l h1 h2
    obtain ⟨l2, C, e, fr, g1, _⟩ := hI.r.blk x b h1
    have := hS.le x l2 g1
    rw [h2] at this
    cases this
    exact ⟨g1, hI.r.big x l g1⟩
  have hRM : R f' (Mh S rs (upd p i) m) w' := by
    refine ⟨?_, hR'.big, ?_, ?_⟩
    · intro x b hx
      rcases hsee x b hx with ⟨h1, h2, h3⟩ | ⟨h1, h2⟩
      · obtain ⟨l, C, e, fr, g1, g2, g3, g4⟩ := hR'.blk x b h3
        exact ⟨l, C, e, fr, g1, g2, g3, fun _ => g4 (by rw [mine_iff, hlockH]; exact h1)⟩
      · obtain ⟨l, C, e, fr, g1, g2, g3, g4⟩ := hI.r.blk x b h2
        refine ⟨l, C, e, fr, hS.le x l g1, ?_, ?_, fun hm => g4 (by rw [mine_iff, hlockM0]; rw [mine_iff, hlockM] at hm; exact hm)⟩
        · rw [hS.keep l.blk (hI.r.big x l g1) (hnoown _)]; exact g2
        · intro j u hj
          obtain ⟨d1, u', d2, d3⟩ := g3 j u hj
          exact ⟨d1, u', d2, d3.mono hS.le⟩
    · rw [hlockM]
      exact Nat.le_trans hlk0 (hmono 0 m (by omega) hmle)
    · intro x y b c l n hx hy hm hne hl hn
      rcases hsee x b hx with hxn | ⟨_, hxo⟩
      · have h1 := hnew x b l hx hxn hl
        rcases hsee y c hy with hyn | ⟨_, hyo⟩
        · exact hR'.inj x y b c l n hxn.2.2 hyn.2.2 (by rw [mine_iff, hlockH]; exact hxn.1) hne hl hn
        · have := (hold y c n hyo hn).2
          omega
      · obtain ⟨h1, h2⟩ := hold x b l hxo hl
        rcases hsee y c hy with hyn | ⟨_, hyo⟩
        · have := hnew y c n hy hyn hn
          omega
        · obtain ⟨h3, _⟩ := hold y c n hyo hn
          exact hI.r.inj x y b c l n hxo hyo (by rw [mine_iff, hlockM0]; rw [mine_iff, hlockM] at hm; exact hm) hne h1 h3
  refine ⟨f', m, hI.after hC ho hpi hr hri hV hS.le ?_ hS.wsize hS.os hS.tape hS.output ?_ ?_ hmle ?_ ?_ hRM hmono⟩
  · intro x hx
    refine hS.out x ?_
    show ¬ (sz S i ≤ x ∧ x < H'.size)
    rw [← hsz1]; exact hx
  · intro cb h1 _
    exact hS.keep cb (Nat.lt_of_lt_of_le h1 hI.wsize) (hnoown cb)
  · rintro cb h1 ⟨x, b, l, hx, hm, hl, hcb⟩
    rcases hsee x b hx with hxn | ⟨_, hxo⟩
    · have := hnew x b l hx hxn hl
      have := hI.wsize
      omega
    · obtain ⟨h2, _⟩ := hold x b l hxo hl
      exact hI.own cb h1 ⟨x, b, l, hxo, by rw [mine_iff, hlockM0]; rw [mine_iff, hlockM] at hm; exact hm, h2, hcb⟩
  · intro hm
    obtain ⟨h1, h2⟩ := hI.mloud hm
    have : m ≠ i := by omega
    exact ⟨h1, by simp [upd, this, h2]⟩
  · intro j hj hlj
    have := hI.mfirst j hj hlj
    unfold upd; split <;> simp [this]

/-- A plain load. -/
theorem Inv.load (hC : Can P L cl ops A s0 s' rs S) (hfr : ClFr cl) (hI : Inv ops s0 rs S f0 w0 a0 p f m a w) (ho : ops[i]? = some o) (hpi : p i = false)
    (hr : ∀ e ∈ o.after, Region.binds .any e = true → p e.on = true) {t : TypeId} {ad : Operand} {q v : Value} (hri : rs[i]? = some ⟨.load, v, (S i).hp, (S i).hp, some (t, q)⟩)
    (hop : o.op = .load t ad) (had : Ev.opnd (S i).fr ad = some q) (hld : loadE P (veil (S i).hp (getB A i) (rs.take i)) t q = some v) {Q : Exit → Act → World → Prop} :
    o.wp P a w (fun a' w' => ∃ f' m', Inv ops s0 rs S f0 w0 a0 (upd p i) f' m' a' w') Q := by
  have hi : i < ops.size := (Array.getElem?_eq_some_iff.1 ho).1
  have hmle := hI.mle
  have hmono : ∀ a b, a ≤ b → b ≤ ops.size → sz S a ≤ sz S b := fun a b h1 h2 => hC.sz_mono hfr h1 h2
  have hVq : V f q (a.eval ad) := hI.opnd hC ho hpi hr ad (by rw [hop]; simp [Op.operands]) q had
  -- the load in a view of what there is
  have key : ∃ X, R f X w ∧ loadE P X t q = some v := by
    have hcase : ∀ j, (j = i ∨ Loud rs j) → j ≤ m → (∀ k, j ≤ k → k < m → ¬ Loud rs k) → loadE P (veil (S j).hp (getB A i) (rs.take j)) t q = some v →
        (∀ k, k < j → getB A i k = true → p k = true) → ∃ X, R f X w ∧ loadE P X t q = some v := by
      intro j _ hjm hnl hl hanc
      refine ⟨_, hI.r.view (X := veil (S j).hp (getB A i) (rs.take j)) ?_ rfl, hl⟩
      intro x b hx
      rw [hC.veil_get hfr (by omega)] at hx
      rw [hC.get_Mh hmle]
      obtain ⟨h1, h2, h3, h4⟩ := hx
      refine ⟨Nat.lt_of_lt_of_le h1 (hmono j m hjm hmle), by rw [hC.root_upto hfr m j hjm hmle hnl x h1]; exact h2, h3, fun k hk hpk hx => ?_⟩
      by_cases hkj : k < j
      · refine h4 k hkj ?_ hx
        cases hg : getB A i k with
        | false => rfl
        | true => rw [hanc k hkj hg] at hpk; cases hpk
      · have := hmono j k (by omega) (by omega); omega
    have hancr : ∀ k, k < ops.size → getB A i k = true → p k = true := fun k hk hg => anc_ready hC.stat hI.clos ho hr hk hg
    have hloudpair : ∀ j, Loud rs j → p j = false → j < i → loadE P (veil (S j).hp (getB A i) (rs.take j)) t q = some v := by
      rintro j ⟨b, hb, hbl⟩ hpj hji
      have g1 : getB A i j = false := by
        cases hg : getB A i j with
        | false => rfl
        | true => rw [hancr j (by omega) hg] at hpj; cases hpj
      have g2 : getB A j i = false := by
        cases hg : getB A j i with
        | false => rfl
        | true =>
          have hjo : ops[j]? = some (ops[j]'(by omega)) := Array.getElem?_eq_getElem _
          have := ((static_at hC.stat hjo).2.1 i hi hg).1
          omega
      obtain ⟨t2, q2, e1, e2⟩ := hC.load_pair hri hb hbl rfl g1 g2
      cases e1
      rw [if_pos hji] at e2
      obtain ⟨r2, d1, _, _, d4, _⟩ := hC.rec_at (i := j) (by omega)
      rw [hb] at d1; cases d1
      rw [d4] at e2
      exact e2
    rcases Nat.lt_or_ge m i with hmi | him
    · -- a loud operation ahead of it in the text has not come up
      obtain ⟨h1, h2⟩ := hI.mloud (by omega)
      exact hcase m (.inr h1) (Nat.le_refl _) (fun k h3 h4 => by omega) (hloudpair m h1 h2 hmi) (fun k hk hg => hancr k (by omega) hg)
    · have hni : ¬ Loud rs i := by
        rintro ⟨b, hb, hbl⟩
        rw [hri] at hb; cases hb; cases hbl
      by_cases hex : ∃ j, i < j ∧ j < m ∧ Loud rs j
      · -- a loud one behind it in the text has come up: the last of them
        have hlast : ∀ n, (∃ j, i < j ∧ j < m ∧ m - j ≤ n ∧ Loud rs j) → ∃ j, i < j ∧ j < m ∧ Loud rs j ∧ ∀ k, j < k → k < m → ¬ Loud rs k := by
          intro n
          induction n with
          | zero => rintro ⟨j, h1, h2, h3, h4⟩; omega
          | succ n ih =>
            rintro ⟨j, h1, h2, h3, h4⟩
            by_cases hk : ∃ k, j < k ∧ k < m ∧ Loud rs k
            · obtain ⟨k, k1, k2, k3⟩ := hk
              exact ih ⟨k, by omega, k2, by omega, k3⟩
            · exact ⟨j, h1, h2, h4, fun k k1 k2 k3 => hk ⟨k, k1, k2, k3⟩⟩
        obtain ⟨j0, j1, j2, j3⟩ := hex
        obtain ⟨j, h1, h2, h3, h4⟩ := hlast m ⟨j0, j1, j2, by omega, j3⟩
        have hpj := hI.mfirst j h2 h3
        obtain ⟨b, hb, hbl⟩ := h3
        have hjn : j < ops.size := by omega
        have hjo : ops[j]? = some (ops[j]'hjn) := Array.getElem?_eq_getElem _
        have g1 : getB A i j = false := by
          cases hg : getB A i j with
          | false => rfl
          | true => have := ((static_at hC.stat ho).2.1 j hjn hg).1; omega
        have g2 : getB A j i = false := by
          cases hg : getB A j i with
          | false => rfl
          | true => rw [anc_closed hC.stat hI.clos j i hjn hi hpj hg] at hpi; cases hpi
        obtain ⟨t2, q2, e1, e2⟩ := hC.load_pair hri hb hbl rfl g1 g2
        cases e1
        rw [if_neg (by omega)] at e2
        obtain ⟨r2, d1, _, _, d4, d5⟩ := hC.rec_at (i := j) hjn
        rw [hb] at d1; cases d1
        rw [d5] at e2
        refine ⟨_, hI.r.view (X := { (S (j + 1)).hp with lock := (S (j + 1)).hp.size }) ?_ rfl, ?_⟩
        · intro x c hx
          rw [hC.get_Mh hmle]
          have hx' : (S (j + 1)).hp.get x = some c := hx
          have hlt : x < sz S (j + 1) := Heap.get_lt hx'
          obtain ⟨u1, u2⟩ := Heap.get_root hx'
          refine ⟨Nat.lt_of_lt_of_le hlt (hmono (j + 1) m (by omega) hmle), ?_, ?_, ?_⟩
          · rw [hC.root_upto hfr m (j + 1) (by omega) hmle (fun k k1 k2 => h4 k (by omega) k2) x hlt]; exact u1
          · rw [← (hC.fr_upto hfr (j + 1) 0 (by omega) (by omega)).hid]; exact u2
          · rintro k hk hpk ⟨hx1, hx2⟩
            have hkj : k ≤ j := by
              rcases Nat.lt_or_ge j k with h5 | h5
              · have := hmono (j + 1) k (by omega) (by omega); omega
              · exact h5
            by_cases ekj : k = j
            · rw [ekj, hpj] at hpk; cases hpk
            · -- it makes memory: it waits for the loud one, or that for it
              obtain ⟨rk, r1, r2, _, r4, r5⟩ := hC.rec_at (i := k) (by omega)
              have hkk : rk.kind = .quiet ∨ rk.kind = .loud := by
                have hszk : (S k).hp.size < (S (k + 1)).hp.size := by
                  have : sz S k < sz S (k + 1) := by omega
                  exact this
                rcases recOf_cases r2 with ⟨_, rfl⟩ | ⟨_, ⟨v, _, rfl⟩ | ⟨t, a, p, v, _, _, _, rfl⟩ | ⟨v, H', _, rfl⟩ | ⟨v, H', _, rfl⟩⟩
                · simp only at r4 r5; rw [← r5] at hszk; exact absurd hszk (Nat.lt_irrefl _)
                · simp only at r4 r5; rw [← r5] at hszk; exact absurd hszk (Nat.lt_irrefl _)
                · simp only at r4 r5; rw [← r5] at hszk; exact absurd hszk (Nat.lt_irrefl _)
                · exact .inl rfl
                · exact .inr rfl
              rcases hC.comparable r1 hb hbl hkk ekj with g | g
              · have hko : ops[k]? = some (ops[k]'(by omega)) := Array.getElem?_eq_getElem _
                have := ((static_at hC.stat hko).2.1 j hjn g).1
                omega
              · rw [anc_closed hC.stat hI.clos j k hjn (by omega) hpj g] at hpk; cases hpk
        · exact (loadE_congr (fun x => rfl) t q).trans e2
      · refine hcase i (.inl rfl) him (fun k k1 k2 k3 => ?_) hld (fun k hk hg => hancr k (by omega) hg)
        rcases Nat.lt_or_eq_of_le k1 with h5 | h5
        · exact hex ⟨k, h5, k2, k3⟩
        · subst h5; exact hni k3
  obtain ⟨X, hX, hXl⟩ := key
  obtain ⟨v', h1, h2⟩ := loadE_sound hX hVq hXl
  unfold Oper.wp
  have hrun : (execOp a.eval o).run P w = .ok (.value v') w := by simp [execOp, hop, h1]
  rw [hrun]
  exact ⟨f, m, hI.still hC hfr ho hpi hr hri (by simp) rfl h2 (.refl f _ w) hI.r⟩

theorem between (g : Nat → Nat) (x : Nat) : ∀ (b a : Nat), a ≤ b → g a ≤ x → x < g b → ∃ k, a ≤ k ∧ k < b ∧ g k ≤ x ∧ x < g (k + 1) := by
  intro b
  induction b with
  | zero => intro a h1 h2 h3; have : a = 0 := by omega
            subst this; omega
  | succ b ih =>
    intro a h1 h2 h3
    by_cases e : a = b + 1
    · subst e; omega
    · by_cases hx : x < g b
      · obtain ⟨k, k1, k2, k3⟩ := ih a (by omega) h2 hx
        exact ⟨k, k1, by omega, k3⟩
      · exact ⟨b, by omega, by omega, by omega, h3⟩

theorem nextLoud (rs : List Rec) (n : Nat) : ∀ (d i : Nat), i + d = n → ∃ m, i ≤ m ∧ m ≤ n ∧ (m < n → Loud rs m) ∧ ∀ j, i ≤ j → j < m → ¬ Loud rs j := by
  intro d
  induction d with
  | zero => intro i h; exact ⟨n, by omega, Nat.le_refl _, fun h => by omega, fun j h1 h2 => by omega⟩
  | succ d ih =>
    intro i h
    by_cases hl : Loud rs i
    · exact ⟨i, Nat.le_refl _, by omega, fun _ => hl, fun j h1 h2 => by omega⟩
    · obtain ⟨m, m1, m2, m3, m4⟩ := ih (i + 1) (by omega)
      refine ⟨m, by omega, m2, m3, fun j h1 h2 => ?_⟩
      by_cases e : j = i
      · subst e; exact hl
      · exact m4 j (by omega) h2

theorem Can.makes (hC : Can P L cl ops A s0 s' rs S) {k : Nat} (hk : k < ops.size) (hlt : sz S k < sz S (k + 1)) : ∃ r, rs[k]? = some r ∧ (r.kind = .quiet ∨ r.kind = .loud) := by
  obtain ⟨rk, r1, r2, _, r4, r5⟩ := hC.rec_at hk
  refine ⟨rk, r1, ?_⟩
  have hszk : (S k).hp.size < (S (k + 1)).hp.size := hlt
  rcases recOf_cases r2 with ⟨_, rfl⟩ | ⟨_, ⟨v, _, rfl⟩ | ⟨t, a, p, v, _, _, _, rfl⟩ | ⟨v, H', _, rfl⟩ | ⟨v, H', _, rfl⟩⟩
  · simp only at r4 r5; rw [← r5] at hszk; exact absurd hszk (Nat.lt_irrefl _)
  · simp only at r4 r5; rw [← r5] at hszk; exact absurd hszk (Nat.lt_irrefl _)
  · simp only at r4 r5; rw [← r5] at hszk; exact absurd hszk (Nat.lt_irrefl _)
  · exact .inl rfl
  · exact .inr rfl

/-- A loud step. -/
theorem Inv.loud (hlk0 : (S 0).hp.lock ≤ sz S 0) (hcl : ClOk P cl) (hC : Can P L cl ops A s0 s' rs S) (hfr : ClFr cl) (hI : Inv ops s0 rs S f0 w0 a0 p f m a w) (ho : ops[i]? = some o) (hpi : p i = false)
    (hr : ∀ e ∈ o.after, Region.binds .any e = true → p e.on = true) {v : Value} {H' : Heap} (hri : rs[i]? = some ⟨.loud, v, (S i).hp, H', none⟩)
    (hop : opE P cl (Ev.opnd (S i).fr) o (S i).hp = some (v, H')) {Q : Exit → Act → World → Prop} :
    o.wp P a w (fun a' w' => ∃ f' m', Inv ops s0 rs S f0 w0 a0 (upd p i) f' m' a' w') Q := by
  have hi : i < ops.size := (Array.getElem?_eq_some_iff.1 ho).1
  obtain ⟨r2, e1, _, _, e4, e5⟩ := hC.rec_at hi
  rw [hri] at e1; cases e1
  have hH1 : (S (i + 1)).hp = H' := e5.symm
  have hmono : ∀ a b, a ≤ b → b ≤ ops.size → sz S a ≤ sz S b := fun a b h1 h2 => hC.sz_mono hfr h1 h2
  have hli : Loud rs i := ⟨_, hri, rfl⟩
  have hmle := hI.mle
  -- those that make memory, and this one, wait for each other
  have hcmp : ∀ k, k < ops.size → k ≠ i → (∃ r, rs[k]? = some r ∧ (r.kind = .quiet ∨ r.kind = .loud)) → (k < i → p k = true) ∧ (i < k → p k = false) := by
    rintro k hk hne ⟨r, hrk, hkk⟩
    have hko : ops[k]? = some (ops[k]'hk) := Array.getElem?_eq_getElem _
    rcases hC.comparable hrk hri rfl hkk hne with g | g
    · have h1 := ((static_at hC.stat hko).2.1 i hi g).1
      refine ⟨fun h => by omega, fun _ => ?_⟩
      cases hp : p k with
      | false => rfl
      | true => rw [anc_closed hC.stat hI.clos k i hk hi hp g] at hpi; cases hpi
    · have h1 := ((static_at hC.stat ho).2.1 k hk g).1
      exact ⟨fun _ => anc_ready hC.stat hI.clos ho hr hk g, fun h => by omega⟩
  have hloudk : ∀ k, Loud rs k → ∃ r, rs[k]? = some r ∧ (r.kind = .quiet ∨ r.kind = .loud) := fun k ⟨r, h1, h2⟩ => ⟨r, h1, .inr h2⟩
  have hmi : m = i := by
    rcases Nat.lt_trichotomy m i with h1 | h1 | h1
    · obtain ⟨h2, h3⟩ := hI.mloud (by omega)
      rw [(hcmp m (by omega) (by omega) (hloudk m h2)).1 h1] at h3; cases h3
    · exact h1
    · rw [hI.mfirst i h1 hli] at hpi; cases hpi
  subst hmi
  have hhid : (S m).hp.hid = (S 0).hp.hid := (hC.fr_upto hfr m 0 (by omega) hmle).hid
  have hlock : (S m).hp.lock = (S 0).hp.lock := (hC.fr_upto hfr m 0 (by omega) hmle).lock
  have hsub : ∀ x b, (S m).hp.get x = some b → (Mh S rs p m).get x = some b := by
    intro x b hx
    rw [hC.get_Mh hmle]
    obtain ⟨u1, u2⟩ := Heap.get_root hx
    refine ⟨Heap.get_lt hx, u1, by rw [← hhid]; exact u2, fun k hk hpk hx => ?_⟩
    rw [(hcmp k (by omega) (by omega) (hC.makes (by omega) (by omega))).1 hk] at hpk
    cases hpk
  have hR0 : R f (S m).hp w := hI.r.sub hsub rfl (by rw [hlock]; exact Nat.le_trans hlk0 (hmono 0 m (by omega) hmle))
  have hfree : ∀ j, (S m).hp.size ≤ j → j < H'.size → f j = none := fun j h1 h2 => hI.free m hi hpi j h1 (by show j < (S (m + 1)).hp.size; rw [hH1]; exact h2)
  refine op_wp hcl hR0 (fun x hx u hu => hI.opnd hC ho hpi hr x hx u hu) hfree hop ?_
  intro f' w' v' hV hS hR'
  obtain ⟨m', n1, n2, n3, n4⟩ := nextLoud rs ops.size (ops.size - (m + 1)) (m + 1) (by omega)
  have hhid' : H'.hid = (S 0).hp.hid := by rw [← hhid]; exact hS.hid
  have hlock' : H'.lock = (S 0).hp.lock := by rw [← hlock]; exact hS.lock
  have hsub' : ∀ x b, (Mh S rs (upd p m) m').get x = some b → H'.get x = some b := by
    intro x b hx
    rw [hC.get_Mh n2] at hx
    obtain ⟨h1, h2, h3, h4⟩ := hx
    by_cases hlt : x < sz S (m + 1)
    · have := hC.root_upto hfr m' (m + 1) n1 n2 n4 x hlt
      rw [hH1] at this
      have hlt' : x < H'.size := by have h5 : x < (S (m + 1)).hp.size := hlt
                                    rw [hH1] at h5; exact h5
      unfold Heap.get
      rw [if_pos hlt', hhid', h3, if_neg (by simp), ← this]
      exact h2
    · exfalso
      obtain ⟨k, k1, k2, k3, k4⟩ := between (sz S) x m' (m + 1) n1 (by omega) h1
      have hpk := (hcmp k (by omega) (by omega) (hC.makes (by omega) (by omega))).2 (by omega)
      have hne : k ≠ m := by omega
      exact h4 k k2 (by simp [upd, hne, hpk]) ⟨k3, k4⟩
  have hlockM : (Mh S rs (upd p m) m').lock = (S 0).hp.lock := Mh_lock hC hfr n2
  refine ⟨f', m', hI.after hC ho hpi hr hri hV hS.le ?_ hS.wsize hS.os hS.tape hS.output ?_ ?_ n2 ?_ ?_ (hR'.sub hsub' (by rw [hlockM, hlock']) (by rw [hlockM]; exact Nat.le_trans hlk0 (hmono 0 m' (by omega) n2))) hmono⟩
  · intro x hx
    refine hS.out x ?_
    rintro ⟨h1, h2⟩
    exact hx ⟨h1, by show x < (S (m + 1)).hp.size; rw [hH1]; exact h2⟩
  · intro cb h1 h2
    exact hS.keep cb (Nat.lt_of_lt_of_le h1 hI.wsize) (fun h3 => h2 (hI.own cb h1 (owned_sub hsub rfl h3)))
  · intro cb h1 h2
    exact hI.own cb h1 (owned_sub hsub rfl (hS.own cb (Nat.lt_of_lt_of_le h1 hI.wsize) (owned_sub hsub' (by rw [hlockM, hlock']) h2)))
  · intro hm
    have hl := n3 hm
    have hne : m' ≠ m := by omega
    exact ⟨hl, by simp only [upd, hne, if_false]; exact (hcmp m' hm hne (hloudk m' hl)).2 (by omega)⟩
  · intro j hj hlj
    unfold upd
    split
    · rfl
    · rename_i hne
      rcases Nat.lt_or_ge j m with h1 | h1
      · exact (hcmp j (by omega) hne (hloudk j hlj)).1 h1
      · exact absurd hlj (n4 j (by omega) hj)

/-- Every step. -/
theorem Inv.step (hlk0 : (S 0).hp.lock ≤ sz S 0) (hcl : ClOk P cl) (hC : Can P L cl ops A s0 s' rs S) (hfr : ClFr cl) (hI : Inv ops s0 rs S f0 w0 a0 p f m a w) (ho : ops[i]? = some o) (hpi : p i = false)
    (hr : ∀ e ∈ o.after, Region.binds .any e = true → p e.on = true) {Q : Exit → Act → World → Prop} :
    wpOp P ops Q i (fun a' w' => ∃ f' m', Inv ops s0 rs S f0 w0 a0 (upd p i) f' m' a' w') a w := by
  have hi : i < ops.size := (Array.getElem?_eq_some_iff.1 ho).1
  obtain ⟨r, hri, hrec, _, e4, e5⟩ := hC.rec_at hi
  have hoi : ops[i] = o := (Array.getElem?_eq_some_iff.1 ho).2
  rw [hoi] at hrec
  unfold wpOp
  simp only [ho]
  rw [hI.wanted hC ho hpi hr]
  rcases recOf_cases hrec with ⟨hw, rfl⟩ | ⟨hw, ⟨v, hop, rfl⟩ | ⟨t, ad, q, v, hop, had, hld, rfl⟩ | ⟨v, H', hop, rfl⟩ | ⟨v, H', hop, rfl⟩⟩
  · rw [hw]
    simp only [Bool.false_eq_true, if_false]
    exact ⟨f, m, hI.still hC hfr ho hpi hr hri (by simp) rfl (V.undef f) (.refl f _ w) hI.r⟩
  · rw [hw]
    simp only [if_true]
    left
    refine op_wp hcl hI.r (fun x hx u hu => hI.opnd hC ho hpi hr x hx u hu) (fun j h1 h2 => by omega) (hop _) ?_
    intro f' w' v' hV hS hR'
    exact ⟨f', m, hI.still hC hfr ho hpi hr hri (by simp) rfl hV hS hR'⟩
  · rw [hw]
    simp only [if_true]
    left
    exact hI.load hC hfr ho hpi hr hri hop had hld
  · rw [hw]
    simp only [if_true]
    left
    exact hI.quiet hlk0 hcl hC hfr ho hpi hr hri hop
  · rw [hw]
    simp only [if_true]
    left
    exact hI.loud hlk0 hcl hC hfr ho hpi hr hri hop
end
end Go.Proofs.Ytoiijpphfckdjaa.Ev
