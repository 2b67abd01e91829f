/-
  The evaluator's calls are the machine's calls.
-/
import Derived.Test.YtoiijpphfckdjaaE16
import Derived.LoopN
namespace Go.Proofs.Ytoiijpphfckdjaa.Ev
open Go
set_option linter.unusedSimpArgs false

section
variable {P : Program} {L : List FuncId} {cl : FuncId → List Value → Heap → Option (Value × Heap)}
variable {ops : Array Oper} {A : Array Nat} {s0 s' : St} {rs : List Rec} {S : Nat → St}
variable {f0 f : Fm} {w0 w : World} {a0 a : Act} {p : Nat → Bool} {m i : Nat} {o : Oper}

/-- All operations have come up. -/
theorem Inv.done (hC : Can P L cl ops A s0 s' rs S) (hfr : ClFr cl) (hlk0 : (S 0).hp.lock ≤ sz S 0) (hI : Inv ops s0 rs S f0 w0 a0 p f m a w) (hall : ∀ k, k < ops.size → p k = true) :
    Stp f0 s0.hp w0 f s'.hp w ∧ R f s'.hp w ∧ FR f s'.fr a ∧ a.defers = a0.defers := by
  have hm : m = ops.size := by
    rcases Nat.lt_or_eq_of_le hI.mle with h | h
    · obtain ⟨_, h2⟩ := hI.mloud h
      rw [hall m h] at h2; cases h2
    · exact h
  subst hm
  have hFr := hC.fr_upto hfr ops.size 0 (by omega) (Nat.le_refl _)
  have e0 : (S 0).hp = s0.hp := by rw [hC.ini]
  have en : (S ops.size).hp = s'.hp := by rw [hC.fin]
  have hsub : ∀ x b, (S ops.size).hp.get x = some b → (Mh S rs p ops.size).get x = some b := by
    intro x b hx
    rw [hC.get_Mh (Nat.le_refl _)]
    obtain ⟨u1, u2⟩ := Heap.get_root hx
    exact ⟨Heap.get_lt hx, u1, by rw [← hFr.hid]; exact u2, fun k hk hpk => by rw [hall k hk] at hpk; cases hpk⟩
  have hR : R f (S ops.size).hp w := hI.r.sub hsub rfl (by rw [hFr.lock]; exact Nat.le_trans hlk0 hFr.size)
  refine ⟨⟨hI.le, ?_, ?_, ?_, ?_, ?_, hI.wsize, hI.os, hI.tape, hI.output, ?_, ?_⟩, ?_, ⟨?_, ?_⟩, hI.defers⟩
  · intro x hx
    refine hI.out x ?_
    unfold sz
    rw [e0, en]; exact hx
  · rw [← e0, ← en]; exact hFr.size
  · rw [← e0, ← en]; exact hFr.lock
  · rw [← e0, ← en]; exact hFr.hid
  · rw [← e0, ← en]; exact hFr.root
  · rw [← e0]; exact hI.keep
  · rw [← e0, ← en]
    exact fun cb h1 h2 => hI.own cb h1 (owned_sub hsub rfl h2)
  · rw [← en]; exact hR
  · have := (hC.frame ops.size (Nat.le_refl _)).1
    rw [hC.fin] at this
    rw [this]; exact hI.fsize
  · intro t
    obtain ⟨c1, c2⟩ := (hC.frame ops.size (Nat.le_refl _)).2 t
    rw [hC.fin] at c1 c2
    by_cases hex : ∃ (k : Nat) (q : Oper), ops[k]? = some q ∧ q.dst = some t
    · obtain ⟨k, q, hq, hd⟩ := hex
      have hk : k < ops.size := (Array.getElem?_eq_some_iff.1 hq).1
      obtain ⟨r, hr, _⟩ := hC.rec_at hk
      rw [c1 k q r hk hq hr hd]
      exact hI.fr1 t k q r hq hr hd (hall k hk)
    · rw [c2 (fun k q _ hq hd => hex ⟨k, q, hq, hd⟩)]
      exact hI.fr2 t (fun k q hq hd => absurd ⟨k, q, hq, hd⟩ hex)

def pending (listed : Array Bool) (n : Nat) : Nat := (List.range n).countP fun j => !listed.getD j false

theorem countP_upd (p : Nat → Bool) (i : Nat) (hp : p i = false) : ∀ l : List Nat, l.countP (fun j => !upd p i j) ≤ l.countP (fun j => !p j) ∧
    (i ∈ l → l.countP (fun j => !upd p i j) < l.countP (fun j => !p j)) := by
  intro l
  induction l with
  | nil => exact ⟨Nat.le_refl _, fun h => by simp at h⟩
  | cons x l ih =>
    obtain ⟨h1, h2⟩ := ih
    simp only [List.countP_cons]
    by_cases e : x = i
    · subst e
      have : upd p x x = true := by simp [upd]
      rw [this, hp]
      simp
      omega
    · have : upd p i x = p x := by simp [upd, e]
      rw [this]
      refine ⟨by omega, fun h => ?_⟩
      have := h2 ((List.mem_cons.1 h).resolve_left (fun h3 => e h3.symm))
      omega

theorem listed_upd {listed : Array Bool} (hi : i < listed.size) : (fun j => (listed.setIfInBounds i true).getD j false) = upd (fun j => listed.getD j false) i := by
  funext j
  unfold upd
  simp only [Array.getD_eq_getD_getElem?, Array.getElem?_setIfInBounds]
  by_cases e : j = i
  · subst e; simp [hi]
  · rw [if_neg (fun h => e h.symm), if_neg e]

theorem getD_true_false {listed : Array Bool} {j : Nat} (hj : j < listed.size) : listed.getD j true = listed.getD j false := by
  simp [Array.getD_eq_getD_getElem?, hj]

theorem any_order (hlk0 : (S 0).hp.lock ≤ sz S 0) (hcl : ClOk P cl) (hC : Can P L cl ops A s0 s' rs S) (hfr : ClFr cl) {Q : Exit → Act → World → Prop}
    (hQ : ∀ f a w, Stp f0 s0.hp w0 f s'.hp w → R f s'.hp w → FR f s'.fr a → a.defers = a0.defers → Q .normal a w) :
    ∀ (fuel : Nat) (listed : Array Bool) (f : Fm) (m : Nat) (a : Act) (w : World), listed.size = ops.size → pending listed ops.size ≤ fuel →
      Inv ops s0 rs S f0 w0 a0 (fun j => listed.getD j false) f m a w → wpAny P .any ops Q fuel listed a w := by
  intro fuel
  induction fuel with
  | zero =>
    intro listed f m a w hsz hc hI
    have hall : ∀ k, k < ops.size → listed.getD k false = true := by
      intro k hk
      have h0 : pending listed ops.size = 0 := by omega
      have := List.countP_eq_zero.1 h0 k (by simpa using hk)
      simpa using this
    obtain ⟨h1, h2, h3, h4⟩ := hI.done hC hfr hlk0 hall
    refine ⟨?_, hQ f a w h1 h2 h3 h4⟩
    rw [List.eq_nil_iff_forall_not_mem]
    intro j hj
    obtain ⟨g1, o, ho, _⟩ := mem_ready.1 hj
    have hjs : j < ops.size := (Array.getElem?_eq_some_iff.1 ho).1
    rw [getD_true_false (by omega), hall j hjs] at g1
    cases g1
  | succ fuel ih =>
    intro listed f m a w hsz hc hI
    refine ⟨fun hnil => ?_, fun i hi => ?_⟩
    · have hall : ∀ k, k < ops.size → listed.getD k false = true := by
        intro k
        induction k using Nat.strongRecOn with
        | _ k ihk =>
          intro hk
          apply Classical.byContradiction
          intro hn
          have hn : listed.getD k false = false := by simpa using hn
          have hko : ops[k]? = some (ops[k]'hk) := Array.getElem?_eq_getElem _
          have : k ∈ Region.ready .any ops listed := by
            refine mem_ready.2 ⟨by rw [getD_true_false (by omega)]; exact hn, _, hko, fun e he hb => ?_⟩
            have hlt := (static_at hC.stat hko).1 e he hb
            exact ihk e.on hlt (by omega)
          rw [hnil] at this
          cases this
      obtain ⟨h1, h2, h3, h4⟩ := hI.done hC hfr hlk0 hall
      exact hQ f a w h1 h2 h3 h4
    · obtain ⟨g1, o, ho, hr⟩ := mem_ready.1 hi
      have hio : i < ops.size := (Array.getElem?_eq_some_iff.1 ho).1
      have hpi : listed.getD i false = false := by rw [← getD_true_false (by omega)]; exact g1
      have hstep := hI.step hlk0 hcl hC hfr ho hpi (fun e he hb => hr e he hb) (Q := Q)
      refine wpOp_mono ?_ hstep
      rintro a' w' ⟨f', m', hI'⟩
      have hlu := listed_upd (i := i) (listed := listed) (by omega)
      refine ih _ f' m' a' w' (by simpa using hsz) ?_ (by rw [hlu]; exact hI')
      have := (countP_upd (fun j => listed.getD j false) i hpi (List.range ops.size)).2 (by simpa using hio)
      unfold pending at hc ⊢
      have e : (List.range ops.size).countP (fun j => !(listed.setIfInBounds i true).getD j false) = (List.range ops.size).countP (fun j => !upd (fun j => listed.getD j false) i j) := by
        rw [← hlu]
      rw [e]
      omega

/-- A region that draws its order. -/
theorem drawE_sound (hmix : P.follows .mixedOrders = true) (hcl : ClOk P cl) (hfr : ClFr cl) {ops : Array Oper} {fr : List Value} {H : Heap} {s' : St} {id : Nat}
    (hR : R f H w) (hF : FR f fr a) (hfree : ∀ j, H.size ≤ j → j < s'.hp.size → f j = none) (h : drawE P L cl ops ⟨fr, H⟩ = some s') {Q : Exit → Act → World → Prop}
    (hQ : ∀ f' w' a', Stp f H w f' s'.hp w' → R f' s'.hp w' → FR f' s'.fr a' → a'.defers = a.defers → Q .normal a' w') : (Code.region id ops true).wp P Q a w := by
  unfold drawE at h
  split at h
  · cases h
  · rename_i hst
    split at h
    · rename_i s2 rs hrun
      split at h
      · rename_i hpairs
        cases h
        obtain ⟨hlen, _, S, hS0, hSn, hstep⟩ := drawRun_facts ops.toList 0 ⟨fr, H⟩ [] s' rs rfl hrun
        have hC : Can P L cl ops (Region.before ops) ⟨fr, H⟩ s' rs S := by
          refine ⟨by simpa using hlen, hS0, by simpa using hSn, ?_, hst, hpairs⟩
          intro i o ho
          have := hstep i o (by simpa using ho)
          simpa only [Nat.zero_add] using this
        have e0 : (S 0).hp = H := by rw [hS0]
        have en : (S ops.size).hp = s'.hp := by rw [hC.fin]
        have hlk0 : (S 0).hp.lock ≤ sz S 0 := by unfold sz; rw [e0]; exact hR.lk
        refine wp_region_any hmix ?_
        obtain ⟨m, m1, m2, m3, m4⟩ := nextLoud rs ops.size ops.size 0 (by omega)
        have hp0 : ∀ j, (Array.replicate ops.size false).getD j false = false := by
          intro j
          simp only [Array.getD_eq_getD_getElem?]
          by_cases hj : j < ops.size
          · simp [hj]
          · simp [hj]
        have hmono : ∀ a b, a ≤ b → b ≤ ops.size → sz S a ≤ sz S b := fun a b h1 h2 => hC.sz_mono hfr h1 h2
        have hFr := hC.fr_upto hfr m 0 (by omega) m2
        have hsub : ∀ x b, (Mh S rs (fun j => (Array.replicate ops.size false).getD j false) m).get x = some b → (S 0).hp.get x = some b := by
          intro x b hx
          rw [hC.get_Mh m2] at hx
          obtain ⟨h1, h2, h3, h4⟩ := hx
          by_cases hlt : x < sz S 0
          · have := hC.root_upto hfr m 0 (by omega) m2 (fun k _ hk => m4 k (by omega) hk) x hlt
            unfold Heap.get
            rw [if_pos (show x < (S 0).hp.size from hlt), h3, if_neg (by simp), ← this]
            exact h2
          · exfalso
            obtain ⟨k, k1, k2, k3, k4⟩ := between (sz S) x m 0 (by omega) (by omega) h1
            exact h4 k k2 (hp0 k) ⟨k3, k4⟩
        have hlockM : (Mh S rs (fun j => (Array.replicate ops.size false).getD j false) m).lock = (S 0).hp.lock := Mh_lock hC hfr m2
        refine any_order (f0 := f) (w0 := w) (a0 := a) hlk0 hcl hC hfr (fun f' a' w' h1 h2 h3 h4 => hQ f' w' a' h1 h2 h3 h4) ops.size _ f m a _ (by simp) ?_ ?_
        · unfold pending
          exact Nat.le_trans List.countP_le_length (by simp)
        · have hRd : R f H { w with drawn := w.drawn + 1 } := hR.drew
          refine ⟨m2, fun hm => ⟨m3 hm, hp0 m⟩, fun j hj hl => absurd hl (m4 j (by omega) hj), fun i o _ hp => ?_, ?_, hF.size, rfl, ?_, ?_, .refl f, fun _ _ => rfl, ?_, Nat.le_refl _, rfl, rfl, rfl, fun _ _ _ => rfl, ?_⟩
          · have hp' : (Array.replicate ops.size false).getD i false = true := hp
            rw [hp0 i] at hp'; cases hp'
          · have hRd' : R f (S 0).hp { w with drawn := w.drawn + 1 } := by rw [e0]; exact hRd
            exact hRd'.sub hsub (by rw [hlockM]) (by rw [hlockM]; exact Nat.le_trans hlk0 (hmono 0 m (by omega) m2))
          · intro t k q r _ _ _ hp
            have hp' : (Array.replicate ops.size false).getD k false = true := hp
            rw [hp0 k] at hp'; cases hp'
          · intro t _
            exact hF.val t
          · intro k hk _ x hx1 hx2
            refine hfree x ?_ ?_
            · have := hmono 0 k (by omega) (by omega)
              unfold sz at this hx1
              rw [e0] at this
              omega
            · have := hmono (k + 1) ops.size (by omega) (by omega)
              unfold sz at this hx2
              rw [en] at this
              omega
          · intro cb _ h2
            exact owned_sub hsub (by rw [hlockM]) h2
      · cases h
    · cases h

/-! ### Code -/
def exOf : Ex → Exit
  | .normal => .normal
  | .exit id => .exit id
  | .ret => .ret

/-- What a piece of code comes to. -/
def Post (f : Fm) (H : Heap) (w : World) (a : Act) (ex : Ex) (s' : St) (e : Exit) (a' : Act) (w' : World) : Prop :=
  e = exOf ex ∧ ∃ f', Stp f H w f' s'.hp w' ∧ R f' s'.hp w' ∧ FR f' s'.fr a' ∧ a'.defers = a.defers

def CodeOk (P : Program) (c : Code) (s : St) (ex : Ex) (s' : St) : Prop :=
  ∀ (f : Fm) (a : Act) (w : World), R f s.hp w → FR f s.fr a → (∀ j, s.hp.size ≤ j → j < s'.hp.size → f j = none) → c.wp P (Post f s.hp w a ex s') a w

theorem drawE_size (hfr : ClFr cl) {s s' : St} (h : drawE P L cl ops s = some s') : s.hp.size ≤ s'.hp.size := by
  unfold drawE at h
  split at h
  · cases h
  · rename_i hst
    split at h
    · rename_i s2 rs hrun
      split at h
      · rename_i hpairs
        cases h
        obtain ⟨hlen, _, S, hS0, hSn, hstep⟩ := drawRun_facts ops.toList 0 s [] s' rs rfl hrun
        have hC : Can P L cl ops (Region.before ops) s s' rs S := by
          refine ⟨by simpa using hlen, hS0, by simpa using hSn, ?_, hst, hpairs⟩
          intro i o ho
          have := hstep i o (by simpa using ho)
          simpa only [Nat.zero_add] using this
        have := hC.sz_mono hfr (Nat.zero_le ops.size) (Nat.le_refl _)
        unfold sz at this
        rw [hC.ini, hC.fin] at this
        exact this
      · cases h
    · cases h

theorem opsE_size (hfr : ClFr cl) : ∀ (l : List Oper) (s s' : St), opsE P cl ops l s = some s' → s.hp.size ≤ s'.hp.size := by
  intro l
  induction l with
  | nil => intro s s' h; simp [opsE] at h; subst h; exact Nat.le_refl _
  | cons q l ihk =>
    intro s s' h
    simp only [opsE] at h
    split at h
    · split at h
      · rename_i hq
        exact Nat.le_trans (opE_fr hfr hq).size (ihk _ _ h)
      · cases h
    · have := ihk _ _ h; exact this

theorem loopN_size {body : St → Option (Ex × St)} (hb : ∀ s ex s', body s = some (ex, s') → s.hp.size ≤ s'.hp.size) : ∀ (n : Nat) (s : St) (ex : Ex) (s' : St), loopN n body s = some (ex, s') → s.hp.size ≤ s'.hp.size := by
  intro n
  induction n with
  | zero => intro s ex s' h; simp [loopN] at h
  | succ n ih =>
    intro s ex s' h
    simp only [loopN] at h
    split at h
    · rename_i s1 h1
      exact Nat.le_trans (hb _ _ _ h1) (ih _ _ _ h)
    · exact hb _ _ _ h

theorem codeE_size (hfr : ClFr cl) (N : Nat) : ∀ (c : Code) (s : St) (ex : Ex) (s' : St), codeE P L cl N c s = some (ex, s') → s.hp.size ≤ s'.hp.size := by
  intro c
  induction c with
  | skip => intro s ex s' h; simp [codeE] at h; rw [← h.2]; exact Nat.le_refl _
  | region id ops d =>
    intro s ex s' h
    simp only [codeE] at h
    split at h
    · simp only [Option.map_eq_some_iff] at h
      obtain ⟨s1, h1, h2⟩ := h; cases h2
      exact opsE_size hfr _ _ _ h1
    · simp only [Option.map_eq_some_iff] at h
      obtain ⟨s1, h1, h2⟩ := h; cases h2
      exact drawE_size hfr h1
  | seq x y ihx ihy =>
    intro s ex s' h
    simp only [codeE] at h
    split at h
    · rename_i s1 h1
      exact Nat.le_trans (ihx _ _ _ h1) (ihy _ _ _ h)
    · exact ihx _ _ _ h
  | cond c x y ihx ihy =>
    intro s ex s' h
    simp only [codeE] at h
    split at h
    · exact ihx _ _ _ h
    · exact ihy _ _ _ h
    · cases h
  | block id b ih =>
    intro s ex s' h
    simp only [codeE] at h
    split at h
    · rename_i k s1 h1
      have := ih _ _ _ h1
      split at h <;> (cases h; exact this)
    · exact ih _ _ _ h
  | loop b ih =>
    intro s ex s' h
    simp only [codeE] at h
    exact loopN_size ih _ _ _ _ h
  | rangeFunc f ps x y => intro s ex s' h; simp [codeE] at h
  | exit id => intro s ex s' h; simp [codeE] at h; rw [← h.2]; exact Nat.le_refl _
  | scope b => intro s ex s' h; simp [codeE] at h
  | label l => intro s ex s' h; simp [codeE] at h; rw [← h.2]; exact Nat.le_refl _
  | goto l => intro s ex s' h; simp [codeE] at h
  | ret => intro s ex s' h; simp [codeE] at h; rw [← h.2]; exact Nat.le_refl _
  | refuse y => intro s ex s' h; simp [codeE] at h

theorem rounds_mono {c : Code} {Q Q' : Exit → Act → World → Prop} (hq : ∀ e a w, Q e a w → Q' e a w) : ∀ (n : Nat) (a : Act) (w : World), Code.rounds P c Q n a w → Code.rounds P c Q' n a w := by
  intro n
  induction n with
  | zero => intro a w h; exact h
  | succ n ih =>
    intro a w h
    show c.wp P (Exit.then (Code.rounds P c Q' n) Q') a w
    refine wp_mono (show c.wp P (Exit.then (Code.rounds P c Q n) Q) a w from h) ?_
    intro e a1 w1 h1
    cases e with
    | normal => exact ih a1 w1 h1
    | exit id => exact hq _ _ _ h1
    | goto l => exact hq _ _ _ h1
    | ret => exact hq _ _ _ h1
    | panic ch => exact hq _ _ _ h1
    | outgrown => exact hq _ _ _ h1

theorem loopN_sound {body : Code} {bodyE : St → Option (Ex × St)} (hsz : ∀ s ex s', bodyE s = some (ex, s') → s.hp.size ≤ s'.hp.size)
    (hb : ∀ s ex s', bodyE s = some (ex, s') → CodeOk P body s ex s') : ∀ (n : Nat) (s : St) (ex : Ex) (s' : St), loopN n bodyE s = some (ex, s') →
    ∀ (f : Fm) (a : Act) (w : World), R f s.hp w → FR f s.fr a → (∀ j, s.hp.size ≤ j → j < s'.hp.size → f j = none) → Code.rounds P body (Post f s.hp w a ex s') n a w := by
  intro n
  induction n with
  | zero => intro s ex s' h; simp [loopN] at h
  | succ n ih =>
    intro s ex s' h f a w hR hF hfree
    simp only [loopN] at h
    show body.wp P (Exit.then (Code.rounds P body (Post f s.hp w a ex s') n) (Post f s.hp w a ex s')) a w
    split at h
    · rename_i s1 h1
      have hs1 := hsz _ _ _ h1
      have hs2 := loopN_size hsz n _ _ _ h
      refine wp_mono (hb _ _ _ h1 f a w hR hF (fun j h2 h3 => hfree j h2 (by omega))) ?_
      rintro e a1 w1 ⟨rfl, f1, hS, hR1, hF1, hd⟩
      show Code.rounds P body (Post f s.hp w a ex s') n a1 w1
      have := ih s1 ex s' h f1 a1 w1 hR1 hF1 (fun j h2 h3 => by rw [hS.out j (by omega)]; exact hfree j (by omega) h3)
      refine rounds_mono ?_ n a1 w1 this
      rintro e2 a2 w2 ⟨rfl, f2, hS2, hR2, hF2, hd2⟩
      exact ⟨rfl, f2, hS.trans hS2, hR2, hF2, by rw [hd2, hd]⟩
    · rename_i hnn
      refine wp_mono (hb _ _ _ h f a w hR hF hfree) ?_
      rintro e a1 w1 ⟨rfl, h2⟩
      cases ex with
      | normal => exact absurd h (hnn s')
      | exit id => exact ⟨rfl, h2⟩
      | ret => exact ⟨rfl, h2⟩

theorem codeE_sound (hmix : P.follows .mixedOrders = true) (hcl : ClOk P cl) (hfr : ClFr cl) (N : Nat) : ∀ (c : Code) (s : St) (ex : Ex) (s' : St), codeE P L cl N c s = some (ex, s') → CodeOk P c s ex s' := by
  intro c
  induction c with
  | skip =>
    intro s ex s' h f a w hR hF hfree
    simp [codeE] at h; obtain ⟨rfl, rfl⟩ := h
    exact wp_skip ⟨rfl, f, .refl f _ w, hR, hF, rfl⟩
  | region id ops d =>
    intro s ex s' h f a w hR hF hfree
    simp only [codeE] at h
    split at h
    · simp only [Option.map_eq_some_iff] at h
      obtain ⟨s1, h1, h2⟩ := h; cases h2
      refine wp_region ?_
      have := opsE_sound hcl hfr (Q := Post f s.hp w a .normal s') ops.toList 0 s.fr s.hp f w a s' (by simp) hR hF hfree h1 (fun f' w' a' g1 g2 g3 g4 => ⟨rfl, f', g1, g2, g3, g4⟩)
      simpa using this
    · simp only [Option.map_eq_some_iff] at h
      obtain ⟨s1, h1, h2⟩ := h; cases h2
      exact drawE_sound hmix hcl hfr hR hF hfree h1 (fun f' w' a' g1 g2 g3 g4 => ⟨rfl, f', g1, g2, g3, g4⟩)
  | seq x y ihx ihy =>
    intro s ex s' h f a w hR hF hfree
    simp only [codeE] at h
    refine wp_seq ?_
    split at h
    · rename_i s1 h1
      have hs1 := codeE_size hfr N _ _ _ _ h1
      have hs2 := codeE_size hfr N _ _ _ _ h
      refine wp_mono (ihx _ _ _ h1 f a w hR hF (fun j h2 h3 => hfree j h2 (by omega))) ?_
      rintro e a1 w1 ⟨rfl, f1, hS, hR1, hF1, hd⟩
      show y.wp P (Post f s.hp w a ex s') a1 w1
      refine wp_mono (ihy _ _ _ h f1 a1 w1 hR1 hF1 (fun j h2 h3 => by rw [hS.out j (by omega)]; exact hfree j (by omega) h3)) ?_
      rintro e2 a2 w2 ⟨rfl, f2, hS2, hR2, hF2, hd2⟩
      exact ⟨rfl, f2, hS.trans hS2, hR2, hF2, by rw [hd2, hd]⟩
    · rename_i hnn
      refine wp_mono (ihx _ _ _ h f a w hR hF hfree) ?_
      rintro e a1 w1 ⟨rfl, h2⟩
      cases ex with
      | normal => exact absurd h (hnn s')
      | exit id => exact ⟨rfl, h2⟩
      | ret => exact ⟨rfl, h2⟩
  | cond c x y ihx ihy =>
    intro s ex s' h f a w hR hF hfree
    simp only [codeE] at h
    split at h
    · rename_i hc
      have hv := hF.opnd hc
      cases hx : a.eval c <;> rw [hx] at hv <;> try (cases hv; done)
      cases hv
      exact wp_cond_true hx (ihx _ _ _ h f a w hR hF hfree)
    · rename_i hc
      have hv := hF.opnd hc
      cases hx : a.eval c <;> rw [hx] at hv <;> try (cases hv; done)
      cases hv
      exact wp_cond_false hx (ihy _ _ _ h f a w hR hF hfree)
    · cases h
  | block id b ih =>
    intro s ex s' h f a w hR hF hfree
    simp only [codeE] at h
    refine wp_block ?_
    split at h
    · rename_i k s1 h1
      split at h
      · rename_i hk
        cases h
        refine wp_mono (ih _ _ _ h1 f a w hR hF hfree) ?_
        rintro e a1 w1 ⟨rfl, h2⟩
        show (if k = id then Post f s.hp w a .normal s' .normal a1 w1 else Post f s.hp w a .normal s' (.exit k) a1 w1)
        rw [if_pos hk]
        exact ⟨rfl, h2⟩
      · rename_i hk
        cases h
        refine wp_mono (ih _ _ _ h1 f a w hR hF hfree) ?_
        rintro e a1 w1 ⟨rfl, h2⟩
        show (if k = id then Post f s.hp w a (.exit k) s' .normal a1 w1 else Post f s.hp w a (.exit k) s' (.exit k) a1 w1)
        rw [if_neg hk]
        exact ⟨rfl, h2⟩
    · rename_i hne
      refine wp_mono (ih _ _ _ h f a w hR hF hfree) ?_
      rintro e a1 w1 ⟨rfl, h2⟩
      cases ex with
      | normal => exact ⟨rfl, h2⟩
      | exit k => exact absurd h (hne k s')
      | ret => exact ⟨rfl, h2⟩
  | loop b ih =>
    intro s ex s' h f a w hR hF hfree
    simp only [codeE] at h
    exact wp_loop_rounds N (loopN_sound (fun s ex s' hh => codeE_size hfr N b s ex s' hh) ih N s ex s' h f a w hR hF hfree)
  | rangeFunc f ps x y => intro s ex s' h; simp [codeE] at h
  | exit id =>
    intro s ex s' h f a w hR hF hfree
    simp [codeE] at h; obtain ⟨rfl, rfl⟩ := h
    exact wp_exit ⟨rfl, f, .refl f _ w, hR, hF, rfl⟩
  | scope b => intro s ex s' h; simp [codeE] at h
  | label l =>
    intro s ex s' h f a w hR hF hfree
    simp [codeE] at h; obtain ⟨rfl, rfl⟩ := h
    exact wp_label ⟨rfl, f, .refl f _ w, hR, hF, rfl⟩
  | goto l => intro s ex s' h; simp [codeE] at h
  | ret =>
    intro s ex s' h f a w hR hF hfree
    simp [codeE] at h; obtain ⟨rfl, rfl⟩ := h
    exact wp_ret ⟨rfl, f, .refl f _ w, hR, hF, rfl⟩
  | refuse y => intro s ex s' h; simp [codeE] at h
end
end Go.Proofs.Ytoiijpphfckdjaa.Ev
