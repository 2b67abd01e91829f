/-
  The evaluator turned inside out: what is still to be done is handed along, so that a question about an unknown number parts the two roads for good.
-/
import Derived.Test.YtoiijpphfckdjaaE21
namespace Go.Proofs.Ytoiijpphfckdjaa.Ev
open Go

/-- What is known of functions, under a condition. -/
abbrev Tab := FuncId → List Value → Option (Bool × Value)
def ofTab (T : Tab) : Known := fun g args => match T g args with | some (true, v) => some v | _ => none

/-- Equality of plain values, as one bool. -/
def eqT (P : Program) : Nat → TypeId → Value → Value → Option Bool
  | 0, _, _, _ => none
  | d + 1, t, x, y =>
    match P.underlying t, x, y with
    | some .bool, .bool a, .bool b => some (a == b)
    | some (.int _), .int k a, .int k' b => if k = k' then some (a == b) else none
    | some (.struct fs), .agg xs, .agg ys =>
      if P.stoodInHeld t then none else
      fs.toList.foldr (fun f (r : Option Bool) =>
        if f.name ≠ "_" then
          match partE P f.type xs f.offset, partE P f.type ys f.offset with
          | some a, some b =>
            match eqT P d f.type a b, r with
            | some u, some w => some (u && w)
            | _, _ => none
          | _, _ => none
        else r) (some true)
    | some (.array len elem), .agg xs, .agg ys =>
      match P.info? elem with
      | some i =>
        (List.range len).foldr (fun j (r : Option Bool) =>
          match partE P elem xs (j * i.size), partE P elem ys (j * i.size) with
          | some a, some b =>
            match eqT P d elem a b, r with
            | some u, some w => some (u && w)
            | _, _ => none
          | _, _ => none) (some true)
      | none => none
    | _, _, _ => none

theorem eqT_E {P : Program} : ∀ {d : Nat} {t : TypeId} {x y : Value} {b : Bool}, eqT P d t x y = some b → eqE P d t x y = some b
  | 0, _, _, _, _, h => by cases h
  | d + 1, t, x, y, b, h => by
    unfold eqT at h
    unfold eqE
    split at h
    · rename_i hu; simp only [hu]; exact h
    · rename_i hu; simp only [hu]; exact h
    · rename_i fs xs ys hu
      simp only [hu]
      split at h
      · cases h
      · rename_i hs
        rw [if_neg hs]
        generalize fs.toList = l at h ⊢
        induction l generalizing b with
        | nil => exact h
        | cons f l ih =>
          simp only [List.foldr] at h ⊢
          split at h
          · rename_i hf
            rw [if_pos hf]
            split at h
            · rename_i a c h1 h2
              simp only [h1, h2]
              split at h
              · rename_i u w h3 h4
                cases h
                rw [eqT_E h3]
                cases u with
                | true => simpa using ih _ h4
                | false => rfl
              · cases h
            · cases h
          · rename_i hf
            rw [if_neg hf]
            exact ih _ h
    · rename_i len elem xs ys hu
      simp only [hu]
      split at h
      · rename_i i hi
        simp only [hi]
        generalize List.range len = l at h ⊢
        induction l generalizing b with
        | nil => exact h
        | cons j l ih =>
          simp only [List.foldr] at h ⊢
          split at h
          · rename_i a c h1 h2
            simp only [h1, h2]
            split at h
            · rename_i u w h3 h4
              cases h
              rw [eqT_E h3]
              cases u with
              | true => simpa using ih _ h4
              | false => rfl
            · cases h
          · cases h
      · cases h
    · cases h

section
variable {R : Type} (P : Program) (L : List FuncId) (T : Tab)

/-- A call, before it is known what the answer is handed to. -/
abbrev CallX (R : Type) := FuncId → List Value → Heap → (Value → Heap → Option R) → Option R

variable (cx : CallX R)

def aggEq (t : TypeId) (x y : Value) : Option Bool := if P.eqGuardType P.depth t then none else eqT P 10000 t x y

def opX (ρ : Operand → Option Value) (o : Oper) (H : Heap) (k : Value → Heap → Option R) : Option R :=
  match o.op with
  | .pick c a b =>
    match ρ c with
    | some (.bool t) =>
      match t with
      | true => (match ρ a with | some v => k v H | none => none)
      | false => (match ρ b with | some v => k v H | none => none)
    | _ => none
  | .binOp op t x y z =>
    match ρ x, ρ y with
    | some (.int k1 a), some (.int k2 b) =>
      match op with
      | .quo => if k1 = k2 then (match decide (b = 0) with | true => none | false => k (.int k1 (k1.wrap (a.tdiv b))) H) else none
      | .rem => if k1 = k2 then (match decide (b = 0) with | true => none | false => k (.int k1 (a.tmod b)) H) else none
      | .shl => (match decide (b < 0) with | true => none | false => k (.int k1 (k1.wrap (a * 2 ^ (min b.toNat k1.bits)))) H)
      | .shr => (match decide (b < 0) with | true => none | false => k (.int k1 (a.fdiv (2 ^ (min b.toNat k1.bits)))) H)
      | _ => (match binE P op t (.int k1 a) (.int k2 b) with | some v => k v H | none => none)
    | some (.agg xs), some (.agg ys) =>
      match op with
      | .eql => (match aggEq P t (.agg xs) (.agg ys) with | some c => k (.bool c) H | none => none)
      | .neq => (match aggEq P t (.agg xs) (.agg ys) with | some c => k (.bool (!c)) H | none => none)
      | _ => none
    | _, _ => (match opE P (fun _ _ _ => none) ρ ⟨o.dst, .binOp op t x y z, o.type, o.pos, o.after, o.guard⟩ H with | some (v, H') => k v H' | none => none)
  | .index t x i =>
    match ρ x, ρ i with
    | some (.string s), some (.int _ n) =>
      match P.underlying t with
      | some .string => (match decide (0 ≤ n ∧ n.toNat < s.data.size) with | true => k (.int .u8 ((s.data.getD n.toNat 0).toNat : Nat)) H | false => none)
      | _ => none
    | _, _ => (match opE P (fun _ _ _ => none) ρ o H with | some (v, H') => k v H' | none => none)
  | .call c =>
    match c.callee with
    | .value f =>
      match argsE ρ c.args.toList, ρ f with
      | some args, some (.func (.func g) x y) =>
        match T g (x.toList ++ args ++ y.toList) with
        | some (c, v) => (match c with | true => k v H | false => none)
        | none => cx g (x.toList ++ args ++ y.toList) H k
      | _, _ => none
    | _ => (match opE P (fun _ _ _ => none) ρ o H with | some (v, H') => k v H' | none => none)
  | _ => match opE P (fun _ _ _ => none) ρ o H with | some (v, H') => k v H' | none => none

/-- Is the operation wanted? -/
def askX (A : Array Oper) (fr : List Value) (o : Oper) (yes no : List Value → Option R) : Option R :=
  match o.guard with
  | none => yes fr
  | some (j, want) =>
    match (A[j]?).bind (·.dst) with
    | some d =>
      match fr[d]? with
      | some (.bool b) => (match b with
        | true => (match want with | true => yes (fr.set d (.bool true)) | false => no (fr.set d (.bool true)))
        | false => (match want with | true => no (fr.set d (.bool false)) | false => yes (fr.set d (.bool false))))
      | _ => no fr
    | none => no fr

def opsX (A : Array Oper) : List Oper → St → (St → Option R) → Option R
  | [], s, k => k s
  | o :: r, s, k =>
    askX A s.fr o (fun fr => opX P T cx (opnd fr) o s.hp fun v H => opsX A r ⟨putE fr o.dst v, H⟩ k)
      (fun fr => opsX A r ⟨putE fr o.dst undef, s.hp⟩ k)

/-- May these two be in any order, whatever the values? -/
def looseP (A : Array Nat) (i : Nat) (a : Rec) (j : Nat) (b : Rec) : Bool :=
  match b.kind with
  | .loud => (match a.kind with | .pure => true | .load => getB A i j || getB A j i | _ => i == j || getB A i j || getB A j i)
  | _ => true
def looseOk (A : Array Nat) (rs : List Rec) : Bool := rs.zipIdx.all fun (a, i) => rs.zipIdx.all fun (b, j) => looseP A i a j b

def drawX (ops : Array Oper) (A : Array Nat) : List Oper → Nat → St → List Rec → (St → Option R) → Option R
  | [], _, s, rs, k => (match looseOk A rs with | true => k s | false => none)
  | o :: l, i, s, rs, k =>
    askX ops s.fr o
      (fun fr => match opKind L o with
       | .pure => opX P T cx (opnd fr) o s.hp fun v _ => drawX ops A l (i + 1) ⟨putE fr o.dst v, s.hp⟩ (rs ++ [⟨.pure, v, s.hp, s.hp, none⟩]) k
       | .load =>
         (match o.op with
          | .load t a =>
            (match opnd fr a with
             | some p =>
               (match loadE P (veil s.hp (getB A i) rs) t p with
                | some v => drawX ops A l (i + 1) ⟨putE fr o.dst v, s.hp⟩ (rs ++ [⟨.load, v, s.hp, s.hp, some (t, p)⟩]) k
                | none => none)
             | none => none)
          | _ => none)
       | .quiet =>
         (match isAppend o with
          | true =>
            (match opE P (fun _ _ _ => none) (opnd fr) o (veil s.hp (getB A i) rs) with
             | some (v, H') => drawX ops A l (i + 1) ⟨putE fr o.dst v, unveil s.hp H'⟩ (rs ++ [⟨.quiet, v, s.hp, unveil s.hp H', none⟩]) k
             | none =>
               (match opE P (fun _ _ _ => none) (opnd fr) o s.hp with
                | some (v, H') => drawX ops A l (i + 1) ⟨putE fr o.dst v, H'⟩ (rs ++ [⟨.loud, v, s.hp, H', none⟩]) k
                | none => none))
          | false => opX P T cx (opnd fr) o (veil s.hp (getB A i) rs) fun v H' => drawX ops A l (i + 1) ⟨putE fr o.dst v, unveil s.hp H'⟩ (rs ++ [⟨.quiet, v, s.hp, unveil s.hp H', none⟩]) k)
       | .loud => opX P T cx (opnd fr) o s.hp fun v H' => drawX ops A l (i + 1) ⟨putE fr o.dst v, H'⟩ (rs ++ [⟨.loud, v, s.hp, H', none⟩]) k)
      (fun fr => drawX ops A l (i + 1) ⟨putE fr o.dst undef, s.hp⟩ (rs ++ [⟨.pure, undef, s.hp, s.hp, none⟩]) k)

variable (stop : List Nat → Bool)

def exec : Nat → List Item → St → (List Item → St → Option R) → Option R
  | 0, _, _, _ => none
  | n + 1, its, s, k =>
    match its with
    | [] => k [] s
    | .code p c :: r =>
      match c with
      | .skip => exec n r s k
      | .label _ => exec n r s k
      | .region _ ops d =>
        (match d with
         | false => opsX P T cx ops ops.toList s fun s' => exec n r s' k
         | true =>
           (match staticOk ops (Region.before ops) s.fr.length with
            | true => drawX P L T cx ops (Region.before ops) ops.toList 0 s [] fun s' => exec n r s' k
            | false => none))
      | .seq a b => exec n (.code (0 :: p) a :: .code (1 :: p) b :: r) s k
      | .cond x a b =>
        (match opnd s.fr x with
         | some (.bool t) => (match t with | true => exec n (.code (0 :: p) a :: r) s k | false => exec n (.code (1 :: p) b :: r) s k)
         | _ => none)
      | .block id b => exec n (.code (0 :: p) b :: .blk id :: r) s k
      | .loop b => exec n (.lp p b :: r) s k
      | .exit id => (match leave id r with | some r' => exec n r' s k | none => none)
      | .ret => k [] s
      | _ => none
    | .lp p b :: r => (match stop p with | true => k (.lp p b :: r) s | false => exec n (.code (0 :: p) b :: .lp p b :: r) s k)
    | .blk _ :: r => exec n r s k
    | .ops .. :: _ => none
end

/-- A function entered, its answer handed along. -/
def callX {R : Type} (P : Program) (L : List FuncId) (T : Tab) : Nat → CallX R
  | 0, _, _, _, _ => none
  | n + 1, g, args, H, k =>
    match P.funcs[g]? with
    | some fn =>
      match fn.body with
      | some c =>
        exec P L T (callX P L T n) (fun _ => false) 100000 [.code [] c] ⟨args ++ List.replicate (fn.ntmps - args.length) undef, H⟩ fun its s =>
          match its with
          | [] => (match resultE P s.hp s.fr fn.results.toList with | some vs => k (packE vs) s.hp | none => none)
          | _ => none
      | none => none
    | none => none

/-! ### Sound -/
section
variable {R : Type} {P : Program} {L : List FuncId} {T : Tab}

/-- A way to call that is right. -/
def RightX (P : Program) (L : List FuncId) (O : Known) (cx : CallX R) : Prop :=
  ∀ g args H k r, O g args = none → cx g args H k = some r → ∃ v H', (∃ N, callE P L O N g args H = some (v, H')) ∧ k v H' = some r

theorem generic {ρ : Operand → Option Value} {o : Oper} {H : Heap} {k : Value → Heap → Option R} {r : R} {O : Known}
    (h : (match opE P (fun _ _ _ => none) ρ o H with | some (v, H') => k v H' | none => none) = some r) :
    ∃ v H', (∃ N, opE P (callE P L O N) ρ o H = some (v, H')) ∧ k v H' = some r := by
  split at h
  · rename_i v H' ho
    exact ⟨v, H', ⟨0, opE_mono (fun _ _ _ _ h => by cases h) ho⟩, h⟩
  · cases h

theorem opX_sound {cx : CallX R} (hcx : RightX P L (ofTab T) cx) {ρ : Operand → Option Value} {o : Oper} {H : Heap} {k : Value → Heap → Option R} {r : R}
    (h : opX P T cx ρ o H k = some r) : ∃ v H', (∃ N, opE P (callE P L (ofTab T) N) ρ o H = some (v, H')) ∧ k v H' = some r := by
  unfold opX at h
  split at h
  · rename_i c a b hop
    split at h
    · rename_i t hc
      split at h
      · split at h
        · rename_i v hv
          exact ⟨v, H, ⟨0, by unfold opE; rw [hop]; simp only [hc, hv]; rfl⟩, h⟩
        · cases h
      · split at h
        · rename_i v hv
          exact ⟨v, H, ⟨0, by unfold opE; rw [hop]; simp only [hc, hv]; rfl⟩, h⟩
        · cases h
    · cases h
  · rename_i op t x y z hop
    have he : ∀ v, (match ρ x, ρ y with | some a, some b => (binE P op t a b).map (·, H) | _, _ => none) = some (v, H) → ∃ N, opE P (callE P L (ofTab T) N) ρ o H = some (v, H) :=
      fun v hv => ⟨0, by unfold opE; rw [hop]; exact hv⟩
    split at h
    · rename_i k1 a k2 b hx hy
      rw [hx, hy] at he
      split at h
      · split at h
        · rename_i hk
          split at h
          · cases h
          · rename_i hb
            have hb := of_decide_eq_false hb
            exact ⟨_, H, he _ (by simp [binE, hk, arithE, hb]), h⟩
        · cases h
      · split at h
        · rename_i hk
          split at h
          · cases h
          · rename_i hb
            have hb := of_decide_eq_false hb
            exact ⟨_, H, he _ (by simp [binE, hk, arithE, hb]), h⟩
        · cases h
      · split at h
        · cases h
        · rename_i hb
          have hb := of_decide_eq_false hb
          exact ⟨_, H, he _ (by simp [binE, shiftE, hb]), h⟩
      · split at h
        · cases h
        · rename_i hb
          have hb := of_decide_eq_false hb
          exact ⟨_, H, he _ (by simp [binE, shiftE, hb]), h⟩
      · split at h
        · rename_i v hv
          exact ⟨v, H, he _ (by simp only [hv]; rfl), h⟩
        · cases h
    · rename_i xs ys hx hy
      rw [hx, hy] at he
      have hq : ∀ c, aggEq P t (.agg xs) (.agg ys) = some c → equalE P t (.agg xs) (.agg ys) = some c := by
        intro c hc
        unfold aggEq at hc
        unfold equalE
        split at hc
        · cases hc
        · rename_i hg; simp only [hg]; exact eqT_E hc
      split at h
      · split at h
        · rename_i c hc
          exact ⟨_, H, he _ (by simp only [binE, hq c hc]; rfl), h⟩
        · cases h
      · split at h
        · rename_i c hc
          exact ⟨_, H, he _ (by simp only [binE, hq c hc]; rfl), h⟩
        · cases h
      · cases h
    · obtain ⟨v, H', ⟨N, ho⟩, hk⟩ := generic (L := L) (O := ofTab T) h
      refine ⟨v, H', ⟨N, ?_⟩, hk⟩
      unfold opE at ho ⊢
      rw [hop]
      exact ho
  · rename_i t x i hop
    split at h
    · rename_i s kk n hx hi
      split at h
      · rename_i hu
        split at h
        · rename_i hb
          have hb := of_decide_eq_true hb
          refine ⟨_, H, ⟨0, ?_⟩, h⟩
          unfold opE
          rw [hop]
          have hg : s.data[n.toNat]? = some (s.data.getD n.toNat 0) := by
            rw [Array.getD_eq_getD_getElem?, Array.getElem?_eq_getElem hb.2]; rfl
          simp only [hx, hi, indexE, hu, hb.1, if_true, hg]
          rfl
        · cases h
      · cases h
    · exact generic h
  · rename_i c hop
    split at h
    · rename_i f hf
      split at h
      · rename_i args g x y ha hg
        have he : ∀ v H', (∃ N, callE P L (ofTab T) N g (x.toList ++ args ++ y.toList) H = some (v, H')) → ∃ N, opE P (callE P L (ofTab T) N) ρ o H = some (v, H') :=
          fun v H' ⟨N, hv⟩ => ⟨N, by unfold opE; rw [hop]; simp only [ha, hf, hg]; exact hv⟩
        split at h
        · rename_i c v ht
          split at h
          · exact ⟨v, H, he _ _ ⟨1, callE_told (by simp only [ofTab, ht])⟩, h⟩
          · cases h
        · rename_i ht
          obtain ⟨v, H', hv, hk⟩ := hcx _ _ _ _ _ (by simp only [ofTab, ht]) h
          exact ⟨v, H', he _ _ hv, hk⟩
      · cases h
    · exact generic h
  · exact generic h

theorem set_same {fr : List Value} {d : Nat} {v : Value} (h : fr[d]? = some v) : fr.set d v = fr := by
  apply List.ext_getElem?
  intro j
  rw [List.getElem?_set]
  split
  · rename_i hij; subst hij
    split
    · exact h.symm
    · rename_i hlt; rw [List.getElem?_eq_none (by omega)] at h; cases h
  · rfl

theorem askX_sound {A : Array Oper} {fr : List Value} {o : Oper} {a b : List Value → Option R} {r : R} (h : askX A fr o a b = some r) :
    (wantedE A fr o = true ∧ a fr = some r) ∨ (wantedE A fr o = false ∧ b fr = some r) := by
  unfold askX at h
  unfold wantedE
  split at h
  · rename_i hg; simp only [hg]; exact .inl ⟨trivial, h⟩
  · rename_i j want hg
    simp only [hg]
    split at h
    · rename_i d hd
      rw [hd]
      dsimp only [Option.bind]
      split at h
      · rename_i t ht
        rw [ht]
        cases t <;> cases want <;> simp_all [set_same ht]
      · rename_i hn
        refine .inr ⟨?_, h⟩
        split
        · rename_i t ht; exact absurd ht (hn t)
        · rfl
    · rename_i hd
      rw [hd]
      exact .inr ⟨rfl, h⟩

theorem opsX_sound {cx : CallX R} (hcx : RightX P L (ofTab T) cx) {A : Array Oper} : ∀ {l : List Oper} {s : St} {k : St → Option R} {r : R},
    opsX P T cx A l s k = some r → ∃ s', k s' = some r ∧ ∀ its q, Mean P L (ofTab T) its s' q → Mean P L (ofTab T) (.ops A l :: its) s q
  | [], s, k, r, h => ⟨s, h, fun _ _ hm => .opsNil hm⟩
  | o :: l, s, k, r, h => by
    unfold opsX at h
    rcases askX_sound h with ⟨hw, h⟩ | ⟨hw, h⟩
    · obtain ⟨v, H', ho, hk⟩ := opX_sound hcx h
      obtain ⟨s', hk, hm⟩ := opsX_sound hcx hk
      exact ⟨s', hk, fun its q h => .op hw ho (hm its q h)⟩
    · obtain ⟨s', hk, hm⟩ := opsX_sound hcx h
      exact ⟨s', hk, fun its q h => .opSkip hw (hm its q h)⟩

theorem drawX_sound {cx : CallX R} (hcx : RightX P L (ofTab T) cx) {ops : Array Oper} {A : Array Nat} : ∀ {l : List Oper} {i : Nat} {s : St} {rs : List Rec} {k : St → Option R} {r : R},
    drawX P L T cx ops A l i s rs k = some r → ∃ s' rs', k s' = some r ∧ looseOk A rs' = true ∧ ∃ N, drawRun P L (callE P L (ofTab T) N) ops A l i s rs = some (s', rs')
  | [], i, s, rs, k, r, h => by
    unfold drawX at h
    split at h
    · rename_i hl; exact ⟨s, rs, h, hl, 0, rfl⟩
    · cases h
  | o :: l, i, s, rs, k, r, h => by
    unfold drawX at h
    have step : ∀ {x : Rec}, (∃ N, recOf P L (callE P L (ofTab T) N) ops A i o s rs = some x) →
        drawX P L T cx ops A l (i + 1) ⟨putE s.fr o.dst x.v, x.h1⟩ (rs ++ [x]) k = some r →
        ∃ s' rs', k s' = some r ∧ looseOk A rs' = true ∧ ∃ N, drawRun P L (callE P L (ofTab T) N) ops A (o :: l) i s rs = some (s', rs') := by
      rintro x ⟨N, hrec⟩ hd
      obtain ⟨s', rs', h1, h2, M, h3⟩ := drawX_sound hcx hd
      refine ⟨s', rs', h1, h2, max N M, ?_⟩
      rw [drawRun, recOf_mono (callE_mono (Nat.le_max_left N M)) hrec]
      exact drawRun_mono (callE_mono (Nat.le_max_right N M)) h3
    rcases askX_sound h with ⟨hw, h⟩ | ⟨hw, h⟩
    · split at h
      · rename_i hk
        obtain ⟨v, H', ⟨N, ho⟩, h⟩ := opX_sound hcx h
        exact step (x := ⟨.pure, v, s.hp, s.hp, none⟩) ⟨N, by unfold recOf; simp only [hw, hk, ho]⟩ h
      · rename_i hk
        split at h
        · rename_i t a hop
          split at h
          · rename_i p hp
            split at h
            · rename_i v hv
              exact step (x := ⟨.load, v, s.hp, s.hp, some (t, p)⟩) ⟨0, by unfold recOf; simp only [hw, hk, hop, hp, hv]⟩ h
            · cases h
          · cases h
        · cases h
      · rename_i hk
        split at h
        · rename_i ha
          split at h
          · rename_i v H' ho
            rw [opE_append (cl' := callE P L (ofTab T) 0) ha] at ho
            exact step (x := ⟨.quiet, v, s.hp, unveil s.hp H', none⟩) ⟨0, by unfold recOf; simp only [hw, hk, ho]⟩ h
          · rename_i hn
            rw [opE_append (cl' := callE P L (ofTab T) 0) ha] at hn
            split at h
            · rename_i v H' ho
              rw [opE_append (cl' := callE P L (ofTab T) 0) ha] at ho
              exact step (x := ⟨.loud, v, s.hp, H', none⟩) ⟨0, by unfold recOf; simp only [hw, hk, hn, ha, ho, if_true]⟩ h
            · cases h
        · obtain ⟨v, H', ⟨N, ho⟩, h⟩ := opX_sound hcx h
          exact step (x := ⟨.quiet, v, s.hp, unveil s.hp H', none⟩) ⟨N, by unfold recOf; simp only [hw, hk, ho]⟩ h
      · rename_i hk
        obtain ⟨v, H', ⟨N, ho⟩, h⟩ := opX_sound hcx h
        exact step (x := ⟨.loud, v, s.hp, H', none⟩) ⟨N, by unfold recOf; simp only [hw, hk, ho]⟩ h
    · exact step (x := ⟨.pure, undef, s.hp, s.hp, none⟩) ⟨0, by unfold recOf; simp only [hw]⟩ h

theorem pairsOk_loose {A : Array Nat} {rs : List Rec} (h : looseOk A rs = true) : pairsOk P A rs = true := by
  unfold looseOk at h
  unfold pairsOk
  rw [List.all_eq_true] at h ⊢
  rintro ⟨a, i⟩ ha
  have h := h _ ha
  rw [List.all_eq_true] at h ⊢
  rintro ⟨b, j⟩ hb
  have h := h _ hb
  dsimp only at h ⊢
  unfold looseP at h
  unfold pairOk
  cases hb : b.kind with
  | loud =>
    rw [hb] at h
    dsimp only at h ⊢
    cases ha : a.kind with
    | pure => rfl
    | load => rw [ha] at h; dsimp only at h ⊢; rw [h, Bool.true_or]
    | quiet => rw [ha] at h; exact h
    | loud => rw [ha] at h; exact h
  | _ => rfl

/-- The way to a part of the body. -/
def child : Nat → Code → Option Code
  | 0, .seq a _ => some a
  | 1, .seq _ b => some b
  | 0, .cond _ a _ => some a
  | 1, .cond _ _ b => some b
  | 0, .block _ b => some b
  | 0, .loop b => some b
  | _, _ => none
def nav (c : Code) : List Nat → Option Code
  | [] => some c
  | d :: p => (nav c p).bind (child d)

inductive Tag where
  | code (p : List Nat)
  | blk (id : Nat)
  | lp (p : List Nat)
  | bad
  deriving DecidableEq

def Item.tag : Item → Tag
  | .code p _ => .code p
  | .blk id => .blk id
  | .lp p _ => .lp p
  | .ops .. => .bad
def Tag.item (c : Code) : Tag → Option Item
  | .code p => (nav c p).map (.code p)
  | .blk id => some (.blk id)
  | .lp p => (nav c (0 :: p)).map (.lp p)
  | .bad => none
def Along (c : Code) (its : List Item) : Prop := ∀ i ∈ its, i.tag.item c = some i

theorem Along.same {c : Code} : ∀ {a b : List Item}, Along c a → Along c b → a.map Item.tag = b.map Item.tag → a = b
  | [], [], _, _, _ => rfl
  | [], _ :: _, _, _, h => by cases h
  | _ :: _, [], _, _, h => by cases h
  | x :: a, y :: b, ha, hb, h => by
    injection h with h1 h2
    have e1 := ha x (by simp)
    have e2 := hb y (by simp)
    rw [h1, e2] at e1
    cases e1
    rw [Along.same (fun i hi => ha i (List.mem_cons_of_mem _ hi)) (fun i hi => hb i (List.mem_cons_of_mem _ hi)) h2]

theorem Along.cons {c : Code} {i : Item} {r : List Item} (h1 : i.tag.item c = some i) (h2 : Along c r) : Along c (i :: r) := by
  intro j hj
  rcases List.mem_cons.1 hj with rfl | hj
  · exact h1
  · exact h2 j hj
theorem Along.tail {c : Code} {i : Item} {r : List Item} (h : Along c (i :: r)) : Along c r := fun j hj => h j (List.mem_cons_of_mem _ hj)
theorem Along.leave {c : Code} {k : Nat} : ∀ {r r' : List Item}, Ev.leave k r = some r' → Along c r → Along c r'
  | [], _, h, _ => by cases h
  | i :: r, r', h, ha => by
    rw [Ev.leave] at h
    cases hb : i.isBlk k with
    | true => rw [hb] at h; cases h; exact ha.tail
    | false => rw [hb] at h; exact Along.leave h ha.tail

/-- What an end answers. -/
def fin (P : Program) (rv : List ResultVar) : Ex × St → Option (Value × Heap)
  | (.exit _, _) => none
  | (_, s) => (resultE P s.hp s.fr rv).map fun vs => (packE vs, s.hp)

def MeanV (P : Program) (L : List FuncId) (O : Known) (rv : List ResultVar) (its : List Item) (s : St) (w : Value × Heap) : Prop := ∃ q, Mean P L O its s q ∧ fin P rv q = some w

theorem MeanV.of {O : Known} {rv : List ResultVar} {a b : List Item} {s s' : St} {w : Value × Heap} (h : ∀ q, Mean P L O b s' q → Mean P L O a s q) : MeanV P L O rv b s' w → MeanV P L O rv a s w :=
  fun ⟨q, h1, h2⟩ => ⟨q, h q h1, h2⟩

theorem exec_sound {cx : CallX R} (hcx : RightX P L (ofTab T) cx) {stop : List Nat → Bool} {body : Code} : ∀ {n : Nat} {its : List Item} {s : St} {k : List Item → St → Option R} {r : R},
    exec P L T cx stop n its s k = some r → Along body its → ∃ its' s', k its' s' = some r ∧ Along body its' ∧ ∀ rv w, MeanV P L (ofTab T) rv its' s' w → MeanV P L (ofTab T) rv its s w
  | 0, _, _, _, _, h, _ => by cases h
  | n + 1, its, s, k, r, h, ha => by
    unfold exec at h
    split at h
    · exact ⟨[], s, h, ha, fun _ _ h => h⟩
    · rename_i p c rest
      have hc : nav body p = some c := by
        have := ha (.code p c) (by simp)
        simp only [Item.tag, Tag.item] at this
        cases hn : nav body p with
        | none => rw [hn] at this; cases this
        | some c' => rw [hn] at this; cases this; rfl
      split at h
      · obtain ⟨i, t, h1, h2, h3⟩ := exec_sound hcx h ha.tail
        exact ⟨i, t, h1, h2, fun rv w hw => (h3 rv w hw).of fun q => .skip⟩
      · obtain ⟨i, t, h1, h2, h3⟩ := exec_sound hcx h ha.tail
        exact ⟨i, t, h1, h2, fun rv w hw => (h3 rv w hw).of fun q => .label⟩
      · split at h
        · obtain ⟨s', hk, hm⟩ := opsX_sound hcx h
          obtain ⟨i, t, h1, h2, h3⟩ := exec_sound hcx hk ha.tail
          exact ⟨i, t, h1, h2, fun rv w hw => (h3 rv w hw).of fun q hq => .region (hm _ q hq)⟩
        · split at h
          · rename_i ops hs
            obtain ⟨s', rs', hk, hl, N, hm⟩ := drawX_sound hcx h
            obtain ⟨i, t, h1, h2, h3⟩ := exec_sound hcx hk ha.tail
            refine ⟨i, t, h1, h2, fun rv w hw => (h3 rv w hw).of fun q hq => .draw ⟨N, ?_⟩ hq⟩
            unfold drawE
            simp only [hs, hm, pairsOk_loose hl]
            rfl
          · cases h
      · rename_i a b
        obtain ⟨i, t, h1, h2, h3⟩ := exec_sound hcx h (.cons (by simp [Item.tag, Tag.item, nav, hc, child]) (.cons (by simp [Item.tag, Tag.item, nav, hc, child]) ha.tail))
        exact ⟨i, t, h1, h2, fun rv w hw => (h3 rv w hw).of fun q hq => .seq hq⟩
      · rename_i x a b
        split at h
        · rename_i t hx
          split at h
          · obtain ⟨i, t, h1, h2, h3⟩ := exec_sound hcx h (.cons (by simp [Item.tag, Tag.item, nav, hc, child]) ha.tail)
            exact ⟨i, t, h1, h2, fun rv w hw => (h3 rv w hw).of fun q hq => .cond (t := true) hx hq⟩
          · obtain ⟨i, t, h1, h2, h3⟩ := exec_sound hcx h (.cons (by simp [Item.tag, Tag.item, nav, hc, child]) ha.tail)
            exact ⟨i, t, h1, h2, fun rv w hw => (h3 rv w hw).of fun q hq => .cond (t := false) hx hq⟩
        · cases h
      · rename_i id b
        obtain ⟨i, t, h1, h2, h3⟩ := exec_sound hcx h (.cons (by simp [Item.tag, Tag.item, nav, hc, child]) (.cons (by simp [Item.tag, Tag.item]) ha.tail))
        exact ⟨i, t, h1, h2, fun rv w hw => (h3 rv w hw).of fun q hq => .block hq⟩
      · rename_i b
        obtain ⟨i, t, h1, h2, h3⟩ := exec_sound hcx h (.cons (by simp [Item.tag, Tag.item, nav, hc, child]) ha.tail)
        exact ⟨i, t, h1, h2, fun rv w hw => (h3 rv w hw).of fun q hq => .loop hq⟩
      · split at h
        · rename_i id r' hr
          obtain ⟨i, t, h1, h2, h3⟩ := exec_sound hcx h (Along.leave hr ha.tail)
          exact ⟨i, t, h1, h2, fun rv w hw => (h3 rv w hw).of fun q hq => .exit hr hq⟩
        · cases h
      · refine ⟨[], s, h, (fun _ hi => by cases hi), fun rv w hw => ?_⟩
        obtain ⟨q, ⟨N, h1⟩, h2⟩ := hw
        rw [itemsE] at h1
        cases h1
        exact ⟨_, .ret, h2⟩
      · cases h
    · rename_i p b rest
      have hb : nav body (0 :: p) = some b := by
        have := ha (.lp p b) (by simp)
        simp only [Item.tag, Tag.item] at this
        cases hn : nav body (0 :: p) with
        | none => rw [hn] at this; cases this
        | some c' => rw [hn] at this; cases this; rfl
      split at h
      · exact ⟨_, s, h, ha, fun _ _ h => h⟩
      · obtain ⟨i, t, h1, h2, h3⟩ := exec_sound hcx h (.cons (by simp only [Item.tag, Tag.item, hb]; rfl) ha)
        exact ⟨i, t, h1, h2, fun rv w hw => (h3 rv w hw).of fun q hq => .round hq⟩
    · obtain ⟨i, t, h1, h2, h3⟩ := exec_sound hcx h ha.tail
      exact ⟨i, t, h1, h2, fun rv w hw => (h3 rv w hw).of fun q hq => .blk hq⟩
    · cases h

/-- What a function entered answers. -/
theorem call_of_mean {O : Known} {g : FuncId} {args : List Value} {H : Heap} {fn : Func} {c : Code} {w : Value × Heap} (hO : O g args = none) (hg : P.funcs[g]? = some fn) (hb : fn.body = some c)
    (h : MeanV P L O fn.results.toList [.code [] c] ⟨args ++ List.replicate (fn.ntmps - args.length) undef, H⟩ w) : ∃ N, callE P L O N g args H = some w := by
  obtain ⟨q, ⟨N, h1⟩, h2⟩ := h
  refine ⟨N + 1, ?_⟩
  rw [callE_enter hO]
  unfold enterE
  simp only [hg, hb]
  rw [itemsE] at h1
  simp only [itemE] at h1
  cases hc : codeE P L (callE P L O N) N c ⟨args ++ List.replicate (fn.ntmps - args.length) undef, H⟩ with
  | none => rw [hc] at h1; cases h1
  | some x =>
    obtain ⟨e, s⟩ := x
    rw [hc] at h1
    cases e with
    | normal => dsimp only at h1; rw [itemsE] at h1; cases h1; exact h2
    | exit k => dsimp only at h1; rw [leaveE] at h1; cases h1; cases h2
    | ret => cases h1; exact h2

theorem nav_nil {c : Code} : Along c [.code [] c] := by
  intro i hi
  cases List.mem_singleton.1 hi
  rfl

theorem callX_right : ∀ {n : Nat}, RightX P L (ofTab T) (callX P L T (R := R) n)
  | 0, _, _, _, _, _, _, h => by cases h
  | n + 1, g, args, H, k, r, ho, h => by
    unfold callX at h
    split at h
    · rename_i fn hg
      split at h
      · rename_i c hb
        obtain ⟨its, s, hk, _, hm⟩ := exec_sound (callX_right (n := n)) h nav_nil
        split at hk
        · split at hk
          · rename_i vs hv
            have hw : MeanV P L (ofTab T) fn.results.toList [] s (packE vs, s.hp) := ⟨(.normal, s), .nil, by simp only [fin, hv]; rfl⟩
            exact ⟨packE vs, s.hp, call_of_mean ho hg hb (hm _ _ hw), hk⟩
          · cases hk
        · cases hk
      · cases h
    · cases h

end
end Go.Proofs.Ytoiijpphfckdjaa.Ev
