/- Part of a proof: E22, E23, Base, Bits, Cents, Civil. Conditions: none. -/
import Derived.Test.YtdbkoeefnodejaaGreatQ1
set_option linter.unusedVariables false
set_option linter.unusedSimpArgs false
set_option linter.unnecessarySimpa false
set_option linter.unusedSectionVars false
namespace Go.Proofs.YtdbkoeefnodejaaGreat.Ev
noncomputable section
open Go
abbrev Tab := FuncId -> List Value -> Option (Bool × Value)
def bR (T : Tab) : bj := fun g args H => match T g args with | some (true, v) => some (v, H) | _ => none
def eqT (P : Program) : Nat -> TypeId -> Value -> Value -> Option Bool
 | 0, _, _, _ => none
 | d + 1, t, x, y =>
  match P.underlying t, x, y with
  | some .bool, .bool a, .bool b => some (a == b)
  | some (.int _), .int k a, .int k' b => if k = k' then some (a == b) else none
  | some (.struct fs), .agg xs, .agg ys =>
   if P.stoodInHeld t then none else
   fs.toList.foldr (fun f (r : Option Bool) =>
    if f.name ≠ "_" then
     match gX P f.type xs f.offset, gX P f.type ys f.offset with
     | some a, some b =>
      match eqT P d f.type a b, r with
      | some u, some w => some (u && w)
      | _, _ => none
     | _, _ => none
    else r) (some true)
  | some (.array len elem), .agg xs, .agg ys =>
   match P.info? elem with
   | some i =>
    (List.range len).foldr (fun j (r : Option Bool) =>
     match gX P elem xs (j * i.size), gX P elem ys (j * i.size) with
     | some a, some b =>
      match eqT P d elem a b, r with
      | some u, some w => some (u && w)
      | _, _ => none
     | _, _ => none) (some true)
   | none => none
  | _, _, _ => none
theorem EB {P : Program} : ∀ {d : Nat} {t : TypeId} {x y : Value} {b : Bool}, eqT P d t x y = some b -> eqE P d t x y = some b
 | 0, _, _, _, _, h => by cases h
 | d + 1, t, x, y, b, h => by
  unfold eqT at h; unfold eqE
  split at h
  . rename_i hu; (try simp only [hu]); exact h
  . rename_i hu; (try simp only [hu]); exact h
  . rename_i fs xs ys hu
    (try simp only [hu])
    split at h
    . cases h
    . rename_i hs; rw [if_neg hs]; generalize fs.toList = l at h ⊢
      induction l generalizing b with
      | nil => exact h
      | cons f l ih =>
       simp only [List.foldr] at h ⊢
       split at h
       . rename_i hf; rw [if_pos hf]
         split at h
         . rename_i a c h1 h2; simp only [h1, h2]
           split at h
           . rename_i u w h3 h4; cases h; rw [EB h3]; cases u with
             | true => simpa using ih _ h4
             | false => rfl
           . cases h
         . cases h
       . rename_i hf; rw [if_neg hf]; exact ih _ h
  . rename_i len elem xs ys hu
    (try simp only [hu])
    split at h
    . rename_i i hi; simp only [hi]; generalize List.range len = l at h ⊢
      induction l generalizing b with
      | nil => exact h
      | cons j l ih =>
       simp only [List.foldr] at h ⊢
       split at h
       . rename_i a c h1 h2; simp only [h1, h2]
         split at h
         . rename_i u w h3 h4; cases h; rw [EB h3]; cases u with
           | true => simpa using ih _ h4
           | false => rfl
         . cases h
       . cases h
    . cases h
  . cases h
section
variable {R : Type} (P : Program) (L : List FuncId) (T : Tab)
abbrev tW (R : Type) := FuncId -> List Value -> ai -> (Value -> ai -> Option R) -> Option R
variable (cx : tW R)
def Eg (t : TypeId) (x y : Value) : Option Bool := if P.eqGuardType P.depth t then none else eqT P 10000 t x y
def opX (ρ : Operand -> Option Value) (o : Oper) (H : ai) (k : Value -> ai -> Option R) : Option R :=
 match o.op with
 | .pick c a b =>
  match ρ c with
  | some (.bool t) =>
   match t with
   | true => (match ρ a with | some v => k v H | none => none)
   | false => (match ρ b with | some v => k v H | none => none)
  | _ => none
 | .binOp op t x y z =>
  match ρ x, ρ y with
  | some (.int k1 a), some (.int k2 b) =>
   match op with
   | .quo => if k1 = k2 then (match decide (b = 0) with | true => none | false => k (.int k1 (k1.wrap (a.tdiv b))) H) else none
   | .rem => if k1 = k2 then (match decide (b = 0) with | true => none | false => k (.int k1 (a.tmod b)) H) else none
   | .shl => (match decide (b < 0) with | true => none | false => k (.int k1 (k1.wrap (a * 2 ^ (min b.toNat k1.bits)))) H)
   | .shr => (match decide (b < 0) with | true => none | false => k (.int k1 (a.fdiv (2 ^ (min b.toNat k1.bits)))) H)
   | _ => (match gQ P op t (.int k1 a) (.int k2 b) with | some v => k v H | none => none)
  | some (.agg xs), some (.agg ys) =>
   match op with
   | .eql => (match Eg P t (.agg xs) (.agg ys) with | some c => k (.bool c) H | none => none)
   | .neq => (match Eg P t (.agg xs) (.agg ys) with | some c => k (.bool (!c)) H | none => none)
   | _ => none
  | _, _ => (match opE P (fun _ _ _ => none) ρ ⟨o.dst, .binOp op t x y z, o.type, o.pos, o.after, o.guard⟩ H with | some (v, H') => k v H' | none => none)
 | .index t x i =>
  match ρ x, ρ i with
  | some (.string s), some (.int _ n) =>
   match P.underlying t with
   | some .string => (match decide (0 <= n /\ n.toNat < s.data.size) with | true => k (.int .u8 ((s.data.getD n.toNat 0).toNat : Nat)) H | false => none)
   | _ => none
  | _, _ => (match opE P (fun _ _ _ => none) ρ o H with | some (v, H') => k v H' | none => none)
 | .call c =>
  match c.callee with
  | .value f =>
   match nW ρ c.args.toList, ρ f with
   | some args, some (.func (.func g) x y) =>
    match T g (x.toList ++ args ++ y.toList) with
    | some (c, v) => (match c with | true => k v H | false => none)
    | none => cx g (x.toList ++ args ++ y.toList) H k
   | _, _ => none
  | _ => (match opE P (fun _ _ _ => none) ρ o H with | some (v, H') => k v H' | none => none)
 | _ => match opE P (fun _ _ _ => none) ρ o H with | some (v, H') => k v H' | none => none
def Jy (A : Array Oper) (fr : List Value) (o : Oper) (yes no : List Value -> Option R) : Option R :=
 match o.guard with
 | none => yes fr
 | some (j, want) =>
  match (A[j]?).bind (·.dst) with
  | some d =>
   match fr[d]? with
   | some (.bool b) => (match b with
    | true => (match want with | true => yes (fr.set d (.bool true)) | false => no (fr.set d (.bool true)))
    | false => (match want with | true => no (fr.set d (.bool false)) | false => yes (fr.set d (.bool false))))
   | _ => no fr
  | none => no fr
def Ia (A : Array Oper) : List Oper -> St -> (St -> Option R) -> Option R
 | [], s, k => k s
 | o :: r, s, k =>
  Jy A s.fr o (fun fr => opX P T cx (cR fr) o s.hp fun v H => Ia A r ⟨gI fr o.dst v, H⟩ k)
   (fun fr => Ia A r ⟨gI fr o.dst undef, s.hp⟩ k)
def Ig (A : Array Nat) (i : Nat) (a : Rec) (j : Nat) (b : Rec) : Bool :=
 match b.kind with
 | .cE => (match a.kind with | .pure => true | .load => aW A i j || aW A j i | _ => i == j || aW A i j || aW A j i)
 | _ => true
def ph (A : Array Nat) (rs : List Rec) : Bool := rs.zipIdx.all fun (a, i) => rs.zipIdx.all fun (b, j) => Ig A i a j b
def mc (ops : Array Oper) (A : Array Nat) : List Oper -> Nat -> St -> List Rec -> (St -> Option R) -> Option R
 | [], _, s, rs, k => (match ph A rs with | true => k s | false => none)
 | o :: l, i, s, rs, k =>
  Jy ops s.fr o
   (fun fr => match fw L o with
    | .pure => opX P T cx (cR fr) o s.hp fun v _ => mc ops A l (i + 1) ⟨gI fr o.dst v, s.hp⟩ (rs ++ [⟨.pure, v, s.hp, s.hp, none⟩]) k
    | .load =>
     (match o.op with
      | .load t a =>
       (match cR fr a with
        | some p =>
         (match bX P (cA s.hp (aW A i) rs) t p with
          | some v => mc ops A l (i + 1) ⟨gI fr o.dst v, s.hp⟩ (rs ++ [⟨.load, v, s.hp, s.hp, some (t, p)⟩]) k
          | none => none)
        | none => none)
      | _ => none)
    | .quiet =>
     (match iT o with
      | true =>
       (match opE P (fun _ _ _ => none) (cR fr) o (cA s.hp (aW A i) rs) with
        | some (v, H') => mc ops A l (i + 1) ⟨gI fr o.dst v, ct s.hp H'⟩ (rs ++ [⟨.quiet, v, s.hp, ct s.hp H', none⟩]) k
        | none =>
         (match opE P (fun _ _ _ => none) (cR fr) o s.hp with
          | some (v, H') => mc ops A l (i + 1) ⟨gI fr o.dst v, H'⟩ (rs ++ [⟨.cE, v, s.hp, H', none⟩]) k
          | none => none))
      | false => opX P T cx (cR fr) o (cA s.hp (aW A i) rs) fun v H' => mc ops A l (i + 1) ⟨gI fr o.dst v, ct s.hp H'⟩ (rs ++ [⟨.quiet, v, s.hp, ct s.hp H', none⟩]) k)
    | .cE => opX P T cx (cR fr) o s.hp fun v H' => mc ops A l (i + 1) ⟨gI fr o.dst v, H'⟩ (rs ++ [⟨.cE, v, s.hp, H', none⟩]) k)
   (fun fr => mc ops A l (i + 1) ⟨gI fr o.dst undef, s.hp⟩ (rs ++ [⟨.pure, undef, s.hp, s.hp, none⟩]) k)
variable (stop : List Nat -> Bool)
def exec : Nat -> List Item -> St -> (List Item -> St -> Option R) -> Option R
 | 0, _, _, _ => none
 | n + 1, its, s, k =>
  match its with
  | [] => k [] s
  | .code p c :: r =>
   match c with
   | .skip => exec n r s k
   | .label _ => exec n r s k
   | .region _ ops d =>
    (match d with
     | false => Ia P T cx ops ops.toList s fun s' => exec n r s' k
     | true =>
      (match gF ops (Region.before ops) s.fr.length with
       | true => mc P L T cx ops (Region.before ops) ops.toList 0 s [] fun s' => exec n r s' k
       | false => none))
   | .seq a b => exec n (.code (0 :: p) a :: .code (1 :: p) b :: r) s k
   | .cond x a b =>
    (match cR s.fr x with
     | some (.bool t) => (match t with | true => exec n (.code (0 :: p) a :: r) s k | false => exec n (.code (1 :: p) b :: r) s k)
     | _ => none)
   | .block id b => exec n (.code (0 :: p) b :: .blk id :: r) s k
   | .loop b => exec n (.lp p b :: r) s k
   | .exit id => (match leave id r with | some r' => exec n r' s k | none => none)
   | .ret => k [] s
   | _ => none
  | .lp p b :: r => (match stop p with | true => k (.lp p b :: r) s | false => exec n (.code (0 :: p) b :: .lp p b :: r) s k)
  | .blk _ :: r => exec n r s k
  | .ops .. :: _ => none
end
def rA {R : Type} (P : Program) (L : List FuncId) (T : Tab) : Nat -> tW R
 | 0, _, _, _, _ => none
 | n + 1, g, args, H, k =>
  match P.funcs[g]? with
  | some fn =>
   match fn.body with
   | some c =>
    exec P L T (rA P L T n) (fun _ => false) 100000 [.code [] c] ⟨args ++ List.replicate (fn.ntmps - args.length) undef, H⟩ fun its s =>
     match its with
     | [] => (match eg P s.hp s.fr fn.results.toList with | some vs => k (k8 vs) s.hp | none => none)
     | _ => none
   | none => none
  | none => none
section
variable {R : Type} {P : Program} {L : List FuncId} {T : Tab}
def vh (P : Program) (L : List FuncId) (O : bj) (cx : tW R) : Prop :=
 ∀ g args H k r, O g args H = none -> cx g args H k = some r -> ∃ v H', (∃ N, bs P L O N g args H = some (v, H')) /\ k v H' = some r
theorem generic {ρ : Operand -> Option Value} {o : Oper} {H : ai} {k : Value -> ai -> Option R} {r : R} {O : bj}
 (h : (match opE P (fun _ _ _ => none) ρ o H with | some (v, H') => k v H' | none => none) = some r) :
 ∃ v H', (∃ N, opE P (bs P L O N) ρ o H = some (v, H')) /\ k v H' = some r := by
 split at h
 . rename_i v H' ho; exact ⟨v, H', ⟨0, kE (fun _ _ _ _ h => by cases h) ho⟩, h⟩
 . cases h
theorem nD {cx : tW R} (hcx : vh P L (bR T) cx) {ρ : Operand -> Option Value} {o : Oper} {H : ai} {k : Value -> ai -> Option R} {r : R}
 (h : opX P T cx ρ o H k = some r) : ∃ v H', (∃ N, opE P (bs P L (bR T) N) ρ o H = some (v, H')) /\ k v H' = some r := by
 unfold opX at h
 split at h
 . rename_i c a b hop
   split at h
   . rename_i t hc
     split at h
     . split at h
       . rename_i v hv; exact ⟨v, H, ⟨0, by unfold opE; rw [hop]; simp only [hc, hv]; rfl⟩, h⟩
       . cases h
     . split at h
       . rename_i v hv; exact ⟨v, H, ⟨0, by unfold opE; rw [hop]; simp only [hc, hv]; rfl⟩, h⟩
       . cases h
   . cases h
 . rename_i op t x y z hop; have he : ∀ v, (match ρ x, ρ y with | some a, some b => (gQ P op t a b).map (·, H) | _, _ => none) = some (v, H) -> ∃ N, opE P (bs P L (bR T) N) ρ o H = some (v, H) :=
    fun v hv => ⟨0, by unfold opE; rw [hop]; exact hv⟩
   split at h
   . rename_i k1 a k2 b hx hy; rw [hx, hy] at he
     split at h
     . split at h
       . rename_i hk
         split at h
         . cases h
         . rename_i hb; have hb := zbn hb; exact ⟨_, H, he _ (by simp [gQ, hk, jN, hb]), h⟩
       . cases h
     . split at h
       . rename_i hk
         split at h
         . cases h
         . rename_i hb; have hb := zbn hb; exact ⟨_, H, he _ (by simp [gQ, hk, jN, hb]), h⟩
       . cases h
     . split at h
       . cases h
       . rename_i hb; have hb := zbn hb; exact ⟨_, H, he _ (by simp [gQ, mD, hb]), h⟩
     . split at h
       . cases h
       . rename_i hb; have hb := zbn hb; exact ⟨_, H, he _ (by simp [gQ, mD, hb]), h⟩
     . split at h
       . rename_i v hv; exact ⟨v, H, he _ (by simp only [hv]; rfl), h⟩
       . cases h
   . rename_i xs ys hx hy; rw [hx, hy] at he; have hq : ∀ c, Eg P t (.agg xs) (.agg ys) = some c -> fa P t (.agg xs) (.agg ys) = some c := by
      intro c hc; unfold Eg at hc; unfold fa
      split at hc
      . cases hc
      . rename_i hg; (try simp only [hg]); exact EB hc
     split at h
     . split at h
       . rename_i c hc; exact ⟨_, H, he _ (by simp only [gQ, hq c hc]; rfl), h⟩
       . cases h
     . split at h
       . rename_i c hc; exact ⟨_, H, he _ (by simp only [gQ, hq c hc]; rfl), h⟩
       . cases h
     . cases h
   . obtain ⟨v, H', ⟨N, ho⟩, hk⟩ := generic (L := L) (O := bR T) h; refine ⟨v, H', ⟨N, ?_⟩, hk⟩; unfold opE at ho ⊢; rw [hop]; exact ho
 . rename_i t x i hop
   split at h
   . rename_i s kk n hx hi
     split at h
     . rename_i hu
       split at h
       . rename_i hb; have hb := zak hb; refine ⟨_, H, ⟨0, ?_⟩, h⟩; unfold opE; rw [hop]; have hg : s.data[n.toNat]? = some (s.data.getD n.toNat 0) := by
          rw [za4, zar hb.2]; rfl
         simp only [hx, hi, mr, hu, hb.1, za7, hg]; rfl
       . cases h
     . cases h
   . exact generic h
 . rename_i c hop
   split at h
   . rename_i f hf
     split at h
     . rename_i args g x y ha hg; have he : ∀ v H', (∃ N, bs P L (bR T) N g (x.toList ++ args ++ y.toList) H = some (v, H')) -> ∃ N, opE P (bs P L (bR T) N) ρ o H = some (v, H') :=
        fun v H' ⟨N, hv⟩ => ⟨N, by unfold opE; rw [hop]; simp only [ha, hf, hg]; exact hv⟩
       split at h
       . rename_i c v ht
         split at h
         . exact ⟨v, H, he _ _ ⟨1, lz (by simp only [bR, ht])⟩, h⟩
         . cases h
       . rename_i ht; obtain ⟨v, H', hv, hk⟩ := hcx _ _ _ _ _ (by simp only [bR, ht]) h; exact ⟨v, H', he _ _ hv, hk⟩
     . cases h
   . exact generic h
 . exact generic h
theorem HQ {fr : List Value} {d : Nat} {v : Value} (h : fr[d]? = some v) : fr.set d v = fr := by
 apply zbr; intro j; rw [zbj]
 split
 . rename_i hij; subst hij
   split
   . exact h.symm
   . rename_i hlt; rw [zaN (by omega)] at h; cases h
 . rfl
theorem uD {A : Array Oper} {fr : List Value} {o : Oper} {a b : List Value -> Option R} {r : R} (h : Jy A fr o a b = some r) :
 (dA A fr o = true /\ a fr = some r) \/ (dA A fr o = false /\ b fr = some r) := by
 unfold Jy at h; unfold dA
 split at h
 . rename_i hg; (try simp only [hg]); exact .inl ⟨trivial, h⟩
 . rename_i j want hg
   (try simp only [hg])
   split at h
   . rename_i d hd; rw [hd]; dsimp only [Option.bind]
     split at h
     . rename_i t ht; rw [ht]; cases t <;> cases want <;> simp_all [HQ ht]
     . rename_i hn; refine .inr ⟨?_, h⟩
       split
       . rename_i t ht; exact absurd ht (hn t)
       . rfl
   . rename_i hd; rw [hd]; exact .inr ⟨rfl, h⟩
theorem oL {cx : tW R} (hcx : vh P L (bR T) cx) {A : Array Oper} : ∀ {l : List Oper} {s : St} {k : St -> Option R} {r : R},
 Ia P T cx A l s k = some r -> ∃ s', k s' = some r /\ ∀ its q, cF P L (bR T) its s' q -> cF P L (bR T) (.ops A l :: its) s q
 | [], s, k, r, h => ⟨s, h, fun _ _ hm => .HX hm⟩
 | o :: l, s, k, r, h => by
  unfold Ia at h; rcases uD h with ⟨hw, h⟩ | ⟨hw, h⟩
  . obtain ⟨v, H', ho, hk⟩ := nD hcx h; obtain ⟨s', hk, hm⟩ := oL hcx hk; exact ⟨s', hk, fun its q h => .op hw ho (hm its q h)⟩
  . obtain ⟨s', hk, hm⟩ := oL hcx h; exact ⟨s', hk, fun its q h => .Je hw (hm its q h)⟩
theorem rM {cx : tW R} (hcx : vh P L (bR T) cx) {ops : Array Oper} {A : Array Nat} : ∀ {l : List Oper} {i : Nat} {s : St} {rs : List Rec} {k : St -> Option R} {r : R},
 mc P L T cx ops A l i s rs k = some r -> ∃ s' rs', k s' = some r /\ ph A rs' = true /\ ∃ N, eS P L (bs P L (bR T) N) ops A l i s rs = some (s', rs')
 | [], i, s, rs, k, r, h => by
  unfold mc at h
  split at h
  . rename_i hl; exact ⟨s, rs, h, hl, 0, rfl⟩
  . cases h
 | o :: l, i, s, rs, k, r, h => by
  unfold mc at h; have step : ∀ {x : Rec}, (∃ N, dW P L (bs P L (bR T) N) ops A i o s rs = some x) ->
   mc P L T cx ops A l (i + 1) ⟨gI s.fr o.dst x.v, x.h1⟩ (rs ++ [x]) k = some r ->
   ∃ s' rs', k s' = some r /\ ph A rs' = true /\ ∃ N, eS P L (bs P L (bR T) N) ops A (o :: l) i s rs = some (s', rs') := by
   rintro x ⟨N, hrec⟩ hd
   obtain ⟨s', rs', h1, h2, M, h3⟩ := rM hcx hd; refine ⟨s', rs', h1, h2, max N M, ?_⟩; rw [eS, oJ (cQ (Nat.le_max_left N M)) hrec]; exact jq (cQ (Nat.le_max_right N M)) h3
  rcases uD h with ⟨hw, h⟩ | ⟨hw, h⟩
  . split at h
    . rename_i hk; obtain ⟨v, H', ⟨N, ho⟩, h⟩ := nD hcx h; exact step (x := ⟨.pure, v, s.hp, s.hp, none⟩) ⟨N, by unfold dW; simp only [hw, hk, ho]⟩ h
    . rename_i hk
      split at h
      . rename_i t a hop
        split at h
        . rename_i p hp
          split at h
          . rename_i v hv; exact step (x := ⟨.load, v, s.hp, s.hp, some (t, p)⟩) ⟨0, by unfold dW; simp only [hw, hk, hop, hp, hv]⟩ h
          . cases h
        . cases h
      . cases h
    . rename_i hk
      split at h
      . rename_i ha
        split at h
        . rename_i v H' ho; rw [jE (cl' := bs P L (bR T) 0) ha] at ho; exact step (x := ⟨.quiet, v, s.hp, ct s.hp H', none⟩) ⟨0, by unfold dW; simp only [hw, hk, ho]⟩ h
        . rename_i hn; rw [jE (cl' := bs P L (bR T) 0) ha] at hn
          split at h
          . rename_i v H' ho; rw [jE (cl' := bs P L (bR T) 0) ha] at ho; exact step (x := ⟨.cE, v, s.hp, H', none⟩) ⟨0, by unfold dW; simp only [hw, hk, hn, ha, ho, za7]⟩ h
          . cases h
      . obtain ⟨v, H', ⟨N, ho⟩, h⟩ := nD hcx h; exact step (x := ⟨.quiet, v, s.hp, ct s.hp H', none⟩) ⟨N, by unfold dW; simp only [hw, hk, ho]⟩ h
    . rename_i hk; obtain ⟨v, H', ⟨N, ho⟩, h⟩ := nD hcx h; exact step (x := ⟨.cE, v, s.hp, H', none⟩) ⟨N, by unfold dW; simp only [hw, hk, ho]⟩ h
  . exact step (x := ⟨.pure, undef, s.hp, s.hp, none⟩) ⟨0, by unfold dW; simp only [hw]⟩ h
theorem wI {A : Array Nat} {B : Nat -> Bool} {rs : List Rec} (h : ph A rs = true) : nA P A B rs = true := by
 unfold ph at h; unfold nA; rw [zam] at h ⊢
 rintro ⟨a, i⟩ ha
 have h := h _ ha; rw [zam] at h ⊢
 rintro ⟨b, j⟩ hb
 have h := h _ hb; dsimp only at h ⊢; unfold Ig at h; unfold vz; cases hb : b.kind with
 | cE =>
  rw [hb] at h; dsimp only at h ⊢; cases ha : a.kind with
  | pure => rfl
  | load => rw [ha] at h; dsimp only at h ⊢; rw [h, Bool.true_or]
  | quiet => rw [ha] at h; dsimp only at h ⊢; rw [h, Bool.true_or]
  | cE => rw [ha] at h; exact h
 | _ => rfl
def child : Nat -> Code -> Option Code
 | 0, .seq a _ => some a
 | 1, .seq _ b => some b
 | 0, .cond _ a _ => some a
 | 1, .cond _ _ b => some b
 | 0, .block _ b => some b
 | 0, .loop b => some b
 | _, _ => none
def nav (c : Code) : List Nat -> Option Code
 | [] => some c
 | d :: p => (nav c p).bind (child d)
inductive Tag where
 | code (p : List Nat)
 | blk (id : Nat)
 | lp (p : List Nat)
 | bad
 deriving DecidableEq
def Item.tag : Item -> Tag
 | .code p _ => .code p
 | .blk id => .blk id
 | .lp p _ => .lp p
 | .ops .. => .bad
def Tag.item (c : Code) : Tag -> Option Item
 | .code p => (nav c p).map (.code p)
 | .blk id => some (.blk id)
 | .lp p => (nav c (0 :: p)).map (.lp p)
 | .bad => none
def cT (c : Code) (its : List Item) : Prop := ∀ i ∈ its, i.tag.item c = some i
theorem cT.same {c : Code} : ∀ {a b : List Item}, cT c a -> cT c b -> a.map Item.tag = b.map Item.tag -> a = b
 | [], [], _, _, _ => rfl
 | [], _ :: _, _, _, h => by cases h
 | _ :: _, [], _, _, h => by cases h
 | x :: a, y :: b, ha, hb, h => by
  injection h with h1 h2
  have e1 := ha x (by simp); have e2 := hb y (by simp); rw [h1, e2] at e1; cases e1; rw [cT.same (fun i hi => ha i (zaQ _ hi)) (fun i hi => hb i (zaQ _ hi)) h2]
theorem cT.cons {c : Code} {i : Item} {r : List Item} (h1 : i.tag.item c = some i) (h2 : cT c r) : cT c (i :: r) := by
 intro j hj; rcases zaV.1 hj with rfl | hj
 . exact h1
 . exact h2 j hj
theorem cT.tail {c : Code} {i : Item} {r : List Item} (h : cT c (i :: r)) : cT c r := fun j hj => h j (zaQ _ hj)
theorem cT.leave {c : Code} {k : Nat} : ∀ {r r' : List Item}, Ev.leave k r = some r' -> cT c r -> cT c r'
 | [], _, h, _ => by cases h
 | i :: r, r', h, ha => by
  rw [Ev.leave] at h; cases hb : i.wX k with
  | true => rw [hb] at h; cases h; exact ha.tail
  | false => rw [hb] at h; exact cT.leave h ha.tail
def fin (P : Program) (rv : List ResultVar) : Ex × St -> Option (Value × ai)
 | (.exit _, _) => none
 | (_, s) => (eg P s.hp s.fr rv).map fun vs => (k8 vs, s.hp)
def jf (P : Program) (L : List FuncId) (O : bj) (rv : List ResultVar) (its : List Item) (s : St) (w : Value × ai) : Prop := ∃ q, cF P L O its s q /\ fin P rv q = some w
theorem jf.of {O : bj} {rv : List ResultVar} {a b : List Item} {s s' : St} {w : Value × ai} (h : ∀ q, cF P L O b s' q -> cF P L O a s q) : jf P L O rv b s' w -> jf P L O rv a s w :=
 fun ⟨q, h1, h2⟩ => ⟨q, h q h1, h2⟩
theorem cp {cx : tW R} (hcx : vh P L (bR T) cx) {stop : List Nat -> Bool} {body : Code} : ∀ {n : Nat} {its : List Item} {s : St} {k : List Item -> St -> Option R} {r : R},
 exec P L T cx stop n its s k = some r -> cT body its -> ∃ its' s', k its' s' = some r /\ cT body its' /\ ∀ rv w, jf P L (bR T) rv its' s' w -> jf P L (bR T) rv its s w
 | 0, _, _, _, _, h, _ => by cases h
 | n + 1, its, s, k, r, h, ha => by
  unfold exec at h
  split at h
  . exact ⟨[], s, h, ha, fun _ _ h => h⟩
  . rename_i p c rest; have hc : nav body p = some c := by
     have := ha (.code p c) (by simp); simp only [Item.tag, Tag.item] at this; cases hn : nav body p with
     | none => rw [hn] at this; cases this
     | some c' => rw [hn] at this; cases this; rfl
    split at h
    . obtain ⟨i, t, h1, h2, h3⟩ := cp hcx h ha.tail; exact ⟨i, t, h1, h2, fun rv w hw => (h3 rv w hw).of fun q => .skip⟩
    . obtain ⟨i, t, h1, h2, h3⟩ := cp hcx h ha.tail; exact ⟨i, t, h1, h2, fun rv w hw => (h3 rv w hw).of fun q => .label⟩
    . split at h
      . obtain ⟨s', hk, hm⟩ := oL hcx h; obtain ⟨i, t, h1, h2, h3⟩ := cp hcx hk ha.tail; exact ⟨i, t, h1, h2, fun rv w hw => (h3 rv w hw).of fun q hq => .region (hm _ q hq)⟩
      . split at h
        . rename_i ops hs; obtain ⟨s', rs', hk, hl, N, hm⟩ := rM hcx h; obtain ⟨i, t, h1, h2, h3⟩ := cp hcx hk ha.tail; refine ⟨i, t, h1, h2, fun rv w hw => (h3 rv w hw).of fun q hq => .draw ⟨N, ?_⟩ hq⟩; unfold jG; simp only [hs, hm, wI hl]; rfl
        . cases h
    . rename_i a b; obtain ⟨i, t, h1, h2, h3⟩ := cp hcx h (.cons (by simp [Item.tag, Tag.item, nav, hc, child]) (.cons (by simp [Item.tag, Tag.item, nav, hc, child]) ha.tail)); exact ⟨i, t, h1, h2, fun rv w hw => (h3 rv w hw).of fun q hq => .seq hq⟩
    . rename_i x a b
      split at h
      . rename_i t hx
        split at h
        . obtain ⟨i, t, h1, h2, h3⟩ := cp hcx h (.cons (by simp [Item.tag, Tag.item, nav, hc, child]) ha.tail); exact ⟨i, t, h1, h2, fun rv w hw => (h3 rv w hw).of fun q hq => .cond (t := true) hx hq⟩
        . obtain ⟨i, t, h1, h2, h3⟩ := cp hcx h (.cons (by simp [Item.tag, Tag.item, nav, hc, child]) ha.tail); exact ⟨i, t, h1, h2, fun rv w hw => (h3 rv w hw).of fun q hq => .cond (t := false) hx hq⟩
      . cases h
    . rename_i id b; obtain ⟨i, t, h1, h2, h3⟩ := cp hcx h (.cons (by simp [Item.tag, Tag.item, nav, hc, child]) (.cons (by simp [Item.tag, Tag.item]) ha.tail)); exact ⟨i, t, h1, h2, fun rv w hw => (h3 rv w hw).of fun q hq => .block hq⟩
    . rename_i b; obtain ⟨i, t, h1, h2, h3⟩ := cp hcx h (.cons (by simp [Item.tag, Tag.item, nav, hc, child]) ha.tail); exact ⟨i, t, h1, h2, fun rv w hw => (h3 rv w hw).of fun q hq => .loop hq⟩
    . split at h
      . rename_i id r' hr; obtain ⟨i, t, h1, h2, h3⟩ := cp hcx h (cT.leave hr ha.tail); exact ⟨i, t, h1, h2, fun rv w hw => (h3 rv w hw).of fun q hq => .exit hr hq⟩
      . cases h
    . refine ⟨[], s, h, (fun _ hi => by cases hi), fun rv w hw => ?_⟩; obtain ⟨q, ⟨N, h1⟩, h2⟩ := hw; rw [bS] at h1; cases h1; exact ⟨_, .ret, h2⟩
    . cases h
  . rename_i p b rest; have hb : nav body (0 :: p) = some b := by
     have := ha (.lp p b) (by simp); simp only [Item.tag, Tag.item] at this; cases hn : nav body (0 :: p) with
     | none => rw [hn] at this; cases this
     | some c' => rw [hn] at this; cases this; rfl
    split at h
    . exact ⟨_, s, h, ha, fun _ _ h => h⟩
    . obtain ⟨i, t, h1, h2, h3⟩ := cp hcx h (.cons (by simp only [Item.tag, Tag.item, hb]; rfl) ha); exact ⟨i, t, h1, h2, fun rv w hw => (h3 rv w hw).of fun q hq => .round hq⟩
  . obtain ⟨i, t, h1, h2, h3⟩ := cp hcx h ha.tail; exact ⟨i, t, h1, h2, fun rv w hw => (h3 rv w hw).of fun q hq => .blk hq⟩
  . cases h
theorem jj {O : bj} {g : FuncId} {args : List Value} {H : ai} {fn : Func} {c : Code} {w : Value × ai} (hO : O g args H = none) (hg : P.funcs[g]? = some fn) (hb : fn.body = some c)
 (h : jf P L O fn.results.toList [.code [] c] ⟨args ++ List.replicate (fn.ntmps - args.length) undef, H⟩ w) : ∃ N, bs P L O N g args H = some w := by
 obtain ⟨q, ⟨N, h1⟩, h2⟩ := h; refine ⟨N + 1, ?_⟩; rw [mC hO]; unfold l7; simp only [hg, hb]; rw [bS] at h1; simp only [fl] at h1; cases hc : ba P L (bs P L O N) N c ⟨args ++ List.replicate (fn.ntmps - args.length) undef, H⟩ with
 | none => rw [hc] at h1; cases h1
 | some x =>
  obtain ⟨e, s⟩ := x; rw [hc] at h1; cases e with
  | normal => dsimp only at h1; rw [bS] at h1; cases h1; exact h2
  | exit k => dsimp only at h1; rw [ja] at h1; cases h1; cases h2
  | ret => cases h1; exact h2
theorem te {c : Code} : cT c [.code [] c] := by
 intro i hi; cases zbt.1 hi; rfl
theorem r8 : ∀ {n : Nat}, vh P L (bR T) (rA P L T (R := R) n)
 | 0, _, _, _, _, _, _, h => by cases h
 | n + 1, g, args, H, k, r, ho, h => by
  unfold rA at h
  split at h
  . rename_i fn hg
    split at h
    . rename_i c hb; obtain ⟨its, s, hk, _, hm⟩ := cp (r8 (n := n)) h te
      split at hk
      . split at hk
        . rename_i vs hv; have hw : jf P L (bR T) fn.results.toList [] s (k8 vs, s.hp) := ⟨(.normal, s), .nil, by simp only [fin, hv]; rfl⟩
          exact ⟨k8 vs, s.hp, jj ho hg hb (hm _ _ hw), hk⟩
        . cases hk
      . cases hk
    . cases h
  . cases h
end
end
end Go.Proofs.YtdbkoeefnodejaaGreat.Ev
namespace Go.Proofs.YtdbkoeefnodejaaGreat.Ev
noncomputable section
open Go
inductive Sc where
 | i (n : Int)
 | b (x : Bool)
inductive Vp where
 | int (k : IntKind)
 | bool
 | agg (l : List (Option IntKind))
 | lit (v : Value)
def HN : Option IntKind -> Value -> Option Sc
 | some k, .int k' n => if k = k' then some (.i n) else none
 | none, .bool b => some (.b b)
 | _, _ => none
def Lb : Option IntKind -> Sc -> Value
 | some k, .i n => .int k n
 | none, .b x => .bool x
 | _, _ => undef
def xQ : List (Option IntKind) -> List Value -> Option (List Sc)
 | [], [] => some []
 | k :: ks, v :: vs => (match HN k v, xQ ks vs with | some a, some r => some (a :: r) | _, _ => none)
 | _, _ => none
def EV : List (Option IntKind) -> List Sc -> List Value
 | [], _ => []
 | k :: ks, x :: xs => Lb k x :: EV ks xs
 | _ :: _, [] => []
theorem Ar {k : Option IntKind} {v : Value} {x : Sc} (h : HN k v = some x) : Lb k x = v := by
 unfold HN at h
 split at h
 . split at h
   . rename_i he; cases h; cases he; rfl
   . cases h
 . cases h; rfl
 . cases h
theorem BI : ∀ {ks : List (Option IntKind)} {vs : List Value} {xs : List Sc}, xQ ks vs = some xs -> ∀ r, EV ks (xs ++ r) = vs
 | [], [], _, _, _ => rfl
 | [], _ :: _, _, h, _ => by cases h
 | _ :: _, [], _, h, _ => by cases h
 | k :: ks, v :: vs, xs, h, r => by
  unfold xQ at h
  split at h
  . rename_i a l h1 h2; cases h; simp only [zaY, EV]; rw [Ar h1, BI h2]
  . cases h
theorem xl : ∀ {ks : List (Option IntKind)} {vs : List Value} {xs : List Sc}, xQ ks vs = some xs -> xs.length = ks.length
 | [], [], _, h => by cases h; rfl
 | [], _ :: _, _, h => by cases h
 | _ :: _, [], _, h => by cases h
 | k :: ks, v :: vs, xs, h => by
  unfold xQ at h
  split at h
  . rename_i a l h1 h2; cases h; simp [xl h2]
  . cases h
def Vp.of : Vp -> Value -> Option (List Sc)
 | .int k, v => (match HN (some k) v with | some x => some [x] | none => none)
 | .bool, v => (match HN none v with | some x => some [x] | none => none)
 | .agg l, .agg vs => xQ l vs.toList
 | .agg _, _ => none
 | .lit w, v => if eqc w v then some [] else none
def Vp.to : Vp -> List Sc -> Value
 | .int k, x :: _ => Lb (some k) x
 | .bool, x :: _ => Lb none x
 | .agg l, xs => .agg (EV l xs).toArray
 | .lit w, _ => w
 | _, [] => undef
def Vp.size : Vp -> Nat
 | .int _ => 1
 | .bool => 1
 | .agg l => l.length
 | .lit _ => 0
theorem Vp.nY {p : Vp} {v : Value} {xs : List Sc} (h : p.of v = some xs) (r : List Sc) : p.to (xs ++ r) = v /\ xs.length = p.size := by
 unfold Vp.of at h
 split at h
 . split at h
   . rename_i x hx; cases h; exact ⟨Ar hx, rfl⟩
   . cases h
 . split at h
   . rename_i x hx; cases h; exact ⟨Ar hx, rfl⟩
   . cases h
 . rename_i l vs; refine ⟨?_, xl h⟩; simp only [Vp.to]; rw [BI h]
 . cases h
 . split at h
   . rename_i he; cases h; exact ⟨CC he, rfl⟩
   . cases h
def Bh : List Vp -> List Value -> Option (List Sc)
 | [], [] => some []
 | p :: ps, v :: vs => (match p.of v, Bh ps vs with | some a, some r => some (a ++ r) | _, _ => none)
 | _, _ => none
def Ba : List Vp -> List Sc -> List Value
 | [], _ => []
 | p :: ps, xs => p.to xs :: Ba ps (xs.drop p.size)
def nN : List Vp -> Nat
 | [] => 0
 | p :: ps => p.size + nN ps
theorem vk : ∀ {ps : List Vp} {vs : List Value} {xs : List Sc}, Bh ps vs = some xs -> ∀ r, Ba ps (xs ++ r) = vs /\ xs.length = nN ps
 | [], [], _, h, _ => by cases h; exact ⟨rfl, rfl⟩
 | [], _ :: _, _, h, _ => by cases h
 | _ :: _, [], _, h, _ => by cases h
 | p :: ps, v :: vs, xs, h, r => by
  unfold Bh at h
  split at h
  . rename_i a l h1 h2; cases h; obtain ⟨e1, e2⟩ := Vp.nY h1 (l ++ r); obtain ⟨e3, e4⟩ := vk h2 r; simp only [Ba, zaA]; refine ⟨?_, by simp [nN, e2, e4]⟩; rw [e1, <- e2, zbz, e3]
  . cases h
def sQ (fr : List Value) : List (Nat × Vp) -> Option (List Sc)
 | [] => some []
 | (i, p) :: ps => (match fr[i]? with
  | some v => (match p.of v, sQ fr ps with | some a, some r => some (a ++ r) | _, _ => none)
  | none => none)
def tJ (fr : List Value) : List (Nat × Vp) -> List Sc -> List Value
 | [], _ => fr
 | (i, p) :: ps, xs => tJ (fr.set i (p.to xs)) ps (xs.drop p.size)
def nM : List (Nat × Vp) -> Nat
 | [] => 0
 | (_, p) :: ps => p.size + nM ps
theorem tM {fr : List Value} : ∀ {ps : List (Nat × Vp)} {xs : List Sc}, sQ fr ps = some xs -> ∀ r, tJ fr ps (xs ++ r) = fr /\ xs.length = nM ps
 | [], _, h, _ => by cases h; exact ⟨rfl, rfl⟩
 | (i, p) :: ps, xs, h, r => by
  unfold sQ at h
  split at h
  . rename_i v hv
    split at h
    . rename_i a l h1 h2; cases h; obtain ⟨e1, e2⟩ := Vp.nY h1 (l ++ r); obtain ⟨e3, e4⟩ := tM h2 r; simp only [tJ, zaA]; refine ⟨?_, by simp [nM, e2, e4]⟩; rw [e1, <- e2, zbz]; have : fr.set i v = fr := by
       apply zbr; intro j; rw [zbj]
       split
       . rename_i hij; subst hij
         split
         . exact hv.symm
         . rename_i hlt; rw [zaN (by omega)] at hv; cases hv
       . rfl
      rw [this, e3]
    . cases h
  . cases h
inductive Pt where
 | e
 | n (v : Option (List Vp)) (l r : Pt)
def Pt.of : Pt -> Tr -> Option (List Sc)
 | .e, .e => some []
 | .n (some ps) l r, .n (some b) l' r' => (match Bh ps b.cells, Pt.of l l', Pt.of r r' with | some a, some c, some d => some (a ++ (c ++ d)) | _, _, _ => none)
 | .n none l r, .n none l' r' => (match Pt.of l l', Pt.of r r' with | some c, some d => some (c ++ d) | _, _ => none)
 | _, _ => none
def Pt.size : Pt -> Nat
 | .e => 0
 | .n (some ps) l r => nN ps + (l.size + r.size)
 | .n none l r => l.size + r.size
def Pt.to : Pt -> List Sc -> Tr
 | .e, _ => .e
 | .n (some ps) l r, xs => .n (some ⟨Ba ps xs⟩) (l.to (xs.drop (nN ps))) (r.to ((xs.drop (nN ps)).drop l.size))
 | .n none l r, xs => .n none (l.to xs) (r.to (xs.drop l.size))
theorem Pt.nY : ∀ {p : Pt} {t : Tr} {xs : List Sc}, p.of t = some xs -> ∀ r, p.to (xs ++ r) = t /\ xs.length = p.size
 | .e, .e, _, h, _ => by cases h; exact ⟨rfl, rfl⟩
 | .e, .n .., _, h, _ => by cases h
 | .n (some _) _ _, .e, _, h, _ => by simp [Pt.of] at h
 | .n none _ _, .e, _, h, _ => by simp [Pt.of] at h
 | .n (some ps) l r, .n (some b) l' r', xs, h, z => by
  unfold Pt.of at h
  split at h
  . rename_i a c d h1 h2 h3; cases h; obtain ⟨e1, e2⟩ := vk h1 (c ++ (d ++ z)); obtain ⟨e3, e4⟩ := Pt.nY h2 (d ++ z); obtain ⟨e5, e6⟩ := Pt.nY h3 z; simp only [Pt.to, zaA, Pt.size, zai]; refine ⟨?_, by omega⟩; rw [e1, <- e2, zbz, e3, <- e4, zbz, e5]
  . cases h
 | .n none l r, .n none l' r', xs, h, z => by
  unfold Pt.of at h
  split at h
  . rename_i c d h2 h3; cases h; obtain ⟨e3, e4⟩ := Pt.nY h2 (d ++ z); obtain ⟨e5, e6⟩ := Pt.nY h3 z; simp only [Pt.to, zaA, Pt.size, zai]; refine ⟨?_, by omega⟩; rw [e3, <- e4, zbz, e5]
  . cases h
 | .n (some _) _ _, .n none _ _, _, h, _ => by simp [Pt.of] at h
 | .n none _ _, .n (some _) _ _, _, h, _ => by simp [Pt.of] at h
structure Pat where
 len : Nat
 Ib : List (Nat × Vp)
 size : Nat
 root : Pt
def Pat.of (p : Pat) (s : St) : Option (List Sc) :=
 if s.fr.length = p.len /\ s.hp.size = p.size /\ s.hp.lock = 0 /\ s.hp.hid = [] then
  match sQ s.fr p.Ib, p.root.of s.hp.root with
  | some a, some b => some (a ++ b)
  | _, _ => none
 else none
def Pat.to (p : Pat) (g : Nat -> Value) (xs : List Sc) : St :=
 ⟨tJ ((List.range p.len).map g) p.Ib xs, ⟨p.size, p.root.to (xs.drop (nM p.Ib)), 0, []⟩⟩
theorem Pat.nY {p : Pat} {s : St} {xs : List Sc} (h : p.of s = some xs) : s = p.to (fun i => s.fr.getD i undef) xs := by
 unfold Pat.of at h
 split at h
 . rename_i hc; obtain ⟨h1, h2, h3, h4⟩ := hc
   split at h
   . rename_i a b ha hb; cases h; obtain ⟨e1, e2⟩ := tM ha b; obtain ⟨e3, e4⟩ := Pt.nY hb []; rw [zaK] at e3; have hf : (List.range p.len).map (fun i => s.fr.getD i undef) = s.fr := by
      apply zbr; intro i
      by_cases hi : i < p.len
      . have hi' : i < s.fr.length := by omega
        simp [hi, hi']
      . rw [zaN (by simp; omega), zaN (by omega)]
     unfold Pat.to; rw [hf, e1, <- e2, zbz, e3]; obtain ⟨fr, ⟨sz, rt, lk, hd⟩⟩ := s
     simp_all
   . cases h
 . cases h
structure Stop where
 tags : List Tag
 pat : Pat
 F : List Sc -> Option Value
def kks (rv : List ResultVar) (P : Program) (S : List Stop) (its : List Item) (s : St) : Option Value :=
 match its with
 | [] => (match eg P s.hp s.fr rv with | some vs => some (k8 vs) | none => none)
 | _ =>
  match S.find? fun t => decide (t.tags = its.map Item.tag) with
  | some t => (match t.pat.of s with | some xs => t.F xs | none => none)
  | none => none
section
variable {P : Program} {L : List FuncId} {T : Tab}
def Stop.eX (P : Program) (L : List FuncId) (O : bj) (rv : List ResultVar) (body : Code) (t : Stop) : Prop :=
 ∀ its s xs v, cT body its -> its.map Item.tag = t.tags -> t.pat.of s = some xs -> t.F xs = some v -> ∃ H, jf P L O rv its s (v, H)
theorem Fg {O : bj} {rv : List ResultVar} {body : Code} {S : List Stop} (hS : ∀ t ∈ S, t.eX P L O rv body) {its : List Item} {s : St} {v : Value} (ha : cT body its)
 (h : kks rv P S its s = some v) : ∃ H, jf P L O rv its s (v, H) := by
 unfold kks at h
 split at h
 . split at h
   . rename_i vs hv; cases h; exact ⟨s.hp, (.normal, s), .nil, by simp only [fin, hv]; rfl⟩
   . cases h
 . split at h
   . rename_i t ht
     split at h
     . rename_i xs hx; have := List.find?_some ht; exact hS t (List.mem_of_find?_eq_some ht) its s xs v ha (zak this).symm hx h
     . cases h
   . cases h
theorem Ct {rv : List ResultVar} {body : Code} {S : List Stop} (hS : ∀ t ∈ S, t.eX P L (bR T) rv body) {d n : Nat} {stop : List Nat -> Bool} {its : List Item} {s : St} {v : Value} (ha : cT body its)
 (h : exec P L T (rA P L T d) stop n its s (kks rv P S) = some v) : ∃ H, jf P L (bR T) rv its s (v, H) := by
 obtain ⟨its', s', hk, ha', hm⟩ := cp r8 h ha; obtain ⟨H, hw⟩ := Fg hS ha' hk; exact ⟨H, hm _ _ hw⟩
def fm (body : Code) (l : List Tag) : Option (List Item) := l.mapM (Tag.item body)
theorem iG {body : Code} : ∀ {l : List Tag} {its : List Item}, fm body l = some its -> cT body its /\ its.map Item.tag = l
 | [], its, h => by
  simp [fm] at h; subst h; exact ⟨(fun _ hi => by cases hi), rfl⟩
 | t :: l, its, h => by
  unfold fm at h; rw [List.mapM_cons] at h; cases ht : t.item body with
  | none => rw [ht] at h; cases h
  | some i =>
   rw [ht] at h; cases hl : fm body l with
   | none => unfold fm at hl; rw [hl] at h; cases h
   | some r =>
    have hl' := hl; unfold fm at hl; rw [hl] at h; cases h; obtain ⟨h1, h2⟩ := iG hl'; have hi : i.tag = t := by
     cases t with
     | code p => simp only [Tag.item] at ht; cases hn : nav body p with | none => rw [hn] at ht; cases ht | some c => rw [hn] at ht; cases ht; rfl
     | blk id => simp only [Tag.item] at ht; cases ht; rfl
     | lp p => simp only [Tag.item] at ht; cases hn : nav body (0 :: p) with | none => rw [hn] at ht; cases ht | some c => rw [hn] at ht; cases ht; rfl
     | bad => cases ht
    exact ⟨.cons (by rw [hi]; exact ht) h1, by simp [hi, h2]⟩
theorem Stop.step {rv : List ResultVar} {body : Code} {S : List Stop} {t : Stop} {p : List Nat} {rest : List Tag} {its : List Item} {b : Code} {d n : Nat} {stop : List Nat -> Bool}
 (ht : t.tags = .lp p :: rest) (hi : fm body rest = some its) (hb : nav body (0 :: p) = some b) (hS : ∀ t ∈ S, t.eX P L (bR T) rv body)
 (h : ∀ g xs v, t.F xs = some v -> exec P L T (rA P L T d) stop n (.code (0 :: p) b :: .lp p b :: its) (t.pat.to g xs) (kks rv P S) = some v) : t.eX P L (bR T) rv body := by
 intro its' s xs v ha htag hof hF; obtain ⟨a1, a2⟩ := iG hi; have hl : Tag.item body (.lp p) = some (.lp p b) := by simp [Tag.item, hb]
 have : its' = .lp p b :: its := by
  refine cT.same ha (.cons (i := .lp p b) hl a1) ?_
  rw [htag, ht]; simp [Item.tag, a2]
 subst this; have hs := Pat.nY hof; have := h (fun i => s.fr.getD i undef) xs v hF; rw [<- hs] at this; obtain ⟨H, hm⟩ := Ct hS (.cons (by simp [Item.tag, Tag.item, hb]) (.cons (i := .lp p b) hl a1)) this; exact ⟨H, hm.of fun q hq => .round hq⟩
def bj.right (P : Program) (T : Tab) : Prop := ∀ g args v, T g args = some (true, v) -> cZ P g args v
theorem bj.aq (h : bj.right P T) : jm P (bR T) := by
 refine ⟨fun g args H v H' hv => ?_, fun g args H v H' hv => ?_⟩
 . unfold bR at hv
   split at hv
   . cases hv; exact .refl H
   . cases hv
 . unfold bR at hv
   split at hv
   . rename_i w hw; cases hv; exact (h _ _ _ hw).Og H
   . cases hv
theorem FY (hmix : P.follows .mixedOrders = true) (hname : lv P = true) (hT : bj.right P T) {g : FuncId} {args : List Value} {v : Value} {fn : Func} {c : Code} {S : List Stop} {d n : Nat} {stop : List Nat -> Bool}
 (hO : T g args = none) (hg : P.funcs[g]? = some fn) (hb : fn.body = some c) (hS : ∀ t ∈ S, t.eX P L (bR T) fn.results.toList c)
 (h : exec P L T (rA P L T d) stop n [.code [] c] ⟨args ++ List.replicate (fn.ntmps - args.length) undef, nil⟩ (kks fn.results.toList P S) = some v)
 (ha : args.all plain = true) (hv : de v = true) : cZ P g args v := by
 obtain ⟨H, hm⟩ := Ct hS te h; obtain ⟨N, hc⟩ := jj (by simp only [bR, hO]) hg hb hm; exact told hmix hname (bj.aq hT) hc ha hv
def cB (P : Program) (g : Nat) : Func := P.funcs.getD g default
def il (f : Func) : Code := f.body.getD .skip
def fh (P : Program) (T : Tab) (stop : List Nat -> Bool) (f : Func) (args : List Value) (k : List Item -> St -> Option Value) : Option Value :=
 exec P [] T (rA P [] T 20) stop 100000 [.code [] (il f)] ⟨args ++ List.replicate (f.ntmps - args.length) undef, nil⟩ k
def kK (P : Program) (T : Tab) (stop : List Nat -> Bool) (body : Code) (p : List Nat) (rest : List Tag) (pat : Pat) (g : Nat -> Value) (xs : List Sc) (k : List Item -> St -> Option Value) : Option Value :=
 match nav body (0 :: p), fm body rest with
 | some b, some its => exec P [] T (rA P [] T 20) stop 100000 (.code (0 :: p) b :: .lp p b :: its) (pat.to g xs) k
 | _, _ => none
theorem Stop.QV {rv : List ResultVar} {body : Code} {S : List Stop} {t : Stop} {p : List Nat} {rest : List Tag} {stop : List Nat -> Bool}
 (ht : t.tags = .lp p :: rest) (hi : (fm body rest).isSome = true) (hb : (nav body (0 :: p)).isSome = true) (hS : ∀ t ∈ S, t.eX P [] (bR T) rv body)
 (h : ∀ g xs v, t.F xs = some v -> kK P T stop body p rest t.pat g xs (kks rv P S) = some v) : t.eX P [] (bR T) rv body := by
 obtain ⟨its, hi⟩ := zbu.1 hi; obtain ⟨b, hb⟩ := zbu.1 hb; refine Stop.step (d := 20) (n := 100000) (stop := stop) ht hi hb hS fun g xs v hF => ?_
 have := h g xs v hF; unfold kK at this; rw [hb, hi] at this; exact this
def fA : List (FuncId × (List Value -> Option (Bool × Value))) -> Tab
 | [], _, _ => none
 | (h, e) :: r, g, args => match g == h with | true => e args | false => fA r g args
def cL (P : Program) (g : FuncId) (e : List Value -> Option (Bool × Value)) : Prop := ∀ args v, e args = some (true, v) -> cZ P g args v
theorem bZ : ∀ {l : List (FuncId × (List Value -> Option (Bool × Value)))}, (∀ p ∈ l, cL P p.1 p.2) -> bj.right P (fA l)
 | [], _ => fun g args v h => by cases h
 | (i, e) :: r, hl => fun g args v h => by
  unfold fA at h
  split at h
  . rename_i hg; rw [zaE] at hg; subst hg; exact hl (g, e) (by simp) args v h
  . exact bZ (fun p hp => hl p (zaQ _ hp)) g args v h
theorem bY (hmix : P.follows .mixedOrders = true) (hname : lv P = true) (hT : bj.right P T) {g : FuncId} {args : List Value} {v : Value} {S : List Stop} {stop : List Nat -> Bool}
 (hO : T g args = none) (hg : (P.funcs[g]?).isSome = true) (hb : (cB P g).body.isSome = true) (hS : ∀ t ∈ S, t.eX P [] (bR T) (cB P g).results.toList (il (cB P g)))
 (h : fh P T stop (cB P g) args (kks (cB P g).results.toList P S) = some v)
 (ha : args.all plain = true) (hv : de v = true) : cZ P g args v := by
 obtain ⟨fn, hg⟩ := zbu.1 hg; have hf : cB P g = fn := by simp [cB, hg]
 rw [hf] at hb hS h; obtain ⟨c, hb⟩ := zbu.1 hb; have hc : il fn = c := by simp [il, hb]
 unfold fh at h; rw [hc] at hS h; exact FY hmix hname hT hO hg hb hS h ha hv
theorem aA {α : Type} {p : α -> Prop} : ∀ t ∈ ([] : List α), p t := fun _ h => by cases h
theorem aJ {α : Type} {p : α -> Prop} {a : α} {r : List α} (h : p a) (hr : ∀ t ∈ r, p t) : ∀ t ∈ a :: r, p t := by
 intro t ht; rcases zaV.1 ht with rfl | ht
 . exact h
 . exact hr t ht
def iP (ps : List Vp) (f : List Sc -> Option (Bool × Value)) : List Value -> Option (Bool × Value) := fun args =>
 match Bh ps args with
 | some xs => f xs
 | none => none
theorem cG {g : FuncId} {ps : List Vp} {f : List Sc -> Option (Bool × Value)} (h : ∀ xs v, f xs = some (true, v) -> cZ P g (Ba ps xs) v) : cL P g (iP ps f) := by
 intro args v hv; unfold iP at hv
 split at hv
 . rename_i xs hx; have := h xs v hv; have e := (vk hx []).1; rw [zaK] at e; rw [e] at this; exact this
 . cases hv
def iter (Fs : (List Sc -> Option Value) -> List Sc -> Option Value) : Nat -> List Sc -> Option Value
 | 0 => fun _ => none
 | n + 1 => Fs (iter Fs n)
theorem Stop.iter {rv : List ResultVar} {body : Code} {mk : (List Sc -> Option Value) -> Stop} {Fs : (List Sc -> Option Value) -> List Sc -> Option Value} {S : (List Sc -> Option Value) -> List Stop} {p : List Nat} {rest : List Tag} {pat : Pat} {stop : List Nat -> Bool}
 (ht : ∀ k, (mk k).tags = .lp p :: rest) (hF : ∀ k, (mk k).F = k) (hp : ∀ k, (mk k).pat = pat) (hi : (fm body rest).isSome = true) (hb : (nav body (0 :: p)).isSome = true)
 (hS : ∀ k, (mk k).eX P [] (bR T) rv body -> ∀ t ∈ S k, t.eX P [] (bR T) rv body)
 (h : ∀ k g xs v, Fs k xs = some v -> kK P T stop body p rest pat g xs (kks rv P (S k)) = some v) (n : Nat) :
 (mk (Ev.iter Fs n)).eX P [] (bR T) rv body := by
 induction n with
 | zero => exact fun its s xs v _ _ _ hv => by rw [hF] at hv; cases hv
 | succ n ih =>
  exact Stop.QV (S := S (Ev.iter Fs n)) (ht _) hi hb (hS _ ih) (by
   intro g xs v hv; rw [hF] at hv; rw [hp]; exact h _ g xs v hv)
end
end
end Go.Proofs.YtdbkoeefnodejaaGreat.Ev
namespace Go.Proofs.YtdbkoeefnodejaaGreat
noncomputable section
open Go Go.Proofs.YtdbkoeefnodejaaGreat.Ev
set_option maxRecDepth 20000
theorem wr {n : Int} (h1 : -9223372036854775808 <= n) (h2 : n <= 9223372036854775807) : IntKind.i64.wrap n = n := by rw [IntKind.wrap_i64]; omega
theorem td {a : Int} (b : Int) (h : 0 <= a) : a.tdiv b = a / b := Int.tdiv_eq_ediv_of_nonneg h
theorem tm {a : Int} (b : Int) (h : 0 <= a) : a.tmod b = a % b := Int.tmod_eq_emod_of_nonneg h
def within (a lo hi : Int) : Int := lo + a % (hi - lo + 1)
theorem bc {a lo hi : Int} (h : lo <= hi) : lo <= within a lo hi /\ within a lo hi <= hi := by
 unfold within; have := zbm a (show hi - lo + 1 ≠ 0 by omega); have := za9 a (show 0 < hi - lo + 1 by omega); omega
def q22 : List Sc -> Option (Bool × Value)
 | [.i a0, .i a1, .i a2] => some (decide (-2305843009213693952 <= a1 /\ a1 <= a2 /\ a2 <= 2305843009213693952), .int .i64 (within a0 a1 a2))
 | _ => none
def e22 : List Value -> Option (Bool × Value) := iP [.int .i64, .int .i64, .int .i64] q22
def t22 (m : Nat) (a0 : Int) (a1 : Int) (a2 : Int) : Option Value :=
 let x2 : Int := (IntKind.i64.wrap ((IntKind.i64.wrap (a2 - a1)) + 1))
 bif decide (x2 = 0) then
  none
 else
  bif (decide ((a0.tmod x2) < 0)) then
   some (.int .i64 (IntKind.i64.wrap (a1 + (IntKind.i64.wrap ((IntKind.i64.wrap ((IntKind.i64.wrap ((a0.tmod x2) + a2)) - a1)) + 1)))))
  else
   some (.int .i64 (IntKind.i64.wrap (a1 + (a0.tmod x2))))
def T22 : Tab := fA []
theorem Fy : bj.right Tryz.prog T22 := bZ aA
theorem G22 (m : Nat) (a0 : Int) (a1 : Int) (a2 : Int) : fh Tryz.prog T22 (fun _ => true) (cB Tryz.prog 22) [.int .i64 a0, .int .i64 a1, .int .i64 a2] (kks (cB Tryz.prog 22).results.toList Tryz.prog []) = t22 m a0 a1 a2 := by kernel_rfl
theorem M6 (m : Nat) (a0 : Int) (a1 : Int) (a2 : Int) {v : Value} (h : t22 m a0 a1 a2 = some v) (hv : de v = true) : cZ Tryz.prog 22 [.int .i64 a0, .int .i64 a1, .int .i64 a2] v :=
 bY (S := []) Seat.mix Seat.names Fy (by kernel_rfl) (by kernel_rfl) (by kernel_rfl)
  aA ((G22 m a0 a1 a2).trans h) rfl hv
theorem OR (a0 : Int) (a1 : Int) (a2 : Int) (hc : (decide (-2305843009213693952 <= a1 /\ a1 <= a2 /\ a2 <= 2305843009213693952)) = true) : ∃ m, t22 m a0 a1 a2 = some (.int .i64 (within a0 a1 a2)) := by
 refine ⟨0, ?_⟩; unfold t22 within; obtain ⟨h1, h2, h3⟩ := zak hc; simp only []; rw [wr (n := a2 - a1) (by omega) (by omega), wr (n := a2 - a1 + 1) (by omega) (by omega)]; generalize hw : a2 - a1 + 1 = w; have hp : 0 < w := by omega
 have e := zbm a0 (show w ≠ 0 by omega); have e2 := za9 a0 hp; simp only [show ¬ w = 0 by omega, zaR, zap]
 by_cases hn : 0 <= a0
 . rw [tm _ hn, wr (n := a1 + a0 % w) (by omega) (by omega)]; simp [show ¬ a0 % w < 0 by omega]
 . have ht : a0.tmod w = if a0 % w = 0 then 0 else a0 % w - w := by
    rw [Int.tmod_eq_emod]; have hd : (w ∣ a0) ↔ a0 % w = 0 := Int.dvd_iff_emod_eq_zero; simp only [hn, false_or, hd]
    split <;> omega
   rw [ht]
   by_cases hz : a0 % w = 0
   . rw [if_pos hz, hz, wr (n := a1 + 0) (by omega) (by omega)]; simp
   . rw [if_neg hz]; clear ht; rw [wr (n := a0 % w - w + a2) (by omega) (by omega), wr (n := a0 % w - w + a2 - a1) (by omega) (by omega), wr (n := a0 % w - w + a2 - a1 + 1) (by omega) (by omega)]; rw [show a0 % w - w + a2 - a1 + 1 = a0 % w by omega, wr (n := a1 + a0 % w) (by omega) (by omega)]; simp [show a0 % w - w < 0 by omega]
theorem Mv : cL Tryz.prog 22 e22 := cG (by
 intro xs v h; unfold q22 at h
 split at h
 . rename_i a0 a1 a2; simp only [zaj, zaO] at h; obtain ⟨hc, rfl⟩ := h; obtain ⟨m, hm⟩ := OR a0 a1 a2 hc; exact M6 m a0 a1 a2 hm rfl
 . cases h)
theorem mJ (n : Int) : IntKind.u64.wrap n = n % 18446744073709551616 := by
 unfold IntKind.wrap; simp [IntKind.bits, IntKind.signed]
theorem LZ (n : Int) : IntKind.u8.wrap n = n % 256 := by
 unfold IntKind.wrap; simp [IntKind.bits, IntKind.signed]
theorem wu {n : Int} (h1 : 0 <= n) (h2 : n < 18446744073709551616) : IntKind.u64.wrap n = n := by rw [mJ]; omega
theorem ns {x : Int} (h1 : 0 <= x) (h2 : x < 18446744073709551616) : ((BitVec.ofInt 64 x &&& BitVec.ofInt 64 4294967295).toNat : Int) = x % 4294967296 := by
 obtain ⟨n, rfl⟩ := zbA h1; have e : (BitVec.ofInt 64 (n : Int) &&& BitVec.ofInt 64 4294967295).toNat = n % 4294967296 := by
  rw [BitVec.toNat_and]; have a : (BitVec.ofInt 64 (n : Int)).toNat = n := by
   rw [BitVec.toNat_ofInt]; omega
  have b : (BitVec.ofInt 64 4294967295).toNat = 2 ^ 32 - 1 := by decide
  rw [a, b, Nat.and_two_pow_sub_one_eq_mod]
 rw [e]; omega
theorem Jm {x : Int} (h1 : -9223372036854775808 <= x) (h2 : x < 18446744073709551616) : ((BitVec.ofInt 64 x &&& BitVec.ofInt 64 1).toNat : Int) = x % 2 := by
 have e : (BitVec.ofInt 64 x &&& BitVec.ofInt 64 1).toNat = (x % 18446744073709551616).toNat % 2 := by
  rw [BitVec.toNat_and]; have a : (BitVec.ofInt 64 x).toNat = (x % 18446744073709551616).toNat := by
   rw [BitVec.toNat_ofInt]; rfl
  have b : (BitVec.ofInt 64 1).toNat = 2 ^ 1 - 1 := by decide
  rw [a, b, Nat.and_two_pow_sub_one_eq_mod]
 rw [e]; omega
theorem fd {a b : Int} (h : 0 <= b) : a.fdiv b = a / b := Int.fdiv_eq_ediv_of_nonneg a h
theorem OQ {a : Int} : a.fdiv (2 ^ (min (32 : Int).toNat 64)) = a / 4294967296 := fd (by decide)
theorem RR {a : Int} : a.fdiv (2 ^ (min (16 : Int).toNat 64)) = a / 65536 := fd (by decide)
theorem fd8 {a : Int} : a.fdiv (2 ^ (min (8 : Int).toNat 64)) = a / 256 := fd (by decide)
def gM (x : Int) : Int := if x <= 0 then 0 else Nat.log2 x.toNat + 1
theorem lA {x : Int} (k : Nat) (h : 2 ^ k <= x) : gM x = k + gM (x / 2 ^ k) := by
 obtain ⟨n, rfl⟩ := zbA (show 0 <= x by have : (0:Int) < 2 ^ k := Int.pow_pos (by decide); omega); have hk : 2 ^ k <= n := by exact_mod_cast h
 have hp : 0 < 2 ^ k := Nat.two_pow_pos k; have hq : 0 < n / 2 ^ k := Nat.div_pos hk hp; have e : ((n : Int) / 2 ^ k) = ((n / 2 ^ k : Nat) : Int) := by simp
 unfold gM; rw [e, if_neg (by omega), if_neg (by omega)]; simp only [zaC]; have hl : Nat.log2 n = k + Nat.log2 (n / 2 ^ k) := by
  rw [Nat.log2_eq_iff (by omega)]; have a := Nat.log2_self_le (n := n / 2 ^ k) (by omega); have b := Nat.lt_log2_self (n := n / 2 ^ k); have c := Nat.mul_div_le n (2 ^ k); have d := Nat.lt_mul_div_succ n hp; refine ⟨?_, ?_⟩
  . rw [Nat.pow_add]; exact zax (Nat.mul_le_mul_left _ a) c
  . rw [zbi, Nat.pow_add]; exact zat d (Nat.mul_le_mul_left _ b)
 omega
theorem GB {k : Nat} {a b : Int} (h0 : 0 <= a) (h1 : 0 <= b) (h2 : b < 2 ^ k) (h3 : a * 2 ^ k + b < 18446744073709551616) : ((BitVec.ofInt 64 (a * 2 ^ k) ||| BitVec.ofInt 64 b).toNat : Int) = a * 2 ^ k + b := by
 obtain ⟨n, rfl⟩ := zbA h0; obtain ⟨m, rfl⟩ := zbA h1; have e0 : ((n : Int) * 2 ^ k) = ((n * 2 ^ k : Nat) : Int) := by simp
 have hm : m < 2 ^ k := by exact_mod_cast h2
 rw [e0] at h3 ⊢; have hb : n * 2 ^ k + m < 18446744073709551616 := by omega
 have a1 : (BitVec.ofInt 64 ((n * 2 ^ k : Nat) : Int)).toNat = n * 2 ^ k := by rw [BitVec.toNat_ofInt]; omega
 have a2 : (BitVec.ofInt 64 (m : Int)).toNat = m := by rw [BitVec.toNat_ofInt]; omega
 rw [BitVec.toNat_or, a1, a2, Nat.mul_comm, <- Nat.two_pow_add_eq_or_of_lt hm]; rfl
theorem GW {x : Int} (h1 : 0 < x) (h2 : x < 18446744073709551616) : ∃ k : Nat, gM x = 64 - k /\ k < 64 /\ 9223372036854775808 <= x * 2 ^ k /\ x * 2 ^ k < 18446744073709551616 := by
 obtain ⟨n, rfl⟩ := zbA (show 0 <= x by omega); have hn : n ≠ 0 := by omega
 have hl : Nat.log2 n < 64 := (Nat.log2_lt hn).2 (by omega); have ha := Nat.log2_self_le hn; have hb := Nat.lt_log2_self (n := n); refine ⟨63 - Nat.log2 n, ?_, by omega, ?_, ?_⟩
 . unfold gM; rw [if_neg (by omega)]; simp only [zaC]; omega
 . have : 2 ^ 63 <= n * 2 ^ (63 - Nat.log2 n) := by
    calc 2 ^ 63 = 2 ^ (Nat.log2 n) * 2 ^ (63 - Nat.log2 n) := by rw [<- Nat.pow_add]; congr 1; omega
     _ <= _ := zaP _ ha
   have e : ((n : Int) * 2 ^ (63 - Nat.log2 n)) = ((n * 2 ^ (63 - Nat.log2 n) : Nat) : Int) := by simp
   rw [e]; omega
 . have : n * 2 ^ (63 - Nat.log2 n) < 2 ^ 64 := by
    calc n * 2 ^ (63 - Nat.log2 n) < 2 ^ (Nat.log2 n + 1) * 2 ^ (63 - Nat.log2 n) := Nat.mul_lt_mul_of_pos_right hb (Nat.two_pow_pos _)
     _ = 2 ^ 64 := by rw [<- Nat.pow_add]; congr 1; omega
   have e : ((n : Int) * 2 ^ (63 - Nat.log2 n)) = ((n * 2 ^ (63 - Nat.log2 n) : Nat) : Int) := by simp
   rw [e]; omega
def kD : ByteArray := ⟨#[0, 1, 2, 2, 3, 3, 3, 3, 4, 4, 4, 4, 4, 4, 4, 4, 5, 5, 5, 5, 5, 5, 5, 5, 5, 5, 5, 5, 5, 5, 5, 5, 6, 6, 6, 6, 6, 6, 6, 6, 6, 6, 6, 6, 6, 6, 6, 6, 6, 6, 6, 6, 6, 6, 6, 6, 6, 6, 6, 6, 6, 6, 6, 6, 7, 7, 7, 7, 7, 7, 7, 7, 7, 7, 7, 7, 7, 7, 7, 7, 7, 7, 7, 7, 7, 7, 7, 7, 7, 7, 7, 7, 7, 7, 7, 7, 7, 7, 7, 7, 7, 7, 7, 7, 7, 7, 7, 7, 7, 7, 7, 7, 7, 7, 7, 7, 7, 7, 7, 7, 7, 7, 7, 7, 7, 7, 7, 7, 8, 8, 8, 8, 8, 8, 8, 8, 8, 8, 8, 8, 8, 8, 8, 8, 8, 8, 8, 8, 8, 8, 8, 8, 8, 8, 8, 8, 8, 8, 8, 8, 8, 8, 8, 8, 8, 8, 8, 8, 8, 8, 8, 8, 8, 8, 8, 8, 8, 8, 8, 8, 8, 8, 8, 8, 8, 8, 8, 8, 8, 8, 8, 8, 8, 8, 8, 8, 8, 8, 8, 8, 8, 8, 8, 8, 8, 8, 8, 8, 8, 8, 8, 8, 8, 8, 8, 8, 8, 8, 8, 8, 8, 8, 8, 8, 8, 8, 8, 8, 8, 8, 8, 8, 8, 8, 8, 8, 8, 8, 8, 8, 8, 8, 8, 8, 8, 8, 8, 8, 8, 8, 8, 8, 8, 8, 8, 8]⟩
theorem Jp : ∀ n : Fin 256, ((kD.data.getD n.val 0).toNat : Int) = gM n.val := by decide +kernel
theorem GR {x : Int} {k : Nat} (h : x < 2 ^ k) : 0 <= gM x /\ gM x <= k := by
 unfold gM
 split
 . omega
 . rename_i hx; obtain ⟨n, rfl⟩ := zbA (show 0 <= x by omega); have hn : n ≠ 0 := by omega
   have : n < 2 ^ k := by exact_mod_cast h
   have := (Nat.log2_lt hn).2 this; simp only [zaC]; omega
theorem iR {x c : Int} (h1 : 0 <= x) (h2 : x < 256) (h3 : 0 <= c) (h4 : c <= 56) : (bif decide (0 <= (IntKind.u8.wrap x) /\ ((IntKind.u8.wrap x)).toNat < kD.data.size) then
 some (Value.int .i64 (IntKind.i64.wrap (c + (IntKind.i64.wrap (((kD.data.getD ((IntKind.u8.wrap x)).toNat 0).toNat : Nat) : Int))))) else none) = some (.int .i64 (c + gM x)) := by
 have e : IntKind.u8.wrap x = x := by rw [LZ]; omega
 have hs : kD.data.size = 256 := by kernel_rfl
 have hl := GR (x := x) (k := 8) (by omega); obtain ⟨n, rfl⟩ := zbA h1; have ht := Jp ⟨n, by omega⟩; rw [e, hs]; simp only [zaC] at ht ⊢; rw [ht, wr (n := gM n) (by omega) (by omega), wr (n := c + gM n) (by omega) (by omega)]; simp [show n < 256 by omega]
def QS : List Sc -> Option (Bool × Value)
 | [.i a0] => some (decide (0 <= a0 /\ a0 < 18446744073709551616), .int .i64 (gM a0))
 | _ => none
def QI : List Value -> Option (Bool × Value) := iP [.int .u64] QS
def t173 (m : Nat) (a0 : Int) : Option Value :=
 bif (decide (a0 >= 4294967296)) then
  let x2 : Int := (a0.fdiv (2 ^ (min (32 : Int).toNat 64)))
  bif decide (x2 >= 65536) then
   let x3 : Int := (x2.fdiv (2 ^ (min (16 : Int).toNat 64)))
   bif decide (x3 >= 256) then
    let x4 : Int := (x3.fdiv (2 ^ (min (8 : Int).toNat 64)))
    bif decide (0 <= (IntKind.u8.wrap x4) /\ ((IntKind.u8.wrap x4)).toNat < kD.data.size) then
     some (.int .i64 (IntKind.i64.wrap (56 + (IntKind.i64.wrap (((kD.data.getD ((IntKind.u8.wrap x4)).toNat 0).toNat : Nat) : Int)))))
    else
     none
   else
    bif decide (0 <= (IntKind.u8.wrap x3) /\ ((IntKind.u8.wrap x3)).toNat < kD.data.size) then
     some (.int .i64 (IntKind.i64.wrap (48 + (IntKind.i64.wrap (((kD.data.getD ((IntKind.u8.wrap x3)).toNat 0).toNat : Nat) : Int)))))
    else
     none
  else
   bif decide (x2 >= 256) then
    let x9 : Int := (x2.fdiv (2 ^ (min (8 : Int).toNat 64)))
    bif decide (0 <= (IntKind.u8.wrap x9) /\ ((IntKind.u8.wrap x9)).toNat < kD.data.size) then
     some (.int .i64 (IntKind.i64.wrap (40 + (IntKind.i64.wrap (((kD.data.getD ((IntKind.u8.wrap x9)).toNat 0).toNat : Nat) : Int)))))
    else
     none
   else
    bif decide (0 <= (IntKind.u8.wrap x2) /\ ((IntKind.u8.wrap x2)).toNat < kD.data.size) then
     some (.int .i64 (IntKind.i64.wrap (32 + (IntKind.i64.wrap (((kD.data.getD ((IntKind.u8.wrap x2)).toNat 0).toNat : Nat) : Int)))))
    else
     none
 else
  bif decide (a0 >= 65536) then
   let x14 : Int := (a0.fdiv (2 ^ (min (16 : Int).toNat 64)))
   bif decide (x14 >= 256) then
    let x15 : Int := (x14.fdiv (2 ^ (min (8 : Int).toNat 64)))
    bif decide (0 <= (IntKind.u8.wrap x15) /\ ((IntKind.u8.wrap x15)).toNat < kD.data.size) then
     some (.int .i64 (IntKind.i64.wrap (24 + (IntKind.i64.wrap (((kD.data.getD ((IntKind.u8.wrap x15)).toNat 0).toNat : Nat) : Int)))))
    else
     none
   else
    bif decide (0 <= (IntKind.u8.wrap x14) /\ ((IntKind.u8.wrap x14)).toNat < kD.data.size) then
     some (.int .i64 (IntKind.i64.wrap (16 + (IntKind.i64.wrap (((kD.data.getD ((IntKind.u8.wrap x14)).toNat 0).toNat : Nat) : Int)))))
    else
     none
  else
   bif decide (a0 >= 256) then
    let x20 : Int := (a0.fdiv (2 ^ (min (8 : Int).toNat 64)))
    bif decide (0 <= (IntKind.u8.wrap x20) /\ ((IntKind.u8.wrap x20)).toNat < kD.data.size) then
     some (.int .i64 (IntKind.i64.wrap (8 + (IntKind.i64.wrap (((kD.data.getD ((IntKind.u8.wrap x20)).toNat 0).toNat : Nat) : Int)))))
    else
     none
   else
    bif decide (0 <= (IntKind.u8.wrap a0) /\ ((IntKind.u8.wrap a0)).toNat < kD.data.size) then
     some (.int .i64 (IntKind.i64.wrap (0 + (IntKind.i64.wrap (((kD.data.getD ((IntKind.u8.wrap a0)).toNat 0).toNat : Nat) : Int)))))
    else
     none
def RF : Tab := fA []
theorem CW : bj.right Tryz.prog RF := bZ aA
theorem RZ (m : Nat) (a0 : Int) : fh Tryz.prog RF (fun _ => true) (cB Tryz.prog 173) [.int .u64 a0] (kks (cB Tryz.prog 173).results.toList Tryz.prog []) = t173 m a0 := by kernel_rfl
theorem JK (m : Nat) (a0 : Int) {v : Value} (h : t173 m a0 = some v) (hv : de v = true) : cZ Tryz.prog 173 [.int .u64 a0] v :=
 bY (S := []) Seat.mix Seat.names CW (by kernel_rfl) (by kernel_rfl) (by kernel_rfl)
  aA ((RZ m a0).trans h) rfl hv
theorem Js (a0 : Int) (hc : (decide (0 <= a0 /\ a0 < 18446744073709551616)) = true) : ∃ m, t173 m a0 = some (.int .i64 (gM a0)) := by
 obtain ⟨h0, h1⟩ := zak hc; refine ⟨0, ?_⟩; unfold t173; simp only [OQ, RR, fd8]
 by_cases c1 : a0 >= 4294967296
 . have e1 := lA (x := a0) 32 (by omega); simp only [c1, zaW, zaG]
   by_cases c2 : a0 / 4294967296 >= 65536
   . have e2 := lA (x := a0 / 4294967296) 16 (by omega); simp only [c2, zaW, zaG]
     by_cases c3 : a0 / 4294967296 / 65536 >= 256
     . have e3 := lA (x := a0 / 4294967296 / 65536) 8 (by omega); simp only [c3, zaW, zaG]; rw [iR (by omega) (by omega) (by omega) (by omega), e1]; simp only [show ((2 : Int) ^ 32) = 4294967296 by rfl, show ((2 : Int) ^ 16) = 65536 by rfl, show ((2 : Int) ^ 8) = 256 by rfl] at *
       rw [e2, e3]; congr 2; omega
     . simp only [c3, zaR, zap]; rw [iR (by omega) (by omega) (by omega) (by omega), e1]; simp only [show ((2 : Int) ^ 32) = 4294967296 by rfl, show ((2 : Int) ^ 16) = 65536 by rfl] at *
       rw [e2]; congr 2; omega
   . simp only [c2, zaR, zap]
     by_cases c3 : a0 / 4294967296 >= 256
     . have e3 := lA (x := a0 / 4294967296) 8 (by omega); simp only [c3, zaW, zaG]; rw [iR (by omega) (by omega) (by omega) (by omega), e1]; simp only [show ((2 : Int) ^ 32) = 4294967296 by rfl, show ((2 : Int) ^ 8) = 256 by rfl] at *
       rw [e3]; congr 2; omega
     . simp only [c3, zaR, zap]; rw [iR (by omega) (by omega) (by omega) (by omega), e1]; simp only [show ((2 : Int) ^ 32) = 4294967296 by rfl] at *
       congr 2
 . simp only [c1, zaR, zap]
   by_cases c2 : a0 >= 65536
   . have e2 := lA (x := a0) 16 (by omega); simp only [c2, zaW, zaG]
     by_cases c3 : a0 / 65536 >= 256
     . have e3 := lA (x := a0 / 65536) 8 (by omega); simp only [c3, zaW, zaG]; rw [iR (by omega) (by omega) (by omega) (by omega), e2]; simp only [show ((2 : Int) ^ 16) = 65536 by rfl, show ((2 : Int) ^ 8) = 256 by rfl] at *
       rw [e3]; congr 2; omega
     . simp only [c3, zaR, zap]; rw [iR (by omega) (by omega) (by omega) (by omega), e2]; simp only [show ((2 : Int) ^ 16) = 65536 by rfl] at *
       congr 2
   . simp only [c2, zaR, zap]
     by_cases c3 : a0 >= 256
     . have e3 := lA (x := a0) 8 (by omega); simp only [c3, zaW, zaG]; rw [iR (by omega) (by omega) (by omega) (by omega), e3]; simp only [show ((2 : Int) ^ 8) = 256 by rfl] at *
       congr 2
     . simp only [c3, zaR, zap]; rw [iR (by omega) (by omega) (by omega) (by omega)]
       congr 2; omega
theorem Gf : cL Tryz.prog 173 QI := cG (by
 intro xs v h; unfold QS at h
 split at h
 . rename_i a0; simp only [zaj, zaO] at h; obtain ⟨hc, rfl⟩ := h; obtain ⟨m, hm⟩ := Js a0 hc; exact JK m a0 hm rfl
 . cases h)
def Qb : List Sc -> Option (Bool × Value)
 | [.i a0] => some (decide (0 <= a0 /\ a0 < 18446744073709551616), .int .i64 (64 - gM a0))
 | _ => none
def RG : List Value -> Option (Bool × Value) := iP [.int .u64] Qb
def t171 (m : Nat) (a0 : Int) : Option Value :=
 bif decide (0 <= a0 /\ a0 < 18446744073709551616) then
  some (.int .i64 (IntKind.i64.wrap (64 - (gM a0))))
 else
  none
def P4 : Tab := fA [(173, QI)]
theorem Dg : bj.right Tryz.prog P4 := bZ (aJ Gf aA)
theorem RT (m : Nat) (a0 : Int) : fh Tryz.prog P4 (fun _ => true) (cB Tryz.prog 171) [.int .u64 a0] (kks (cB Tryz.prog 171).results.toList Tryz.prog []) = t171 m a0 := by kernel_rfl
theorem LA (m : Nat) (a0 : Int) {v : Value} (h : t171 m a0 = some v) (hv : de v = true) : cZ Tryz.prog 171 [.int .u64 a0] v :=
 bY (S := []) Seat.mix Seat.names Dg (by kernel_rfl) (by kernel_rfl) (by kernel_rfl)
  aA ((RT m a0).trans h) rfl hv
theorem Li (a0 : Int) (hc : (decide (0 <= a0 /\ a0 < 18446744073709551616)) = true) : ∃ m, t171 m a0 = some (.int .i64 (64 - gM a0)) := by
 obtain ⟨h0, h1⟩ := zak hc; refine ⟨0, ?_⟩; unfold t171; have := GR (x := a0) (k := 64) (by omega); simp only [h0, h1, and_self, zaW, zaG]; rw [wr (by omega) (by omega)]
theorem IB : cL Tryz.prog 171 RG := cG (by
 intro xs v h; unfold Qb at h
 split at h
 . rename_i a0; simp only [zaj, zaO] at h; obtain ⟨hc, rfl⟩ := h; obtain ⟨m, hm⟩ := Li a0 hc; exact LA m a0 hm rfl
 . cases h)
theorem kh {a b : Int} {m n : Int} (h1 : 0 <= a) (h2 : a <= m) (h3 : 0 <= b) (h4 : b <= n) : 0 <= a * b /\ a * b <= m * n :=
 ⟨zaZ h1 h3, Int.mul_le_mul h2 h4 h3 (by omega)⟩
def QJ : List Sc -> Option (Bool × Value)
 | [.i a0, .i a1] => some (decide (0 <= a0 /\ a0 < 18446744073709551616 /\ 0 <= a1 /\ a1 < 18446744073709551616), .tuple #[.int .u64 (a0 * a1 / 18446744073709551616), .int .u64 (a0 * a1 % 18446744073709551616)])
 | _ => none
def Rs : List Value -> Option (Bool × Value) := iP [.int .u64, .int .u64] QJ
def t163 (m : Nat) (a0 : Int) (a1 : Int) : Option Value :=
 let x1 : Int := (IntKind.u64.wrap ((BitVec.ofInt 64 a0 &&& BitVec.ofInt 64 4294967295).toNat))
 let x2 : Int := (a0.fdiv (2 ^ (min (32 : Int).toNat 64)))
 let x3 : Int := (IntKind.u64.wrap ((BitVec.ofInt 64 a1 &&& BitVec.ofInt 64 4294967295).toNat))
 let x4 : Int := (a1.fdiv (2 ^ (min (32 : Int).toNat 64)))
 let x8 : Int := (IntKind.u64.wrap ((IntKind.u64.wrap (x2 * x3)) + ((IntKind.u64.wrap (x1 * x3)).fdiv (2 ^ (min (32 : Int).toNat 64)))))
 some (.tuple #[.int .u64 (IntKind.u64.wrap ((IntKind.u64.wrap ((IntKind.u64.wrap (x2 * x4)) + (x8.fdiv (2 ^ (min (32 : Int).toNat 64))))) + ((IntKind.u64.wrap ((IntKind.u64.wrap ((BitVec.ofInt 64 x8 &&& BitVec.ofInt 64 4294967295).toNat)) + (IntKind.u64.wrap (x1 * x4)))).fdiv (2 ^ (min (32 : Int).toNat 64))))), .int .u64 (IntKind.u64.wrap (a0 * a1))])
def Rg : Tab := fA []
theorem CN : bj.right Tryz.prog Rg := bZ aA
theorem R5 (m : Nat) (a0 : Int) (a1 : Int) : fh Tryz.prog Rg (fun _ => true) (cB Tryz.prog 163) [.int .u64 a0, .int .u64 a1] (kks (cB Tryz.prog 163).results.toList Tryz.prog []) = t163 m a0 a1 := by kernel_rfl
theorem JS (m : Nat) (a0 : Int) (a1 : Int) {v : Value} (h : t163 m a0 a1 = some v) (hv : de v = true) : cZ Tryz.prog 163 [.int .u64 a0, .int .u64 a1] v :=
 bY (S := []) Seat.mix Seat.names CN (by kernel_rfl) (by kernel_rfl) (by kernel_rfl)
  aA ((R5 m a0 a1).trans h) rfl hv
theorem Ki (a0 : Int) (a1 : Int) (hc : (decide (0 <= a0 /\ a0 < 18446744073709551616 /\ 0 <= a1 /\ a1 < 18446744073709551616)) = true) : ∃ m, t163 m a0 a1 = some (.tuple #[.int .u64 (a0 * a1 / 18446744073709551616), .int .u64 (a0 * a1 % 18446744073709551616)]) := by
 obtain ⟨h0, h1, h2, h3⟩ := zak hc; refine ⟨0, ?_⟩; unfold t163; simp only [OQ]; rw [ns h0 h1, ns h2 h3]; have e1 : a0 = a0 / 4294967296 * 4294967296 + a0 % 4294967296 := by omega
 have e2 : a1 = a1 / 4294967296 * 4294967296 + a1 % 4294967296 := by omega
 have b1 : 0 <= a0 % 4294967296 /\ a0 % 4294967296 <= 4294967295 := by omega
 have b2 : 0 <= a0 / 4294967296 /\ a0 / 4294967296 <= 4294967295 := by omega
 have b3 : 0 <= a1 % 4294967296 /\ a1 % 4294967296 <= 4294967295 := by omega
 have b4 : 0 <= a1 / 4294967296 /\ a1 / 4294967296 <= 4294967295 := by omega
 rw [wu (n := a0 % 4294967296) (by omega) (by omega), wu (n := a1 % 4294967296) (by omega) (by omega)]; have lo : IntKind.u64.wrap (a0 * a1) = a0 * a1 % 18446744073709551616 := mJ _; rw [lo]; clear lo; have hp : a0 * a1 = a0 / 4294967296 * (a1 / 4294967296) * 18446744073709551616 + (a0 / 4294967296 * (a1 % 4294967296) + a0 % 4294967296 * (a1 / 4294967296)) * 4294967296 + a0 % 4294967296 * (a1 % 4294967296) := by
  conv => lhs; rw [e1, e2]
  generalize a0 / 4294967296 = p, a0 % 4294967296 = q, a1 / 4294967296 = r, a1 % 4294967296 = s; rw [zbQ, zb0, zb0]; have u1 : p * 4294967296 * (r * 4294967296) = p * r * 18446744073709551616 := by rw [zbF, Int.mul_left_comm 4294967296 r, <- zbF p r]; rfl
  have u2 : p * 4294967296 * s = p * s * 4294967296 := by rw [zbF, zbb 4294967296 s, <- zbF]
  have u3 : q * (r * 4294967296) = q * r * 4294967296 := by rw [<- zbF]
  omega
 generalize a0 * a1 = z at *
 have m1 := kh b1.1 b1.2 b3.1 b3.2; have m2 := kh b2.1 b2.2 b3.1 b3.2; have m3 := kh b1.1 b1.2 b4.1 b4.2; have m4 := kh b2.1 b2.2 b4.1 b4.2; generalize a0 % 4294967296 * (a1 % 4294967296) = x at *
 generalize a0 / 4294967296 * (a1 % 4294967296) = y at *
 generalize a0 % 4294967296 * (a1 / 4294967296) = u at *
 generalize a0 / 4294967296 * (a1 / 4294967296) = v at *
 rw [wu (n := x) (by omega) (by omega), wu (n := y) (by omega) (by omega), wu (n := y + x / 4294967296) (by omega) (by omega), ns (x := y + x / 4294967296) (by omega) (by omega),
  wu (n := (y + x / 4294967296) % 4294967296) (by omega) (by omega), wu (n := u) (by omega) (by omega), wu (n := v) (by omega) (by omega), wu (n := v + (y + x / 4294967296) / 4294967296) (by omega) (by omega),
  wu (n := (y + x / 4294967296) % 4294967296 + u) (by omega) (by omega), wu (by omega) (by omega)]
 have : v + (y + x / 4294967296) / 4294967296 + ((y + x / 4294967296) % 4294967296 + u) / 4294967296 = z / 18446744073709551616 := by omega
 rw [this]
theorem IA : cL Tryz.prog 163 Rs := cG (by
 intro xs v h; unfold QJ at h
 split at h
 . rename_i a0 a1; simp only [zaj, zaO] at h; obtain ⟨hc, rfl⟩ := h; obtain ⟨m, hm⟩ := Ki a0 a1 hc; exact JS m a0 a1 hm rfl
 . cases h)
theorem lJ {v v1 v0 U d q r : Int} (hv : v = v1 * 4294967296 + v0) (hvp : 0 < v) (hU : U = q * v1 + r) : (U * 4294967296 + d) / v < q ↔ r * 4294967296 + d < q * v0 := by
 rw [zbU hvp, hv, hU, zb0, zbQ, <- zbF]; omega
theorem pI {v U d : Int} (hvp : 0 < v) (hU0 : 0 <= U) (hU : U < v) (hd0 : 0 <= d) (hd : d < 4294967296) : 0 <= (U * 4294967296 + d) / v /\ (U * 4294967296 + d) / v < 4294967296 := by
 refine ⟨zbw (by omega) (by omega), ?_⟩; rw [zbU hvp, zbb 4294967296 v]; omega
theorem rz {v v1 v0 U : Int} (hv : v = v1 * 4294967296 + v0) (h1 : 2147483648 <= v1) (h0 : v0 < 4294967296) (hU0 : 0 <= U) (hU : U < v) : 0 <= U / v1 /\ U / v1 <= 4294967297 := by
 refine ⟨zbw hU0 (by omega), ?_⟩; have : U / v1 < 4294967298 := by
  rw [zbU (by omega)]; omega
 omega
theorem Bg {v v1 v0 U d : Int} (hv : v = v1 * 4294967296 + v0) (h1 : 0 < v1) (hvp : 0 < v) (h00 : 0 <= v0) (hU0 : 0 <= U) (hd0 : 0 <= d) (hd : d < 4294967296) : (U * 4294967296 + d) / v <= U / v1 := by
 have e : U = U / v1 * v1 + U % v1 := by have := zbe U v1; rw [zbb] at this; omega
 have hm := za9 U h1; have hq : 0 <= U / v1 := zbw hU0 (by omega); have : (U * 4294967296 + d) / v < U / v1 + 1 := by
  rw [zbU hvp, hv, zb0, zbQ (U / v1), <- zbF, zbQ]; have : 0 <= U / v1 * v0 := zaZ hq h00; have e2 : (U / v1) * v1 = U - U % v1 := by omega
  rw [e2]; omega
 omega
theorem ug {v U d z : Int} (hz : z = (U * 4294967296 + d) / v * v) (hvp : 0 < v) (hv : v < 18446744073709551616) (hd0 : 0 <= d) (hd : d < 4294967296) :
 IntKind.u64.wrap (IntKind.u64.wrap (IntKind.u64.wrap (U * 4294967296) + d) - IntKind.u64.wrap z) = (U * 4294967296 + d) % v := by
 have h1 := zbm (U * 4294967296 + d) (show v ≠ 0 by omega); have h2 := za9 (U * 4294967296 + d) hvp; have h3 := zbe (U * 4294967296 + d) v; rw [zbb, <- hz] at h3; simp only [mJ]; omega
def RE : List Sc -> Option (Bool × Value)
 | [.i a0, .i a1, .i a2] => some (decide (0 <= a0 /\ a0 < a2 /\ a2 < 18446744073709551616 /\ 0 <= a1 /\ a1 < 18446744073709551616), .tuple #[.int .u64 ((a0 * 18446744073709551616 + a1) / a2), .int .u64 ((a0 * 18446744073709551616 + a1) % a2)])
 | _ => none
def QX : List Value -> Option (Bool × Value) := iP [.int .u64, .int .u64, .int .u64] RE
def lN (m : Nat) (k : List Sc -> Option Value) : List Sc -> Option Value
 | [.i a0, .i a1, .i a2, .i a3, .i a4, .i a5, .i a6, .i a7, .i a8] =>
  bif (decide (a8 >= 4294967296)) then
   let x48 : Int := (IntKind.u64.wrap (a8 - 1))
   let x49 : Int := (IntKind.u64.wrap (a6 + a2))
   bif (decide (x49 >= 4294967296)) then
    bif decide (a1 < 0) then
     none
    else
     some (.tuple #[.int .u64 (IntKind.u64.wrap ((IntKind.u64.wrap (a5 * 4294967296)) + x48)), .int .u64 ((IntKind.u64.wrap ((IntKind.u64.wrap ((IntKind.u64.wrap (a7 * 4294967296)) + a4)) - (IntKind.u64.wrap (x48 * a0)))).fdiv (2 ^ (min a1.toNat 64)))])
   else
    k [.i a0, .i a1, .i a2, .i a3, .i a4, .i a5, .i x49, .i a7, .i x48]
  else
   bif decide ((IntKind.u64.wrap (a8 * a3)) > (IntKind.u64.wrap ((IntKind.u64.wrap (4294967296 * a6)) + a4))) then
    let x61 : Int := (IntKind.u64.wrap (a8 - 1))
    let x62 : Int := (IntKind.u64.wrap (a6 + a2))
    bif (decide (x62 >= 4294967296)) then
     bif decide (a1 < 0) then
      none
     else
      some (.tuple #[.int .u64 (IntKind.u64.wrap ((IntKind.u64.wrap (a5 * 4294967296)) + x61)), .int .u64 ((IntKind.u64.wrap ((IntKind.u64.wrap ((IntKind.u64.wrap (a7 * 4294967296)) + a4)) - (IntKind.u64.wrap (x61 * a0)))).fdiv (2 ^ (min a1.toNat 64)))])
    else
     k [.i a0, .i a1, .i a2, .i a3, .i a4, .i a5, .i x62, .i a7, .i x61]
   else
    bif decide (a1 < 0) then
     none
    else
     some (.tuple #[.int .u64 (IntKind.u64.wrap ((IntKind.u64.wrap (a5 * 4294967296)) + a8)), .int .u64 ((IntKind.u64.wrap ((IntKind.u64.wrap ((IntKind.u64.wrap (a7 * 4294967296)) + a4)) - (IntKind.u64.wrap (a8 * a0)))).fdiv (2 ^ (min a1.toNat 64)))])
 | _ => none
def jz (m : Nat) : Nat -> List Sc -> Option Value := iter (lN m)
theorem Ca (m : Nat) (n : Nat) : jz m (n + 1) = lN m (jz m n) := rfl
def mq (F : List Sc -> Option Value) : Stop := ⟨[.lp [0, 0, 1, 1, 1, 1, 1, 1, 1, 1, 1, 1, 1, 1, 1, 1, 1, 1, 1, 1], .blk 2, .code [1, 1, 1, 1, 1, 1, 1, 1, 1, 1, 1, 1, 1, 1, 1, 1, 1, 1, 1]], ⟨135, [(2, .int .u64), (8, .int .u64), (9, .int .u64), (10, .int .u64), (14, .int .u64), (15, .int .u64), (16, .int .u64), (17, .int .u64), (18, .int .u64)], 0, .e⟩, F⟩
def lF (m : Nat) (k : List Sc -> Option Value) : List Sc -> Option Value
 | [.i a0, .i a1, .i a2, .i a3, .i a4, .i a5, .i a6, .i a7, .i a8] =>
  bif (decide (a7 >= 4294967296)) then
   let x17 : Int := (IntKind.u64.wrap (a7 - 1))
   let x18 : Int := (IntKind.u64.wrap (a8 + a2))
   bif (decide (x18 >= 4294967296)) then
    let x23 : Int := (IntKind.u64.wrap ((IntKind.u64.wrap ((IntKind.u64.wrap (a4 * 4294967296)) + a5)) - (IntKind.u64.wrap (x17 * a0))))
    bif decide (a2 = 0) then
     none
    else
     let x24 : Int := (IntKind.u64.wrap (x23.tdiv a2))
     jz m m [.i a0, .i a1, .i a2, .i a3, .i a6, .i x17, .i (IntKind.u64.wrap (x23 - (IntKind.u64.wrap (x24 * a2)))), .i x23, .i x24]
   else
    k [.i a0, .i a1, .i a2, .i a3, .i a4, .i a5, .i a6, .i x17, .i x18]
  else
   bif decide ((IntKind.u64.wrap (a7 * a3)) > (IntKind.u64.wrap ((IntKind.u64.wrap (4294967296 * a8)) + a5))) then
    let x30 : Int := (IntKind.u64.wrap (a7 - 1))
    let x31 : Int := (IntKind.u64.wrap (a8 + a2))
    bif (decide (x31 >= 4294967296)) then
     let x36 : Int := (IntKind.u64.wrap ((IntKind.u64.wrap ((IntKind.u64.wrap (a4 * 4294967296)) + a5)) - (IntKind.u64.wrap (x30 * a0))))
     bif decide (a2 = 0) then
      none
     else
      let x37 : Int := (IntKind.u64.wrap (x36.tdiv a2))
      jz m m [.i a0, .i a1, .i a2, .i a3, .i a6, .i x30, .i (IntKind.u64.wrap (x36 - (IntKind.u64.wrap (x37 * a2)))), .i x36, .i x37]
    else
     k [.i a0, .i a1, .i a2, .i a3, .i a4, .i a5, .i a6, .i x30, .i x31]
   else
    let x43 : Int := (IntKind.u64.wrap ((IntKind.u64.wrap ((IntKind.u64.wrap (a4 * 4294967296)) + a5)) - (IntKind.u64.wrap (a7 * a0))))
    bif decide (a2 = 0) then
     none
    else
     let x44 : Int := (IntKind.u64.wrap (x43.tdiv a2))
     jz m m [.i a0, .i a1, .i a2, .i a3, .i a6, .i a7, .i (IntKind.u64.wrap (x43 - (IntKind.u64.wrap (x44 * a2)))), .i x43, .i x44]
 | _ => none
def mR (m : Nat) : Nat -> List Sc -> Option Value := iter (lF m)
theorem B1 (m : Nat) (n : Nat) : mR m (n + 1) = lF m (mR m n) := rfl
def m5 (F : List Sc -> Option Value) : Stop := ⟨[.lp [0, 0, 1, 1, 1, 1, 1, 1, 1, 1, 1, 1, 1, 1, 1, 1], .blk 0, .code [1, 1, 1, 1, 1, 1, 1, 1, 1, 1, 1, 1, 1, 1, 1]], ⟨135, [(2, .int .u64), (8, .int .u64), (9, .int .u64), (10, .int .u64), (11, .int .u64), (13, .int .u64), (14, .int .u64), (15, .int .u64), (16, .int .u64)], 0, .e⟩, F⟩
def t164 (m : Nat) (a0 : Int) (a1 : Int) (a2 : Int) : Option Value :=
 bif a2 == 0 then
  none
 else
  bif decide (a2 <= a0) then
   none
  else
   bif a0 == 0 then
    bif decide (a2 = 0) then
     none
    else
     bif decide (a2 = 0) then
      none
     else
      some (.tuple #[.int .u64 (IntKind.u64.wrap (a1.tdiv a2)), .int .u64 (a1.tmod a2)])
   else
    bif decide (0 <= a2 /\ a2 < 18446744073709551616) then
     let x2 : Int := (IntKind.u64.wrap (64 - gM a2))
     bif decide (x2 < 0) then
      none
     else
      let x3 : Int := (IntKind.u64.wrap (a2 * 2 ^ (min x2.toNat 64)))
      let x4 : Int := (x3.fdiv (2 ^ (min (32 : Int).toNat 64)))
      bif decide (x2 < 0) then
       none
      else
       let x7 : Int := (IntKind.u64.wrap (64 - x2))
       bif decide (x7 < 0) then
        none
       else
        let x9 : Int := (IntKind.u64.wrap ((BitVec.ofInt 64 (IntKind.u64.wrap (a0 * 2 ^ (min x2.toNat 64))) ||| BitVec.ofInt 64 (a1.fdiv (2 ^ (min x7.toNat 64)))).toNat))
        bif decide (x2 < 0) then
         none
        else
         let x10 : Int := (IntKind.u64.wrap (a1 * 2 ^ (min x2.toNat 64)))
         bif decide (x4 = 0) then
          none
         else
          let x13 : Int := (IntKind.u64.wrap (x9.tdiv x4))
          mR m m [.i x3, .i x2, .i x4, .i (IntKind.u64.wrap ((BitVec.ofInt 64 x3 &&& BitVec.ofInt 64 4294967295).toNat)), .i x9, .i (x10.fdiv (2 ^ (min (32 : Int).toNat 64))), .i (IntKind.u64.wrap ((BitVec.ofInt 64 x10 &&& BitVec.ofInt 64 4294967295).toNat)), .i x13, .i (IntKind.u64.wrap (x9 - (IntKind.u64.wrap (x13 * x4))))]
    else
     none
def FD : Tab := fA [(171, RG)]
theorem Cp : bj.right Tryz.prog FD := bZ (aJ IB aA)
theorem OK (m : Nat) (k : List Sc -> Option Value) (g : Nat -> Value) (a0 : Int) (a1 : Int) (a2 : Int) (a3 : Int) (a4 : Int) (a5 : Int) (a6 : Int) (a7 : Int) (a8 : Int) : kK Tryz.prog FD (fun _ => true) (il (cB Tryz.prog 164)) [0, 0, 1, 1, 1, 1, 1, 1, 1, 1, 1, 1, 1, 1, 1, 1, 1, 1, 1, 1] [.blk 2, .code [1, 1, 1, 1, 1, 1, 1, 1, 1, 1, 1, 1, 1, 1, 1, 1, 1, 1, 1]] (mq k).pat g [.i a0, .i a1, .i a2, .i a3, .i a4, .i a5, .i a6, .i a7, .i a8] (kks (cB Tryz.prog 164).results.toList Tryz.prog [mq k]) = lN m k [.i a0, .i a1, .i a2, .i a3, .i a4, .i a5, .i a6, .i a7, .i a8] := by kernel_rfl
theorem Pc {m : Nat} {k : List Sc -> Option Value} {xs : List Sc} {v : Value} (h : lN m k xs = some v) : ∃ a0 a1 a2 a3 a4 a5 a6 a7 a8, xs = [.i a0, .i a1, .i a2, .i a3, .i a4, .i a5, .i a6, .i a7, .i a8] := by
 unfold lN at h
 split at h
 . exact ⟨_, _, _, _, _, _, _, _, _, rfl⟩
 . cases h
theorem Nr (m : Nat) : ∀ n, (mq (jz m n)).eX Tryz.prog [] (bR FD) (cB Tryz.prog 164).results.toList (il (cB Tryz.prog 164)) :=
 Stop.iter (mk := mq) (Fs := lN m) (S := fun k => [mq k]) (p := [0, 0, 1, 1, 1, 1, 1, 1, 1, 1, 1, 1, 1, 1, 1, 1, 1, 1, 1, 1]) (rest := [.blk 2, .code [1, 1, 1, 1, 1, 1, 1, 1, 1, 1, 1, 1, 1, 1, 1, 1, 1, 1, 1]]) (pat := (mq (fun _ => none)).pat) (stop := fun _ => true)
  (fun _ => rfl) (fun _ => rfl) (fun _ => rfl) (by kernel_rfl) (by kernel_rfl)
  (fun k h => (aJ h aA))
  (fun k g xs v h => by
   obtain ⟨a0, a1, a2, a3, a4, a5, a6, a7, a8, rfl⟩ := Pc h; exact (OK m k g a0 a1 a2 a3 a4 a5 a6 a7 a8).trans h)
theorem MR (m : Nat) (k : List Sc -> Option Value) (g : Nat -> Value) (a0 : Int) (a1 : Int) (a2 : Int) (a3 : Int) (a4 : Int) (a5 : Int) (a6 : Int) (a7 : Int) (a8 : Int) : kK Tryz.prog FD (fun _ => true) (il (cB Tryz.prog 164)) [0, 0, 1, 1, 1, 1, 1, 1, 1, 1, 1, 1, 1, 1, 1, 1] [.blk 0, .code [1, 1, 1, 1, 1, 1, 1, 1, 1, 1, 1, 1, 1, 1, 1]] (m5 k).pat g [.i a0, .i a1, .i a2, .i a3, .i a4, .i a5, .i a6, .i a7, .i a8] (kks (cB Tryz.prog 164).results.toList Tryz.prog [m5 k, mq (jz m m)]) = lF m k [.i a0, .i a1, .i a2, .i a3, .i a4, .i a5, .i a6, .i a7, .i a8] := by kernel_rfl
theorem Pe {m : Nat} {k : List Sc -> Option Value} {xs : List Sc} {v : Value} (h : lF m k xs = some v) : ∃ a0 a1 a2 a3 a4 a5 a6 a7 a8, xs = [.i a0, .i a1, .i a2, .i a3, .i a4, .i a5, .i a6, .i a7, .i a8] := by
 unfold lF at h
 split at h
 . exact ⟨_, _, _, _, _, _, _, _, _, rfl⟩
 . cases h
theorem NX (m : Nat) : ∀ n, (m5 (mR m n)).eX Tryz.prog [] (bR FD) (cB Tryz.prog 164).results.toList (il (cB Tryz.prog 164)) :=
 Stop.iter (mk := m5) (Fs := lF m) (S := fun k => [m5 k, mq (jz m m)]) (p := [0, 0, 1, 1, 1, 1, 1, 1, 1, 1, 1, 1, 1, 1, 1, 1]) (rest := [.blk 0, .code [1, 1, 1, 1, 1, 1, 1, 1, 1, 1, 1, 1, 1, 1, 1]]) (pat := (m5 (fun _ => none)).pat) (stop := fun _ => true)
  (fun _ => rfl) (fun _ => rfl) (fun _ => rfl) (by kernel_rfl) (by kernel_rfl)
  (fun k h => (aJ h (aJ (Nr m m) aA)))
  (fun k g xs v h => by
   obtain ⟨a0, a1, a2, a3, a4, a5, a6, a7, a8, rfl⟩ := Pe h; exact (MR m k g a0 a1 a2 a3 a4 a5 a6 a7 a8).trans h)
theorem RX (m : Nat) (a0 : Int) (a1 : Int) (a2 : Int) : fh Tryz.prog FD (fun _ => true) (cB Tryz.prog 164) [.int .u64 a0, .int .u64 a1, .int .u64 a2] (kks (cB Tryz.prog 164).results.toList Tryz.prog [m5 (mR m m)]) = t164 m a0 a1 a2 := by kernel_rfl
theorem Jj (m : Nat) (a0 : Int) (a1 : Int) (a2 : Int) {v : Value} (h : t164 m a0 a1 a2 = some v) (hv : de v = true) : cZ Tryz.prog 164 [.int .u64 a0, .int .u64 a1, .int .u64 a2] v :=
 bY (S := [m5 (mR m m)]) Seat.mix Seat.names Cp (by kernel_rfl) (by kernel_rfl) (by kernel_rfl)
  (aJ (NX m m) aA) ((RX m a0 a1 a2).trans h) rfl hv
theorem Mi (a0 : Int) (a1 : Int) (a2 : Int) (hc : (decide (0 <= a0 /\ a0 < a2 /\ a2 < 18446744073709551616 /\ 0 <= a1 /\ a1 < 18446744073709551616)) = true) : ∃ m, t164 m a0 a1 a2 = some (.tuple #[.int .u64 ((a0 * 18446744073709551616 + a1) / a2), .int .u64 ((a0 * 18446744073709551616 + a1) % a2)]) := by
 obtain ⟨h0, h1, h2, h3, h4⟩ := zak hc; refine ⟨4294967310, ?_⟩; have two : ∀ v s v1 v0 d0 Q1 R1 : Int, v = v1 * 4294967296 + v0 -> 2147483648 <= v1 -> v1 < 4294967296 -> 0 <= v0 -> v0 < 4294967296 -> 0 <= s -> 0 <= Q1 -> Q1 < 4294967296 -> 0 <= d0 -> d0 < 4294967296 -> 0 <= R1 -> R1 < v ->
  ∀ (n : Nat) (q r : Int), R1 = q * v1 + r -> 0 <= r -> r < 4294967296 -> (R1 * 4294967296 + d0) / v <= q -> q <= 4294967297 -> q - (R1 * 4294967296 + d0) / v < n ->
  jz 4294967310 n [.i v, .i s, .i v1, .i v0, .i d0, .i Q1, .i r, .i R1, .i q] = some (.tuple #[.int .u64 (Q1 * 4294967296 + (R1 * 4294967296 + d0) / v), .int .u64 (((R1 * 4294967296 + d0) % v) / 2 ^ (min s.toNat 64))]) := by
  intro v s v1 v0 d0 Q1 R1 hv hv1 hv2 hv3 hv4 hs hQ0 hQ hd0 hd hR0 hR n; have hvp : 0 < v := by omega
  have hq := pI hvp hR0 hR hd0 hd
  induction n with
  | zero => intro q r _ _ _ _ _ h; omega
  | succ n ih =>
   intro q r hU hr0 hr hge hle hn; have htest := lJ (U := R1) (d := d0) hv hvp hU; have hm := kh (a := q) (b := v0) (m := 4294967297) (n := 4294967295) (by omega) (by omega) (by omega) (by omega); have down : (R1 * 4294967296 + d0) / v < q -> r + v1 < 4294967296 -> jz 4294967310 n [.i v, .i s, .i v1, .i v0, .i d0, .i Q1, .i (r + v1), .i R1, .i (q - 1)] = some (.tuple #[.int .u64 (Q1 * 4294967296 + (R1 * 4294967296 + d0) / v), .int .u64 (((R1 * 4294967296 + d0) % v) / 2 ^ (min s.toNat 64))]) := by
    intro h1 h2; exact ih (q - 1) (r + v1) (by rw [Int.sub_mul]; omega) (by omega) h2 (by omega) (by omega) (by omega)
   have stop : ∀ q', q' = (R1 * 4294967296 + d0) / v -> (some (Value.tuple #[.int .u64 (IntKind.u64.wrap ((IntKind.u64.wrap (Q1 * 4294967296)) + q')), .int .u64 ((IntKind.u64.wrap ((IntKind.u64.wrap ((IntKind.u64.wrap (R1 * 4294967296)) + d0)) - (IntKind.u64.wrap (q' * v)))).fdiv (2 ^ (min s.toNat 64)))])) = some (.tuple #[.int .u64 (Q1 * 4294967296 + (R1 * 4294967296 + d0) / v), .int .u64 (((R1 * 4294967296 + d0) % v) / 2 ^ (min s.toNat 64))]) := by
    intro q' e; rw [ug (by rw [e]) hvp (by omega) hd0 hd, wu (n := Q1 * 4294967296) (by omega) (by omega), wu (by omega) (by omega), fd (Int.le_of_lt (Int.pow_pos (by decide))), e]
   have out : (R1 * 4294967296 + d0) / v < q -> q <= 4294967297 -> 4294967296 <= r + v1 -> q - 1 = (R1 * 4294967296 + d0) / v := by
    intro h1 h2 h3; have t2 := lJ (U := R1) (q := q - 1) (r := r + v1) (d := d0) hv hvp (by rw [Int.sub_mul]; omega); have m2 := kh (a := q - 1) (b := v0) (m := 4294967296) (n := 4294967295) (by omega) (by omega) (by omega) (by omega); omega
   rw [Ca]; unfold lN; simp only []; have hsn : ¬ s < 0 := by omega
   by_cases c1 : q >= 4294967296
   . rw [wu (n := q - 1) (by omega) (by omega), wu (n := r + v1) (by omega) (by omega)]
     by_cases c2 : r + v1 >= 4294967296
     . simp only [c1, c2, hsn, zaW, zaR, zaG, zap]; exact stop _ (out (by omega) hle c2)
     . simp only [c1, c2, zaW, zaR, zaG, zap]; exact down (by omega) (by omega)
   . have m3 := kh (a := q) (b := v0) (m := 4294967295) (n := 4294967295) (by omega) (by omega) (by omega) (by omega); rw [wu (n := q * v0) (by omega) (by omega), wu (n := 4294967296 * r) (by omega) (by omega), wu (n := 4294967296 * r + d0) (by omega) (by omega)]
     by_cases c3 : q * v0 > 4294967296 * r + d0
     . rw [wu (n := q - 1) (by omega) (by omega), wu (n := r + v1) (by omega) (by omega)]
       by_cases c2 : r + v1 >= 4294967296
       . simp only [c1, c2, c3, hsn, zaW, zaR, zaG, zap]; exact stop _ (out (by omega) hle c2)
       . simp only [c1, c2, c3, zaW, zaR, zaG, zap]; exact down (by omega) (by omega)
     . simp only [c1, c3, hsn, zaR, zap]; exact stop _ (by omega)
 have one : ∀ v s v1 v0 d1 d0 U : Int, v = v1 * 4294967296 + v0 -> 2147483648 <= v1 -> v1 < 4294967296 -> 0 <= v0 -> v0 < 4294967296 -> 0 <= s -> 0 <= d1 -> d1 < 4294967296 -> 0 <= d0 -> d0 < 4294967296 -> 0 <= U -> U < v ->
  ∀ (n : Nat) (q r : Int), U = q * v1 + r -> 0 <= r -> r < 4294967296 -> (U * 4294967296 + d1) / v <= q -> q <= 4294967297 -> q - (U * 4294967296 + d1) / v < n ->
  mR 4294967310 n [.i v, .i s, .i v1, .i v0, .i U, .i d1, .i d0, .i q, .i r] = some (.tuple #[.int .u64 ((U * 4294967296 + d1) / v * 4294967296 + ((U * 4294967296 + d1) % v * 4294967296 + d0) / v), .int .u64 ((((U * 4294967296 + d1) % v * 4294967296 + d0) % v) / 2 ^ (min s.toNat 64))]) := by
  intro v s v1 v0 d1 d0 U hv hv1 hv2 hv3 hv4 hs hd1 hd1' hd0 hd0' hU0 hU n; have hvp : 0 < v := by omega
  have hq := pI hvp hU0 hU hd1 hd1'
  induction n with
  | zero => intro q r _ _ _ _ _ h; omega
  | succ n ih =>
   intro q r hUq hr0 hr hge hle hn; have htest := lJ (U := U) (d := d1) hv hvp hUq; have down : (U * 4294967296 + d1) / v < q -> r + v1 < 4294967296 -> mR 4294967310 n [.i v, .i s, .i v1, .i v0, .i U, .i d1, .i d0, .i (q - 1), .i (r + v1)] = some (.tuple #[.int .u64 ((U * 4294967296 + d1) / v * 4294967296 + ((U * 4294967296 + d1) % v * 4294967296 + d0) / v), .int .u64 ((((U * 4294967296 + d1) % v * 4294967296 + d0) % v) / 2 ^ (min s.toNat 64))]) := by
    intro h1 h2; exact ih (q - 1) (r + v1) (by rw [Int.sub_mul]; omega) (by omega) h2 (by omega) (by omega) (by omega)
   have hv1n : ¬ v1 = 0 := by omega
   have stop : ∀ q' R1, q' = (U * 4294967296 + d1) / v -> R1 = IntKind.u64.wrap (IntKind.u64.wrap (IntKind.u64.wrap (U * 4294967296) + d1) - IntKind.u64.wrap (q' * v)) ->
    (jz 4294967310 4294967310 [.i v, .i s, .i v1, .i v0, .i d0, .i q', .i (IntKind.u64.wrap (R1 - (IntKind.u64.wrap ((IntKind.u64.wrap (R1.tdiv v1)) * v1)))), .i R1, .i (IntKind.u64.wrap (R1.tdiv v1))]) = some (.tuple #[.int .u64 ((U * 4294967296 + d1) / v * 4294967296 + ((U * 4294967296 + d1) % v * 4294967296 + d0) / v), .int .u64 ((((U * 4294967296 + d1) % v * 4294967296 + d0) % v) / 2 ^ (min s.toNat 64))]) := by
    intro q' R1 e eR; rw [ug (by rw [e]) hvp (by omega) hd1 hd1'] at eR; have b1 := zbm (U * 4294967296 + d1) (show v ≠ 0 by omega); have b2 := za9 (U * 4294967296 + d1) hvp; rw [<- eR] at b1 b2; have ks := rz hv hv1 hv4 b1 b2; have kg := Bg (U := R1) (d := d0) hv (by omega) hvp hv3 b1 hd0 hd0'; have km := zbe R1 v1; have kn := zbm R1 (show v1 ≠ 0 by omega); have ko := za9 R1 (show 0 < v1 by omega); have kl := pI hvp b1 b2 hd0 hd0'; rw [zbb] at km; have kz : 0 <= R1 / v1 * v1 := zaZ ks.1 (by omega); rw [td _ b1, wu (n := R1 / v1) (by omega) (by omega), wu (n := R1 / v1 * v1) (by omega) (by omega), wu (n := R1 - R1 / v1 * v1) (by omega) (by omega)]; rw [two v s v1 v0 d0 q' R1 hv hv1 hv2 hv3 hv4 hs (by omega) (by omega) hd0 hd0' b1 b2 4294967310 (R1 / v1) (R1 - R1 / v1 * v1) (by omega) (by omega) (by omega) kg ks.2 (by omega), e, eR]
   have out : (U * 4294967296 + d1) / v < q -> q <= 4294967297 -> 4294967296 <= r + v1 -> q - 1 = (U * 4294967296 + d1) / v := by
    intro h1 h2 h3; have t2 := lJ (U := U) (q := q - 1) (r := r + v1) (d := d1) hv hvp (by rw [Int.sub_mul]; omega); have m2 := kh (a := q - 1) (b := v0) (m := 4294967296) (n := 4294967295) (by omega) (by omega) (by omega) (by omega); omega
   rw [B1]; unfold lF; simp only []
   by_cases c1 : q >= 4294967296
   . rw [wu (n := q - 1) (by omega) (by omega), wu (n := r + v1) (by omega) (by omega)]
     by_cases c2 : r + v1 >= 4294967296
     . simp only [c1, c2, hv1n, zaW, zaR, zaG, zap]; exact stop _ _ (out (by omega) hle c2) rfl
     . simp only [c1, c2, zaW, zaR, zaG, zap]; exact down (by omega) (by omega)
   . have m3 := kh (a := q) (b := v0) (m := 4294967295) (n := 4294967295) (by omega) (by omega) (by omega) (by omega); rw [wu (n := q * v0) (by omega) (by omega), wu (n := 4294967296 * r) (by omega) (by omega), wu (n := 4294967296 * r + d1) (by omega) (by omega)]
     by_cases c3 : q * v0 > 4294967296 * r + d1
     . rw [wu (n := q - 1) (by omega) (by omega), wu (n := r + v1) (by omega) (by omega)]
       by_cases c2 : r + v1 >= 4294967296
       . simp only [c1, c2, c3, hv1n, zaW, zaR, zaG, zap]; exact stop _ _ (out (by omega) hle c2) rfl
       . simp only [c1, c2, c3, zaW, zaR, zaG, zap]; exact down (by omega) (by omega)
     . simp only [c1, c3, hv1n, zaR, zap]; exact stop _ _ (by omega) rfl
 unfold t164; have n1 : ¬ a2 <= a0 := by omega
 have n2 : ¬ a2 = 0 := by omega
 have n3 : (a2 == 0) = false := by simpa using n2
 simp only [n1, n2, n3, zaR, zap]
 by_cases z0 : a0 = 0
 . subst z0; simp only [BEq.rfl, zaG]; rw [td _ h3, tm _ h3]; have q0 : 0 <= a1 / a2 := zbw h3 (by omega); have q1 : a1 / a2 <= a1 := Int.ediv_le_self _ h3; rw [wu q0 (by omega)]; simp
 have z0' : (a0 == 0) = false := by simpa using z0
 simp only [z0', zap, h2, show 0 <= a2 by omega, and_self, zaW, zaG]; obtain ⟨p, p', s, hs0, hs1, hsx, hp, hp', hpp, hp0, hp1, hvl, hvh⟩ : ∃ (p p' s : Int), 0 <= s /\ s < 64 /\ IntKind.u64.wrap (64 - gM a2) = s /\ (2 : Int) ^ (min s.toNat 64) = p /\ (2 : Int) ^ (min (64 - s).toNat 64) = p' /\ p * p' = 18446744073709551616 /\ 0 < p /\ 0 < p' /\ 9223372036854775808 <= a2 * p /\ a2 * p < 18446744073709551616 := by
  obtain ⟨k, hk, hk64, hlo, hhi⟩ := GW (x := a2) (by omega) h2; refine ⟨2 ^ k, 2 ^ (64 - k), k, by omega, by omega, ?_, ?_, ?_, ?_, ?_, ?_, ?_, ?_⟩
  . rw [hk, wu (by omega) (by omega)]; omega
  . congr 1; omega
  . congr 1; omega
  . rw [<- Int.pow_add, show k + (64 - k) = 64 by omega]; rfl
  . exact Int.pow_pos (by decide)
  . exact Int.pow_pos (by decide)
  . exact hlo
  . exact hhi
 rw [hsx, wu (n := 64 - s) (by omega) (by omega)]; have n4 : ¬ s < 0 := by omega
 have n5 : ¬ 64 - s < 0 := by omega
 simp only [n4, n5, zaR, zap]; rw [hp, hp', wu (n := a2 * p) (by omega) (by omega), fd (b := p') (by omega)]; simp only [OQ]; have hpm : ¬ a2 * p / 4294967296 = 0 := by omega
 simp only [hpm, zaR, zap]; rw [ns (by omega) hvh, ns (x := IntKind.u64.wrap (a1 * p)) (by rw [mJ]; omega) (by rw [mJ]; omega)]; have ea : (a0 + 1) * p <= a2 * p := za2 (by omega) (by omega); rw [zbQ] at ea; have ea0 : 0 <= a0 * p := zaZ h0 (by omega); have ed := zbe a1 p'; rw [zbb] at ed; have ed0 := zbm a1 (show p' ≠ 0 by omega); have ed1 := za9 a1 hp1; have eq0 : 0 <= a1 / p' := zbw h3 (by omega); have eq1 : a1 / p' < p := by rw [zbU hp1, hpp]; exact h4
 have el : IntKind.u64.wrap (a1 * p) = a1 % p' * p := by
  rw [mJ]; have : a1 * p = a1 / p' * 18446744073709551616 + a1 % p' * p := by
   conv => lhs; rw [<- ed]
   rw [zbQ, zbF, zbb p' p, hpp]
  have l0 : 0 <= a1 % p' * p := zaZ ed0 (by omega); have l1 : a1 % p' * p < 18446744073709551616 := by
   have : (a1 % p' + 1) * p <= p' * p := za2 (by omega) (by omega); rw [zbQ, zbb p' p, hpp] at this; omega
  omega
 have l0 : 0 <= a1 % p' * p := zaZ ed0 (by omega); have l1 : a1 % p' * p < 18446744073709551616 := by
  have := el; rw [mJ] at this; omega
 have eo : IntKind.u64.wrap ((BitVec.ofInt 64 (IntKind.u64.wrap (a0 * p)) ||| BitVec.ofInt 64 (a1 / p')).toNat) = a0 * p + a1 / p' := by
  rw [wu (n := a0 * p) ea0 (by omega)]; have := GB (k := min s.toNat 64) (a := a0) (b := a1 / p') h0 eq0 (by rw [hp]; exact eq1) (by rw [hp]; omega); rw [hp] at this; rw [this, wu (by omega) (by omega)]
 rw [eo, el]; generalize hv : a2 * p = v at *
 generalize hU : a0 * p + a1 / p' = U at *
 generalize hl : a1 % p' * p = l at *
 rw [wu (n := v % 4294967296) (by omega) (by omega), wu (n := l % 4294967296) (by omega) (by omega)]; have ks := rz (v := v) (v1 := v / 4294967296) (v0 := v % 4294967296) (U := U) (by omega) (by omega) (by omega) (by omega) (by omega); have kg := Bg (v := v) (v1 := v / 4294967296) (v0 := v % 4294967296) (U := U) (d := l / 4294967296) (by omega) (by omega) (by omega) (by omega) (by omega) (by omega) (by omega); have kl := pI (v := v) (U := U) (d := l / 4294967296) (by omega) (by omega) (by omega) (by omega) (by omega); have km := zbe U (v / 4294967296); have kn := zbm U (show v / 4294967296 ≠ 0 by omega); have ko := za9 U (show 0 < v / 4294967296 by omega); rw [zbb] at km; have kz : 0 <= U / (v / 4294967296) * (v / 4294967296) := zaZ ks.1 (by omega); rw [td _ (show 0 <= U by omega), wu (n := U / (v / 4294967296)) (by omega) (by omega), wu (n := U / (v / 4294967296) * (v / 4294967296)) (by omega) (by omega), wu (n := U - U / (v / 4294967296) * (v / 4294967296)) (by omega) (by omega)]; rw [one v s (v / 4294967296) (v % 4294967296) (l / 4294967296) (l % 4294967296) U (by omega) (by omega) (by omega) (by omega) (by omega) hs0 (by omega) (by omega) (by omega) (by omega) (by omega) (by omega) 4294967310 _ _ (by omega) (by omega) (by omega) kg ks.2 (by omega), hp]; have hN : (a0 * 18446744073709551616 + a1) * p = ((U * 4294967296 + l / 4294967296) / v * 4294967296) * v + ((U * 4294967296 + l / 4294967296) % v * 4294967296 + l % 4294967296) := by
  have e1 := zbe (U * 4294967296 + l / 4294967296) v; rw [zbb] at e1; have e2 : (U * 4294967296 + l / 4294967296) / v * 4294967296 * v = (U * 4294967296 + l / 4294967296) / v * v * 4294967296 := by
   rw [zbF, zbb 4294967296 v, <- zbF]
  have e3 : (a0 * 18446744073709551616 + a1) * p = U * 18446744073709551616 + l := by
   rw [<- hU, <- hl, zbQ, zbQ, zbF, zbb 18446744073709551616 p, <- zbF]; have : a1 * p = a1 / p' * 18446744073709551616 + a1 % p' * p := by
    conv => lhs; rw [<- ed]
    rw [zbQ, zbF, zbb p' p, hpp]
   omega
  rw [e3, e2]; omega
 have hvp : 0 < v := by omega
 have f1 : (a0 * 18446744073709551616 + a1) / a2 = (U * 4294967296 + l / 4294967296) / v * 4294967296 + ((U * 4294967296 + l / 4294967296) % v * 4294967296 + l % 4294967296) / v := by
  rw [<- Int.mul_ediv_mul_of_pos_left _ a2 hp0, hN, hv, Int.add_comm (_ * v), Int.add_mul_ediv_right _ _ (by omega), Int.add_comm]
 have f2 : (a0 * 18446744073709551616 + a1) % a2 = ((U * 4294967296 + l / 4294967296) % v * 4294967296 + l % 4294967296) % v / p := by
  have e4 : (a0 * 18446744073709551616 + a1) * p % v = ((U * 4294967296 + l / 4294967296) % v * 4294967296 + l % 4294967296) % v := by
   rw [hN, Int.add_comm (_ * v), Int.add_mul_emod_self_right]
  rw [<- e4, <- hv, zbb _ p, zbb a2 p, Int.mul_emod_mul_of_pos _ _ hp0, Int.mul_ediv_cancel_left _ (by omega)]
 rw [f1, f2]
theorem IQ : cL Tryz.prog 164 QX := cG (by
 intro xs v h; unfold RE at h
 split at h
 . rename_i a0 a1 a2; simp only [zaj, zaO] at h; obtain ⟨hc, rfl⟩ := h; obtain ⟨m, hm⟩ := Mi a0 a1 a2 hc; exact Jj m a0 a1 a2 hm rfl
 . cases h)
def oE (q r p h : Int) : Bool := (h == 1 && decide (r > 0)) || (h == 2 && (decide (r > p - r) || (r == p - r && q % 2 == 1)))
def mdQ (n b p h : Int) : Int := n * b / p + (if oE (n * b / p) (n * b % p) p h then 1 else 0)
def oH (n b p h : Int) : Bool := decide (0 <= n /\ n <= 1152921504606846976 /\ 0 <= b /\ b <= 1152921504606846976 /\ 1 <= p /\ p <= 1152921504606846976 /\ 0 <= h /\ h <= 2 /\ mdQ n b p h <= 1152921504606846976)
def mdV (n b p h : Int) : Int := if oH n b p h then mdQ n b p h else 0
theorem PT {n b p h : Int} (hn : ¬ (0 <= n /\ n <= 1152921504606846976 /\ 0 <= b /\ b <= 1152921504606846976 /\ 1 <= p /\ p <= 1152921504606846976 /\ 0 <= h /\ h <= 2)) : oH n b p h = false /\ mdV n b p h = 0 := by
 have : oH n b p h = false := by
  unfold oH; rw [decide_eq_false_iff_not]; rintro ⟨h1, h2, h3, h4, h5, h6, h7, h8, _⟩; exact hn ⟨h1, h2, h3, h4, h5, h6, h7, h8⟩
 simp [mdV, this]
theorem Ed {n b p h : Int} (h1 : 0 <= n) (h2 : n <= 1152921504606846976) (h3 : 0 <= b) (h4 : b <= 1152921504606846976) (h5 : 1 <= p) (h6 : p <= 1152921504606846976) (h7 : 0 <= h) (h8 : h <= 2) :
 oH n b p h = decide (mdQ n b p h <= 1152921504606846976) := by
 unfold oH; simp [h1, h2, h3, h4, h5, h6, h7, h8]
def P8 : List Sc -> Option (Bool × Value)
 | [.i a0, .i a1, .i a2, .i a3] => some (true, .tuple #[.int .i64 (mdV a0 a1 a2 a3), .bool (oH a0 a1 a2 a3)])
 | _ => none
def Nw : List Value -> Option (Bool × Value) := iP [.int .i64, .int .i64, .int .i64, .int .i64] P8
def t134 (m : Nat) (a0 : Int) (a1 : Int) (a2 : Int) (a3 : Int) : Option Value :=
 bif decide (a0 < 0) then
  some (.tuple #[.int .i64 0, .bool false])
 else
  bif (decide (a0 > 1152921504606846976)) then
   some (.tuple #[.int .i64 0, .bool false])
  else
   bif decide (a1 < 0) then
    some (.tuple #[.int .i64 0, .bool false])
   else
    bif (decide (a1 > 1152921504606846976)) then
     some (.tuple #[.int .i64 0, .bool false])
    else
     bif decide (a2 < 0) then
      some (.tuple #[.int .i64 0, .bool false])
     else
      bif (decide (a2 > 1152921504606846976)) then
       some (.tuple #[.int .i64 0, .bool false])
      else
       bif a2 == 0 then
        some (.tuple #[.int .i64 0, .bool false])
       else
        bif decide (a3 < 0) then
         some (.tuple #[.int .i64 0, .bool false])
        else
         bif decide (a3 > 2) then
          some (.tuple #[.int .i64 0, .bool false])
         else
          bif decide (0 <= (IntKind.u64.wrap a0) /\ (IntKind.u64.wrap a0) < 18446744073709551616 /\ 0 <= (IntKind.u64.wrap a1) /\ (IntKind.u64.wrap a1) < 18446744073709551616) then
           let x4 : Int := ((IntKind.u64.wrap a0) * (IntKind.u64.wrap a1) / 18446744073709551616)
           let x5 : Int := ((IntKind.u64.wrap a0) * (IntKind.u64.wrap a1) % 18446744073709551616)
           bif (decide (x4 >= (IntKind.u64.wrap a2))) then
            some (.tuple #[.int .i64 0, .bool false])
           else
            bif decide (0 <= x4 /\ x4 < (IntKind.u64.wrap a2) /\ (IntKind.u64.wrap a2) < 18446744073709551616 /\ 0 <= x5 /\ x5 < 18446744073709551616) then
             let x7 : Int := ((x4 * 18446744073709551616 + x5) / (IntKind.u64.wrap a2))
             let x8 : Int := ((x4 * 18446744073709551616 + x5) % (IntKind.u64.wrap a2))
             let x9 : Int := (IntKind.u64.wrap ((IntKind.u64.wrap a2) - x8))
             bif (decide (x7 > 1152921504606846976)) then
              some (.tuple #[.int .i64 0, .bool false])
             else
              bif a3 == 1 then
               bif decide (x8 > 0) then
                bif decide (x8 > 0) then
                 let x11 : Int := (IntKind.u64.wrap (x7 + 1))
                 bif (decide (x11 > 1152921504606846976)) then
                  some (.tuple #[.int .i64 0, .bool false])
                 else
                  some (.tuple #[.int .i64 (IntKind.i64.wrap x11), .bool true])
                else
                 bif (decide (x7 > 1152921504606846976)) then
                  some (.tuple #[.int .i64 0, .bool false])
                 else
                  some (.tuple #[.int .i64 (IntKind.i64.wrap x7), .bool true])
               else
                bif a3 == 2 then
                 bif decide (x8 > x9) then
                  let x14 : Int := (IntKind.u64.wrap (x7 + 1))
                  bif (decide (x14 > 1152921504606846976)) then
                   some (.tuple #[.int .i64 0, .bool false])
                  else
                   some (.tuple #[.int .i64 (IntKind.i64.wrap x14), .bool true])
                 else
                  bif x8 == x9 then
                   bif (IntKind.u64.wrap ((BitVec.ofInt 64 x7 &&& BitVec.ofInt 64 1).toNat)) == 1 then
                    let x17 : Int := (IntKind.u64.wrap (x7 + 1))
                    bif (decide (x17 > 1152921504606846976)) then
                     some (.tuple #[.int .i64 0, .bool false])
                    else
                     some (.tuple #[.int .i64 (IntKind.i64.wrap x17), .bool true])
                   else
                    bif (decide (x7 > 1152921504606846976)) then
                     some (.tuple #[.int .i64 0, .bool false])
                    else
                     some (.tuple #[.int .i64 (IntKind.i64.wrap x7), .bool true])
                  else
                   bif (decide (x7 > 1152921504606846976)) then
                    some (.tuple #[.int .i64 0, .bool false])
                   else
                    some (.tuple #[.int .i64 (IntKind.i64.wrap x7), .bool true])
                else
                 bif (decide (x7 > 1152921504606846976)) then
                  some (.tuple #[.int .i64 0, .bool false])
                 else
                  some (.tuple #[.int .i64 (IntKind.i64.wrap x7), .bool true])
              else
               bif a3 == 2 then
                bif decide (x8 > x9) then
                 let x22 : Int := (IntKind.u64.wrap (x7 + 1))
                 bif (decide (x22 > 1152921504606846976)) then
                  some (.tuple #[.int .i64 0, .bool false])
                 else
                  some (.tuple #[.int .i64 (IntKind.i64.wrap x22), .bool true])
                else
                 bif x8 == x9 then
                  bif (IntKind.u64.wrap ((BitVec.ofInt 64 x7 &&& BitVec.ofInt 64 1).toNat)) == 1 then
                   let x25 : Int := (IntKind.u64.wrap (x7 + 1))
                   bif (decide (x25 > 1152921504606846976)) then
                    some (.tuple #[.int .i64 0, .bool false])
                   else
                    some (.tuple #[.int .i64 (IntKind.i64.wrap x25), .bool true])
                  else
                   bif (decide (x7 > 1152921504606846976)) then
                    some (.tuple #[.int .i64 0, .bool false])
                   else
                    some (.tuple #[.int .i64 (IntKind.i64.wrap x7), .bool true])
                 else
                  bif (decide (x7 > 1152921504606846976)) then
                   some (.tuple #[.int .i64 0, .bool false])
                  else
                   some (.tuple #[.int .i64 (IntKind.i64.wrap x7), .bool true])
               else
                bif (decide (x7 > 1152921504606846976)) then
                 some (.tuple #[.int .i64 0, .bool false])
                else
                 some (.tuple #[.int .i64 (IntKind.i64.wrap x7), .bool true])
            else
             none
          else
           none
def RJ : Tab := fA [(163, Rs), (164, QX)]
theorem Dx : bj.right Tryz.prog RJ := bZ (aJ IA (aJ IQ aA))
theorem R2 (m : Nat) (a0 : Int) (a1 : Int) (a2 : Int) (a3 : Int) : fh Tryz.prog RJ (fun _ => true) (cB Tryz.prog 134) [.int .i64 a0, .int .i64 a1, .int .i64 a2, .int .i64 a3] (kks (cB Tryz.prog 134).results.toList Tryz.prog []) = t134 m a0 a1 a2 a3 := by kernel_rfl
theorem JZ (m : Nat) (a0 : Int) (a1 : Int) (a2 : Int) (a3 : Int) {v : Value} (h : t134 m a0 a1 a2 a3 = some v) (hv : de v = true) : cZ Tryz.prog 134 [.int .i64 a0, .int .i64 a1, .int .i64 a2, .int .i64 a3] v :=
 bY (S := []) Seat.mix Seat.names Dx (by kernel_rfl) (by kernel_rfl) (by kernel_rfl)
  aA ((R2 m a0 a1 a2 a3).trans h) rfl hv
theorem JL (a0 : Int) (a1 : Int) (a2 : Int) (a3 : Int) : ∃ m, t134 m a0 a1 a2 a3 = some (.tuple #[.int .i64 (mdV a0 a1 a2 a3), .bool (oH a0 a1 a2 a3)]) := by
 refine ⟨0, ?_⟩; unfold t134
 by_cases g : 0 <= a0 /\ a0 <= 1152921504606846976 /\ 0 <= a1 /\ a1 <= 1152921504606846976 /\ 1 <= a2 /\ a2 <= 1152921504606846976 /\ 0 <= a3 /\ a3 <= 2
 . obtain ⟨g1, g2, g3, g4, g5, g6, g7, g8⟩ := g; have n1 : ¬ a0 < 0 := by omega
   have n2 : ¬ a0 > 1152921504606846976 := by omega
   have n3 : ¬ a1 < 0 := by omega
   have n4 : ¬ a1 > 1152921504606846976 := by omega
   have n5 : ¬ a2 < 0 := by omega
   have n6 : ¬ a2 > 1152921504606846976 := by omega
   have n7 : (a2 == 0) = false := by simp; omega
   have n8 : ¬ a3 < 0 := by omega
   have n9 : ¬ a3 > 2 := by omega
   rw [wu g1 (by omega), wu g3 (by omega), wu (n := a2) (by omega) (by omega)]; simp only [n1, n2, n3, n4, n5, n6, n7, n8, n9, zaR, zap, g1, g3, show a0 < 18446744073709551616 by omega, show a1 < 18446744073709551616 by omega, and_self, zaW, zaG]; have hz := kh g1 g2 g3 g4; rw [Ed g1 g2 g3 g4 g5 g6 g7 g8]; unfold mdV; rw [Ed g1 g2 g3 g4 g5 g6 g7 g8]; unfold mdQ; have hh : a3 = 0 \/ a3 = 1 \/ a3 = 2 := by omega
   have hq0 : 0 <= a0 * a1 / a2 := zbw (zaZ g1 g3) (by omega); have hr0 := zbm (a0 * a1) (show a2 ≠ 0 by omega); have hr1 := za9 (a0 * a1) (show 0 < a2 by omega); generalize a0 * a1 = z at *
   have hq : z / 18446744073709551616 * 18446744073709551616 + z % 18446744073709551616 = z := by omega
   simp only [hq]
   by_cases hb : z / 18446744073709551616 >= a2
   . have : 1152921504606846976 < z / a2 := by
      have : 1152921504606846977 <= z / a2 := by
       rw [Int.le_ediv_iff_mul_le (by omega)]; omega
      omega
     have e : ¬ (z / a2 + (if oE (z / a2) (z % a2) a2 a3 = true then 1 else 0)) <= 1152921504606846976 := by split <;> omega
     simp [hb, e]
   . simp only [hb, zaR, zap]; have : 0 <= z / 18446744073709551616 /\ z / 18446744073709551616 < a2 /\ a2 < 18446744073709551616 /\ 0 <= z % 18446744073709551616 /\ z % 18446744073709551616 < 18446744073709551616 := by omega
     simp only [this, and_self, zaW, zaG]; clear hq this hb; generalize z / a2 = q at *
     generalize z % a2 = r at *
     generalize a2 = p at *
     by_cases c0 : q > 1152921504606846976
     . have e : ¬ (q + (if oE q r p a3 = true then 1 else 0)) <= 1152921504606846976 := by split <;> omega
       simp [c0, e]
     rw [wu (n := p - r) (by omega) (by omega), Jm (by omega) (by omega), wu (n := q % 2) (by omega) (by omega), wu (n := q + 1) (by omega) (by omega), wr (n := q + 1) (by omega) (by omega), wr (n := q) (by omega) (by omega)]; rcases hh with rfl | rfl | rfl
     . simp [oE, c0, show ¬ 1152921504606846976 < q by omega, show q <= 1152921504606846976 by omega]
     . by_cases c1 : r > 0
       . by_cases c5 : q + 1 <= 1152921504606846976
         . simp [oE, c0, c1, c5, show ¬ 1152921504606846976 < q + 1 by omega]
         . simp [oE, c0, c1, c5, show 1152921504606846976 < q + 1 by omega]
       . simp [oE, c0, c1, show ¬ 1152921504606846976 < q by omega, show q <= 1152921504606846976 by omega]
     . by_cases c2 : r > p - r
       . by_cases c5 : q + 1 <= 1152921504606846976
         . simp [oE, c0, c2, c5, show ¬ 1152921504606846976 < q + 1 by omega]
         . simp [oE, c0, c2, c5, show 1152921504606846976 < q + 1 by omega]
       . by_cases c3 : r = p - r
         . by_cases c4 : q % 2 = 1
           . by_cases c5 : q + 1 <= 1152921504606846976
             . simp [oE, c0, c2, c4, c5, <- c3, show ¬ 1152921504606846976 < q + 1 by omega]
             . simp [oE, c0, c2, c4, c5, <- c3, show 1152921504606846976 < q + 1 by omega]
           . simp [oE, c0, c2, show (q % 2 == 1) = false by simpa using c4, c4, <- c3, show ¬ 1152921504606846976 < q by omega, show q <= 1152921504606846976 by omega]
         . simp [oE, c0, c2, show (r == p - r) = false by simpa using c3, c3, show ¬ 1152921504606846976 < q by omega, show q <= 1152921504606846976 by omega]
 . obtain ⟨e1, e2⟩ := PT g; rw [e1, e2]
   by_cases n1 : a0 < 0
   . simp [n1]
   by_cases n2 : a0 > 1152921504606846976
   . simp [n2]
   by_cases n3 : a1 < 0
   . simp [n3]
   by_cases n4 : a1 > 1152921504606846976
   . simp [n4]
   by_cases n5 : a2 < 0
   . simp [n5]
   by_cases n6 : a2 > 1152921504606846976
   . simp [n6]
   by_cases n7 : a2 = 0
   . simp [n7]
   by_cases n8 : a3 < 0
   . simp [n8]
   by_cases n9 : a3 > 2
   . simp [n9]
   omega
theorem Cb : cL Tryz.prog 134 Nw := cG (by
 intro xs v h; unfold P8 at h
 split at h
 . rename_i a0 a1 a2 a3; simp only [zaj, zaO, true_and] at h; obtain rfl := h; obtain ⟨m, hm⟩ := JL a0 a1 a2 a3; exact JZ m a0 a1 a2 a3 hm rfl
 . cases h)
theorem QU {n b p h : Int} (h1 : 0 <= n) (h2 : n <= 1152921504606846976) (h3 : 0 <= b) (h4 : b <= 1152921504606846976) (h5 : 1 <= p) (h6 : p <= 1152921504606846976) (h7 : 0 <= h) (h8 : h <= 2) (hz : n * b <= 1152921504606846976) :
 oH n b p h = true /\ mdV n b p h = mdQ n b p h /\ 0 <= mdQ n b p h /\ mdQ n b p h <= n * b := by
 have hz0 := zaZ h1 h3; have e := zbe (n * b) p; have r0 := zbm (n * b) (show p ≠ 0 by omega); have r1 := za9 (n * b) (show 0 < p by omega); have q0 : 0 <= n * b / p := zbw hz0 (by omega); have hle : 0 <= mdQ n b p h /\ mdQ n b p h <= n * b := by
  unfold mdQ oE; generalize n * b = z at *
  generalize z / p = q at *
  generalize z % p = r at *
  split
  . rename_i hu; simp only [zbf, zab, zaE, zac] at hu; have hr : 1 <= r := by omega
    have hp : 2 <= p := by omega
    have : 2 * q <= p * q := za2 hp q0; omega
  . have : 1 * q <= p * q := za2 h5 q0; omega
 have hok : oH n b p h = true := by rw [Ed h1 h2 h3 h4 h5 h6 h7 h8]; simp; omega
 exact ⟨hok, by simp [mdV, hok], hle⟩
theorem Ox (n b p : Int) : mdQ n b p 0 = n * b / p := by simp [mdQ, oE]
def yS (y : Int) : Bool := y.tmod 4 == 0 && (y.tmod 100 != 0 || y.tmod 400 == 0)
def Qe : List Sc -> Option (Bool × Value)
 | [.i a0] => some (true, .bool (yS a0))
 | _ => none
def Rr : List Value -> Option (Bool × Value) := iP [.int .i64] Qe
def t169 (m : Nat) (a0 : Int) : Option Value :=
 bif (a0.tmod 4) == 0 then
  bif (a0.tmod 100) != 0 then
   some (.bool true)
  else
   some (.bool ((a0.tmod 400) == 0))
 else
  some (.bool false)
def QR : Tab := fA []
theorem CI : bj.right Tryz.prog QR := bZ aA
theorem Sa (m : Nat) (a0 : Int) : fh Tryz.prog QR (fun _ => true) (cB Tryz.prog 169) [.int .i64 a0] (kks (cB Tryz.prog 169).results.toList Tryz.prog []) = t169 m a0 := by kernel_rfl
theorem Jz (m : Nat) (a0 : Int) {v : Value} (h : t169 m a0 = some v) (hv : de v = true) : cZ Tryz.prog 169 [.int .i64 a0] v :=
 bY (S := []) Seat.mix Seat.names CI (by kernel_rfl) (by kernel_rfl) (by kernel_rfl)
  aA ((Sa m a0).trans h) rfl hv
theorem Ld (a0 : Int) : ∃ m, t169 m a0 = some (.bool (yS a0)) := by
 refine ⟨0, ?_⟩; unfold t169 yS; cases (a0.tmod 4 == 0) <;> cases (a0.tmod 100 != 0) <;> rfl
theorem HI : cL Tryz.prog 169 Rr := cG (by
 intro xs v h; unfold Qe at h
 split at h
 . rename_i a0; simp only [zaj, zaO, true_and] at h; obtain rfl := h; obtain ⟨m, hm⟩ := Ld a0; exact Jz m a0 hm rfl
 . cases h)
def cH (y m : Int) : Int :=
 if y < 1 \/ y > 9999 \/ m < 1 \/ m > 12 then 0
 else if m = 2 then (if yS y then 29 else 28)
 else if m = 4 \/ m = 6 \/ m = 9 \/ m = 11 then 30 else 31
theorem fP (y m : Int) : 0 <= cH y m /\ cH y m <= 31 := by
 unfold cH; repeat' split
 all_goals omega
def QM : List Sc -> Option (Bool × Value)
 | [.i a0, .i a1] => some (true, .int .i64 (cH a0 a1))
 | _ => none
def KL : List Value -> Option (Bool × Value) := iP [.int .i64, .int .i64] QM
def t158 (m : Nat) (a0 : Int) (a1 : Int) : Option Value :=
 bif decide (a0 < 1) then
  some (.int .i64 0)
 else
  bif decide (a0 > 9999) then
   some (.int .i64 0)
  else
   bif decide (a1 < 1) then
    some (.int .i64 0)
   else
    bif decide (a1 > 12) then
     some (.int .i64 0)
    else
     bif a1 == 2 then
      bif (yS a0) then
       some (.int .i64 29)
      else
       bif a1 == 2 then
        some (.int .i64 28)
       else
        bif a1 == 4 then
         some (.int .i64 30)
        else
         bif a1 == 6 then
          some (.int .i64 30)
         else
          bif a1 == 9 then
           some (.int .i64 30)
          else
           bif a1 == 11 then
            some (.int .i64 30)
           else
            some (.int .i64 31)
     else
      bif a1 == 2 then
       some (.int .i64 28)
      else
       bif a1 == 4 then
        some (.int .i64 30)
       else
        bif a1 == 6 then
         some (.int .i64 30)
        else
         bif a1 == 9 then
          some (.int .i64 30)
         else
          bif a1 == 11 then
           some (.int .i64 30)
          else
           some (.int .i64 31)
def Rn : Tab := fA [(169, Rr)]
theorem DL : bj.right Tryz.prog Rn := bZ (aJ HI aA)
theorem Sf (m : Nat) (a0 : Int) (a1 : Int) : fh Tryz.prog Rn (fun _ => true) (cB Tryz.prog 158) [.int .i64 a0, .int .i64 a1] (kks (cB Tryz.prog 158).results.toList Tryz.prog []) = t158 m a0 a1 := by kernel_rfl
theorem LY (m : Nat) (a0 : Int) (a1 : Int) {v : Value} (h : t158 m a0 a1 = some v) (hv : de v = true) : cZ Tryz.prog 158 [.int .i64 a0, .int .i64 a1] v :=
 bY (S := []) Seat.mix Seat.names DL (by kernel_rfl) (by kernel_rfl) (by kernel_rfl)
  aA ((Sf m a0 a1).trans h) rfl hv
theorem Mg (a0 : Int) (a1 : Int) : ∃ m, t158 m a0 a1 = some (.int .i64 (cH a0 a1)) := by
 refine ⟨0, ?_⟩; unfold t158 cH; simp only [zaE, Bool.cond_eq_ite]
 grind
theorem vv : cL Tryz.prog 158 KL := cG (by
 intro xs v h; unfold QM at h
 split at h
 . rename_i a0 a1; simp only [zaj, zaO, true_and] at h; obtain rfl := h; obtain ⟨m, hm⟩ := Mg a0 a1; exact LY m a0 a1 hm rfl
 . cases h)
def bT (y m d : Int) : Bool := decide (d >= 1 /\ d <= cH y m)
theorem dh {y m d : Int} : bT y m d = true ↔ 1 <= d /\ d <= cH y m := by simp [bT]
theorem eJ {y m d : Int} (h : bT y m d = true) : 1 <= y /\ y <= 9999 /\ 1 <= m /\ m <= 12 := by
 obtain ⟨h1, h2⟩ := dh.1 h; unfold cH at h2
 split at h2 <;> omega
def Qu : List Sc -> Option (Bool × Value)
 | [.i a0, .i a1, .i a2] => some (true, .bool (bT a0 a1 a2))
 | _ => none
def Mr : List Value -> Option (Bool × Value) := iP [.agg [some .i64, some .i64, some .i64]] Qu
def t157 (m : Nat) (a0 : Int) (a1 : Int) (a2 : Int) : Option Value :=
 bif decide (a2 >= 1) then
  some (.bool (decide (a2 <= (cH a0 a1))))
 else
  some (.bool false)
def QK : Tab := fA [(158, KL)]
theorem C7 : bj.right Tryz.prog QK := bZ (aJ vv aA)
theorem R4 (m : Nat) (a0 : Int) (a1 : Int) (a2 : Int) : fh Tryz.prog QK (fun _ => true) (cB Tryz.prog 157) [.agg #[.int .i64 a0, .int .i64 a1, .int .i64 a2]] (kks (cB Tryz.prog 157).results.toList Tryz.prog []) = t157 m a0 a1 a2 := by kernel_rfl
theorem Ly (m : Nat) (a0 : Int) (a1 : Int) (a2 : Int) {v : Value} (h : t157 m a0 a1 a2 = some v) (hv : de v = true) : cZ Tryz.prog 157 [.agg #[.int .i64 a0, .int .i64 a1, .int .i64 a2]] v :=
 bY (S := []) Seat.mix Seat.names C7 (by kernel_rfl) (by kernel_rfl) (by kernel_rfl)
  aA ((R4 m a0 a1 a2).trans h) rfl hv
theorem Ll (a0 : Int) (a1 : Int) (a2 : Int) : ∃ m, t157 m a0 a1 a2 = some (.bool (bT a0 a1 a2)) := by
 refine ⟨0, ?_⟩; unfold t157 bT
 by_cases h : a2 >= 1 <;> simp [h]
theorem vq : cL Tryz.prog 157 Mr := cG (by
 intro xs v h; unfold Qu at h
 split at h
 . rename_i a0 a1 a2; simp only [zaj, zaO, true_and] at h; obtain rfl := h; obtain ⟨m, hm⟩ := Ll a0 a1 a2; exact Ly m a0 a1 a2 hm rfl
 . cases h)
def dR (y : Int) : Int := (y - 1) * 365 + (y - 1) / 4 - (y - 1) / 100 + (y - 1) / 400
def vO (y : Int) : Int :=
 let x1 : Int := (IntKind.i64.wrap (y - 1))
 IntKind.i64.wrap ((IntKind.i64.wrap ((IntKind.i64.wrap ((IntKind.i64.wrap (x1 * 365)) + (IntKind.i64.wrap (x1.tdiv 4)))) - (IntKind.i64.wrap (x1.tdiv 100)))) + (IntKind.i64.wrap (x1.tdiv 400)))
theorem Fo {y : Int} (h1 : 1 <= y) (h2 : y <= 20000) : vO y = dR y := by
 unfold vO dR; rw [wr (n := y - 1) (by omega) (by omega)]; simp only [td _ (show 0 <= y - 1 by omega)]; rw [wr (n := (y - 1) * 365) (by omega) (by omega), wr (n := (y - 1) / 4) (by omega) (by omega), wr (n := (y - 1) / 100) (by omega) (by omega), wr (n := (y - 1) / 400) (by omega) (by omega)]; rw [wr (n := (y - 1) * 365 + (y - 1) / 4) (by omega) (by omega), wr (n := (y - 1) * 365 + (y - 1) / 4 - (y - 1) / 100) (by omega) (by omega), wr (by omega) (by omega)]
def gP (y : Int) : Int := if yS y then 1 else 0
theorem pF (y : Int) : 0 <= gP y /\ gP y <= 1 := by unfold gP; split <;> omega
theorem BT {y : Int} (h : 1 <= y) : yS y = true ↔ (y % 4 = 0 /\ (y % 100 ≠ 0 \/ y % 400 = 0)) := by
 unfold yS; simp [tm _ (show 0 <= y by omega)]
theorem oQ {y : Int} (h : 1 <= y) : dR (y + 1) = dR y + 365 + gP y := by
 unfold dR gP
 by_cases hl : yS y = true
 . rw [if_pos hl]; have := (BT h).1 hl; omega
 . rw [if_neg hl]; have : ¬ (y % 4 = 0 /\ (y % 100 ≠ 0 \/ y % 400 = 0)) := fun h' => hl ((BT h).2 h')
   omega
def before (y m : Int) : Int :=
 if m <= 1 then 0 else if m = 2 then 31 else if m = 3 then 59 + gP y else if m = 4 then 90 + gP y else if m = 5 then 120 + gP y else if m = 6 then 151 + gP y
 else if m = 7 then 181 + gP y else if m = 8 then 212 + gP y else if m = 9 then 243 + gP y else if m = 10 then 273 + gP y else if m = 11 then 304 + gP y else if m = 12 then 334 + gP y else 365 + gP y
theorem sq {m : Int} (h1 : 1 <= m) (h2 : m <= 12) : m = 1 \/ m = 2 \/ m = 3 \/ m = 4 \/ m = 5 \/ m = 6 \/ m = 7 \/ m = 8 \/ m = 9 \/ m = 10 \/ m = 11 \/ m = 12 := by omega
theorem my {y m : Int} (hy : 1 <= y) (hy' : y <= 9999) (h1 : 1 <= m) (h2 : m <= 12) : before y (m + 1) = before y m + cH y m := by
 have := pF y; unfold before cH; rw [if_neg (by omega)]; unfold gP; rcases sq h1 h2 with rfl | rfl | rfl | rfl | rfl | rfl | rfl | rfl | rfl | rfl | rfl | rfl <;> simp [show ¬ y < 1 by omega, show ¬ 9999 < y by omega] <;> (try split) <;> omega
theorem Fe {y m : Int} : 0 <= before y m /\ before y m <= 366 := by
 have := pF y
 by_cases h1 : m <= 1
 . simp [before, h1]
 by_cases h2 : m <= 12
 . rcases sq (by omega) h2 with rfl | rfl | rfl | rfl | rfl | rfl | rfl | rfl | rfl | rfl | rfl | rfl <;> simp [before] <;> omega
 . have : before y m = 365 + gP y := by
    simp [before, h1, show m ≠ 2 by omega, show m ≠ 3 by omega, show m ≠ 4 by omega, show m ≠ 5 by omega, show m ≠ 6 by omega, show m ≠ 7 by omega, show m ≠ 8 by omega, show m ≠ 9 by omega, show m ≠ 10 by omega, show m ≠ 11 by omega, show m ≠ 12 by omega]
   omega
def PQ : List Sc -> Option (Bool × Value)
 | [.i a0] => some (true, .int .i64 (vO a0))
 | _ => none
def PW : List Value -> Option (Bool × Value) := iP [.int .i64] PQ
def t170 (m : Nat) (a0 : Int) : Option Value :=
 let x1 : Int := (IntKind.i64.wrap (a0 - 1))
 some (.int .i64 (IntKind.i64.wrap ((IntKind.i64.wrap ((IntKind.i64.wrap ((IntKind.i64.wrap (x1 * 365)) + (IntKind.i64.wrap (x1.tdiv 4)))) - (IntKind.i64.wrap (x1.tdiv 100)))) + (IntKind.i64.wrap (x1.tdiv 400)))))
def QH : Tab := fA []
theorem DM : bj.right Tryz.prog QH := bZ aA
theorem R6 (m : Nat) (a0 : Int) : fh Tryz.prog QH (fun _ => true) (cB Tryz.prog 170) [.int .i64 a0] (kks (cB Tryz.prog 170).results.toList Tryz.prog []) = t170 m a0 := by kernel_rfl
theorem LN (m : Nat) (a0 : Int) {v : Value} (h : t170 m a0 = some v) (hv : de v = true) : cZ Tryz.prog 170 [.int .i64 a0] v :=
 bY (S := []) Seat.mix Seat.names DM (by kernel_rfl) (by kernel_rfl) (by kernel_rfl)
  aA ((R6 m a0).trans h) rfl hv
theorem Mj (a0 : Int) : ∃ m, t170 m a0 = some (.int .i64 (vO a0)) := by
 exact ⟨0, rfl⟩
theorem IX : cL Tryz.prog 170 PW := cG (by
 intro xs v h; unfold PQ at h
 split at h
 . rename_i a0; simp only [zaj, zaO, true_and] at h; obtain rfl := h; obtain ⟨m, hm⟩ := Mj a0; exact LN m a0 hm rfl
 . cases h)
def number (y m d : Int) : Int := if bT y m d then dR y + before y m + d - 1 else -1
def Q2 : List Sc -> Option (Bool × Value)
 | [.i a0, .i a1, .i a2] => some (true, .int .i64 (number a0 a1 a2))
 | _ => none
def M8 : List Value -> Option (Bool × Value) := iP [.agg [some .i64, some .i64, some .i64]] Q2
def lB (m : Nat) (k : List Sc -> Option Value) : List Sc -> Option Value
 | [.i a0, .i a1, .i a2, .i a3, .i a4] =>
  bif decide (a1 < a3) then
   k [.i (IntKind.i64.wrap (a0 + (cH a2 a1))), .i (IntKind.i64.wrap (a1 + 1)), .i a2, .i a3, .i a4]
  else
   some (.int .i64 a0)
 | _ => none
def ow (m : Nat) : Nat -> List Sc -> Option Value := iter (lB m)
theorem BJ (m : Nat) (n : Nat) : ow m (n + 1) = lB m (ow m n) := rfl
def mw (F : List Sc -> Option Value) : Stop := ⟨[.lp [0, 1, 0, 1, 1, 1], .blk 0, .code [1, 1, 1, 1]], ⟨28, [(1, .lit (.pointer (some ⟨0, 0, none⟩))), (3, .int .i64), (4, .int .i64)], 1, (.n (some [.int .i64, .int .i64, .int .i64]) .e .e)⟩, F⟩
def t161 (m : Nat) (a0 : Int) (a1 : Int) (a2 : Int) : Option Value :=
 bif !(bT a0 a1 a2) then
  some (.int .i64 (-1))
 else
  ow m m [.i (IntKind.i64.wrap ((IntKind.i64.wrap ((vO a0) + a2)) - 1)), .i 1, .i a0, .i a1, .i a2]
def Kx : Tab := fA [(157, Mr), (158, KL), (170, PW)]
theorem Cz : bj.right Tryz.prog Kx := bZ (aJ vq (aJ vv (aJ IX aA)))
theorem M3 (m : Nat) (k : List Sc -> Option Value) (g : Nat -> Value) (a0 : Int) (a1 : Int) (a2 : Int) (a3 : Int) (a4 : Int) : kK Tryz.prog Kx (fun _ => true) (il (cB Tryz.prog 161)) [0, 1, 0, 1, 1, 1] [.blk 0, .code [1, 1, 1, 1]] (mw k).pat g [.i a0, .i a1, .i a2, .i a3, .i a4] (kks (cB Tryz.prog 161).results.toList Tryz.prog [mw k]) = lB m k [.i a0, .i a1, .i a2, .i a3, .i a4] := by kernel_rfl
theorem Pf {m : Nat} {k : List Sc -> Option Value} {xs : List Sc} {v : Value} (h : lB m k xs = some v) : ∃ a0 a1 a2 a3 a4, xs = [.i a0, .i a1, .i a2, .i a3, .i a4] := by
 unfold lB at h
 split at h
 . exact ⟨_, _, _, _, _, rfl⟩
 . cases h
theorem MP (m : Nat) : ∀ n, (mw (ow m n)).eX Tryz.prog [] (bR Kx) (cB Tryz.prog 161).results.toList (il (cB Tryz.prog 161)) :=
 Stop.iter (mk := mw) (Fs := lB m) (S := fun k => [mw k]) (p := [0, 1, 0, 1, 1, 1]) (rest := [.blk 0, .code [1, 1, 1, 1]]) (pat := (mw (fun _ => none)).pat) (stop := fun _ => true)
  (fun _ => rfl) (fun _ => rfl) (fun _ => rfl) (by kernel_rfl) (by kernel_rfl)
  (fun k h => (aJ h aA))
  (fun k g xs v h => by
   obtain ⟨a0, a1, a2, a3, a4, rfl⟩ := Pf h; exact (M3 m k g a0 a1 a2 a3 a4).trans h)
theorem RQ (m : Nat) (a0 : Int) (a1 : Int) (a2 : Int) : fh Tryz.prog Kx (fun _ => true) (cB Tryz.prog 161) [.agg #[.int .i64 a0, .int .i64 a1, .int .i64 a2]] (kks (cB Tryz.prog 161).results.toList Tryz.prog [mw (ow m m)]) = t161 m a0 a1 a2 := by kernel_rfl
theorem Jq (m : Nat) (a0 : Int) (a1 : Int) (a2 : Int) {v : Value} (h : t161 m a0 a1 a2 = some v) (hv : de v = true) : cZ Tryz.prog 161 [.agg #[.int .i64 a0, .int .i64 a1, .int .i64 a2]] v :=
 bY (S := [mw (ow m m)]) Seat.mix Seat.names Cz (by kernel_rfl) (by kernel_rfl) (by kernel_rfl)
  (aJ (MP m m) aA) ((RQ m a0 a1 a2).trans h) rfl hv
theorem LB (a0 : Int) (a1 : Int) (a2 : Int) : ∃ m, t161 m a0 a1 a2 = some (.int .i64 (number a0 a1 a2)) := by
 refine ⟨13, ?_⟩; have key : ∀ (k : Nat) (j a : Int), bT a0 a1 a2 = true -> 1 <= j -> j <= a1 -> a1 - j < k -> 0 <= a -> a <= 100000000 + 31 * j -> ow 13 k [.i a, .i j, .i a0, .i a1, .i a2] = some (.int .i64 (a + before a0 a1 - before a0 j)) := by
  intro k
  induction k with
  | zero => intro j a hr h1 h2 h3 h4 h5; omega
  | succ k ih =>
   intro j a hr h1 h2 h3 h4 h5; obtain ⟨hy1, hy2, hm1, hm2⟩ := eJ hr; have hl := fP a0 j; rw [BJ]; unfold lB
   by_cases hj : j < a1
   . simp only [hj, zaW, zaG]; rw [wr (n := a + cH a0 j) (by omega) (by omega), wr (n := j + 1) (by omega) (by omega), ih _ _ hr (by omega) (by omega) (by omega) (by omega) (by omega), my hy1 hy2 h1 (by omega)]
     congr 2; omega
   . have : j = a1 := by omega
     subst this; simp only [hj, zaR, zap]
     congr 2; omega
 unfold t161 number
 by_cases hr : bT a0 a1 a2 = true
 . obtain ⟨hy1, hy2, hm1, hm2⟩ := eJ hr; obtain ⟨hd1, hd2⟩ := dh.1 hr; have := fP a0 a1; have ha : 0 <= dR a0 /\ dR a0 <= 10000000 := by unfold dR; omega
   rw [hr, if_pos rfl, Fo hy1 (by omega), wr (n := dR a0 + a2) (by omega) (by omega), wr (n := dR a0 + a2 - 1) (by omega) (by omega)]; simp only [zbE, zap]; rw [key 13 1 _ hr (by omega) hm1 (by omega) (by omega) (by omega)]; simp only [before]
   congr 2
   simp; omega
 . simp only [Bool.not_eq_true] at hr; simp [hr]
theorem By : cL Tryz.prog 161 M8 := cG (by
 intro xs v h; unfold Q2 at h
 split at h
 . rename_i a0 a1 a2; simp only [zaj, zaO, true_and] at h; obtain rfl := h; obtain ⟨m, hm⟩ := LB a0 a1 a2; exact Jq m a0 a1 a2 hm rfl
 . cases h)
def Qf : List Sc -> Option (Bool × Value)
 | [.i a0, .i a1, .i a2, .i a3, .i a4, .i a5] => some (true, .bool (decide (number a0 a1 a2 < number a3 a4 a5)))
 | _ => none
def Q9 : List Value -> Option (Bool × Value) := iP [.agg [some .i64, some .i64, some .i64], .agg [some .i64, some .i64, some .i64]] Qf
def t159 (m : Nat) (a0 : Int) (a1 : Int) (a2 : Int) (a3 : Int) (a4 : Int) (a5 : Int) : Option Value :=
 some (.bool (decide ((number a0 a1 a2) < (number a3 a4 a5))))
def Rv : Tab := fA [(161, M8)]
theorem Dq : bj.right Tryz.prog Rv := bZ (aJ By aA)
theorem RN (m : Nat) (a0 : Int) (a1 : Int) (a2 : Int) (a3 : Int) (a4 : Int) (a5 : Int) : fh Tryz.prog Rv (fun _ => true) (cB Tryz.prog 159) [.agg #[.int .i64 a0, .int .i64 a1, .int .i64 a2], .agg #[.int .i64 a3, .int .i64 a4, .int .i64 a5]] (kks (cB Tryz.prog 159).results.toList Tryz.prog []) = t159 m a0 a1 a2 a3 a4 a5 := by kernel_rfl
theorem JP (m : Nat) (a0 : Int) (a1 : Int) (a2 : Int) (a3 : Int) (a4 : Int) (a5 : Int) {v : Value} (h : t159 m a0 a1 a2 a3 a4 a5 = some v) (hv : de v = true) : cZ Tryz.prog 159 [.agg #[.int .i64 a0, .int .i64 a1, .int .i64 a2], .agg #[.int .i64 a3, .int .i64 a4, .int .i64 a5]] v :=
 bY (S := []) Seat.mix Seat.names Dq (by kernel_rfl) (by kernel_rfl) (by kernel_rfl)
  aA ((RN m a0 a1 a2 a3 a4 a5).trans h) rfl hv
theorem KW (a0 : Int) (a1 : Int) (a2 : Int) (a3 : Int) (a4 : Int) (a5 : Int) : ∃ m, t159 m a0 a1 a2 a3 a4 a5 = some (.bool (decide (number a0 a1 a2 < number a3 a4 a5))) := by
 exact ⟨0, rfl⟩
theorem GK : cL Tryz.prog 159 Q9 := cG (by
 intro xs v h; unfold Qf at h
 split at h
 . rename_i a0 a1 a2 a3 a4 a5; simp only [zaj, zaO, true_and] at h; obtain rfl := h; obtain ⟨m, hm⟩ := KW a0 a1 a2 a3 a4 a5; exact JP m a0 a1 a2 a3 a4 a5 hm rfl
 . cases h)
theorem su {y : Int} : ∀ (k : Nat) (a : Int), 1 <= y -> y <= 9999 -> 1 <= a -> a + k <= 13 -> before y a <= before y (a + k)
 | 0, a, _, _, _, _ => by simp
 | k + 1, a, h1, h2, h3, h4 => by
  have := su k a h1 h2 h3 (by omega); have := my h1 h2 (m := a + k) (by omega) (by omega); have := fP y (a + k); have : a + ((k + 1 : Nat) : Int) = a + k + 1 := by omega
  rw [this]; omega
theorem zW {y a b : Int} (h1 : 1 <= y) (h2 : y <= 9999) (h3 : 1 <= a) (h : a <= b) (h4 : b <= 13) : before y a <= before y b := by
 have := su (b - a).toNat a h1 h2 h3 (by omega)
 rwa [show a + ((b - a).toNat : Int) = b by omega] at this
theorem B2 {y : Int} (h1 : 1 <= y) (h2 : y <= 20000) : 0 <= dR y /\ dR y <= 10000000 := by unfold dR; omega
def gE (y m d n : Int) : Bool := bT y m d && decide (12 <= 12 * y + m - 1 + n /\ 12 * y + m - 1 + n < 120000)
def fy (y m d n : Int) : Int := if gE y m d n then (12 * y + m - 1 + n) / 12 else 0
def fq (y m d n : Int) : Int := if gE y m d n then (12 * y + m - 1 + n) % 12 + 1 else 0
def gu (y m d n : Int) : Int := if gE y m d n then min d (cH ((12 * y + m - 1 + n) / 12) ((12 * y + m - 1 + n) % 12 + 1)) else 0
theorem Ns (a b : Int) : (if b < a then b else a) = min a b := by omega
theorem mV {y m : Int} (h1 : 1 <= y) (h2 : y <= 9999) (h3 : 1 <= m) (h4 : m <= 12) : 28 <= cH y m := by
 unfold cH
 repeat' split
 all_goals omega
def QE : List Sc -> Option (Bool × Value)
 | [.i a0, .i a1, .i a2, .i a3] => some (true, .agg #[.int .i64 (fy a0 a1 a2 a3), .int .i64 (fq a0 a1 a2 a3), .int .i64 (gu a0 a1 a2 a3)])
 | _ => none
def Q3 : List Value -> Option (Bool × Value) := iP [.agg [some .i64, some .i64, some .i64], .int .i64] QE
def t132 (m : Nat) (a0 : Int) (a1 : Int) (a2 : Int) (a3 : Int) : Option Value :=
 bif !(bT a0 a1 a2) then
  some (.agg #[.int .i64 0, .int .i64 0, .int .i64 0])
 else
  bif decide (a3 < (-119988)) then
   some (.agg #[.int .i64 0, .int .i64 0, .int .i64 0])
  else
   bif decide (a3 > 119988) then
    some (.agg #[.int .i64 0, .int .i64 0, .int .i64 0])
   else
    let x5 : Int := (IntKind.i64.wrap ((IntKind.i64.wrap ((IntKind.i64.wrap ((IntKind.i64.wrap ((IntKind.i64.wrap (a0 - 1)) * 12)) + a1)) - 1)) + a3))
    bif decide (x5 < 0) then
     some (.agg #[.int .i64 0, .int .i64 0, .int .i64 0])
    else
     let x7 : Int := (IntKind.i64.wrap ((IntKind.i64.wrap (x5.tdiv 12)) + 1))
     let x8 : Int := (IntKind.i64.wrap ((x5.tmod 12) + 1))
     let x9 : Int := (if (cH x7 x8) < a2 then (cH x7 x8) else a2)
     bif !(bT x7 x8 x9) then
      some (.agg #[.int .i64 0, .int .i64 0, .int .i64 0])
     else
      some (.agg #[.int .i64 x7, .int .i64 x8, .int .i64 x9])
def PK : Tab := fA [(157, Mr), (158, KL)]
theorem Dy : bj.right Tryz.prog PK := bZ (aJ vq (aJ vv aA))
theorem Sd (m : Nat) (a0 : Int) (a1 : Int) (a2 : Int) (a3 : Int) : fh Tryz.prog PK (fun _ => true) (cB Tryz.prog 132) [.agg #[.int .i64 a0, .int .i64 a1, .int .i64 a2], .int .i64 a3] (kks (cB Tryz.prog 132).results.toList Tryz.prog []) = t132 m a0 a1 a2 a3 := by kernel_rfl
theorem K4 (m : Nat) (a0 : Int) (a1 : Int) (a2 : Int) (a3 : Int) {v : Value} (h : t132 m a0 a1 a2 a3 = some v) (hv : de v = true) : cZ Tryz.prog 132 [.agg #[.int .i64 a0, .int .i64 a1, .int .i64 a2], .int .i64 a3] v :=
 bY (S := []) Seat.mix Seat.names Dy (by kernel_rfl) (by kernel_rfl) (by kernel_rfl)
  aA ((Sd m a0 a1 a2 a3).trans h) rfl hv
theorem Ka (a0 : Int) (a1 : Int) (a2 : Int) (a3 : Int) : ∃ m, t132 m a0 a1 a2 a3 = some (.agg #[.int .i64 (fy a0 a1 a2 a3), .int .i64 (fq a0 a1 a2 a3), .int .i64 (gu a0 a1 a2 a3)]) := by
 refine ⟨0, ?_⟩; unfold t132 fy fq gu
 by_cases hr : bT a0 a1 a2 = true
 . obtain ⟨y1, y2, m1, m2⟩ := eJ hr; obtain ⟨d1, d2⟩ := dh.1 hr
   by_cases hk : 12 <= 12 * a0 + a1 - 1 + a3 /\ 12 * a0 + a1 - 1 + a3 < 120000
   . have hs : gE a0 a1 a2 a3 = true := by simp [gE, hr, hk]
     simp only [hr, hs, za7, zbE, zap]; rw [wr (n := a0 - 1) (by omega) (by omega), wr (n := (a0 - 1) * 12) (by omega) (by omega), wr (n := (a0 - 1) * 12 + a1) (by omega) (by omega), wr (n := (a0 - 1) * 12 + a1 - 1) (by omega) (by omega), wr (n := (a0 - 1) * 12 + a1 - 1 + a3) (by omega) (by omega)]; simp only [td _ (show 0 <= (a0 - 1) * 12 + a1 - 1 + a3 by omega), tm _ (show 0 <= (a0 - 1) * 12 + a1 - 1 + a3 by omega)]; rw [wr (n := ((a0 - 1) * 12 + a1 - 1 + a3) / 12) (by omega) (by omega), wr (n := ((a0 - 1) * 12 + a1 - 1 + a3) / 12 + 1) (by omega) (by omega), wr (n := ((a0 - 1) * 12 + a1 - 1 + a3) % 12 + 1) (by omega) (by omega)]; rw [show ((a0 - 1) * 12 + a1 - 1 + a3) / 12 + 1 = (12 * a0 + a1 - 1 + a3) / 12 by omega, show ((a0 - 1) * 12 + a1 - 1 + a3) % 12 = (12 * a0 + a1 - 1 + a3) % 12 by omega, Ns]; have hl := mV (y := (12 * a0 + a1 - 1 + a3) / 12) (m := (12 * a0 + a1 - 1 + a3) % 12 + 1) (by omega) (by omega) (by omega) (by omega); have hR : bT ((12 * a0 + a1 - 1 + a3) / 12) ((12 * a0 + a1 - 1 + a3) % 12 + 1) (min a2 (cH ((12 * a0 + a1 - 1 + a3) / 12) ((12 * a0 + a1 - 1 + a3) % 12 + 1))) = true := dh.2 ⟨by omega, by omega⟩; simp [hR, show ¬ a3 < -119988 by omega, show ¬ a3 > 119988 by omega, show ¬ (a0 - 1) * 12 + a1 - 1 + a3 < 0 by omega]
   . have hs : gE a0 a1 a2 a3 = false := by simp [gE, hr]; omega
     simp only [hr, hs, zbW, zbh, zbE, zap]
     by_cases h1 : a3 < -119988
     . simp [h1]
     by_cases h2 : a3 > 119988
     . simp [h2]
     rw [wr (n := a0 - 1) (by omega) (by omega), wr (n := (a0 - 1) * 12) (by omega) (by omega), wr (n := (a0 - 1) * 12 + a1) (by omega) (by omega), wr (n := (a0 - 1) * 12 + a1 - 1) (by omega) (by omega), wr (n := (a0 - 1) * 12 + a1 - 1 + a3) (by omega) (by omega)]
     by_cases h3 : (a0 - 1) * 12 + a1 - 1 + a3 < 0
     . simp [h1, h2, h3]
     simp only [td _ (show 0 <= (a0 - 1) * 12 + a1 - 1 + a3 by omega), tm _ (show 0 <= (a0 - 1) * 12 + a1 - 1 + a3 by omega)]; rw [wr (n := ((a0 - 1) * 12 + a1 - 1 + a3) / 12) (by omega) (by omega), wr (n := ((a0 - 1) * 12 + a1 - 1 + a3) / 12 + 1) (by omega) (by omega), wr (n := ((a0 - 1) * 12 + a1 - 1 + a3) % 12 + 1) (by omega) (by omega)]; have hy : 9999 < ((a0 - 1) * 12 + a1 - 1 + a3) / 12 + 1 := by omega
     have hz : ∀ d, bT (((a0 - 1) * 12 + a1 - 1 + a3) / 12 + 1) (((a0 - 1) * 12 + a1 - 1 + a3) % 12 + 1) d = false := by
      intro d; cases hh : bT (((a0 - 1) * 12 + a1 - 1 + a3) / 12 + 1) (((a0 - 1) * 12 + a1 - 1 + a3) % 12 + 1) d with
      | false => rfl
      | true => have := eJ hh; omega
     simp [h1, h2, h3, hz]
 . simp only [Bool.not_eq_true] at hr; have hs : gE a0 a1 a2 a3 = false := by simp [gE, hr]
   simp [hr, hs]
theorem GQ : cL Tryz.prog 132 Q3 := cG (by
 intro xs v h; unfold QE at h
 split at h
 . rename_i a0 a1 a2 a3; simp only [zaj, zaO, true_and] at h; obtain rfl := h; obtain ⟨m, hm⟩ := Ka a0 a1 a2 a3; exact K4 m a0 a1 a2 a3 hm rfl
 . cases h)
theorem qa {y m d : Int} (h : bT y m d = true) : dR y <= number y m d /\ number y m d < dR (y + 1) /\ dR y + before y m <= number y m d /\ number y m d < dR y + before y (m + 1) /\ number y m d = dR y + before y m + d - 1 := by
 obtain ⟨y1, y2, m1, m2⟩ := eJ h; obtain ⟨d1, d2⟩ := dh.1 h; have e : number y m d = dR y + before y m + d - 1 := by unfold number; rw [if_pos h]
 have hb := Fe (y := y) (m := m); have hn := my y1 y2 m1 m2; have ha := oQ y1; have h13 : before y 13 = 365 + gP y := by simp [before]
 have := zW (a := m + 1) (b := 13) y1 y2 (by omega) (by omega) (by omega); omega
theorem jU (a b : Int) : (if b < a then b else a) = min a b := by omega
theorem js {y m d : Int} (h : bT y m d = true) : 0 <= number y m d /\ number y m d <= 10000000 := by
 have h1 := qa h; have h2 := eJ h; have h3 := B2 (y := y) (by omega) (by omega); have h4 := B2 (y := y + 1) (by omega) (by omega); omega
def com (y m d y' m' d' : Int) : Int := 360 * (y' - y) + 30 * (m' - m) + (if min d 30 = 30 then min d' 30 else d') - min d 30
def jD (b y m d y' m' d' : Int) : Int :=
 if bT y m d = true /\ bT y' m' d' = true /\ number y m d <= number y' m' d' then (if b = 0 then com y m d y' m' d' else if b = 1 \/ b = 2 then number y' m' d' - number y m d else 0) else 0
def v5 (b : Int) : Int := if b = 2 then 365 else 360
theorem HY (b y m d y' m' d' : Int) : -10000000 <= jD b y m d y' m' d' /\ jD b y m d y' m' d' <= 10000000 := by
 unfold jD
 split
 . rename_i h; obtain ⟨h1, h2, h3⟩ := h; have n1 := js h1; have n2 := js h2; have y1 := eJ h1; have y2 := eJ h2; have u1 := dh.1 h1; have u2 := dh.1 h2; have l1 := fP y m; have l2 := fP y' m'
   split
   . unfold com; split <;> omega
   . split <;> omega
 . omega
def Qs : List Sc -> Option (Bool × Value)
 | [.i a0, .i a1, .i a2, .i a3, .i a4, .i a5, .i a6] => some (true, .tuple #[.int .i64 (jD a0 a1 a2 a3 a4 a5 a6), .int .i64 (v5 a0)])
 | _ => none
def P2 : List Value -> Option (Bool × Value) := iP [.int .i64, .agg [some .i64, some .i64, some .i64], .agg [some .i64, some .i64, some .i64]] Qs
def t133 (m : Nat) (a0 : Int) (a1 : Int) (a2 : Int) (a3 : Int) (a4 : Int) (a5 : Int) (a6 : Int) : Option Value :=
 bif a0 == 2 then
  bif !(bT a1 a2 a3) then
   some (.tuple #[.int .i64 0, .int .i64 365])
  else
   bif !(bT a4 a5 a6) then
    some (.tuple #[.int .i64 0, .int .i64 365])
   else
    bif (decide (number a4 a5 a6 < number a1 a2 a3)) then
     some (.tuple #[.int .i64 0, .int .i64 365])
    else
     bif a0 == 0 then
      let x2 : Int := (if 30 < a3 then 30 else a3)
      bif x2 == 30 then
       some (.tuple #[.int .i64 (IntKind.i64.wrap ((IntKind.i64.wrap ((IntKind.i64.wrap ((IntKind.i64.wrap (360 * (IntKind.i64.wrap (a4 - a1)))) + (IntKind.i64.wrap (30 * (IntKind.i64.wrap (a5 - a2)))))) + (if 30 < a6 then 30 else a6))) - x2)), .int .i64 365])
      else
       some (.tuple #[.int .i64 (IntKind.i64.wrap ((IntKind.i64.wrap ((IntKind.i64.wrap ((IntKind.i64.wrap (360 * (IntKind.i64.wrap (a4 - a1)))) + (IntKind.i64.wrap (30 * (IntKind.i64.wrap (a5 - a2)))))) + a6)) - x2)), .int .i64 365])
     else
      bif a0 == 1 then
       bif a0 == 1 then
        some (.tuple #[.int .i64 (IntKind.i64.wrap ((number a4 a5 a6) - (number a1 a2 a3))), .int .i64 365])
       else
        some (.tuple #[.int .i64 0, .int .i64 365])
      else
       bif a0 == 2 then
        some (.tuple #[.int .i64 (IntKind.i64.wrap ((number a4 a5 a6) - (number a1 a2 a3))), .int .i64 365])
       else
        some (.tuple #[.int .i64 0, .int .i64 365])
 else
  bif !(bT a1 a2 a3) then
   some (.tuple #[.int .i64 0, .int .i64 360])
  else
   bif !(bT a4 a5 a6) then
    some (.tuple #[.int .i64 0, .int .i64 360])
   else
    bif (decide (number a4 a5 a6 < number a1 a2 a3)) then
     some (.tuple #[.int .i64 0, .int .i64 360])
    else
     bif a0 == 0 then
      let x21 : Int := (if 30 < a3 then 30 else a3)
      bif x21 == 30 then
       some (.tuple #[.int .i64 (IntKind.i64.wrap ((IntKind.i64.wrap ((IntKind.i64.wrap ((IntKind.i64.wrap (360 * (IntKind.i64.wrap (a4 - a1)))) + (IntKind.i64.wrap (30 * (IntKind.i64.wrap (a5 - a2)))))) + (if 30 < a6 then 30 else a6))) - x21)), .int .i64 360])
      else
       some (.tuple #[.int .i64 (IntKind.i64.wrap ((IntKind.i64.wrap ((IntKind.i64.wrap ((IntKind.i64.wrap (360 * (IntKind.i64.wrap (a4 - a1)))) + (IntKind.i64.wrap (30 * (IntKind.i64.wrap (a5 - a2)))))) + a6)) - x21)), .int .i64 360])
     else
      bif a0 == 1 then
       bif a0 == 1 then
        some (.tuple #[.int .i64 (IntKind.i64.wrap ((number a4 a5 a6) - (number a1 a2 a3))), .int .i64 360])
       else
        some (.tuple #[.int .i64 0, .int .i64 360])
      else
       bif a0 == 2 then
        some (.tuple #[.int .i64 (IntKind.i64.wrap ((number a4 a5 a6) - (number a1 a2 a3))), .int .i64 360])
       else
        some (.tuple #[.int .i64 0, .int .i64 360])
def Ri : Tab := fA [(157, Mr), (159, Q9), (161, M8)]
theorem Dj : bj.right Tryz.prog Ri := bZ (aJ vq (aJ GK (aJ By aA)))
theorem Si (m : Nat) (a0 : Int) (a1 : Int) (a2 : Int) (a3 : Int) (a4 : Int) (a5 : Int) (a6 : Int) : fh Tryz.prog Ri (fun _ => true) (cB Tryz.prog 133) [.int .i64 a0, .agg #[.int .i64 a1, .int .i64 a2, .int .i64 a3], .agg #[.int .i64 a4, .int .i64 a5, .int .i64 a6]] (kks (cB Tryz.prog 133).results.toList Tryz.prog []) = t133 m a0 a1 a2 a3 a4 a5 a6 := by kernel_rfl
theorem JQ (m : Nat) (a0 : Int) (a1 : Int) (a2 : Int) (a3 : Int) (a4 : Int) (a5 : Int) (a6 : Int) {v : Value} (h : t133 m a0 a1 a2 a3 a4 a5 a6 = some v) (hv : de v = true) : cZ Tryz.prog 133 [.int .i64 a0, .agg #[.int .i64 a1, .int .i64 a2, .int .i64 a3], .agg #[.int .i64 a4, .int .i64 a5, .int .i64 a6]] v :=
 bY (S := []) Seat.mix Seat.names Dj (by kernel_rfl) (by kernel_rfl) (by kernel_rfl)
  aA ((Si m a0 a1 a2 a3 a4 a5 a6).trans h) rfl hv
theorem Mx (a0 : Int) (a1 : Int) (a2 : Int) (a3 : Int) (a4 : Int) (a5 : Int) (a6 : Int) : ∃ m, t133 m a0 a1 a2 a3 a4 a5 a6 = some (.tuple #[.int .i64 (jD a0 a1 a2 a3 a4 a5 a6), .int .i64 (v5 a0)]) := by
 refine ⟨0, ?_⟩; unfold t133 jD v5
 by_cases c2 : a0 = 2
 . subst c2
   by_cases r1 : bT a1 a2 a3 = true
   . by_cases r2 : bT a4 a5 a6 = true
     . by_cases hn : number a4 a5 a6 < number a1 a2 a3
       . simp [r1, r2, hn, show ¬ number a1 a2 a3 <= number a4 a5 a6 by omega]
       . have n1 := js r1; have n2 := js r2; rw [wr (n := number a4 a5 a6 - number a1 a2 a3) (by omega) (by omega)]; simp [r1, r2, hn, show number a1 a2 a3 <= number a4 a5 a6 by omega]
     . simp [r1, r2]
   . simp [r1]
 have c2' : (a0 == 2) = false := by simpa using c2
 simp only [c2', c2, zap, zbh]
 by_cases r1 : bT a1 a2 a3 = true
 . by_cases r2 : bT a4 a5 a6 = true
   . by_cases hn : number a4 a5 a6 < number a1 a2 a3
     . by_cases d1 : a0 < 0 <;> by_cases d2 : a0 > 2 <;> simp [r1, r2, hn, d1, d2, show ¬ number a1 a2 a3 <= number a4 a5 a6 by omega]
     . have n1 := js r1; have n2 := js r2; have y1 := eJ r1; have y2 := eJ r2; have u1 := dh.1 r1; have u2 := dh.1 r2; have l1 := fP a1 a2; have l2 := fP a4 a5; rw [wr (n := number a4 a5 a6 - number a1 a2 a3) (by omega) (by omega)]
       by_cases c0 : a0 = 0
       . subst c0; rw [wr (n := a4 - a1) (by omega) (by omega), wr (n := a5 - a2) (by omega) (by omega), wr (n := 360 * (a4 - a1)) (by omega) (by omega), wr (n := 30 * (a5 - a2)) (by omega) (by omega), wr (n := 360 * (a4 - a1) + 30 * (a5 - a2)) (by omega) (by omega)]; simp only [jU]; rw [wr (n := 360 * (a4 - a1) + 30 * (a5 - a2) + min a6 30) (by omega) (by omega), wr (n := 360 * (a4 - a1) + 30 * (a5 - a2) + a6) (by omega) (by omega), wr (n := 360 * (a4 - a1) + 30 * (a5 - a2) + min a6 30 - min a3 30) (by omega) (by omega), wr (n := 360 * (a4 - a1) + 30 * (a5 - a2) + a6 - min a3 30) (by omega) (by omega)]
         by_cases c30 : min a3 30 = 30
         . simp [r1, r2, hn, c30, com, show number a1 a2 a3 <= number a4 a5 a6 by omega]
         . simp [r1, r2, hn, c30, show (min a3 30 == 30) = false by simpa using c30, com, show number a1 a2 a3 <= number a4 a5 a6 by omega]
       by_cases c1 : a0 = 1
       . subst c1; simp [r1, r2, hn, show number a1 a2 a3 <= number a4 a5 a6 by omega]
       by_cases d1 : a0 < 0
       . simp [r1, r2, hn, c0, c1, d1, c2, c2', show (a0 == 0) = false by simpa using c0, show (a0 == 1) = false by simpa using c1, show number a1 a2 a3 <= number a4 a5 a6 by omega]
       . have d2 : a0 > 2 := by omega
         simp [r1, r2, hn, c0, c1, d1, d2, c2, c2', show (a0 == 0) = false by simpa using c0, show (a0 == 1) = false by simpa using c1, show number a1 a2 a3 <= number a4 a5 a6 by omega]
   . simp [r1, r2]
 . simp [r1]
theorem Gp : cL Tryz.prog 133 P2 := cG (by
 intro xs v h; unfold Qs at h
 split at h
 . rename_i a0 a1 a2 a3 a4 a5 a6; simp only [zaj, zaO, true_and] at h; obtain rfl := h; obtain ⟨m, hm⟩ := Mx a0 a1 a2 a3 a4 a5 a6; exact JQ m a0 a1 a2 a3 a4 a5 a6 hm rfl
 . cases h)
def B9 (bal r b y m d y' m' d' : Int) : Int := if 0 <= r /\ r <= 5000 then mdV bal (r * jD b y m d y' m' d') (10000 * v5 b) 2 else 0
def Hx (bal r b y m d y' m' d' : Int) : Bool := decide (0 <= r /\ r <= 5000) && oH bal (r * jD b y m d y' m' d') (10000 * v5 b) 2
def q98 : List Sc -> Option (Bool × Value)
 | [.i a0, .i a1, .i a2, .i a3, .i a4, .i a5, .i a6, .i a7, .i a8] => some (true, .tuple #[.int .i64 (B9 a0 a1 a2 a3 a4 a5 a6 a7 a8), .bool (Hx a0 a1 a2 a3 a4 a5 a6 a7 a8)])
 | _ => none
def e98 : List Value -> Option (Bool × Value) := iP [.int .i64, .int .i64, .int .i64, .agg [some .i64, some .i64, some .i64], .agg [some .i64, some .i64, some .i64]] q98
def t98 (m : Nat) (a0 : Int) (a1 : Int) (a2 : Int) (a3 : Int) (a4 : Int) (a5 : Int) (a6 : Int) (a7 : Int) (a8 : Int) : Option Value :=
 bif decide (a1 < 0) then
  some (.tuple #[.int .i64 0, .bool false])
 else
  bif decide (a1 > 5000) then
   some (.tuple #[.int .i64 0, .bool false])
  else
   let x2 : Int := (IntKind.i64.wrap (a1 * (jD a2 a3 a4 a5 a6 a7 a8)))
   let x3 : Int := (IntKind.i64.wrap (10000 * (v5 a2)))
   some (.tuple #[.int .i64 (mdV a0 x2 x3 2), .bool (oH a0 x2 x3 2)])
def T98 : Tab := fA [(133, P2), (134, Nw)]
theorem F2 : bj.right Tryz.prog T98 := bZ (aJ Gp (aJ Cb aA))
theorem G98 (m : Nat) (a0 : Int) (a1 : Int) (a2 : Int) (a3 : Int) (a4 : Int) (a5 : Int) (a6 : Int) (a7 : Int) (a8 : Int) : fh Tryz.prog T98 (fun _ => true) (cB Tryz.prog 98) [.int .i64 a0, .int .i64 a1, .int .i64 a2, .agg #[.int .i64 a3, .int .i64 a4, .int .i64 a5], .agg #[.int .i64 a6, .int .i64 a7, .int .i64 a8]] (kks (cB Tryz.prog 98).results.toList Tryz.prog []) = t98 m a0 a1 a2 a3 a4 a5 a6 a7 a8 := by kernel_rfl
theorem PA (m : Nat) (a0 : Int) (a1 : Int) (a2 : Int) (a3 : Int) (a4 : Int) (a5 : Int) (a6 : Int) (a7 : Int) (a8 : Int) {v : Value} (h : t98 m a0 a1 a2 a3 a4 a5 a6 a7 a8 = some v) (hv : de v = true) : cZ Tryz.prog 98 [.int .i64 a0, .int .i64 a1, .int .i64 a2, .agg #[.int .i64 a3, .int .i64 a4, .int .i64 a5], .agg #[.int .i64 a6, .int .i64 a7, .int .i64 a8]] v :=
 bY (S := []) Seat.mix Seat.names F2 (by kernel_rfl) (by kernel_rfl) (by kernel_rfl)
  aA ((G98 m a0 a1 a2 a3 a4 a5 a6 a7 a8).trans h) rfl hv
theorem O4 (a0 : Int) (a1 : Int) (a2 : Int) (a3 : Int) (a4 : Int) (a5 : Int) (a6 : Int) (a7 : Int) (a8 : Int) : ∃ m, t98 m a0 a1 a2 a3 a4 a5 a6 a7 a8 = some (.tuple #[.int .i64 (B9 a0 a1 a2 a3 a4 a5 a6 a7 a8), .bool (Hx a0 a1 a2 a3 a4 a5 a6 a7 a8)]) := by
 refine ⟨0, ?_⟩; unfold t98 B9 Hx
 by_cases c1 : a1 < 0
 . simp [c1, show ¬ (0 <= a1 /\ a1 <= 5000) by omega]
 by_cases c2 : a1 > 5000
 . simp [c1, c2, show ¬ (0 <= a1 /\ a1 <= 5000) by omega]
 have hd := HY a2 a3 a4 a5 a6 a7 a8; have hp : v5 a2 = 360 \/ v5 a2 = 365 := by unfold v5; split <;> simp
 have hm := zbR (show jD a2 a3 a4 a5 a6 a7 a8 <= 10000000 by omega) (show 0 <= a1 by omega); have hm' := zbR (show -10000000 <= jD a2 a3 a4 a5 a6 a7 a8 by omega) (show 0 <= a1 by omega); simp only [c1, c2, zaR, zap, show 0 <= a1 /\ a1 <= 5000 by omega, and_self, za7, zaW, zba]; rw [wr (n := a1 * jD a2 a3 a4 a5 a6 a7 a8) (by omega) (by omega), wr (n := 10000 * v5 a2) (by omega) (by omega)]
theorem L2 : cL Tryz.prog 98 e98 := cG (by
 intro xs v h; unfold q98 at h
 split at h
 . rename_i a0 a1 a2 a3 a4 a5 a6 a7 a8; simp only [zaj, zaO, true_and] at h; obtain rfl := h; obtain ⟨m, hm⟩ := O4 a0 a1 a2 a3 a4 a5 a6 a7 a8; exact PA m a0 a1 a2 a3 a4 a5 a6 a7 a8 hm rfl
 . cases h)
end
end Go.Proofs.YtdbkoeefnodejaaGreat
