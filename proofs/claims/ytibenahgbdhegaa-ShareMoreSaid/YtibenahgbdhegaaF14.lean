/-
  Loops and functions over partly unknown values: where the road stops, what is said of the rest.
-/
import Derived.Test.YtibenahgbdhegaaF13
namespace Go.Proofs.Ytibenahgbdhegaa.Ev
open Go
set_option linter.unusedVariables false
set_option linter.unusedSimpArgs false

/-- From here to there; the first n0 blocks are the same. -/
structure Since (n0 : Nat) (φ : Phi) (S : SHeap) (H : Heap) (φ' : Phi) (S' : SHeap) (H' : Heap) : Prop where
  sim : Sim φ' S' H'
  ban : φ'.ban = φ.ban
  own : ∀ x, x < H.size → OwnI φ' S' x → OwnI φ S x
  keep : ∀ x, x < H.size → ¬ OwnI φ S x → H'.get x = H.get x
  len : ∀ x c', x < H.size → H'.root.get x = some c' → ∃ c, H.root.get x = some c ∧ c'.cells.length = c.cells.length
  esize : H.size ≤ H'.size
  elock : H'.lock = H.lock
  ehid : H'.hid = H.hid
  ent : ∀ j, j < n0 → ∀ y, φ j = some y → φ' j = some y

section
variable {n0 : Nat} {φ φ' φ'' : Phi} {S S' S'' : SHeap} {H H' H'' : Heap}

theorem Since.trans (a : Since n0 φ S H φ' S' H') (b : Since n0 φ' S' H' φ'' S'' H'') : Since n0 φ S H φ'' S'' H'' where
  sim := b.sim
  ban := b.ban.trans a.ban
  own x h1 h2 := a.own x h1 (b.own x (Nat.lt_of_lt_of_le h1 a.esize) h2)
  keep x h1 h2 := (b.keep x (Nat.lt_of_lt_of_le h1 a.esize) (fun h => h2 (a.own x h1 h))).trans (a.keep x h1 h2)
  len x c' h1 h2 := by
    obtain ⟨c1, h3, h4⟩ := b.len x c' (Nat.lt_of_lt_of_le h1 a.esize) h2
    obtain ⟨c2, h5, h6⟩ := a.len x c1 h1 h3
    exact ⟨c2, h5, h4.trans h6⟩
  esize := Nat.le_trans a.esize b.esize
  elock := b.elock.trans a.elock
  ehid := b.ehid.trans a.ehid
  ent j hj y h := b.ent j hj y (a.ent j hj y h)
theorem Step.since (h : Step φ S H φ' S' H') : Since n0 φ S H φ' S' H' :=
  ⟨h.sim, h.ban, h.own, h.keep, h.len, h.esize, h.elock, h.ehid, fun j _ y hy => h.le j y hy⟩

theorem same_get {τ : Sub} : ∀ {n : Nat}, Sub.same τ n = true → ∀ j, j < n → τ.get j = some (some j)
  | 0, _, j, h => by omega
  | n + 1, h, j, hj => by
    simp only [Sub.same, Bool.and_eq_true] at h
    by_cases e : j = n
    · subst e
      have h := h.1
      split at h
      · rename_i id hid; rw [beq_iff_eq] at h; subst h; exact hid
      · cases h
    · exact same_get h.2 j (by omega)

theorem Pn_keys {p : Pn} {view : Bool} {vs : List SV} {us : List Un} {τ : Sub} (h : p.of view vs S = some (us, τ)) : Sub.keys τ p.blks.length S.lock view = true := by
  unfold Pn.of at h
  split at h
  · split at h
    · split at h
      · rename_i hc; cases h; exact hc.1
      · cases h
    · cases h
  · cases h

/-- Told anew. -/
theorem Pn_since {p : Pn} {vs : List SV} {us : List Un} {τ : Sub} (h : p.of false vs S = some (us, τ)) (hsame : Sub.same τ n0 = true) (hS : Sim φ S H) :
    ∃ φ', Since n0 φ S H φ' (p.heapTo us) H ∧ ∀ ws, DVL φ H (Own φ S) vs ws → DVL φ' H (Own φ' (p.heapTo us)) (p.valsTo us) ws := by
  obtain ⟨h1, h2, h3, h4⟩ := Pn_of (ban := φ.ban) h hS (fun x hx => hx) (fun hv => by cases hv)
  refine ⟨_, ⟨h1, rfl, fun x _ hx => h3 x hx, fun _ _ _ => rfl, fun x c' _ h => ⟨c', h, rfl⟩, Nat.le_refl _, rfl, rfl, fun j hj y hy => ?_⟩, h2⟩
  have hg := same_get hsame j hj
  have hn : j < p.blks.length := by
    rcases keys_of (Pn_keys h) hg with ⟨hv, _⟩ | ⟨h, _⟩
    · cases hv
    · exact h
  rw [h4 j j hn hg]
  exact hy
end

structure StopS where
  tags : List Tag
  pat : Pn
  F : List Un → Option (List Un)

def exitS (ex : Pn) (n0 : Nat) (vs : List SV) (S : SHeap) : Option (List Un) :=
  match ex.of false vs S with
  | some (us, τ) => (match Sub.same τ n0 with | true => some us | false => none)
  | none => none
def StopS.at (t : StopS) (n0 : Nat) (s : SSt) : Option (List Un) :=
  match t.pat.of false s.fr s.hp with
  | some (us, τ) => (match Sub.same τ n0 with | true => t.F us | false => none)
  | none => none
def kksS (P : Program) (rv : List ResultVar) (ex : Pn) (n0 : Nat) (W : List StopS) (its : List Item) (s : SSt) : Option (List Un) :=
  match its with
  | [] => resultS P s.hp s.fr rv fun vs => exitS ex n0 vs s.hp
  | _ =>
    match W.find? fun t => decide (t.tags = its.map Item.tag) with
    | some t => t.at n0 s
    | none => none

section
variable {P : Program} {L : List FuncId} {O : Known} {kn : FuncId → Bool} {T : TabS} {n0 : Nat} {ex : Pn} {rv : List ResultVar} {body : Code}

/-- What the rest comes to. -/
def EndS (P : Program) (L : List FuncId) (O : Known) (rv : List ResultVar) (ex : Pn) (n0 : Nat) (its : List Item) (fv : List Value) (H : Heap) (φ : Phi) (S : SHeap) (ys : List Un) : Prop :=
  ∃ y H' φ', MeanV P L O rv its ⟨fv, H⟩ (y, H') ∧ Since n0 φ S H φ' (ex.heapTo ys) H' ∧ DV φ' H' (Own φ' (ex.heapTo ys)) (packS (ex.valsTo ys)) y

def HoldsS (P : Program) (L : List FuncId) (O : Known) (rv : List ResultVar) (ex : Pn) (n0 : Nat) (body : Code) (t : StopS) : Prop :=
  ∀ its φ fr S fv H ys, Along body its → its.map Item.tag = t.tags → Sim φ S H → DVL φ H (Own φ S) fr fv → t.at n0 ⟨fr, S⟩ = some ys → EndS P L O rv ex n0 its fv H φ S ys

theorem kksS_sound {W : List StopS} (hW : ∀ t ∈ W, HoldsS P L O rv ex n0 body t) {its : List Item} {φ : Phi} {fr : List SV} {S : SHeap} {fv : List Value} {H : Heap} {ys : List Un}
    (ha : Along body its) (hS : Sim φ S H) (hf : DVL φ H (Own φ S) fr fv) (h : kksS P rv ex n0 W its ⟨fr, S⟩ = some ys) : EndS P L O rv ex n0 its fv H φ S ys := by
  unfold kksS at h
  split at h
  · obtain ⟨ss, vs, h1, h2, h3⟩ := resultS_sound hS hf h
    unfold exitS at h3
    split at h3
    · rename_i us τ hof
      split at h3
      · rename_i hsame
        cases h3
        obtain ⟨φ', g1, g2⟩ := Pn_since hof hsame hS
        exact ⟨packE vs, H, φ', ⟨(.normal, ⟨fv, H⟩), .nil, by simp only [fin, h1]; rfl⟩, g1, packS_sound (g2 vs h2)⟩
      · cases h3
    · cases h3
  · split at h
    · rename_i t ht
      have hd := List.find?_some ht
      exact hW t (List.mem_of_find?_eq_some ht) its φ fr S fv H ys ha (of_decide_eq_true hd).symm hS hf h
    · cases h

/-- A road from anywhere. -/
theorem roadS (hkn : ∀ g, kn g = false → ∀ args, O g args = none) (hT : TabRight P L O T) {W : List StopS} (hW : ∀ t ∈ W, HoldsS P L O rv ex n0 body t) {d n : Nat} {stop : List Nat → Bool} {its : List Item} {φ : Phi} {fr : List SV} {S : SHeap} {fv : List Value} {H : Heap} {ys : List Un}
    (ha : Along body its) (hS : Sim φ S H) (hf : DVL φ H (Own φ S) fr fv) (h : execS P L T (callS P L T kn d) stop n its ⟨fr, S⟩ (kksS P rv ex n0 W) = some ys) : EndS P L O rv ex n0 its fv H φ S ys := by
  obtain ⟨its', φ1, fr1, S1, fv1, H1, hk, ha1, hst, hf1, hm⟩ := execS_sound hT (callS_right hkn hT d) h ha hS hf
  obtain ⟨y, H', φ', g1, g2, g3⟩ := kksS_sound hW ha1 hst.sim hf1 hk
  exact ⟨y, H', φ', hm _ _ g1, hst.since.trans g2, g3⟩

/-- One round of a loop where the road stopped. -/
theorem StopS.step (hkn : ∀ g, kn g = false → ∀ args, O g args = none) (hT : TabRight P L O T) {W : List StopS} {t : StopS} {p : List Nat} {rest : List Tag} {its : List Item} {b : Code} {d n : Nat} {stop : List Nat → Bool}
    (ht : t.tags = .lp p :: rest) (hi : itemsOf body rest = some its) (hb : nav body (0 :: p) = some b) (hW : ∀ t ∈ W, HoldsS P L O rv ex n0 body t)
    (h : ∀ us ys, t.F us = some ys → execS P L T (callS P L T kn d) stop n (.code (0 :: p) b :: .lp p b :: its) ⟨t.pat.valsTo us, t.pat.heapTo us⟩ (kksS P rv ex n0 W) = some ys) : HoldsS P L O rv ex n0 body t := by
  intro its' φ fr S fv H ys ha htag hS hf hat
  obtain ⟨a1, a2⟩ := itemsOf_along hi
  have hl : Tag.item body (.lp p) = some (.lp p b) := by simp [Tag.item, hb]
  have : its' = .lp p b :: its := by
    refine Along.same ha (.cons (i := .lp p b) hl a1) ?_
    rw [htag, ht]; simp [Item.tag, a2]
  subst this
  unfold StopS.at at hat
  split at hat
  · rename_i us τ hof
    split at hat
    · rename_i hsame
      obtain ⟨φ1, g1, g2⟩ := Pn_since hof hsame hS
      obtain ⟨y, H', φ', k1, k2, k3⟩ := roadS hkn hT hW (.cons (by simp [Item.tag, Tag.item, hb]) (.cons (i := .lp p b) hl a1)) g1.sim (g2 fv hf) (h us ys hat)
      exact ⟨y, H', φ', k1.of fun q hq => .round hq, g1.trans k2, k3⟩
    · cases hat
  · cases hat

noncomputable def roadFromS (P : Program) (L : List FuncId) (T : TabS) (kn : FuncId → Bool) (body : Code) (p : List Nat) (rest : List Tag) (pat : Pn) (us : List Un) (k : List Item → SSt → Option (List Un)) : Option (List Un) :=
  match nav body (0 :: p), itemsOf body rest with
  | some b, some its => execS P L T (callS P L T kn 20) (fun _ => true) 100000 (.code (0 :: p) b :: .lp p b :: its) ⟨pat.valsTo us, pat.heapTo us⟩ k
  | _, _ => none

/-- A loop, round by round. -/
def iterS (Fs : (List Un → Option (List Un)) → List Un → Option (List Un)) : Nat → List Un → Option (List Un)
  | 0 => fun _ => none
  | n + 1 => Fs (iterS Fs n)
theorem StopS.iter (hkn : ∀ g, kn g = false → ∀ args, O g args = none) (hT : TabRight P L O T) {mk : (List Un → Option (List Un)) → StopS} {Fs : (List Un → Option (List Un)) → List Un → Option (List Un)} {W : (List Un → Option (List Un)) → List StopS} {p : List Nat} {rest : List Tag} {pat : Pn}
    (ht : ∀ k, (mk k).tags = .lp p :: rest) (hF : ∀ k, (mk k).F = k) (hp : ∀ k, (mk k).pat = pat) (hi : (itemsOf body rest).isSome = true) (hb : (nav body (0 :: p)).isSome = true)
    (hW : ∀ k, HoldsS P L O rv ex n0 body (mk k) → ∀ t ∈ W k, HoldsS P L O rv ex n0 body t)
    (h : ∀ k us ys, Fs k us = some ys → roadFromS P L T kn body p rest pat us (kksS P rv ex n0 (W k)) = some ys) (n : Nat) :
    HoldsS P L O rv ex n0 body (mk (iterS Fs n)) := by
  induction n with
  | zero =>
    intro its φ fr S fv H ys _ _ _ _ hv
    unfold StopS.at at hv
    split at hv
    · split at hv
      · rw [hF] at hv; cases hv
      · cases hv
    · cases hv
  | succ n ih =>
    obtain ⟨its, hi⟩ := Option.isSome_iff_exists.1 hi
    obtain ⟨b, hb⟩ := Option.isSome_iff_exists.1 hb
    refine StopS.step (W := W (iterS Fs n)) (d := 20) (n := 100000) (stop := fun _ => true) hkn hT (ht _) hi hb (hW _ ih) fun us ys hv => ?_
    rw [hF] at hv
    rw [hp]
    have := h _ us ys hv
    unfold roadFromS at this
    rw [hb, hi] at this
    exact this

/-- What is said of a function. -/
def TellsS (P : Program) (L : List FuncId) (O : Known) (g : FuncId) (en ex : Pn) (us ys : List Un) : Prop :=
  ∀ φ H vs, Sim φ (en.heapTo us) H → DVL φ H (Own φ (en.heapTo us)) (en.valsTo us) vs →
    ∃ N y H' φ', callE P L O N g vs H = some (y, H') ∧ Since en.blks.length φ (en.heapTo us) H φ' (ex.heapTo ys) H' ∧ DV φ' H' (Own φ' (ex.heapTo ys)) (packS (ex.valsTo ys)) y

noncomputable def roadInS (P : Program) (L : List FuncId) (T : TabS) (kn : FuncId → Bool) (f : Func) (en : Pn) (us : List Un) (k : List Item → SSt → Option (List Un)) : Option (List Un) :=
  execS P L T (callS P L T kn 20) (fun _ => true) 100000 [.code [] (bodyOf f)] ⟨en.valsTo us ++ List.replicate (f.ntmps - (en.valsTo us).length) (.tup []), en.heapTo us⟩ k

theorem tells_road (hkn : ∀ g, kn g = false → ∀ args, O g args = none) (hT : TabRight P L O T) {g : FuncId} {en ex : Pn} {us ys : List Un} {W : List StopS} (hk : kn g = false) (hg : (P.funcs[g]?).isSome = true) (hb : (fnOf P g).body.isSome = true)
    (hW : ∀ t ∈ W, HoldsS P L O (fnOf P g).results.toList ex en.blks.length (bodyOf (fnOf P g)) t)
    (h : roadInS P L T kn (fnOf P g) en us (kksS P (fnOf P g).results.toList ex en.blks.length W) = some ys) : TellsS P L O g en ex us ys := by
  obtain ⟨fn, hg⟩ := Option.isSome_iff_exists.1 hg
  have hf : fnOf P g = fn := by simp [fnOf, hg]
  rw [hf] at hb hW h
  obtain ⟨c, hb⟩ := Option.isSome_iff_exists.1 hb
  have hc : bodyOf fn = c := by simp [bodyOf, hb]
  rw [hc] at hW
  unfold roadInS at h
  rw [hc] at h
  intro φ H vs hS hd
  obtain ⟨y, H', φ', h1, h2, h3⟩ := roadS hkn hT hW nav_nil hS (frame_DVL hd fn.ntmps) h
  obtain ⟨N, hN⟩ := call_of_mean (hkn g hk _) hg hb h1
  exact ⟨N, y, H', φ', hN, h2, h3⟩
end
end Go.Proofs.Ytibenahgbdhegaa.Ev
