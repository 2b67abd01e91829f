/-
  Loops and functions over partly unknown values: where the road stops, what is said of the rest.
-/
import Derived.Test.YtoiijpphfckdjaaF13
namespace Go.Proofs.Ytoiijpphfckdjaa.Ev
noncomputable section
open Go
set_option linter.unusedVariables false
set_option linter.unusedSimpArgs false

/-- From here to there; the blocks of K are the same. -/
structure Since (K : List Nat) (φ : Phi) (S : SHeap) (H : Heap) (φ' : Phi) (S' : SHeap) (H' : Heap) : Prop where
  sim : Sim φ' S' H'
  ban : φ'.ban = φ.ban
  own : ∀ x, x < H.size → OwnI φ' S' x → OwnI φ S x
  ownW : ∀ x, x < H.size → OwnW φ' S' x → OwnW φ S x
  keep : ∀ x, x < H.size → ¬ OwnW φ S x → H'.get x = H.get x
  len : ∀ x c', x < H.size → H'.root.get x = some c' → ∃ c, H.root.get x = some c ∧ c'.cells.length = c.cells.length
  esize : H.size ≤ H'.size
  elock : H'.lock = H.lock
  ehid : H'.hid = H.hid
  ent : ∀ j, j ∈ K → ∀ y, φ j = some y → φ' j = some y

section
variable {K : List Nat} {φ φ' φ'' : Phi} {S S' S'' : SHeap} {H H' H'' : Heap}

theorem Since.trans (a : Since K φ S H φ' S' H') (b : Since K φ' S' H' φ'' S'' H'') : Since K φ S H φ'' S'' H'' where
  sim := b.sim
  ban := b.ban.trans a.ban
  own x h1 h2 := a.own x h1 (b.own x (Nat.lt_of_lt_of_le h1 a.esize) h2)
  ownW x h1 h2 := a.ownW x h1 (b.ownW x (Nat.lt_of_lt_of_le h1 a.esize) h2)
  keep x h1 h2 := (b.keep x (Nat.lt_of_lt_of_le h1 a.esize) (fun h => h2 (a.ownW x h1 h))).trans (a.keep x h1 h2)
  len x c' h1 h2 := by
    obtain ⟨c1, h3, h4⟩ := b.len x c' (Nat.lt_of_lt_of_le h1 a.esize) h2
    obtain ⟨c2, h5, h6⟩ := a.len x c1 h1 h3
    exact ⟨c2, h5, h4.trans h6⟩
  esize := Nat.le_trans a.esize b.esize
  elock := b.elock.trans a.elock
  ehid := b.ehid.trans a.ehid
  ent j hj y h := b.ent j hj y (a.ent j hj y h)
theorem Step.since (h : Step φ S H φ' S' H') : Since K φ S H φ' S' H' :=
  ⟨h.sim, h.ban, h.own, fun x hx => h.ownW hx, h.keep, h.len, h.esize, h.elock, h.ehid, fun j _ y hy => h.le j y hy⟩
theorem NB.since (hn : NB φ S H) (h : Since K φ S H φ' S' H') : NB φ' S' H' := fun x hx => by
  rw [h.ban] at hx
  obtain ⟨a, b⟩ := hn x hx
  exact ⟨Nat.lt_of_lt_of_le a h.esize, fun ho => b (h.own x a ho)⟩

theorem idn_get : ∀ {K : List Nat} {j : Nat}, j ∈ K → (idn K).get j = some (some j)
  | i :: K, j, h => by
    simp only [idn, List.map_cons, Sub.get]
    by_cases e : j = i
    · rw [if_pos e, e]
    · rw [if_neg e]
      refine idn_get (K := K) ?_
      rcases List.mem_cons.1 h with h | h
      · exact absurd h e
      · exact h

/-- Told anew. -/
theorem Pn_since {p : Pn} {vs : List SV} {us : List Un} {τ : Sub} (h : p.of (idn K) vs S = some (us, τ)) (hnb : NB φ S H) (hS : Sim φ S H) :
    ∃ φ', Since K φ S H φ' (p.heapTo us) H ∧ ∀ ws, DVL φ H (Own φ S) vs ws → DVL φ' H (Own φ' (p.heapTo us)) (p.valsTo us) ws := by
  obtain ⟨h1, h2, h3, h4, h5, _, h6, h7, h8⟩ := Pn_of (ban := φ.ban) h hS (fun x hx => .inl hx) (fun id x B _ hB hx hb => (hnb x hb).2 ⟨id, B, hB, hx⟩)
  refine ⟨_, ⟨h1, rfl, fun x _ hx => ?_, fun x _ hx => ?_, fun _ _ _ => rfl, fun x c' _ h => ⟨c', h, rfl⟩, Nat.le_refl _, rfl, rfl, fun j hj y hy => ?_⟩, h2⟩
  · obtain ⟨j, id, B, _, _, g1, g2⟩ := h3 x hx
    exact ⟨id, B, g1, g2⟩
  · obtain ⟨j, id, B, _, _, _, g0, g1, g2⟩ := h8 x hx
    exact ⟨id, B, g0, g1, g2⟩
  · rw [h4 j j (h7 (j, some j) (List.mem_map.2 ⟨j, hj, rfl⟩)) (h5 _ _ (idn_get hj))]
    exact hy
end

structure StopS where
  tags : List Tag
  pat : Pn
  F : List Un → Option (List Un)

def exitS (ex : Pn) (K : List Nat) (vs : List SV) (S : SHeap) : Option (List Un) :=
  match ex.of (idn K) vs S with
  | some (us, _) => some us
  | none => none
def StopS.at (t : StopS) (K : List Nat) (s : SSt) : Option (List Un) :=
  match t.pat.of (idn K) s.fr s.hp with
  | some (us, _) => t.F us
  | none => none
def kksS (P : Program) (rv : List ResultVar) (ex : Pn) (K : List Nat) (W : List StopS) (its : List Item) (s : SSt) : Option (List Un) :=
  match its with
  | [] => resultS P s.hp s.fr rv fun vs => exitS ex K vs s.hp
  | _ =>
    match W.find? fun t => decide (t.tags = its.map Item.tag) with
    | some t => t.at K s
    | none => none

section
variable {P : Program} {L : List FuncId} {O : Known} {kn : FuncId → Bool} {T : TabS} {K : List Nat} {ex : Pn} {rv : List ResultVar} {body : Code}

/-- What the rest comes to. -/
def EndS (P : Program) (L : List FuncId) (O : Known) (rv : List ResultVar) (ex : Pn) (K : List Nat) (its : List Item) (fv : List Value) (H : Heap) (φ : Phi) (S : SHeap) (ys : List Un) : Prop :=
  ∃ y H' φ', MeanV P L O rv its ⟨fv, H⟩ (y, H') ∧ Since K φ S H φ' (ex.heapTo ys) H' ∧ DV φ' H' (Own φ' (ex.heapTo ys)) (packS (ex.valsTo ys)) y

def HoldsS (P : Program) (L : List FuncId) (O : Known) (rv : List ResultVar) (ex : Pn) (K : List Nat) (body : Code) (t : StopS) : Prop :=
  ∀ its φ fr S fv H ys, Along body its → its.map Item.tag = t.tags → NB φ S H → Sim φ S H → DVL φ H (Own φ S) fr fv → t.at K ⟨fr, S⟩ = some ys → EndS P L O rv ex K its fv H φ S ys

theorem kksS_sound {W : List StopS} (hW : ∀ t ∈ W, HoldsS P L O rv ex K body t) {its : List Item} {φ : Phi} {fr : List SV} {S : SHeap} {fv : List Value} {H : Heap} {ys : List Un}
    (ha : Along body its) (hnb : NB φ S H) (hS : Sim φ S H) (hf : DVL φ H (Own φ S) fr fv) (h : kksS P rv ex K W its ⟨fr, S⟩ = some ys) : EndS P L O rv ex K its fv H φ S ys := by
  unfold kksS at h
  split at h
  · obtain ⟨ss, vs, h1, h2, h3⟩ := resultS_sound hS hf h
    unfold exitS at h3
    split at h3
    · rename_i us τ hof
      cases h3
      obtain ⟨φ', g1, g2⟩ := Pn_since hof hnb hS
      exact ⟨packE vs, H, φ', ⟨(.normal, ⟨fv, H⟩), .nil, by simp only [fin, h1]; rfl⟩, g1, packS_sound (g2 vs h2)⟩
    · cases h3
  · split at h
    · rename_i t ht
      have hd := List.find?_some ht
      exact hW t (List.mem_of_find?_eq_some ht) its φ fr S fv H ys ha (of_decide_eq_true hd).symm hnb hS hf h
    · cases h

/-- A road from anywhere. -/
theorem roadS (hkn : ∀ g, kn g = false → ∀ args, O g args = none) (hT : TabRight P L O T) {W : List StopS} (hW : ∀ t ∈ W, HoldsS P L O rv ex K body t) {d n : Nat} {stop : List Nat → Bool} {its : List Item} {φ : Phi} {fr : List SV} {S : SHeap} {fv : List Value} {H : Heap} {ys : List Un}
    (ha : Along body its) (hnb : NB φ S H) (hS : Sim φ S H) (hf : DVL φ H (Own φ S) fr fv) (h : execS P L T (callS P L T kn d) stop n its ⟨fr, S⟩ (kksS P rv ex K W) = some ys) : EndS P L O rv ex K its fv H φ S ys := by
  obtain ⟨its', φ1, fr1, S1, fv1, H1, hk, ha1, hst, hf1, hm⟩ := execS_sound hT (callS_right hkn hT d) h ha (fun _ => hnb) hS hf
  obtain ⟨y, H', φ', g1, g2, g3⟩ := kksS_sound hW ha1 (hnb.step hst) hst.sim hf1 hk
  exact ⟨y, H', φ', hm _ _ g1, hst.since.trans g2, g3⟩

/-- One round of a loop where the road stopped. -/
theorem StopS.step (hkn : ∀ g, kn g = false → ∀ args, O g args = none) (hT : TabRight P L O T) {W : List StopS} {t : StopS} {p : List Nat} {rest : List Tag} {its : List Item} {b : Code} {d n : Nat} {stop : List Nat → Bool}
    (ht : t.tags = .lp p :: rest) (hi : itemsOf body rest = some its) (hb : nav body (0 :: p) = some b) (hW : ∀ t ∈ W, HoldsS P L O rv ex K body t)
    (h : ∀ us ys, t.F us = some ys → execS P L T (callS P L T kn d) stop n (.code (0 :: p) b :: .lp p b :: its) ⟨t.pat.valsTo us, t.pat.heapTo us⟩ (kksS P rv ex K W) = some ys) : HoldsS P L O rv ex K body t := by
  intro its' φ fr S fv H ys ha htag hnb hS hf hat
  obtain ⟨a1, a2⟩ := itemsOf_along hi
  have hl : Tag.item body (.lp p) = some (.lp p b) := by simp [Tag.item, hb]
  have : its' = .lp p b :: its := by
    refine Along.same ha (.cons (i := .lp p b) hl a1) ?_
    rw [htag, ht]; simp [Item.tag, a2]
  subst this
  unfold StopS.at at hat
  split at hat
  · rename_i us τ hof
    obtain ⟨φ1, g1, g2⟩ := Pn_since hof hnb hS
    obtain ⟨y, H', φ', k1, k2, k3⟩ := roadS hkn hT hW (.cons (by simp [Item.tag, Tag.item, hb]) (.cons (i := .lp p b) hl a1)) (hnb.since g1) g1.sim (g2 fv hf) (h us ys hat)
    exact ⟨y, H', φ', k1.of fun q hq => .round hq, g1.trans k2, k3⟩
  · cases hat

/-- What is said of a function. -/
def TellsS (P : Program) (L : List FuncId) (O : Known) (g : FuncId) (en ex : Pn) (us ys : List Un) : Prop :=
  ∀ φ H vs, NB φ (en.heapTo us) H → Sim φ (en.heapTo us) H → DVL φ H (Own φ (en.heapTo us)) (en.valsTo us) vs →
    ∃ N y H' φ', callE P L O N g vs H = some (y, H') ∧ Since (keptOf en ex) φ (en.heapTo us) H φ' (ex.heapTo ys) H' ∧ DV φ' H' (Own φ' (ex.heapTo ys)) (packS (ex.valsTo ys)) y
end

/-! ### Unknowns as Lean's own data -/
class Uns (A : Type) where
  enc : A → List Un
  dec : List Un → Option (A × List Un)
  ok : ∀ us a r, dec us = some (a, r) → us = enc a ++ r
instance : Uns Int := ⟨fun n => [.i n], fun us => match us with | .i n :: r => some (n, r) | _ => none, fun us a r h => by split at h <;> simp_all⟩
instance : Uns Bool := ⟨fun n => [.b n], fun us => match us with | .b n :: r => some (n, r) | _ => none, fun us a r h => by split at h <;> simp_all⟩
instance : Uns (List Int) := ⟨fun n => [.l n], fun us => match us with | .l n :: r => some (n, r) | _ => none, fun us a r h => by split at h <;> simp_all⟩
instance : Uns (List Dat) := ⟨fun n => [.d n], fun us => match us with | .d n :: r => some (n, r) | _ => none, fun us a r h => by split at h <;> simp_all⟩
instance : Uns Unit := ⟨fun _ => [], fun us => some ((), us), fun us a r h => by simp_all⟩
instance {A B : Type} [Uns A] [Uns B] : Uns (A × B) := ⟨fun p => Uns.enc p.1 ++ Uns.enc p.2,
  fun us => match (Uns.dec us : Option (A × List Un)) with | some (a, r) => (match (Uns.dec r : Option (B × List Un)) with | some (b, s) => some ((a, b), s) | none => none) | none => none,
  fun us p r h => by
    split at h
    · rename_i a r1 h1
      split at h
      · rename_i b s h2
        cases h
        rw [Uns.ok _ _ _ h1, Uns.ok _ _ _ h2, List.append_assoc]
      · cases h
    · cases h⟩
abbrev Uns.via {A B : Type} [Uns B] (f : A → B) (g : B → A) (h : ∀ b, f (g b) = b) : Uns A := ⟨fun a => Uns.enc (f a), fun us => match (Uns.dec us : Option (B × List Un)) with | some (b, r) => some (g b, r) | none => none, fun us a r e => by
  split at e
  · rename_i b r1 h1
    cases e
    rw [Uns.ok _ _ _ h1, h]
  · cases e⟩
def onU {A R : Type} [Uns A] (f : A → Option R) (us : List Un) : Option R :=
  match (Uns.dec us : Option (A × List Un)) with
  | some (a, r) => (match r with | [] => f a | _ => none)
  | none => none
theorem onU_some {A R : Type} [Uns A] {f : A → Option R} {us : List Un} {r : R} (h : onU f us = some r) : ∃ a, us = Uns.enc a ∧ f a = some r := by
  unfold onU at h
  split at h
  · rename_i a s h1
    split at h
    · exact ⟨a, by rw [Uns.ok _ _ _ h1]; simp, h⟩
    · cases h
  · cases h

/-! ### Functions and their loops -/
/-- A function's road: what is known, what it is handed and hands back, which loops are gone through round by round. -/
structure RoadF where
  T : TabS
  g : FuncId
  en : Pn
  ex : Pn
  un : List (List Nat)
def eqNs : List Nat → List Nat → Bool
  | [], [] => true
  | a :: r, b :: s => a == b && eqNs r s
  | _, _ => false
def stopOf (un : List (List Nat)) (p : List Nat) : Bool := !(un.any fun q => eqNs p q)
/-- Slots of a frame. -/
def frm (n : Nat) (l : List (Nat × VP)) : List VP := (List.range n).map fun i => (l.lookup i).getD .any

section
variable (P : Program) (L : List FuncId) (O : Known) (kn : FuncId → Bool) (F : RoadF)
noncomputable def RoadF.body : Code := bodyOf (fnOf P F.g)
noncomputable def RoadF.rv : List ResultVar := (fnOf P F.g).results.toList
def RoadF.K : List Nat := keptOf F.en F.ex
def RoadF.Holds (t : StopS) : Prop := HoldsS P L O (F.rv P) F.ex F.K (F.body P) t
noncomputable def RoadF.roadAt (tg : List Tag) (pat : Pn) (us : List Un) (W : List StopS) : Option (List Un) :=
  match tg with
  | .lp p :: rest =>
    (match nav (F.body P) (0 :: p), itemsOf (F.body P) rest with
     | some b, some its => execS P L F.T (callS P L F.T kn 20) (stopOf F.un) 100000 (.code (0 :: p) b :: .lp p b :: its) ⟨pat.valsTo us, pat.heapTo us⟩ (kksS P (F.rv P) F.ex F.K W)
     | _, _ => none)
  | _ => none
noncomputable def RoadF.road (us : List Un) (W : List StopS) : Option (List Un) :=
  execS P L F.T (callS P L F.T kn 20) (stopOf F.un) 100000 [.code [] (F.body P)] ⟨F.en.valsTo us ++ List.replicate ((fnOf P F.g).ntmps - (F.en.valsTo us).length) (.tup []), F.en.heapTo us⟩ (kksS P (F.rv P) F.ex F.K W)
end

def iterA {A : Type} (Fs : (A → Option (List Un)) → A → Option (List Un)) : Nat → A → Option (List Un)
  | 0 => fun _ => none
  | n + 1 => Fs (iterA Fs n)

section
variable {P : Program} {L : List FuncId} {O : Known} {kn : FuncId → Bool} {F : RoadF}

/-- A loop, round by round. -/
theorem loop_holds {A : Type} [Uns A] (hkn : ∀ g, kn g = false → ∀ args, O g args = none) (hT : TabRight P L O F.T) {tg : List Tag} {pat : Pn} {Fs : (A → Option (List Un)) → A → Option (List Un)} (W : (A → Option (List Un)) → List StopS)
    (hW : ∀ k, F.Holds P L O ⟨tg, pat, onU k⟩ → ∀ t ∈ W k, F.Holds P L O t)
    (G : ∀ k a, F.roadAt P L kn tg pat (Uns.enc a) (W k) = Fs k a) (n : Nat) : F.Holds P L O ⟨tg, pat, onU (iterA Fs n)⟩ := by
  induction n with
  | zero =>
    intro its φ fr S fv H ys _ _ _ _ _ hv
    unfold StopS.at at hv
    split at hv
    · obtain ⟨a, _, h⟩ := onU_some hv
      cases h
    · cases hv
  | succ n ih =>
    intro its φ fr S fv H ys ha htag hnb hS hf hat
    have hat0 := hat
    unfold StopS.at at hat
    split at hat
    · obtain ⟨a, _, h⟩ := onU_some hat
      have h : Fs (iterA Fs n) a = some ys := h
      rw [← G] at h
      unfold RoadF.roadAt at h
      split at h
      · rename_i p rest
        split at h
        · rename_i b its2 hb hi
          refine StopS.step (W := W (iterA Fs n)) (d := 20) (n := 100000) (stop := stopOf F.un) hkn hT rfl hi hb (hW _ ih) (fun us zs hv => ?_) its φ fr S fv H ys ha htag hnb hS hf hat0
          obtain ⟨a', e, hv2⟩ := onU_some (f := iterA Fs (n + 1)) hv
          have hv2 : Fs (iterA Fs n) a' = some zs := hv2
          rw [← G] at hv2
          unfold RoadF.roadAt at hv2
          simp only [hb, hi] at hv2
          rw [e]
          exact hv2
        · cases h
      · cases h
    · cases hat

theorem RoadF.tells (hkn : ∀ g, kn g = false → ∀ args, O g args = none) (hT : TabRight P L O F.T) {us ys : List Un} {W : List StopS} (hk : kn F.g = false) (hg : (P.funcs[F.g]?).isSome = true) (hb : (fnOf P F.g).body.isSome = true)
    (hW : ∀ t ∈ W, F.Holds P L O t) (h : F.road P L kn us W = some ys) : TellsS P L O F.g F.en F.ex us ys := by
  obtain ⟨fn, hg⟩ := Option.isSome_iff_exists.1 hg
  have hf : fnOf P F.g = fn := by simp [fnOf, hg]
  unfold RoadF.Holds RoadF.body RoadF.rv RoadF.K at hW
  unfold RoadF.road RoadF.body RoadF.rv RoadF.K at h
  rw [hf] at hb hW h
  obtain ⟨c, hb⟩ := Option.isSome_iff_exists.1 hb
  have hc : bodyOf fn = c := by simp [bodyOf, hb]
  rw [hc] at hW h
  intro φ H vs hnb hS hd
  obtain ⟨y, H', φ', h1, h2, h3⟩ := roadS hkn hT hW nav_nil hnb hS (frame_DVL hd fn.ntmps) h
  obtain ⟨N, hN⟩ := call_of_mean (hkn F.g hk _) hg hb h1
  exact ⟨N, y, H', φ', hN, h2, h3⟩
end
end
end Go.Proofs.Ytoiijpphfckdjaa.Ev
