/-
  Loops: where the road stops, what stands there, and what is said of it. Functions of plain values told by such roads.
-/
import Derived.Test.YtoiijpphfckdjaaE22
namespace Go.Proofs.Ytoiijpphfckdjaa.Ev
open Go

/-- An unknown. -/
inductive Sc where
  | i (n : Int)
  | b (x : Bool)

/-- What stands in a place: a whole number, a bool, several of these, or a thing that is known. -/
inductive Vp where
  | int (k : IntKind)
  | bool
  | agg (l : List (Option IntKind))
  | lit (v : Value)

def scOf : Option IntKind → Value → Option Sc
  | some k, .int k' n => if k = k' then some (.i n) else none
  | none, .bool b => some (.b b)
  | _, _ => none
def scTo : Option IntKind → Sc → Value
  | some k, .i n => .int k n
  | none, .b x => .bool x
  | _, _ => undef
def scsOf : List (Option IntKind) → List Value → Option (List Sc)
  | [], [] => some []
  | k :: ks, v :: vs => (match scOf k v, scsOf ks vs with | some a, some r => some (a :: r) | _, _ => none)
  | _, _ => none
def scsTo : List (Option IntKind) → List Sc → List Value
  | [], _ => []
  | k :: ks, x :: xs => scTo k x :: scsTo ks xs
  | _ :: _, [] => []

theorem scTo_of {k : Option IntKind} {v : Value} {x : Sc} (h : scOf k v = some x) : scTo k x = v := by
  unfold scOf at h
  split at h
  · split at h
    · rename_i he; cases h; cases he; rfl
    · cases h
  · cases h; rfl
  · cases h
theorem scsTo_of : ∀ {ks : List (Option IntKind)} {vs : List Value} {xs : List Sc}, scsOf ks vs = some xs → ∀ r, scsTo ks (xs ++ r) = vs
  | [], [], _, _, _ => rfl
  | [], _ :: _, _, h, _ => by cases h
  | _ :: _, [], _, h, _ => by cases h
  | k :: ks, v :: vs, xs, h, r => by
    unfold scsOf at h
    split at h
    · rename_i a l h1 h2
      cases h
      simp only [List.cons_append, scsTo]
      rw [scTo_of h1, scsTo_of h2]
    · cases h
theorem scsOf_len : ∀ {ks : List (Option IntKind)} {vs : List Value} {xs : List Sc}, scsOf ks vs = some xs → xs.length = ks.length
  | [], [], _, h => by cases h; rfl
  | [], _ :: _, _, h => by cases h
  | _ :: _, [], _, h => by cases h
  | k :: ks, v :: vs, xs, h => by
    unfold scsOf at h
    split at h
    · rename_i a l h1 h2
      cases h
      simp [scsOf_len h2]
    · cases h

def Vp.of : Vp → Value → Option (List Sc)
  | .int k, v => (match scOf (some k) v with | some x => some [x] | none => none)
  | .bool, v => (match scOf none v with | some x => some [x] | none => none)
  | .agg l, .agg vs => scsOf l vs.toList
  | .agg _, _ => none
  | .lit w, v => if eqc w v then some [] else none
def Vp.to : Vp → List Sc → Value
  | .int k, x :: _ => scTo (some k) x
  | .bool, x :: _ => scTo none x
  | .agg l, xs => .agg (scsTo l xs).toArray
  | .lit w, _ => w
  | _, [] => undef
def Vp.size : Vp → Nat
  | .int _ => 1
  | .bool => 1
  | .agg l => l.length
  | .lit _ => 0

theorem Vp.to_of {p : Vp} {v : Value} {xs : List Sc} (h : p.of v = some xs) (r : List Sc) : p.to (xs ++ r) = v ∧ xs.length = p.size := by
  unfold Vp.of at h
  split at h
  · split at h
    · rename_i x hx; cases h; exact ⟨scTo_of hx, rfl⟩
    · cases h
  · split at h
    · rename_i x hx; cases h; exact ⟨scTo_of hx, rfl⟩
    · cases h
  · rename_i l vs
    refine ⟨?_, scsOf_len h⟩
    simp only [Vp.to]
    rw [scsTo_of h]
  · cases h
  · split at h
    · rename_i he; cases h; exact ⟨eqc_eq he, rfl⟩
    · cases h

def vpsOf : List Vp → List Value → Option (List Sc)
  | [], [] => some []
  | p :: ps, v :: vs => (match p.of v, vpsOf ps vs with | some a, some r => some (a ++ r) | _, _ => none)
  | _, _ => none
def vpsTo : List Vp → List Sc → List Value
  | [], _ => []
  | p :: ps, xs => p.to xs :: vpsTo ps (xs.drop p.size)
def vpsSize : List Vp → Nat
  | [] => 0
  | p :: ps => p.size + vpsSize ps

theorem vpsTo_of : ∀ {ps : List Vp} {vs : List Value} {xs : List Sc}, vpsOf ps vs = some xs → ∀ r, vpsTo ps (xs ++ r) = vs ∧ xs.length = vpsSize ps
  | [], [], _, h, _ => by cases h; exact ⟨rfl, rfl⟩
  | [], _ :: _, _, h, _ => by cases h
  | _ :: _, [], _, h, _ => by cases h
  | p :: ps, v :: vs, xs, h, r => by
    unfold vpsOf at h
    split at h
    · rename_i a l h1 h2
      cases h
      obtain ⟨e1, e2⟩ := Vp.to_of h1 (l ++ r)
      obtain ⟨e3, e4⟩ := vpsTo_of h2 r
      simp only [vpsTo, List.append_assoc]
      refine ⟨?_, by simp [vpsSize, e2, e4]⟩
      rw [e1, ← e2, List.drop_left, e3]
    · cases h

/-- What stands in places of the frame. -/
def slotsOf (fr : List Value) : List (Nat × Vp) → Option (List Sc)
  | [] => some []
  | (i, p) :: ps => (match fr[i]? with
    | some v => (match p.of v, slotsOf fr ps with | some a, some r => some (a ++ r) | _, _ => none)
    | none => none)
def slotsTo (fr : List Value) : List (Nat × Vp) → List Sc → List Value
  | [], _ => fr
  | (i, p) :: ps, xs => slotsTo (fr.set i (p.to xs)) ps (xs.drop p.size)
def slotsSize : List (Nat × Vp) → Nat
  | [] => 0
  | (_, p) :: ps => p.size + slotsSize ps

theorem slotsTo_of {fr : List Value} : ∀ {ps : List (Nat × Vp)} {xs : List Sc}, slotsOf fr ps = some xs → ∀ r, slotsTo fr ps (xs ++ r) = fr ∧ xs.length = slotsSize ps
  | [], _, h, _ => by cases h; exact ⟨rfl, rfl⟩
  | (i, p) :: ps, xs, h, r => by
    unfold slotsOf at h
    split at h
    · rename_i v hv
      split at h
      · rename_i a l h1 h2
        cases h
        obtain ⟨e1, e2⟩ := Vp.to_of h1 (l ++ r)
        obtain ⟨e3, e4⟩ := slotsTo_of h2 r
        simp only [slotsTo, List.append_assoc]
        refine ⟨?_, by simp [slotsSize, e2, e4]⟩
        rw [e1, ← e2, List.drop_left]
        have : fr.set i v = fr := by
          apply List.ext_getElem?
          intro j
          rw [List.getElem?_set]
          split
          · rename_i hij; subst hij
            split
            · exact hv.symm
            · rename_i hlt; rw [List.getElem?_eq_none (by omega)] at hv; cases hv
          · rfl
        rw [this, e3]
      · cases h
    · cases h

/-- The memory, as a pattern. -/
inductive Pt where
  | e
  | n (v : Option (List Vp)) (l r : Pt)

def Pt.of : Pt → Tr → Option (List Sc)
  | .e, .e => some []
  | .n (some ps) l r, .n (some b) l' r' => (match vpsOf ps b.cells, Pt.of l l', Pt.of r r' with | some a, some c, some d => some (a ++ (c ++ d)) | _, _, _ => none)
  | .n none l r, .n none l' r' => (match Pt.of l l', Pt.of r r' with | some c, some d => some (c ++ d) | _, _ => none)
  | _, _ => none
def Pt.size : Pt → Nat
  | .e => 0
  | .n (some ps) l r => vpsSize ps + (l.size + r.size)
  | .n none l r => l.size + r.size
def Pt.to : Pt → List Sc → Tr
  | .e, _ => .e
  | .n (some ps) l r, xs => .n (some ⟨vpsTo ps xs⟩) (l.to (xs.drop (vpsSize ps))) (r.to ((xs.drop (vpsSize ps)).drop l.size))
  | .n none l r, xs => .n none (l.to xs) (r.to (xs.drop l.size))

theorem Pt.to_of : ∀ {p : Pt} {t : Tr} {xs : List Sc}, p.of t = some xs → ∀ r, p.to (xs ++ r) = t ∧ xs.length = p.size
  | .e, .e, _, h, _ => by cases h; exact ⟨rfl, rfl⟩
  | .e, .n .., _, h, _ => by cases h
  | .n (some _) _ _, .e, _, h, _ => by simp [Pt.of] at h
  | .n none _ _, .e, _, h, _ => by simp [Pt.of] at h
  | .n (some ps) l r, .n (some b) l' r', xs, h, z => by
    unfold Pt.of at h
    split at h
    · rename_i a c d h1 h2 h3
      cases h
      obtain ⟨e1, e2⟩ := vpsTo_of h1 (c ++ (d ++ z))
      obtain ⟨e3, e4⟩ := Pt.to_of h2 (d ++ z)
      obtain ⟨e5, e6⟩ := Pt.to_of h3 z
      simp only [Pt.to, List.append_assoc, Pt.size, List.length_append]
      refine ⟨?_, by omega⟩
      rw [e1, ← e2, List.drop_left, e3, ← e4, List.drop_left, e5]
    · cases h
  | .n none l r, .n none l' r', xs, h, z => by
    unfold Pt.of at h
    split at h
    · rename_i c d h2 h3
      cases h
      obtain ⟨e3, e4⟩ := Pt.to_of h2 (d ++ z)
      obtain ⟨e5, e6⟩ := Pt.to_of h3 z
      simp only [Pt.to, List.append_assoc, Pt.size, List.length_append]
      refine ⟨?_, by omega⟩
      rw [e3, ← e4, List.drop_left, e5]
    · cases h
  | .n (some _) _ _, .n none _ _, _, h, _ => by simp [Pt.of] at h
  | .n none _ _, .n (some _) _ _, _, h, _ => by simp [Pt.of] at h

/-- What stands where a road stops. -/
structure Pat where
  len : Nat
  slots : List (Nat × Vp)
  size : Nat
  root : Pt

def Pat.of (p : Pat) (s : St) : Option (List Sc) :=
  if s.fr.length = p.len ∧ s.hp.size = p.size ∧ s.hp.lock = 0 ∧ s.hp.hid = [] then
    match slotsOf s.fr p.slots, p.root.of s.hp.root with
    | some a, some b => some (a ++ b)
    | _, _ => none
  else none
def Pat.to (p : Pat) (g : Nat → Value) (xs : List Sc) : St :=
  ⟨slotsTo ((List.range p.len).map g) p.slots xs, ⟨p.size, p.root.to (xs.drop (slotsSize p.slots)), 0, []⟩⟩

theorem Pat.to_of {p : Pat} {s : St} {xs : List Sc} (h : p.of s = some xs) : s = p.to (fun i => s.fr.getD i undef) xs := by
  unfold Pat.of at h
  split at h
  · rename_i hc
    obtain ⟨h1, h2, h3, h4⟩ := hc
    split at h
    · rename_i a b ha hb
      cases h
      obtain ⟨e1, e2⟩ := slotsTo_of ha b
      obtain ⟨e3, e4⟩ := Pt.to_of hb []
      rw [List.append_nil] at e3
      have hf : (List.range p.len).map (fun i => s.fr.getD i undef) = s.fr := by
        apply List.ext_getElem?
        intro i
        by_cases hi : i < p.len
        · have hi' : i < s.fr.length := by omega
          simp [hi, hi']
        · rw [List.getElem?_eq_none (by simp; omega), List.getElem?_eq_none (by omega)]
      unfold Pat.to
      rw [hf, e1, ← e2, List.drop_left, e3]
      obtain ⟨fr, ⟨sz, rt, lk, hd⟩⟩ := s
      simp_all
    · cases h
  · cases h

/-- A place where the road stops, and what is said of the rest. -/
structure Stop where
  tags : List Tag
  pat : Pat
  F : List Sc → Option Value

def kks (rv : List ResultVar) (P : Program) (S : List Stop) (its : List Item) (s : St) : Option Value :=
  match its with
  | [] => (match resultE P s.hp s.fr rv with | some vs => some (packE vs) | none => none)
  | _ =>
    match S.find? fun t => decide (t.tags = its.map Item.tag) with
    | some t => (match t.pat.of s with | some xs => t.F xs | none => none)
    | none => none

section
variable {P : Program} {L : List FuncId} {T : Tab}

/-- What is said of a place is so. -/
def Stop.Holds (P : Program) (L : List FuncId) (O : Known) (rv : List ResultVar) (body : Code) (t : Stop) : Prop :=
  ∀ its s xs v, Along body its → its.map Item.tag = t.tags → t.pat.of s = some xs → t.F xs = some v → ∃ H, MeanV P L O rv its s (v, H)

theorem kks_sound {O : Known} {rv : List ResultVar} {body : Code} {S : List Stop} (hS : ∀ t ∈ S, t.Holds P L O rv body) {its : List Item} {s : St} {v : Value} (ha : Along body its)
    (h : kks rv P S its s = some v) : ∃ H, MeanV P L O rv its s (v, H) := by
  unfold kks at h
  split at h
  · split at h
    · rename_i vs hv
      cases h
      exact ⟨s.hp, (.normal, s), .nil, by simp only [fin, hv]; rfl⟩
    · cases h
  · split at h
    · rename_i t ht
      split at h
      · rename_i xs hx
        have := List.find?_some ht
        exact hS t (List.mem_of_find?_eq_some ht) its s xs v ha (of_decide_eq_true this).symm hx h
      · cases h
    · cases h

/-- A road from anywhere. -/
theorem road {rv : List ResultVar} {body : Code} {S : List Stop} (hS : ∀ t ∈ S, t.Holds P L (ofTab T) rv body) {d n : Nat} {stop : List Nat → Bool} {its : List Item} {s : St} {v : Value} (ha : Along body its)
    (h : exec P L T (callX P L T d) stop n its s (kks rv P S) = some v) : ∃ H, MeanV P L (ofTab T) rv its s (v, H) := by
  obtain ⟨its', s', hk, ha', hm⟩ := exec_sound callX_right h ha
  obtain ⟨H, hw⟩ := kks_sound hS ha' hk
  exact ⟨H, hm _ _ hw⟩

def itemsOf (body : Code) (l : List Tag) : Option (List Item) := l.mapM (Tag.item body)

theorem itemsOf_along {body : Code} : ∀ {l : List Tag} {its : List Item}, itemsOf body l = some its → Along body its ∧ its.map Item.tag = l
  | [], its, h => by
    simp [itemsOf] at h; subst h
    exact ⟨(fun _ hi => by cases hi), rfl⟩
  | t :: l, its, h => by
    unfold itemsOf at h
    rw [List.mapM_cons] at h
    cases ht : t.item body with
    | none => rw [ht] at h; cases h
    | some i =>
      rw [ht] at h
      cases hl : itemsOf body l with
      | none => unfold itemsOf at hl; rw [hl] at h; cases h
      | some r =>
        have hl' := hl
        unfold itemsOf at hl; rw [hl] at h
        cases h
        obtain ⟨h1, h2⟩ := itemsOf_along hl'
        have hi : i.tag = t := by
          cases t with
          | code p => simp only [Tag.item] at ht; cases hn : nav body p with | none => rw [hn] at ht; cases ht | some c => rw [hn] at ht; cases ht; rfl
          | blk id => simp only [Tag.item] at ht; cases ht; rfl
          | lp p => simp only [Tag.item] at ht; cases hn : nav body (0 :: p) with | none => rw [hn] at ht; cases ht | some c => rw [hn] at ht; cases ht; rfl
          | bad => cases ht
        exact ⟨.cons (by rw [hi]; exact ht) h1, by simp [hi, h2]⟩

/-- One round of a loop where the road stopped. -/
theorem Stop.step {rv : List ResultVar} {body : Code} {S : List Stop} {t : Stop} {p : List Nat} {rest : List Tag} {its : List Item} {b : Code} {d n : Nat} {stop : List Nat → Bool}
    (ht : t.tags = .lp p :: rest) (hi : itemsOf body rest = some its) (hb : nav body (0 :: p) = some b) (hS : ∀ t ∈ S, t.Holds P L (ofTab T) rv body)
    (h : ∀ g xs v, t.F xs = some v → exec P L T (callX P L T d) stop n (.code (0 :: p) b :: .lp p b :: its) (t.pat.to g xs) (kks rv P S) = some v) : t.Holds P L (ofTab T) rv body := by
  intro its' s xs v ha htag hof hF
  obtain ⟨a1, a2⟩ := itemsOf_along hi
  have hl : Tag.item body (.lp p) = some (.lp p b) := by simp [Tag.item, hb]
  have : its' = .lp p b :: its := by
    refine Along.same ha (.cons (i := .lp p b) hl a1) ?_
    rw [htag, ht]; simp [Item.tag, a2]
  subst this
  have hs := Pat.to_of hof
  have := h (fun i => s.fr.getD i undef) xs v hF
  rw [← hs] at this
  obtain ⟨H, hm⟩ := road hS (.cons (by simp [Item.tag, Tag.item, hb]) (.cons (i := .lp p b) hl a1)) this
  exact ⟨H, hm.of fun q hq => .round hq⟩

def Known.right (P : Program) (T : Tab) : Prop := ∀ g args v, T g args = some (true, v) → ToldOk P g args v
theorem Known.right_of (h : Known.right P T) : ∀ g args v, ofTab T g args = some v → ToldOk P g args v := by
  intro g args v hv
  unfold ofTab at hv
  split at hv
  · rename_i w hw; cases hv; exact h _ _ _ hw
  · cases hv

/-- A function of plain values told by its road. -/
theorem told_road (hmix : P.follows .mixedOrders = true) (hname : namesOk P = true) (hT : Known.right P T) {g : FuncId} {args : List Value} {v : Value} {fn : Func} {c : Code} {S : List Stop} {d n : Nat} {stop : List Nat → Bool}
    (hO : T g args = none) (hg : P.funcs[g]? = some fn) (hb : fn.body = some c) (hS : ∀ t ∈ S, t.Holds P L (ofTab T) fn.results.toList c)
    (h : exec P L T (callX P L T d) stop n [.code [] c] ⟨args ++ List.replicate (fn.ntmps - args.length) undef, nil⟩ (kks fn.results.toList P S) = some v)
    (ha : args.all plain = true) (hv : plainT v = true) : ToldOk P g args v := by
  obtain ⟨H, hm⟩ := road hS nav_nil h
  obtain ⟨N, hc⟩ := call_of_mean (by simp only [ofTab, hO]) hg hb hm
  exact told hmix hname (Known.right_of hT) hc ha hv

/-! ### Short forms -/
noncomputable def fnOf (P : Program) (g : Nat) : Func := P.funcs.getD g default
def bodyOf (f : Func) : Code := f.body.getD .skip
noncomputable def roadIn (P : Program) (T : Tab) (stop : List Nat → Bool) (f : Func) (args : List Value) (k : List Item → St → Option Value) : Option Value :=
  exec P [] T (callX P [] T 20) stop 100000 [.code [] (bodyOf f)] ⟨args ++ List.replicate (f.ntmps - args.length) undef, nil⟩ k
noncomputable def roadFrom (P : Program) (T : Tab) (stop : List Nat → Bool) (body : Code) (p : List Nat) (rest : List Tag) (pat : Pat) (g : Nat → Value) (xs : List Sc) (k : List Item → St → Option Value) : Option Value :=
  match nav body (0 :: p), itemsOf body rest with
  | some b, some its => exec P [] T (callX P [] T 20) stop 100000 (.code (0 :: p) b :: .lp p b :: its) (pat.to g xs) k
  | _, _ => none

theorem Stop.step' {rv : List ResultVar} {body : Code} {S : List Stop} {t : Stop} {p : List Nat} {rest : List Tag} {stop : List Nat → Bool}
    (ht : t.tags = .lp p :: rest) (hi : (itemsOf body rest).isSome = true) (hb : (nav body (0 :: p)).isSome = true) (hS : ∀ t ∈ S, t.Holds P [] (ofTab T) rv body)
    (h : ∀ g xs v, t.F xs = some v → roadFrom P T stop body p rest t.pat g xs (kks rv P S) = some v) : t.Holds P [] (ofTab T) rv body := by
  obtain ⟨its, hi⟩ := Option.isSome_iff_exists.1 hi
  obtain ⟨b, hb⟩ := Option.isSome_iff_exists.1 hb
  refine Stop.step (d := 20) (n := 100000) (stop := stop) ht hi hb hS fun g xs v hF => ?_
  have := h g xs v hF
  unfold roadFrom at this
  rw [hb, hi] at this
  exact this

/-- Tables out of entries. -/
def tabOf : List (FuncId × (List Value → Option (Bool × Value))) → Tab
  | [], _, _ => none
  | (h, e) :: r, g, args => match g == h with | true => e args | false => tabOf r g args
def EntRight (P : Program) (g : FuncId) (e : List Value → Option (Bool × Value)) : Prop := ∀ args v, e args = some (true, v) → ToldOk P g args v
theorem tab_right : ∀ {l : List (FuncId × (List Value → Option (Bool × Value)))}, (∀ p ∈ l, EntRight P p.1 p.2) → Known.right P (tabOf l)
  | [], _ => fun g args v h => by cases h
  | (i, e) :: r, hl => fun g args v h => by
    unfold tabOf at h
    split at h
    · rename_i hg
      rw [beq_iff_eq] at hg
      subst hg
      exact hl (g, e) (by simp) args v h
    · exact tab_right (fun p hp => hl p (List.mem_cons_of_mem _ hp)) g args v h

theorem told_road' (hmix : P.follows .mixedOrders = true) (hname : namesOk P = true) (hT : Known.right P T) {g : FuncId} {args : List Value} {v : Value} {S : List Stop} {stop : List Nat → Bool}
    (hO : T g args = none) (hg : (P.funcs[g]?).isSome = true) (hb : (fnOf P g).body.isSome = true) (hS : ∀ t ∈ S, t.Holds P [] (ofTab T) (fnOf P g).results.toList (bodyOf (fnOf P g)))
    (h : roadIn P T stop (fnOf P g) args (kks (fnOf P g).results.toList P S) = some v)
    (ha : args.all plain = true) (hv : plainT v = true) : ToldOk P g args v := by
  obtain ⟨fn, hg⟩ := Option.isSome_iff_exists.1 hg
  have hf : fnOf P g = fn := by simp [fnOf, hg]
  rw [hf] at hb hS h
  obtain ⟨c, hb⟩ := Option.isSome_iff_exists.1 hb
  have hc : bodyOf fn = c := by simp [bodyOf, hb]
  unfold roadIn at h
  rw [hc] at hS h
  exact told_road hmix hname hT hO hg hb hS h ha hv

theorem all0 {α : Type} {p : α → Prop} : ∀ t ∈ ([] : List α), p t := fun _ h => by cases h
theorem all1 {α : Type} {p : α → Prop} {a : α} {r : List α} (h : p a) (hr : ∀ t ∈ r, p t) : ∀ t ∈ a :: r, p t := by
  intro t ht
  rcases List.mem_cons.1 ht with rfl | ht
  · exact h
  · exact hr t ht

/-- An entry out of unknowns. -/
def entOf (ps : List Vp) (f : List Sc → Option (Bool × Value)) : List Value → Option (Bool × Value) := fun args =>
  match vpsOf ps args with
  | some xs => f xs
  | none => none
theorem ent_right {g : FuncId} {ps : List Vp} {f : List Sc → Option (Bool × Value)} (h : ∀ xs v, f xs = some (true, v) → ToldOk P g (vpsTo ps xs) v) : EntRight P g (entOf ps f) := by
  intro args v hv
  unfold entOf at hv
  split at hv
  · rename_i xs hx
    have := h xs v hv
    have e := (vpsTo_of hx []).1
    rw [List.append_nil] at e
    rw [e] at this
    exact this
  · cases hv

/-- A loop, round by round. -/
def iter (Fs : (List Sc → Option Value) → List Sc → Option Value) : Nat → List Sc → Option Value
  | 0 => fun _ => none
  | n + 1 => Fs (iter Fs n)
theorem Stop.iter {rv : List ResultVar} {body : Code} {mk : (List Sc → Option Value) → Stop} {Fs : (List Sc → Option Value) → List Sc → Option Value} {S : (List Sc → Option Value) → List Stop} {p : List Nat} {rest : List Tag} {pat : Pat} {stop : List Nat → Bool}
    (ht : ∀ k, (mk k).tags = .lp p :: rest) (hF : ∀ k, (mk k).F = k) (hp : ∀ k, (mk k).pat = pat) (hi : (itemsOf body rest).isSome = true) (hb : (nav body (0 :: p)).isSome = true)
    (hS : ∀ k, (mk k).Holds P [] (ofTab T) rv body → ∀ t ∈ S k, t.Holds P [] (ofTab T) rv body)
    (h : ∀ k g xs v, Fs k xs = some v → roadFrom P T stop body p rest pat g xs (kks rv P (S k)) = some v) (n : Nat) :
    (mk (Ev.iter Fs n)).Holds P [] (ofTab T) rv body := by
  induction n with
  | zero => exact fun its s xs v _ _ _ hv => by rw [hF] at hv; cases hv
  | succ n ih =>
    exact Stop.step' (S := S (Ev.iter Fs n)) (ht _) hi hb (hS _ ih) (by
      intro g xs v hv
      rw [hF] at hv
      rw [hp]
      exact h _ g xs v hv)

theorem ToldOk.walk' {g : FuncId} {args : List Value} (h : ToldOk P g args (.bool true)) (w : World) (ha : args.all plain = true := by rfl) : Calls P g args.toArray w fun e w' => e = .returned (.bool true) ∧ RowKit.Below w.heap.size w w' := by
  refine (h.calls (fun _ => none) args w (plains_V _ ha)).mono ?_
  rintro e w' ⟨v', rfl, hV, hb⟩
  cases hV
  exact ⟨rfl, hb⟩
end
end Go.Proofs.Ytoiijpphfckdjaa.Ev
