/-
  From the evaluator to a row's walk.
-/
import Derived.Test.YtoiijpphfckdjaaE18
import Derived.Carry
import Derived.OpenShut
import Derived.ProofKit
namespace Go.Proofs.Ytoiijpphfckdjaa.Ev
open Go
open Go.RowKit (Below)
set_option linter.unusedSimpArgs false

section
variable {P : Program} {L : List FuncId} {O : Known}

def namesOk (P : Program) : Bool := P.funcs.toList.all fun fn => fn.body.isNone || fn.name != "runtime.NumGoroutine"

theorem names_of (h : namesOk P = true) : ∀ (g : FuncId) (fn : Func) (c : Code), P.funcs[g]? = some fn → fn.body = some c → fn.name ≠ "runtime.NumGoroutine" := by
  intro g fn c hg hc
  have hm : fn ∈ P.funcs.toList := by
    have := List.mem_of_getElem? (l := P.funcs.toList) (i := g) (a := fn) (by simpa using hg)
    exact this
  have := List.all_eq_true.1 h fn hm
  rw [hc] at this
  simpa using this

/-- The empty heap. -/
def nil : Heap := ⟨0, .e, 0, []⟩
theorem R.nil (w : World) : R (fun _ => none) nil w := by
  refine ⟨fun x b h => ?_, (fun x l h => by cases h), Nat.le_refl _, fun x y b c l m h => ?_⟩
  · have := Heap.get_lt h; simp [Ev.nil] at this
  · have := Heap.get_lt h; simp [Ev.nil] at this

/-- A call that the evaluator carries out over memory that it may only read. -/
theorem calls_of (hmix : P.follows .mixedOrders = true) (hname : namesOk P = true) (hO : ∀ g args v, O g args = some v → ToldOk P g args v) {n : Nat} {g : FuncId} {args : List Value} {H H' : Heap} {b : Bool}
    (h : callE P L O n g args H = some (.bool b, H')) {f : Fm} {w : World} {args' : List Value} (hR : R f H w) (hl : H.lock = H.size) (hfree : ∀ j, H.size ≤ j → f j = none) (hv : VL f args args') :
    Calls P g args'.toArray w fun e w' => e = .returned (.bool b) ∧ Below w.heap.size w w' := by
  obtain ⟨_, hc⟩ := callE_sound hmix (names_of hname) hO n g args H _ H' h
  refine (hc f w args' hR (fun j h1 _ => hfree j h1) hv).mono ?_
  rintro e w' ⟨f', v', rfl, hV, hS, hR'⟩
  cases hV
  refine ⟨rfl, hS.os, hS.tape, hS.output, hS.wsize, fun k hk => hS.keep k hk ?_⟩
  rintro ⟨x, b, l, h1, h2, _⟩
  have := Heap.get_lt h1
  rw [mine_iff] at h2
  omega

/-- Does a call without memory answer true? -/
def yes (r : Option (Value × Heap)) : Bool := match r with | some (.bool b, _) => b | _ => false
theorem yes_some {r : Option (Value × Heap)} (h : yes r = true) : ∃ H', r = some (.bool true, H') := by
  unfold yes at h
  split at h
  · subst h; exact ⟨_, rfl⟩
  · cases h

theorem calls_plain (hmix : P.follows .mixedOrders = true) (hname : namesOk P = true) (hO : ∀ g args v, O g args = some v → ToldOk P g args v) {n : Nat} {g : FuncId} {args : List Value}
    (h : yes (callE P L O n g args nil) = true) {w : World} {args' : List Value} (hv : VL (fun _ => none) args args') :
    Calls P g args'.toArray w fun e w' => e = .returned (.bool true) ∧ Below w.heap.size w w' := by
  obtain ⟨H', h'⟩ := yes_some h
  exact calls_of hmix hname hO h' (R.nil w) rfl (fun _ _ => rfl) hv

/-- Values without memory in them. -/
def plainC : Value → Bool
  | .bool _ => true
  | .int .. => true
  | _ => false
def plain : Value → Bool
  | .agg cs => cs.toList.all plainC
  | v => plainC v

theorem plainC_eq {f : Fm} {v v' : Value} (h : plainC v = true) (hv : V f v v') : v' = v := by
  cases hv <;> first | rfl | (simp [plainC] at h; done)
theorem plainC_V (f : Fm) {v : Value} (h : plainC v = true) : V f v v := by
  cases v <;> first | (simp [plainC] at h; done) | constructor
theorem plain_V (f : Fm) {v : Value} (h : plain v = true) : V f v v := by
  cases v with
  | agg cs =>
    simp only [plain, List.all_eq_true] at h
    refine .agg _ _ rfl (fun i u hu => ?_) (fun i u u' h1 h2 => ?_)
    · have := h u (List.mem_of_getElem? (i := i) (by simpa using hu))
      cases u <;> simp_all [plainC, isCell]
    · rw [h1] at h2; cases h2
      exact plainC_V f (h u (List.mem_of_getElem? (i := i) (by simpa using h1)))
  | bool b => exact .bool b
  | int k n => exact .int k n
  | _ => simp [plain, plainC] at h
theorem plain_eq {f : Fm} {v v' : Value} (h : plain v = true) (hv : V f v v') : v' = v := by
  cases hv with
  | agg x x' hx hc vx =>
    congr 1
    simp only [plain, List.all_eq_true] at h
    apply Array.ext hx.symm
    intro i h1 h2
    have h3 : x[i]? = some x[i] := Array.getElem?_eq_getElem h2
    have h4 : x'[i]? = some x'[i] := Array.getElem?_eq_getElem h1
    exact plainC_eq (h x[i] (List.mem_of_getElem? (i := i) (by simp))) (vx i _ _ h3 h4)
  | _ => first | rfl | (simp [plain, plainC] at h; done)
theorem plains_eq {f : Fm} {vs vs' : List Value} (h : vs.all plain = true) (hv : VL f vs vs') : vs' = vs := by
  apply List.ext_getElem?
  intro i
  by_cases hi : i < vs.length
  · have hi' : i < vs'.length := by rw [← hv.1]; exact hi
    have h1 := List.getElem?_eq_getElem hi
    have h2 := List.getElem?_eq_getElem hi'
    rw [h2, h1]
    congr 1
    exact plain_eq (List.all_eq_true.1 h _ (List.getElem_mem hi)) (hv.2 i _ _ h1 h2)
  · have hi' : ¬ i < vs'.length := by rw [← hv.1]; exact hi
    rw [List.getElem?_eq_none (by omega), List.getElem?_eq_none (by omega)]
theorem plains_V (f : Fm) {vs : List Value} (h : vs.all plain = true) : VL f vs vs :=
  ⟨rfl, fun i v v' h1 h2 => by rw [h1] at h2; cases h2; exact plain_V f (List.all_eq_true.1 h v (List.mem_of_getElem? h1))⟩

/-- Tuples of such. -/
def plainT : Value → Bool
  | .tuple vs => vs.toList.all plain
  | v => plain v
theorem plainT_V (f : Fm) {v : Value} (h : plainT v = true) : V f v v := by
  cases v with
  | tuple vs =>
    simp only [plainT, List.all_eq_true] at h
    refine .tuple _ _ rfl (fun i u u' h1 h2 => ?_)
    rw [h1] at h2; cases h2
    exact plain_V f (h u (List.mem_of_getElem? (i := i) (by simpa using h1)))
  | _ => exact plain_V f h
theorem plainT_eq {f : Fm} {v v' : Value} (h : plainT v = true) (hv : V f v v') : v' = v := by
  cases hv with
  | tuple x x' hx vx =>
    congr 1
    simp only [plainT, List.all_eq_true] at h
    apply Array.ext hx.symm
    intro i h1 h2
    have h3 : x[i]? = some x[i] := Array.getElem?_eq_getElem h2
    have h4 : x'[i]? = some x'[i] := Array.getElem?_eq_getElem h1
    exact plain_eq (h x[i] (List.mem_of_getElem? (i := i) (by simp))) (vx i _ _ h3 h4)
  | agg x x' hx hc vx => exact plain_eq (v := .agg x) h (.agg x x' hx hc vx)
  | _ => first | rfl | (simp [plainT, plain, plainC] at h; done)

/-- A function of plain values that the evaluator carried out over the empty heap, whatever memory it is called in. -/
theorem told (hmix : P.follows .mixedOrders = true) (hname : namesOk P = true) (hO : ∀ g args v, O g args = some v → ToldOk P g args v) {n : Nat} {g : FuncId} {args : List Value} {v : Value} {H' : Heap}
    (h : callE P L O n g args nil = some (v, H')) (ha : args.all plain = true) (hv : plainT v = true) : ToldOk P g args v := by
  obtain ⟨h1, hc⟩ := callE_sound hmix (names_of hname) hO n g args nil _ H' h
  refine ⟨h1, fun f args' w hvl => ?_⟩
  have e := plains_eq ha hvl
  subst e
  refine (hc (fun _ => none) w args' (R.nil w) (fun _ _ _ => rfl) (plains_V _ ha)).mono ?_
  rintro e w' ⟨f', v', rfl, hV, hS, hR'⟩
  have e := plainT_eq hv hV
  subst e
  refine ⟨v', rfl, plainT_V f hv, hS.os, hS.tape, hS.output, hS.wsize, fun k hk => hS.keep k hk ?_⟩
  rintro ⟨x, b, l, h1, _⟩
  have := Heap.get_lt h1
  simp [Ev.nil] at this

/-- The closed laws. -/
theorem told_yes (hmix : P.follows .mixedOrders = true) (hname : namesOk P = true) (hO : ∀ g args v, O g args = some v → ToldOk P g args v) {n : Nat} {g : FuncId} (h : yes (callE P L O n g [] nil) = true) : ToldOk P g [] (.bool true) := by
  obtain ⟨H', h'⟩ := yes_some h
  exact told hmix hname hO h' rfl rfl
theorem ToldOk.walk {g : FuncId} (h : ToldOk P g [] (.bool true)) (w : World) : Calls P g #[] w fun e w' => e = .returned (.bool true) ∧ Below w.heap.size w w' := by
  refine (h.calls (fun _ => none) [] w (.nil _)).mono ?_
  rintro e w' ⟨v', rfl, hV, hb⟩
  cases hV
  exact ⟨rfl, hb⟩

/-! ### The row's last step: the answer is true, and the arguments read as they did -/
section
open Go.ChangeShapes Go.WideShapes Go.RowKit
variable {H : Type} {enc : TypeId × Value → H}

theorem args_stay (hl : laidOutB P = true) {W W' : World} (hb : Below W.heap.size W W') : ∀ (ts : List TypeId) (vs : List Value) (ds : List (DataW H)) (ps : List MemPlace),
    (∀ t ∈ ts, P.readableRec t = true ∧ t < P.types.size) → DataW.TrodAll enc P W 0 (fun _ => true) true ts vs ds ps → (∀ x ∈ ps, x.block < W.heap.size) →
    DataW.TrodAll enc P W' 0 (fun b => decide (b < W.heap.size)) true ts vs ds ps := by
  intro ts
  induction ts with
  | nil =>
    intro vs ds ps _ h _
    obtain ⟨rfl, rfl, rfl⟩ := trodAll_nil h
    exact trodAll_mk0
  | cons t ts ih =>
    intro vs ds ps ht h hlt
    obtain ⟨v, vs', d, ds', p, q, rfl, rfl, h1, h2, rfl⟩ : ∃ v vs' d ds' p q, vs = v :: vs' ∧ ds = d :: ds' ∧ DataW.Trod enc P W 0 (fun _ => true) true t v d p ∧
        DataW.TrodAll enc P W 0 (fun _ => true) true ts vs' ds' q ∧ ps = p ++ q := by
      cases vs with
      | nil => cases ds <;> exact h.elim
      | cons v vs' =>
        cases ds with
        | nil => exact h.elim
        | cons d ds' =>
          obtain ⟨p, q, h1, h2, h3⟩ := h
          exact ⟨v, vs', d, ds', p, q, rfl, rfl, h1, h2, h3⟩
    obtain ⟨hr, hs⟩ := ht t (by simp)
    exact ⟨p, q, Below.trod hl hr hs h1 hb (fun x hx => hlt x (by simp [hx])), ih vs' ds' q (fun u hu => ht u (by simp [hu])) h2 (fun x hx => hlt x (by simp [hx])), rfl⟩

theorem law_post (hl : laidOutB P = true) {fn : Func} {s : ChangeSpec} {tb : TypeId} {W W' : World} {args : Array Value} {ds gs : List (DataW H)} {before : List MemPlace}
    (hW : DataW.Whole enc P fn.params.toList s.vars false W args.toList ds gs before) (hvars : s.vars = []) (hb : Below W.heap.size W W') (hres : fn.resultTypes = #[tb]) (htb : P.underlying tb = some .bool)
    (hread : ∀ t ∈ fn.params.toList, P.readableRec t = true ∧ t < P.types.size) (hfn : s.fn H ds = { results := [.lit (.bool true)], args := ds }) :
    s.post enc P fn false true false false W args (.bool true) W' := by
  have hW0 := hW
  obtain ⟨p, q, h1, h2, h3, h4, h5⟩ := hW0
  rw [hvars] at h2
  obtain ⟨hgs, hq⟩ : gs = [] ∧ q = [] := by
    cases gs with
    | nil => exact ⟨rfl, h2⟩
    | cons g gs => exact h2.elim
  subst hgs; subst hq
  rw [List.append_nil] at h3
  subst h3
  have hlt : ∀ x ∈ before, x.block < W.heap.size := fun x hx => hW.lt x hx
  have hs : s.fn H (ds ++ []) = { results := [.lit (.bool true)], args := ds } := by rw [List.append_nil]; exact hfn
  refine ⟨ds, [], before, [], before, [], hW, ?_, ?_, ?_, ?_, fun h => by cases h⟩
  · rw [hs, hres]
    exact trodAll_cons_mk (shut_bool htb true) trodAll_mk0
  · rw [hs]
    exact args_stay hl hb _ _ _ _ hread h1 hlt
  · rw [hs, hvars]
    rfl
  · exact World.keptBut_mono (fun x hx => ⟨hx, .inr (.inl hx)⟩) (hb.frame (· ∈ before))
end
end
end Go.Proofs.Ytoiijpphfckdjaa.Ev
