/-
  From the evaluator to a row's walk.
-/
import Derived.Test.YtlnnlkjjgenddaaE18
import Derived.Carry
import Derived.OpenShut
import Derived.ProofKit
namespace Go.Proofs.Ytlnnlkjjgenddaa.Ev
open Go
open Go.RowKit (Below)
set_option linter.unusedSimpArgs false

section
variable {P : Program} {L : List FuncId} {O : FuncId → Option Value}

def namesOk (P : Program) : Bool := P.funcs.toList.all fun fn => fn.body.isNone || fn.name != "runtime.NumGoroutine"

theorem names_of (h : namesOk P = true) : ∀ (g : FuncId) (fn : Func) (c : Code), P.funcs[g]? = some fn → fn.body = some c → fn.name ≠ "runtime.NumGoroutine" := by
  intro g fn c hg hc
  have hm : fn ∈ P.funcs.toList := by
    have := List.mem_of_getElem? (l := P.funcs.toList) (i := g) (a := fn) (by simpa using hg)
    exact this
  have := List.all_eq_true.1 h fn hm
  rw [hc] at this
  simpa using this

/-- The empty heap. -/
def nil : Heap := ⟨0, .e, 0, []⟩
theorem R.nil (w : World) : R (fun _ => none) nil w := by
  refine ⟨fun x b h => ?_, (fun x l h => by cases h), Nat.le_refl _, fun x y b c l m h => ?_⟩
  · have := Heap.get_lt h; simp [Ev.nil] at this
  · have := Heap.get_lt h; simp [Ev.nil] at this

/-- A call that the evaluator carries out over memory that it may only read. -/
theorem calls_of (hmix : P.follows .mixedOrders = true) (hname : namesOk P = true) (hO : ∀ g v, O g = some v → ToldOk P g v) {n : Nat} {g : FuncId} {args : List Value} {H H' : Heap} {b : Bool}
    (h : callE P L O n g args H = some (.bool b, H')) {f : Fm} {w : World} {args' : List Value} (hR : R f H w) (hl : H.lock = H.size) (hfree : ∀ j, H.size ≤ j → f j = none) (hv : VL f args args') :
    Calls P g args'.toArray w fun e w' => e = .returned (.bool b) ∧ Below w.heap.size w w' := by
  obtain ⟨_, hc⟩ := callE_sound hmix (names_of hname) hO n g args H _ H' h
  refine (hc f w args' hR (fun j h1 _ => hfree j h1) hv).mono ?_
  rintro e w' ⟨f', v', rfl, hV, hS, hR'⟩
  cases hV
  refine ⟨rfl, hS.os, hS.tape, hS.output, hS.wsize, fun k hk => hS.keep k hk ?_⟩
  rintro ⟨x, b, l, h1, h2, _⟩
  have := Heap.get_lt h1
  rw [mine_iff] at h2
  omega

/-- Does a call without memory answer true? -/
def yes (r : Option (Value × Heap)) : Bool := match r with | some (.bool b, _) => b | _ => false
theorem yes_some {r : Option (Value × Heap)} (h : yes r = true) : ∃ H', r = some (.bool true, H') := by
  unfold yes at h
  split at h
  · subst h; exact ⟨_, rfl⟩
  · cases h

theorem calls_plain (hmix : P.follows .mixedOrders = true) (hname : namesOk P = true) (hO : ∀ g v, O g = some v → ToldOk P g v) {n : Nat} {g : FuncId} {args : List Value}
    (h : yes (callE P L O n g args nil) = true) {w : World} {args' : List Value} (hv : VL (fun _ => none) args args') :
    Calls P g args'.toArray w fun e w' => e = .returned (.bool true) ∧ Below w.heap.size w w' := by
  obtain ⟨H', h'⟩ := yes_some h
  exact calls_of hmix hname hO h' (R.nil w) rfl (fun _ _ => rfl) hv

theorem told (hmix : P.follows .mixedOrders = true) (hname : namesOk P = true) (hO : ∀ g v, O g = some v → ToldOk P g v) {n : Nat} {g : FuncId} (h : yes (callE P L O n g [] nil) = true) : ToldOk P g (.bool true) := by
  obtain ⟨H', h'⟩ := yes_some h
  exact ⟨(callE_sound hmix (names_of hname) hO n g [] nil _ H' h').1, fun f => .bool true, fun w => calls_plain hmix hname hO h (.nil _)⟩

/-! ### The row's last step: the answer is true, and the arguments read as they did -/
section
open Go.ChangeShapes Go.WideShapes Go.RowKit
variable {H : Type} {enc : TypeId × Value → H}

theorem args_stay (hl : laidOutB P = true) {W W' : World} (hb : Below W.heap.size W W') : ∀ (ts : List TypeId) (vs : List Value) (ds : List (DataW H)) (ps : List MemPlace),
    (∀ t ∈ ts, P.readableRec t = true ∧ t < P.types.size) → DataW.TrodAll enc P W 0 (fun _ => true) true ts vs ds ps → (∀ x ∈ ps, x.block < W.heap.size) →
    DataW.TrodAll enc P W' 0 (fun b => decide (b < W.heap.size)) true ts vs ds ps := by
  intro ts
  induction ts with
  | nil =>
    intro vs ds ps _ h _
    obtain ⟨rfl, rfl, rfl⟩ := trodAll_nil h
    exact trodAll_mk0
  | cons t ts ih =>
    intro vs ds ps ht h hlt
    obtain ⟨v, vs', d, ds', p, q, rfl, rfl, h1, h2, rfl⟩ : ∃ v vs' d ds' p q, vs = v :: vs' ∧ ds = d :: ds' ∧ DataW.Trod enc P W 0 (fun _ => true) true t v d p ∧
        DataW.TrodAll enc P W 0 (fun _ => true) true ts vs' ds' q ∧ ps = p ++ q := by
      cases vs with
      | nil => cases ds <;> exact h.elim
      | cons v vs' =>
        cases ds with
        | nil => exact h.elim
        | cons d ds' =>
          obtain ⟨p, q, h1, h2, h3⟩ := h
          exact ⟨v, vs', d, ds', p, q, rfl, rfl, h1, h2, h3⟩
    obtain ⟨hr, hs⟩ := ht t (by simp)
    exact ⟨p, q, Below.trod hl hr hs h1 hb (fun x hx => hlt x (by simp [hx])), ih vs' ds' q (fun u hu => ht u (by simp [hu])) h2 (fun x hx => hlt x (by simp [hx])), rfl⟩

theorem law_post (hl : laidOutB P = true) {fn : Func} {s : ChangeSpec} {tb : TypeId} {W W' : World} {args : Array Value} {ds gs : List (DataW H)} {before : List MemPlace}
    (hW : DataW.Whole enc P fn.params.toList s.vars false W args.toList ds gs before) (hvars : s.vars = []) (hb : Below W.heap.size W W') (hres : fn.resultTypes = #[tb]) (htb : P.underlying tb = some .bool)
    (hread : ∀ t ∈ fn.params.toList, P.readableRec t = true ∧ t < P.types.size) (hfn : s.fn H ds = { results := [.lit (.bool true)], args := ds }) :
    s.post enc P fn false true false false W args (.bool true) W' := by
  have hW0 := hW
  obtain ⟨p, q, h1, h2, h3, h4, h5⟩ := hW0
  rw [hvars] at h2
  obtain ⟨hgs, hq⟩ : gs = [] ∧ q = [] := by
    cases gs with
    | nil => exact ⟨rfl, h2⟩
    | cons g gs => exact h2.elim
  subst hgs; subst hq
  rw [List.append_nil] at h3
  subst h3
  have hlt : ∀ x ∈ before, x.block < W.heap.size := fun x hx => hW.lt x hx
  have hs : s.fn H (ds ++ []) = { results := [.lit (.bool true)], args := ds } := by rw [List.append_nil]; exact hfn
  refine ⟨ds, [], before, [], before, [], hW, ?_, ?_, ?_, ?_, fun h => by cases h⟩
  · rw [hs, hres]
    exact trodAll_cons_mk (shut_bool htb true) trodAll_mk0
  · rw [hs]
    exact args_stay hl hb _ _ _ _ hread h1 hlt
  · rw [hs, hvars]
    rfl
  · exact World.keptBut_mono (fun x hx => ⟨hx, .inr (.inl hx)⟩) (hb.frame (· ∈ before))
end
end
end Go.Proofs.Ytlnnlkjjgenddaa.Ev
