/-
  The end of a law whose arguments are data of any depth.
-/
import Derived.Test.YtoiijpphfckdjaaF17
import Derived.HandedShaped
namespace Go.Proofs.Ytoiijpphfckdjaa.Ev
noncomputable section
open Go
open Go.RowKit (Below)
set_option linter.unusedVariables false
set_option linter.unusedSimpArgs false

/-- Some memory there is. -/
theorem blk_of_shaped {P : Program} {w : World} (h : w.ShapedOpen P) : ∃ (k0 : Nat) (C : Array Value) (e : TypeId) (fr : Nat × Nat), w.heap[k0]? = some (.cells C e fr) := by
  obtain ⟨o, o₀, h1, h2, h3⟩ := h.2 P.globals.size (Nat.le_refl _) (by simp [begin]; omega)
  rw [Nat.sub_self, if_neg (by decide)] at h3
  have h4 : ∃ C e fr, o₀ = .cells C e fr := by
    simp only [begin, Array.getElem?_push, Array.size_push, Array.size_mapIdx] at h2
    rw [if_neg (by omega), if_neg (by omega), if_neg (by omega), if_neg (by omega), if_pos trivial] at h2
    exact ⟨_, _, _, (Option.some.inj h2).symm⟩
  obtain ⟨C, e, fr, h5⟩ := h4
  exact ⟨_, C, e, fr, by rw [h1, h3, h5]⟩

/-! ### Unknowns that are well formed -/
def vpS : Sch → VP
  | .int k => .int k
  | .bool => .bool
  | .ints k => .ints k
  | .recs l => .recs l
def unS' : Sch → Dat → Un
  | .int _, d => .i d.int
  | .bool, d => .b (d.int != 0)
  | .ints _, d => .l (d.sub.map Dat.int)
  | .recs _, d => .d d.sub
def uns : List Sch → List Dat → List Un
  | s :: l, d :: r => unS' s d :: uns l r
  | _, _ => []
def WfU : List Sch → List Un → Prop
  | [], [] => True
  | .int k :: l, .i n :: r => (Lit.int k n).wf = true ∧ WfU l r
  | .bool :: l, .b _ :: r => WfU l r
  | .ints k :: l, .l xs :: r => (xs.length ≤ 140737488355328 ∧ ∀ x ∈ xs, (Lit.int k x).wf = true) ∧ WfU l r
  | .recs s :: l, .d xs :: r => (xs.length ≤ 140737488355328 ∧ ∀ x ∈ xs, WfR s x.sub) ∧ WfU l r
  | _, _ => False
theorem wf_nil {us : List Un} (h : WfU [] us) : us = [] := by cases us with | nil => rfl | cons u us => exact h.elim
theorem wf_int {k : IntKind} {l : List Sch} {us : List Un} (h : WfU (.int k :: l) us) : ∃ a r, us = .i a :: r ∧ (Lit.int k a).wf = true ∧ WfU l r := by
  cases us with
  | nil => exact h.elim
  | cons u us => cases u <;> first | exact ⟨_, _, rfl, h.1, h.2⟩ | exact h.elim
theorem wf_bool {l : List Sch} {us : List Un} (h : WfU (.bool :: l) us) : ∃ a r, us = .b a :: r ∧ WfU l r := by
  cases us with
  | nil => exact h.elim
  | cons u us => cases u <;> first | exact ⟨_, _, rfl, h⟩ | exact h.elim
theorem wf_ints {k : IntKind} {l : List Sch} {us : List Un} (h : WfU (.ints k :: l) us) : ∃ a r, us = .l a :: r ∧ (a.length ≤ 140737488355328 ∧ ∀ x ∈ a, (Lit.int k x).wf = true) ∧ WfU l r := by
  cases us with
  | nil => exact h.elim
  | cons u us => cases u <;> first | exact ⟨_, _, rfl, h.1, h.2⟩ | exact h.elim
theorem wf_recs {s l : List Sch} {us : List Un} (h : WfU (.recs s :: l) us) : ∃ a r, us = .d a :: r ∧ (a.length ≤ 140737488355328 ∧ ∀ x ∈ a, WfR s x.sub) ∧ WfU l r := by
  cases us with
  | nil => exact h.elim
  | cons u us => cases u <;> first | exact ⟨_, _, rfl, h.1, h.2⟩ | exact h.elim
theorem WfR.uns : ∀ {l : List Sch} {r : List Dat}, WfR l r → WfU l (uns l r)
  | [], [], _ => trivial
  | s :: l, d :: r, h => by
    simp only [WfR] at h
    have := WfR.uns h.2
    cases s with
    | int k => exact ⟨h.1, this⟩
    | bool => exact this
    | ints k =>
      refine ⟨⟨by rw [List.length_map]; exact h.1.1, fun x hx => ?_⟩, this⟩
      obtain ⟨d', hd, rfl⟩ := List.mem_map.1 hx
      exact h.1.2 d' hd
    | recs s => exact ⟨h.1, this⟩
  | [], _ :: _, h => by simp [WfR] at h
  | _ :: _, [], h => by simp [WfR] at h
theorem WfU.append : ∀ {a b : List Sch} {r s : List Un}, WfU a r → WfU b s → WfU (a ++ b) (r ++ s)
  | [], b, r, s, h, k => by rw [wf_nil h]; exact k
  | .int _ :: a, b, r, s, h, k => by obtain ⟨x, q, rfl, h1, h2⟩ := wf_int h; exact ⟨h1, h2.append k⟩
  | .bool :: a, b, r, s, h, k => by obtain ⟨x, q, rfl, h2⟩ := wf_bool h; exact h2.append k
  | .ints _ :: a, b, r, s, h, k => by obtain ⟨x, q, rfl, h1, h2⟩ := wf_ints h; exact ⟨h1, h2.append k⟩
  | .recs _ :: a, b, r, s, h, k => by obtain ⟨x, q, rfl, h1, h2⟩ := wf_recs h; exact ⟨h1, h2.append k⟩
theorem uns_len : ∀ {l : List Sch} {r : List Dat}, r.length = l.length → (uns l r).length = l.length
  | [], [], _ => rfl
  | s :: l, d :: r, h => by simp [uns, uns_len (l := l) (r := r) (by simpa using h)]
  | [], _ :: _, h => by simp at h
  | _ :: _, [], h => by simp at h
theorem vpS_size (s : Sch) : (vpS s).size = 1 := by cases s <;> rfl
theorem vpS_to (s : Sch) (d : Dat) (rest : List Un) : (vpS s).to (unS' s d :: rest) = decS s d := by cases s <;> rfl
theorem vps_sizes : ∀ (l : List Sch), VP.sizes (l.map vpS) = l.length
  | [] => rfl
  | s :: l => by simp [VP.sizes, vpS_size, vps_sizes l]; omega
theorem vps_tos : ∀ {l : List Sch} {r : List Dat} (rest : List Un), r.length = l.length → VP.tos (l.map vpS) (uns l r ++ rest) = svs l r
  | [], [], rest, _ => rfl
  | s :: l, d :: r, rest, h => by
    simp only [List.map_cons, uns, List.cons_append, VP.tos, svs]
    rw [vpS_to, vpS_size, List.drop_one, List.tail_cons, vps_tos rest (by simpa using h)]
  | [], _ :: _, _, h => by simp at h
  | _ :: _, [], _, h => by simp at h

/-! ### Parameters -/
/-- How a parameter looks: with several cells, or one. -/
abbrev Par := Bool × List Sch
def Par.vp : Par → VP
  | (true, l) => .agg (l.map vpS)
  | (false, s :: _) => vpS s
  | (false, []) => .any
def parsOf (P : Program) : List TypeId → Option (List Par)
  | [] => some []
  | t :: ts =>
    match P.underlying t, fitT P 20 t, parsOf P ts with
    | some d, some ss, some r => (match aggD d || decide (ss.length = 1) with | true => some ((aggD d, ss) :: r) | false => none)
    | _, _, _ => none

section
variable {P : Program} {HH : Type} {enc : TypeId × Value → HH} {w : World}

theorem args_set (hblk : ∃ (k0 : Nat) (C : Array Value) (e : TypeId) (fr : Nat × Nat), w.heap[k0]? = some (.cells C e fr)) {base : Nat} : ∀ {ts : List TypeId} {vs : List Value} {ds : List (DataW HH)} {ps : List MemPlace} {pars : List Par},
    parsOf P ts = some pars → DataW.TrodAll enc P w 0 (fun _ => true) true ts vs ds ps → (∀ n ∈ DataW.weightsEach P ts ds, n ≤ reachBytes) → (∀ (j : Nat) t v, ts[j]? = some t → vs[j]? = some v → Value.okWide P w .any base t v) →
    ∀ f H, RW f H w → ∃ f' H' vs' us, RW f' H' w ∧ Grow f H f' H' ∧ VL f' vs' vs ∧ DVL phi0 H' (Own phi0 hp0) (VP.tos (pars.map Par.vp) us) vs' ∧ WfU (pars.map (·.2)).flatten us
  | [], vs, ds, ps, pars, hp, hd, hz, hv, f, H, hR => by
    cases hp
    cases vs with
    | nil => exact ⟨f, H, [], [], hR, .refl f H, .nil f, .nil, trivial⟩
    | cons v vs => cases ds <;> exact hd.elim
  | t :: ts, vs, ds, ps, pars, hp, hd, hz, hv, f, H, hR => by
    simp only [parsOf] at hp
    split at hp
    · rename_i d ss r hu hf hr
      split at hp
      · rename_i hc
        cases hp
        cases vs with
        | nil => cases ds <;> exact hd.elim
        | cons v vs =>
          cases ds with
          | nil => exact hd.elim
          | cons d0 ds =>
            obtain ⟨p, q, ⟨fuel, h1⟩, h2, rfl⟩ := hd
            obtain ⟨hg, hlen⟩ := open_cells hblk fuel t _ _ 20 ss h1 (fun n hn => hz n (by rw [DataW.weightsEach]; exact List.mem_append_left _ hn)) hf
            obtain ⟨f1, H1, cs', rr, a1, a2, a3, a4, a5, a6⟩ := hg f H hR
            obtain ⟨f2, H2, vs', us, b1, b2, b3, b4, b5⟩ := args_set hblk hr h2 (fun n hn => hz n (by rw [DataW.weightsEach]; exact List.mem_append_right _ hn)) (fun j t v g1 g2 => hv (j + 1) t v (by simpa using g1) (by simpa using g2)) f1 H1 a1
            have hok := hv 0 t v (by simp) (by simp)
            have hul := uns_len a6.len
            have a3' := a3.mono b2.1
            have a5' := a5.mono b2.ext
            have hcl : cs'.length = ss.length := by rw [a3.1, hlen]
            have htail : VP.tos (r.map Par.vp) ((Ev.uns ss rr ++ us).drop (Par.vp (aggD d, ss)).size) = VP.tos (r.map Par.vp) us := by
              have : (Par.vp (aggD d, ss)).size = ss.length := by
                cases ha : aggD d with
                | true => exact vps_sizes ss
                | false =>
                  rw [ha] at hc
                  have hc : ss.length = 1 := by simpa using hc
                  match ss, hc with
                  | [s], _ => exact vpS_size s
              rw [this, ← hul, List.drop_left]
            refine ⟨f2, H2, (match aggD d with | true => Value.agg cs'.toArray | false => cs'.headD undef) :: vs', Ev.uns ss rr ++ us, b1, a2.trans b2, .cons ?_ b3, ?_, ?_⟩
            · cases ha : aggD d with
              | true =>
                have : ∃ cs, v = .agg cs := by
                  unfold Value.okWide at hok
                  rw [hu] at hok
                  cases d <;> simp only [aggD, Bool.false_eq_true] at ha <;> (obtain ⟨cs, h, _⟩ := hok; exact ⟨cs, h⟩)
                obtain ⟨cs, rfl⟩ := this
                simp only
                have e : (Value.agg cs).cells.toList = cs.toList := rfl
                rw [e] at a3'
                exact .agg cs'.toArray cs (by simpa using a3'.1) (fun i u hu' => a4 u (List.mem_of_getElem? (by simpa using hu'))) (fun i u u' g1 g2 => a3'.2 i u u' (by simpa using g1) (by simpa using g2))
              | false =>
                rw [ha] at hc
                have hc : ss.length = 1 := by simpa using hc
                have hnot : ∀ cs, v ≠ .agg cs := by
                  rintro cs rfl
                  unfold Value.okWide at hok
                  rw [hu] at hok
                  cases d <;> simp only [aggD, reduceCtorEq] at ha <;> simp [Cell.okWide, hu, Cell.ok] at hok
                match cs', hcl.trans hc with
                | [c], _ =>
                  simp only [List.headD_cons]
                  have hv1 : v.cells.toList = [v] := by
                    cases v <;> first | rfl | exact absurd rfl (hnot _)
                  rw [hv1] at a3'
                  exact a3'.2 0 c v (by simp) (by simp)
            · simp only [List.map_cons, VP.tos]
              rw [htail]
              refine .cons ?_ b4
              cases ha : aggD d with
              | true =>
                simp only [Par.vp, VP.to]
                rw [vps_tos _ a6.len]
                exact .agg _ _ (by simpa using a5'.1) (fun i s u g1 g2 => a5'.2 i s u g1 (by simpa using g2))
              | false =>
                rw [ha] at hc
                have hc : ss.length = 1 := by simpa using hc
                have hrl := a6.len
                match ss, rr, cs', hc, hrl, hcl.trans hc with
                | [s], [dd], [c], _, _, _ =>
                  simp only [Par.vp, Ev.uns, List.cons_append, List.nil_append, vpS_to, List.headD_cons]
                  exact a5'.2 0 _ c (by simp [svs]) (by simp)
            · simp only [List.map_cons, List.flatten_cons]
              exact a6.uns.append b5
      · cases hp
    · cases hp

theorem trodAll_len : ∀ {ts : List TypeId} {vs : List Value} {ds : List (DataW HH)} {ps : List MemPlace}, DataW.TrodAll enc P w 0 (fun _ => true) true ts vs ds ps → ds.length = ts.length
  | [], [], [], _, _ => rfl
  | t :: ts, v :: vs, d :: ds, ps, ⟨_, _, _, h, _⟩ => by simp [trodAll_len h]
theorem weightsEach_left : ∀ {ts us : List TypeId} {ds gs : List (DataW HH)} {n : Nat}, ds.length = ts.length → n ∈ DataW.weightsEach P ts ds → n ∈ DataW.weightsEach P (ts ++ us) (ds ++ gs)
  | [], us, ds, gs, n, hl, h => by rw [DataW.weightsEach] at h; simp at h; simp
  | t :: ts, us, [], gs, n, hl, h => by simp at hl
  | t :: ts, us, d :: ds, gs, n, hl, h => by
    simp only [List.cons_append, DataW.weightsEach] at h ⊢
    rcases List.mem_append.1 h with h | h
    · exact List.mem_append_left _ h
    · exact List.mem_append_right _ (weightsEach_left (by simpa using hl) h)

variable {L : List FuncId} {TE : Tab}

/-- A law, whatever data it is given. -/
theorem law_args (hmix : P.follows .mixedOrders = true) (hname : namesOk P = true) (hT : Known.right P TE) {g : FuncId} {ts : List TypeId} {pars : List Par} (hp : parsOf P ts = some pars)
    (h : ∀ us, WfU (pars.map (·.2)).flatten us → TellsS P L (ofTab TE) g ⟨pars.map Par.vp, [], 0⟩ ⟨[.bool], [], 0⟩ us [.b true]) (hsh : w.ShapedOpen P) {base : Nat} {vs : List Value} {ds : List (DataW HH)} {ps : List MemPlace}
    (hd : DataW.TrodAll enc P w 0 (fun _ => true) true ts vs ds ps) {us' : List TypeId} {gs : List (DataW HH)} (hz : (DataW.weightsEach P (ts ++ us') (ds ++ gs)).all (· ≤ reachBytes) = true) (hval : ∀ (j : Nat) t v, ts[j]? = some t → vs[j]? = some v → Value.okWide P w .any base t v) :
    Calls P g vs.toArray w fun e w' => e = .returned (.bool true) ∧ Below w.heap.size w w' := by
  obtain ⟨f, H, vs', us, hR, _, hv, hdv, hwf⟩ := args_set (blk_of_shaped hsh) hp hd (fun n hn => by simpa using List.all_eq_true.1 hz n (weightsEach_left (trodAll_len hd) hn)) hval _ _ (RW.nil w)
  obtain ⟨N, y, H', φ', h1, _, h3⟩ := h us hwf phi0 H vs' (fun x hx => hx.elim) (sim0 (Nat.le_of_eq hR.lock) hR.hid) hdv
  have : y = .bool true := by
    simp only [Pn.valsTo, VP.tos, VP.to, packS] at h3
    cases h3
    rfl
  subst this
  exact calls_of hmix hname (Known.right_of hT) h1 hR.r hR.lock hR.free hv
end
end
end Go.Proofs.Ytoiijpphfckdjaa.Ev
