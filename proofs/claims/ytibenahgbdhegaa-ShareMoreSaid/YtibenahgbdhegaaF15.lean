/-
  What is said of a function, in use at a call.
-/
import Derived.Test.YtibenahgbdhegaaF14
namespace Go.Proofs.Ytibenahgbdhegaa.Ev
open Go
set_option linter.unusedVariables false
set_option linter.unusedSimpArgs false

/-! ### Blocks get other numbers -/
mutual
def renS (ρ : Nat → Nat) : SV → SV
  | .ptr id row w col => .ptr (ρ id) row w col
  | .buf id w ex => .buf (ρ id) w ex
  | .sl id off len w => .sl (ρ id) off len w
  | .fn g x y => .fn g (rensS ρ x) (rensS ρ y)
  | .agg l => .agg (rensS ρ l)
  | .tup l => .tup (rensS ρ l)
  | v => v
def rensS (ρ : Nat → Nat) : List SV → List SV
  | [] => []
  | v :: l => renS ρ v :: rensS ρ l
end
mutual
/-- Without lists that are looked at elsewhere. -/
def leanS : SV → Bool
  | .deep _ => false
  | .dp _ _ _ => false
  | .fn _ x y => leansS x && leansS y
  | .agg l => leansS l
  | .tup l => leansS l
  | _ => true
def leansS : List SV → Bool
  | [] => true
  | v :: l => leanS v && leansS l
end
def Sch.flat : Sch → Bool
  | .int _ => true
  | .bool => true
  | _ => false
def leanC : Cont → Bool
  | .ints _ _ => true
  | .recs l _ => l.all Sch.flat
def renB (ρ : Nat → Nat) : SBlk → SBlk
  | .cells l => .cells (rensS ρ l)
  | .cont c => .cont c
def leanB : SBlk → Bool
  | .cells l => leansS l
  | .cont c => leanC c

theorem rensS_get (ρ : Nat → Nat) : ∀ (l : List SV) (i : Nat), (rensS ρ l)[i]? = (l[i]?).map (renS ρ)
  | [], i => by simp [rensS]
  | v :: l, 0 => by simp [rensS]
  | v :: l, i + 1 => by simp only [rensS, List.getElem?_cons_succ]; exact rensS_get ρ l i
theorem rensS_len (ρ : Nat → Nat) : ∀ (l : List SV), (rensS ρ l).length = l.length
  | [] => rfl
  | v :: l => by simp [rensS, rensS_len ρ l]
theorem leansS_get : ∀ {l : List SV} {i : Nat} {s : SV}, leansS l = true → l[i]? = some s → leanS s = true
  | [], i, s, _, h => by simp at h
  | v :: l, 0, s, hl, h => by simp only [leansS, Bool.and_eq_true] at hl; simp at h; subst h; exact hl.1
  | v :: l, i + 1, s, hl, h => by simp only [leansS, Bool.and_eq_true] at hl; exact leansS_get hl.2 (by simpa using h)
theorem lean_row {c : Cont} (h : leanC c = true) {r j : Nat} {s : SV} (hs : (c.row r)[j]? = some s) : (∃ k n, s = .i k n) ∨ ∃ x, s = .b x := by
  cases c with
  | ints k xs =>
    simp only [Cont.row] at hs
    cases j with
    | zero => simp at hs; subst hs; exact .inl ⟨_, _, rfl⟩
    | succ j => simp at hs
  | recs l xs =>
    simp only [Cont.row] at hs
    rw [rowFrom_get] at hs
    cases hl : l[j]? with
    | none => rw [hl] at hs; cases hs
    | some sc =>
      rw [hl] at hs; cases hs
      simp only [leanC, List.all_eq_true] at h
      have := h sc (List.mem_of_getElem? hl)
      cases sc with
      | int k => exact .inl ⟨_, _, rfl⟩
      | bool => exact .inr ⟨_, rfl⟩
      | ints k => cases this
      | recs l => cases this

section
variable {φ φ' φ'' : Phi} {H H' : Heap} {own own' : Nat → Prop} {ρ : Nat → Nat}

theorem DV.ren (hρ : ∀ j y, φ j = some y → φ' (ρ j) = some y) {s : SV} {v : Value} (h : DV φ H own s v) : leanS s = true → DV φ' H own' (renS ρ s) v := by
  induction h with
  | any v => intro _; exact .any v
  | i k n => intro _; exact .i k n
  | b x => intro _; exact .b x
  | str s => intro _; exact .str s
  | nilp => intro _; exact .nilp
  | nils => intro _; exact .nils
  | nilf => intro _; exact .nilf
  | nili => intro _; exact .nili
  | ptr id row w col x h => intro _; exact .ptr _ row w col x (hρ _ _ h)
  | buf id w ex x n sp h hn hs => intro _; exact .buf _ w ex x n sp (hρ _ _ h) hn hs
  | bufNil id w h => intro _; exact .bufNil _ w (hρ _ _ h)
  | sl id off len w x o sp cap h ho hs hc hin => intro _; exact .sl _ off len w x o sp cap (hρ _ _ h) ho hs hc hin
  | slNil id w h => intro _; exact .slNil _ w (hρ _ _ h)
  | deepNil c h => intro h; cases h
  | deep c x o sp cap blk hs hc hb ho hl _ ih => intro h; cases h
  | dp c row col x o blk hb ho hl _ ih => intro h; cases h
  | fn g x y x' y' hx hy _ _ ix iy =>
    intro h
    simp only [leanS, Bool.and_eq_true] at h
    refine .fn g _ _ x' y' (by rw [rensS_len]; exact hx) (by rw [rensS_len]; exact hy) (fun i s v h1 h2 => ?_) (fun i s v h1 h2 => ?_)
    · rw [rensS_get, Option.map_eq_some_iff] at h1
      obtain ⟨u, h3, rfl⟩ := h1
      exact ix i u v h3 h2 (leansS_get h.1 h3)
    · rw [rensS_get, Option.map_eq_some_iff] at h1
      obtain ⟨u, h3, rfl⟩ := h1
      exact iy i u v h3 h2 (leansS_get h.2 h3)
  | agg l x' hx _ ix =>
    intro h
    refine .agg _ x' (by rw [rensS_len]; exact hx) (fun i s v h1 h2 => ?_)
    rw [rensS_get, Option.map_eq_some_iff] at h1
    obtain ⟨u, h3, rfl⟩ := h1
    exact ix i u v h3 h2 (leansS_get (by simpa [leanS] using h) h3)
  | tup l x' hx _ ix =>
    intro h
    refine .tup _ x' (by rw [rensS_len]; exact hx) (fun i s v h1 h2 => ?_)
    rw [rensS_get, Option.map_eq_some_iff] at h1
    obtain ⟨u, h3, rfl⟩ := h1
    exact ix i u v h3 h2 (leansS_get (by simpa [leanS] using h) h3)

theorem BV.ren (hρ : ∀ j y, φ j = some y → φ' (ρ j) = some y) {B : SBlk} {cs : List Value} (h : BV φ H own B cs) (hl : leanB B = true) : BV φ' H own' (renB ρ B) cs := by
  cases B with
  | cells l =>
    refine ⟨by rw [rensS_len]; exact h.1, fun i s v h1 h2 => ?_⟩
    rw [rensS_get, Option.map_eq_some_iff] at h1
    obtain ⟨u, h3, rfl⟩ := h1
    exact (h.2 i u v h3 h2).ren hρ (leansS_get hl h3)
  | cont c =>
    refine ⟨h.1, fun r hr j s hs v hv => ?_⟩
    have := h.2 r hr j s hs v hv
    rcases lean_row hl hs with ⟨k, n, rfl⟩ | ⟨x, rfl⟩
    · cases this; exact .i _ _
    · cases this; exact .b _
theorem renB_empty {B : SBlk} (h : B.empty) : (renB ρ B).empty := by cases B <;> exact h
end

/-! ### Blocks are laid back -/
def putIds (ρ : Nat → Nat) : List Nat → List SBlk → SHeap → SHeap
  | id :: ids, B :: Bs, S => putIds ρ ids Bs (S.put id (some (renB ρ B)))
  | _, _, S => S
def putBs (ρ : Nat → Nat) (ids : List Nat) (Bs : List SBlk) (S : SHeap) : SHeap := ((Bs.drop ids.length).map (renB ρ)).foldl SHeap.push (putIds ρ ids Bs S)
def idsOf (τ : Sub) : Nat → Nat → Option (List Nat)
  | 0, _ => some []
  | n + 1, j => match τ.get j with
    | some (some id) => (match idsOf τ n (j + 1) with | some r => some (id :: r) | none => none)
    | _ => none
/-- The number that a block gets. -/
def rhoOf (ids : List Nat) (n m j : Nat) : Nat := match ids[j]? with | some id => id | none => n + (j - m)

theorem idsOf_at {τ : Sub} : ∀ {n j : Nat} {l : List Nat}, idsOf τ n j = some l → l.length = n ∧ ∀ i, i < n → ∃ id, l[i]? = some id ∧ τ.get (j + i) = some (some id)
  | 0, j, l, h => by cases h; exact ⟨rfl, fun i hi => by omega⟩
  | n + 1, j, l, h => by
    simp only [idsOf] at h
    split at h
    · rename_i id hid
      split at h
      · rename_i r hr
        cases h
        obtain ⟨h1, h2⟩ := idsOf_at hr
        refine ⟨by simp [h1], fun i hi => ?_⟩
        cases i with
        | zero => exact ⟨id, by simp, hid⟩
        | succ i =>
          obtain ⟨id', h3, h4⟩ := h2 i (by omega)
          exact ⟨id', by simpa using h3, by rwa [show j + (i + 1) = j + 1 + i by omega]⟩
      · cases h
    · cases h

theorem putIds_frame (ρ : Nat → Nat) : ∀ (ids : List Nat) (Bs : List SBlk) (S : SHeap), (putIds ρ ids Bs S).size = S.size ∧ (putIds ρ ids Bs S).lock = S.lock ∧ (putIds ρ ids Bs S).hid = S.hid
  | [], Bs, S => ⟨rfl, rfl, rfl⟩
  | id :: ids, [], S => ⟨rfl, rfl, rfl⟩
  | id :: ids, B :: Bs, S => putIds_frame ρ ids Bs (S.put id (some (renB ρ B)))
theorem putIds_root (ρ : Nat → Nat) : ∀ (ids : List Nat) (Bs : List SBlk) (S : SHeap) (k : Nat), ids.length ≤ Bs.length → (∀ i j z : Nat, ids[i]? = some z → ids[j]? = some z → i = j) →
    ((∀ j : Nat, ids[j]? ≠ some k) → (putIds ρ ids Bs S).root.get k = S.root.get k) ∧ ∀ j : Nat, ids[j]? = some k → ∃ B, Bs[j]? = some B ∧ (putIds ρ ids Bs S).root.get k = some (renB ρ B)
  | [], Bs, S, k, _, _ => ⟨fun _ => rfl, fun j h => by simp at h⟩
  | id :: ids, [], S, k, h, _ => by simp at h
  | id :: ids, B :: Bs, S, k, hl, hn => by
    obtain ⟨h1, h2⟩ := putIds_root ρ ids Bs (S.put id (some (renB ρ B))) k (by simpa using hl) (fun i j z a b => by
      have := hn (i + 1) (j + 1) z (by simpa using a) (by simpa using b)
      omega)
    refine ⟨fun h => ?_, fun j hj => ?_⟩
    · simp only [putIds]
      rw [h1 (fun j hj => h (j + 1) (by simpa using hj)), SHeap.root_put, if_neg]
      rintro rfl
      exact h 0 (by simp)
    · cases j with
      | zero =>
        simp at hj; subst hj
        refine ⟨B, by simp, ?_⟩
        simp only [putIds]
        rw [h1, SHeap.root_put, if_pos rfl]
        intro j hj
        have := hn (j + 1) 0 id (by simpa using hj) (by simp)
        omega
      | succ j =>
        obtain ⟨B', h3, h4⟩ := h2 j (by simpa using hj)
        exact ⟨B', by simpa using h3, by simp only [putIds]; exact h4⟩

structure EntS where
  en : Pn
  ex : Pn
  f : List Un → Option (Bool × List Un)
def EntS.run (e : EntS) (args : List SV) (S : SHeap) : Option (Bool × SV × SHeap) :=
  match e.en.of true args S with
  | some (us, τ) =>
    (match idsOf τ e.en.blks.length 0 with
     | some ids =>
       (match e.f us with
        | some (c, ys) =>
          (match leansS (e.ex.valsTo ys) && ((bpsTo e.ex.blks (ys.drop e.ex.size)).all leanB && Nat.ble ids.length e.ex.blks.length) with
           | true => some (c, renS (rhoOf ids S.size ids.length) (packS (e.ex.valsTo ys)), putBs (rhoOf ids S.size ids.length) ids (bpsTo e.ex.blks (ys.drop e.ex.size)) S)
           | false => none)
        | none => none)
     | none => none)
  | none => none

section
variable {P : Program} {L : List FuncId} {O : Known} {φ : Phi} {S : SHeap} {H : Heap}

theorem Pn_ids {p : Pn} {view : Bool} {vs : List SV} {us : List Un} {τ : Sub} (h : p.of view vs S = some (us, τ)) (hS : Sim φ S H) : Sub.apart τ = true ∧ p.blks.length ≤ 1000000 ∧
    ∀ j id, j < p.blks.length → τ.get j = some (some id) → S.lock ≤ id ∧ ∃ B, S.get id = some B := by
  unfold Pn.of at h
  split at h
  · split at h
    · rename_i a σ h1 _ c τ' h2
      split at h
      · rename_i hc
        cases h
        refine ⟨hc.2.1, hc.2.2, fun j id hj hid => ⟨?_, ?_⟩⟩
        · rcases keys_of hc.1 hid with ⟨_, h⟩ | ⟨_, h⟩
          · have := hc.2.2; omega
          · exact h id rfl
        · obtain ⟨_, hids⟩ := bpsOf_ids h2 (fun σ1 σ2 p B b hb => (BP_of (φ := φ) (H := H) (ban := fun _ => False) (n := 0) (own' := fun _ => False) hS (fun _ h => h.elim) hb).1)
          rcases hids j hj with h3 | ⟨id', B, h3, h4⟩
          · rw [Nat.zero_add, hid] at h3; cases h3
          · rw [Nat.zero_add, hid] at h3; cases h3; exact ⟨B, h4⟩
      · cases h
    · cases h
  · cases h

theorem packS_lean {l : List SV} (h : leansS l = true) : leanS (packS l) = true := by
  match l, h with
  | [], _ => rfl
  | [s], h => simp only [leansS, Bool.and_true] at h; exact h
  | a :: b :: l, h => exact h

theorem EntS.sound {e : EntS} {g : FuncId} (hE : ∀ us ys, e.f us = some (true, ys) → TellsS P L O g e.en e.ex us ys) {args : List SV} {v : SV} {S' : SHeap} (h : e.run args S = some (true, v, S'))
    {vs : List Value} (hS : Sim φ S H) (hd : DVL φ H (Own φ S) args vs) : ∃ N y H', callE P L O N g vs H = some (y, H') ∧ Got φ S H S' v H' y := by
  unfold EntS.run at h
  split at h
  case h_2 => cases h
  rename_i us τ hof
  split at h
  case h_2 => cases h
  rename_i ids hids
  split at h
  case h_2 => cases h
  rename_i c ys hf
  split at h
  case h_2 => cases h
  rename_i hlean
  simp only [Bool.and_eq_true, List.all_eq_true] at hlean
  obtain ⟨hl1, hl2, hl3⟩ := hlean
  have hl3 : ids.length ≤ e.ex.blks.length := Nat.le_of_ble_eq_true hl3
  simp only [Option.some.injEq, Prod.mk.injEq] at h
  obtain ⟨rfl, rfl, rfl⟩ := h
  obtain ⟨hap, hn6, hidp⟩ := Pn_ids hof hS
  obtain ⟨hidl, hid⟩ := idsOf_at hids
  simp only [Nat.zero_add] at hid
  obtain ⟨hS1, hd1, ho1, hp1⟩ := Pn_of (ban := fun _ => False) hof hS (fun _ h => h.elim) (fun _ _ h => h)
  have htell := hE us ys hf
  generalize hφ1 : φ.sub (fun _ => False) τ e.en.blks.length = φ1 at hS1 hd1 ho1 hp1
  obtain ⟨N, y, H', φ', hcall, hsin, hdv⟩ := htell φ1 H vs hS1 (hd1 vs hd)
  refine ⟨N, y, H', hcall, ?_⟩
  -- the callee's blocks
  generalize hBs : bpsTo e.ex.blks (ys.drop e.ex.size) = Bs at hl2 ⊢
  have hBl : Bs.length = e.ex.blks.length := by rw [← hBs, bpsTo_len]
  have hxh : e.ex.heapTo ys = heapOf Bs := by unfold Pn.heapTo; rw [hBs]
  rw [hxh] at hsin hdv
  have hsz1 : (e.en.heapTo us).size = e.en.blks.length := by unfold Pn.heapTo; rw [heapOf_size, bpsTo_len]
  have hS2 := hsin.sim
  -- numbers
  have hinj : ∀ i j z : Nat, ids[i]? = some z → ids[j]? = some z → i = j := by
    intro i j z h1 h2
    have hi : i < e.en.blks.length := by rw [← hidl]; exact (List.getElem?_eq_some_iff.1 h1).1
    have hj : j < e.en.blks.length := by rw [← hidl]; exact (List.getElem?_eq_some_iff.1 h2).1
    obtain ⟨a, g1, g2⟩ := hid i hi
    obtain ⟨b, g3, g4⟩ := hid j hj
    rw [h1] at g1; cases g1
    rw [h2] at g3; cases g3
    exact apart_inj hap g2 g4
  have hin : ∀ j z : Nat, ids[j]? = some z → j < e.en.blks.length ∧ τ.get j = some (some z) ∧ S.lock ≤ z ∧ (∃ B, S.get z = some B) ∧ φ1 j = φ z := by
    intro j z h1
    have hj : j < e.en.blks.length := by rw [← hidl]; exact (List.getElem?_eq_some_iff.1 h1).1
    obtain ⟨a, g1, g2⟩ := hid j hj
    rw [h1] at g1; cases g1
    obtain ⟨g3, g4⟩ := hidp j z hj g2
    exact ⟨hj, g2, g3, g4, hp1 j z hj g2⟩
  -- what stands for a block passed over
  have hpass : ∀ j z : Nat, ids[j]? = some z → ∃ y, φ z = some y ∧ φ' j = some y ∧ φ1 j = some y ∧ ∃ B1, (e.en.heapTo us).get j = some B1 := by
    intro j z h1
    obtain ⟨g1, g2, g3, g4, g5⟩ := hin j z h1
    have hg : ∃ B1, (e.en.heapTo us).get j = some B1 := by
      unfold Pn.heapTo
      rw [heapOf_get]
      exact ⟨_, List.getElem?_eq_getElem (by rw [bpsTo_len]; exact g1)⟩
    obtain ⟨B1, hB1⟩ := hg
    rcases hS1.blk j B1 hB1 with ⟨k1, _⟩ | ⟨x, d, k1, _⟩
    · exact ⟨_, by rw [← g5]; exact k1, hsin.ent j g1 _ k1, k1, B1, hB1⟩
    · exact ⟨_, by rw [← g5]; exact k1, hsin.ent j g1 _ k1, k1, B1, hB1⟩
  generalize hρ : rhoOf ids S.size ids.length = ρ
  have hρ1 : ∀ j z : Nat, ids[j]? = some z → ρ j = z := by intro j z h; rw [← hρ]; unfold rhoOf; rw [h]
  have hρ2 : ∀ j, ids.length ≤ j → ρ j = S.size + (j - ids.length) := by intro j h; rw [← hρ]; unfold rhoOf; rw [List.getElem?_eq_none h]
  -- the new table
  let φ2 : Phi := ⟨fun k => if k < S.size then φ k else φ' (ids.length + (k - S.size)), φ.ban⟩
  have hφ2lt : ∀ k, k < S.size → φ2 k = φ k := fun k h => if_pos h
  have hφ2ge : ∀ k, S.size ≤ k → φ2 k = φ' (ids.length + (k - S.size)) := fun k h => if_neg (by omega)
  have hlt2 : ∀ z y, φ z = some y → z < S.size := by
    intro z y h
    rcases Nat.lt_or_ge z S.size with h1 | h1
    · exact h1
    · rw [hS.fresh z h1] at h; cases h
  have hρφ : ∀ j y, φ' j = some y → φ2 (ρ j) = some y := by
    intro j y h
    by_cases hj : j < ids.length
    · obtain ⟨y', k1, k2, _⟩ := hpass j _ (List.getElem?_eq_getElem hj)
      rw [hρ1 j _ (List.getElem?_eq_getElem hj), hφ2lt _ (hlt2 _ _ k1), k1]
      rw [k2] at h; exact h
    · rw [hρ2 j (by omega), hφ2ge _ (by omega), show ids.length + (S.size + (j - ids.length) - S.size) = j by omega]
      exact h
  have hle : ∀ z y, φ z = some y → φ2 z = some y := fun z y h => by rw [hφ2lt z (hlt2 z y h)]; exact h
  -- the new blocks
  generalize hSS : putBs ρ ids Bs S = SS
  obtain ⟨f1, f2, f3⟩ := putIds_frame ρ ids Bs S
  have fr := foldl_push ((Bs.drop ids.length).map (renB ρ)) (putIds ρ ids Bs S)
  rw [show ((Bs.drop ids.length).map (renB ρ)).foldl SHeap.push (putIds ρ ids Bs S) = SS from hSS] at fr
  obtain ⟨r1, r2, r3, r4⟩ := fr
  rw [f1] at r1 r4
  rw [f2] at r2
  rw [f3] at r3
  simp only [List.length_map, List.length_drop] at r1 r4
  have hroot := fun k => putIds_root ρ ids Bs S k (by omega) hinj
  have hget : ∀ (k : Nat) (C : SBlk), SS.get k = some C → (∃ (j : Nat) (B : SBlk), ids[j]? = some k ∧ Bs[j]? = some B ∧ C = renB ρ B) ∨ (S.size ≤ k ∧ ∃ B, Bs[ids.length + (k - S.size)]? = some B ∧ C = renB ρ B) ∨
      (k < S.size ∧ (∀ j : Nat, ids[j]? ≠ some k) ∧ S.get k = some C) := by
    intro k C hk
    have h1 := SHeap.get_lt hk
    obtain ⟨h2, h3⟩ := SHeap.get_root hk
    rw [r4] at h2
    rw [r3] at h3
    by_cases hge : S.size ≤ k
    · rw [if_pos ⟨hge, by rw [r1] at h1; exact h1⟩, List.getElem?_map, List.getElem?_drop, Option.map_eq_some_iff] at h2
      obtain ⟨B, g1, g2⟩ := h2
      exact .inr (.inl ⟨hge, B, g1, g2.symm⟩)
    · rw [if_neg (by omega)] at h2
      by_cases hex : ∃ j : Nat, ids[j]? = some k
      · obtain ⟨j, hj⟩ := hex
        obtain ⟨B, g1, g2⟩ := (hroot k).2 j hj
        rw [g2] at h2; cases h2
        exact .inl ⟨j, B, hj, g1, rfl⟩
      · have hno : ∀ j : Nat, ids[j]? ≠ some k := fun j hj => hex ⟨j, hj⟩
        rw [(hroot k).1 hno] at h2
        exact .inr (.inr ⟨by omega, hno, (SHeap.get_of (by omega) h3).trans h2⟩)
  have hgetB : ∀ (j : Nat) (B : SBlk), Bs[j]? = some B → (heapOf Bs).get j = some B := fun j B h => by rw [heapOf_get]; exact h
  have hownC : ∀ x, x < H.size → OwnI φ' (heapOf Bs) x → ∃ j z : Nat, ids[j]? = some z ∧ φ z = some (some x) := by
    intro x hx h
    obtain ⟨j, B, g1, g2⟩ := hsin.own x hx h
    have hj : j < ids.length := by rw [hidl, ← hsz1]; exact SHeap.get_lt g1
    obtain ⟨_, _, _, _, g5⟩ := hin j _ (List.getElem?_eq_getElem hj)
    exact ⟨j, _, List.getElem?_eq_getElem hj, by rw [← g5]; exact g2⟩
  have hown : ∀ x, x < H.size → OwnI φ2 SS x → OwnI φ S x := by
    rintro x hx ⟨k, C, g1, g2⟩
    rcases hget k C g1 with ⟨j, B, h1, h2, _⟩ | ⟨hge, B, h1, _⟩ | ⟨hlt, _, h2⟩
    · obtain ⟨_, _, _, ⟨B0, h3⟩, _⟩ := hin j k h1
      rw [hφ2lt k (SHeap.get_lt h3)] at g2
      exact ⟨k, B0, h3, g2⟩
    · rw [hφ2ge k hge] at g2
      obtain ⟨j, z, h3, h4⟩ := hownC x hx ⟨_, B, hgetB _ _ h1, g2⟩
      obtain ⟨_, _, _, ⟨B0, h5⟩, _⟩ := hin j z h3
      exact ⟨z, B0, h5, h4⟩
    · rw [hφ2lt k hlt] at g2
      exact ⟨k, C, h2, g2⟩
  have hkeep : ∀ x, x < H.size → ¬ OwnI φ S x → H'.get x = H.get x := fun x hx h => hsin.keep x hx (fun h' => h (ho1 x h'))
  have hext : Ext φ H (Own φ S) φ2 H' (Own φ2 SS) := by
    refine ⟨hle, fun x c h1 h2 => ?_, fun id x c' h1 h2 => hsin.len x c' (hS.lt id x h1) h2⟩
    have hx := Heap.get_lt h1
    refine ⟨by rw [hkeep x hx (fun h => h2 (.inr h))]; exact h1, ?_⟩
    rintro (h | h)
    · exact h2 (.inl h)
    · exact h2 (.inr (hown x hx h))
  have hnew : ∀ (j : Nat) (B : SBlk), Bs[j]? = some B → (φ2 (ρ j) = some none ∧ (renB ρ B).empty) ∨ ∃ x c, φ2 (ρ j) = some (some x) ∧ φ' j = some (some x) ∧ H'.get x = some c ∧ BV φ2 H' (Own φ2 SS) (renB ρ B) c.cells := by
    intro j B hj
    rcases hS2.blk j B (hgetB j B hj) with ⟨h1, h2⟩ | ⟨x, c, h1, h2, _, h4⟩
    · exact .inl ⟨hρφ j _ h1, renB_empty h2⟩
    · exact .inr ⟨x, c, hρφ j _ h1, h1, h2, h4.ren hρφ (hl2 B (List.mem_of_getElem? hj))⟩
  -- a block of the caller's that was not passed over stays
  have hstay : ∀ (k : Nat) (C : SBlk) (x : Nat) (c : Blk), k < S.size → (∀ j : Nat, ids[j]? ≠ some k) → S.get k = some C → φ k = some (some x) → H.get x = some c → H'.get x = some c := by
    intro k C x c hk hno h1 h2 h3
    rw [hsin.keep x (hS.lt k x h2) ?_]
    · exact h3
    · rintro ⟨j, B, g1, g2⟩
      have hj : j < ids.length := by rw [hidl, ← hsz1]; exact SHeap.get_lt g1
      obtain ⟨_, _, _, ⟨B0, g4⟩, g5⟩ := hin j _ (List.getElem?_eq_getElem hj)
      rw [g5] at g2
      have := hS.inj k _ C B0 x h1 g4 h2 g2
      subst this
      exact hno j (List.getElem?_eq_getElem hj)
  have hstep : Step φ S H φ2 SS H' := by
    refine ⟨⟨?_, ?_, ?_, ?_, ?_, by rw [hsin.elock]; exact Nat.le_trans hS.elock hsin.esize, fun x hx => by rw [hsin.ehid]; exact hS.ehid x (Nat.le_trans hsin.esize hx)⟩, hle, rfl, hown, hkeep, hsin.len, hsin.esize, hsin.elock, hsin.ehid, by omega, r2, r3, ?_⟩
    · -- blk
      intro k C hk
      rcases hget k C hk with ⟨j, B, h1, h2, rfl⟩ | ⟨hge, B, h1, rfl⟩ | ⟨hlt, hno, h2⟩
      · have e := hρ1 j k h1
        rcases hnew j B h2 with ⟨g1, g2⟩ | ⟨x, c, g1, g0, g2, g3⟩
        · exact .inl ⟨by rw [← e]; exact g1, g2⟩
        · refine .inr ⟨x, c, by rw [← e]; exact g1, g2, fun hlk => ?_, g3⟩
          obtain ⟨_, _, k3, ⟨B0, k4⟩, k5⟩ := hin j k h1
          rw [e, hφ2lt k (SHeap.get_lt k4)] at g1
          rcases hS.blk k B0 k4 with ⟨k6, _⟩ | ⟨x', c', k6, _, k7, _⟩
          · rw [g1] at k6; cases k6
          · rw [g1] at k6; cases k6
            rw [hsin.elock]; exact k7 k3
      · have hj : ids.length ≤ ids.length + (k - S.size) := by omega
        have e := hρ2 _ hj
        rw [show S.size + (ids.length + (k - S.size) - ids.length) = k by omega] at e
        rcases hnew _ B h1 with ⟨g1, g2⟩ | ⟨x, c, g1, g0, g2, g3⟩
        · exact .inl ⟨by rw [← e]; exact g1, g2⟩
        · refine .inr ⟨x, c, by rw [← e]; exact g1, g2, fun hlk => ?_, g3⟩
          rcases hS2.blk _ B (hgetB _ B h1) with ⟨k6, _⟩ | ⟨x', c', k6, _, k7, _⟩
          · rw [g0] at k6; cases k6
          · rw [g0] at k6; cases k6
            exact k7 (by rw [heapOf_lock]; exact Nat.zero_le _)
      · rcases hS.blk k C h2 with ⟨g1, g2⟩ | ⟨x, c, g1, g2, g3, g4⟩
        · exact .inl ⟨hle _ _ g1, g2⟩
        · exact .inr ⟨x, c, hle _ _ g1, hstay k C x c hlt hno h2 g1 g2, fun h => by rw [hsin.elock]; exact g3 (by rw [← r2]; exact h), g4.mono hext⟩
    · -- inj
      have hcls : ∀ (k : Nat) (C : SBlk) (x : Nat), SS.get k = some C → φ2 k = some (some x) → (∃ (j : Nat) (B : SBlk), Bs[j]? = some B ∧ φ' j = some (some x) ∧ ρ j = k) ∨ (k < S.size ∧ (∀ j : Nat, ids[j]? ≠ some k) ∧ S.get k = some C ∧ φ k = some (some x)) := by
        intro k C x hk hx
        rcases hget k C hk with ⟨j, B, h1, h2, _⟩ | ⟨hge, B, h1, _⟩ | ⟨hlt, hno, h2⟩
        · have e := hρ1 j k h1
          obtain ⟨y', k1, k2, _⟩ := hpass j k h1
          rw [hle k _ k1] at hx; cases hx
          exact .inl ⟨j, B, h2, k2, e⟩
        · have e := hρ2 (ids.length + (k - S.size)) (by omega)
          rw [show S.size + (ids.length + (k - S.size) - ids.length) = k by omega] at e
          rw [hφ2ge k hge] at hx
          exact .inl ⟨_, B, h1, hx, e⟩
        · rw [hφ2lt k hlt] at hx
          exact .inr ⟨hlt, hno, h2, hx⟩
      have hcross : ∀ (j : Nat) (B : SBlk) (k : Nat) (C : SBlk) (x : Nat), Bs[j]? = some B → φ' j = some (some x) → k < S.size → (∀ j : Nat, ids[j]? ≠ some k) → S.get k = some C → φ k = some (some x) → False := by
        intro j B k C x h1 h2 h3 h4 h5 h6
        obtain ⟨i, z, g1, g2⟩ := hownC x (hS.lt k x h6) ⟨j, B, hgetB j B h1, h2⟩
        obtain ⟨_, _, _, ⟨B0, g4⟩, _⟩ := hin i z g1
        have := hS.inj k z C B0 x h5 g4 h6 g2
        subst this
        exact h4 i g1
      intro k k' C C' x h1 h2 h3 h4
      rcases hcls k C x h1 h3 with ⟨j, B, a1, a2, a3⟩ | ⟨a1, a2, a3, a4⟩
      · rcases hcls k' C' x h2 h4 with ⟨j', B', b1, b2, b3⟩ | ⟨b1, b2, b3, b4⟩
        · have := hS2.inj j j' B B' x (hgetB _ _ a1) (hgetB _ _ b1) a2 b2
          subst this
          rw [← a3, ← b3]
        · exact (hcross j B k' C' x a1 a2 b1 b2 b3 b4).elim
      · rcases hcls k' C' x h2 h4 with ⟨j', B', b1, b2, b3⟩ | ⟨b1, b2, b3, b4⟩
        · exact (hcross j' B' k C x b1 b2 a1 a2 a3 a4).elim
        · exact hS.inj k k' C C' x a3 b3 a4 b4
    · -- fresh
      intro k hk
      rw [r1] at hk
      rw [hφ2ge k (by omega)]
      exact hS2.fresh _ (by rw [heapOf_size]; omega)
    · intro k x hx
      by_cases hk : k < S.size
      · rw [hφ2lt k hk] at hx
        exact Nat.lt_of_lt_of_le (hS.lt k x hx) hsin.esize
      · rw [hφ2ge k (by omega)] at hx
        exact hS2.lt _ x hx
    · rw [r1, r2]
      have := hS.slock
      omega
    · intro k h1 h2
      rw [r4, if_neg (by omega)]
      refine (hroot k).1 (fun j hj => ?_)
      obtain ⟨_, _, k3, ⟨B0, k4⟩, _⟩ := hin j k hj
      rcases h2 with h2 | h2
      · omega
      · rw [k4] at h2; cases h2
  exact ⟨φ2, hstep, hdv.ren hρφ (packS_lean hl1)⟩
end
end Go.Proofs.Ytibenahgbdhegaa.Ev
