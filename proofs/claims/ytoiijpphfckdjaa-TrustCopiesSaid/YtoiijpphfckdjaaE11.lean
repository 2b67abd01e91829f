/-
  What the evaluator never touches.
-/
import Derived.Test.YtoiijpphfckdjaaE10
namespace Go.Proofs.Ytoiijpphfckdjaa.Ev
open Go
set_option linter.unusedSimpArgs false

structure Fr (H H' : Heap) : Prop where
  size : H.size ≤ H'.size
  lock : H'.lock = H.lock
  hid : H'.hid = H.hid
  root : ∀ x, x < H.size → x < H.lock → H'.root.get x = H.root.get x

theorem Fr.refl (H : Heap) : Fr H H := ⟨Nat.le_refl _, rfl, rfl, fun _ _ _ => rfl⟩
theorem Fr.trans {A B C : Heap} (a : Fr A B) (b : Fr B C) : Fr A C :=
  ⟨Nat.le_trans a.size b.size, b.lock.trans a.lock, b.hid.trans a.hid, fun x h1 h2 => (b.root x (Nat.lt_of_lt_of_le h1 a.size) (by rw [a.lock]; exact h2)).trans (a.root x h1 h2)⟩
theorem Fr.push (H : Heap) (b : Blk) : Fr H (H.push b) := ⟨by simp, rfl, rfl, fun x h1 _ => by rw [Heap.root_push, if_neg (by omega)]⟩
theorem Fr.put (H : Heap) (j : Nat) (b : Option Blk) (h : H.lock ≤ j) : Fr H (H.put j b) := ⟨by simp, rfl, rfl, fun x _ h2 => by rw [Heap.root_put, if_neg (by omega)]⟩

theorem setCells_fr {H H' : Heap} {b off : Nat} {vs : List Value} (h : setCells H b off vs = some H') : Fr H H' := by
  unfold setCells at h
  split at h
  · split at h
    · rename_i hc
      cases h
      simp only [Bool.and_eq_true] at hc
      exact .put H b _ (mine_iff.1 hc.1.1)
    · cases h
  · cases h

section
variable {P : Program}

theorem storeE_fr {H H' : Heap} {t : TypeId} {p v : Value} (h : storeE P H t p v = some H') : Fr H H' := by
  unfold storeE at h
  repeat' split at h
  all_goals first | (cases h; done) | exact setCells_fr h

theorem makeE_fr {H H' : Heap} {t : TypeId} {a b v : Value} (h : makeE P H t a b = some (v, H')) : Fr H H' := by
  unfold makeE at h
  repeat' split at h
  all_goals first | (cases h; done) | (cases h; exact .push H _)

theorem buildSliceE_fr {H H' : Heap} {t : TypeId} {n : Nat} {ps : List (Nat × Value)} {v : Value} (h : buildSliceE P H t n ps = some (v, H')) : Fr H H' := by
  unfold buildSliceE at h
  repeat' split at h
  all_goals first | (cases h; done) | (cases h; exact .push H _)

theorem appendE_fr {H H' : Heap} {t u : TypeId} {a b v : Value} (h : appendE P H t u a b = some (v, H')) : Fr H H' := by
  unfold appendE at h
  repeat' split at h
  all_goals first
    | (cases h; done)
    | (cases h; exact .refl H)
    | (cases h; exact .push H _)
    | (simp only [Option.map_eq_some_iff] at h; obtain ⟨H2, h1, h2⟩ := h; cases h2; exact setCells_fr h1)
    | (rename_i hc; cases h; simp only [Bool.and_eq_true] at hc; exact (Fr.put H _ none (mine_iff.1 hc.1.1.1.1)).trans (.push _ _))

theorem copyE_fr {H H' : Heap} {t u : TypeId} {a b v : Value} (h : copyE P H t u a b = some (v, H')) : Fr H H' := by
  unfold copyE at h
  repeat' split at h
  all_goals first
    | (cases h; done)
    | (cases h; exact .refl H)
    | (simp only [Option.map_eq_some_iff] at h; obtain ⟨H2, h1, h2⟩ := h; cases h2; exact setCells_fr h1)

theorem builtinE_fr {H H' : Heap} {b : Builtin} {ts : Array TypeId} {xs : List Value} {v : Value} (h : builtinE P H b ts xs = some (v, H')) : Fr H H' := by
  unfold builtinE at h
  repeat' split at h
  all_goals first
    | (cases h; done)
    | (cases h; exact .refl H)
    | exact appendE_fr h
    | exact copyE_fr h
    | (simp only [Option.map_eq_some_iff] at h; obtain ⟨u, h1, h2⟩ := h; cases h2; exact .refl H)

def ClFr (cl : FuncId → List Value → Heap → Option (Value × Heap)) : Prop := ∀ g args H v H', cl g args H = some (v, H') → Fr H H'

theorem opE_fr {cl : FuncId → List Value → Heap → Option (Value × Heap)} (hcl : ClFr cl) {ρ : Operand → Option Value} {o : Oper} {H H' : Heap} {v : Value} (h : opE P cl ρ o H = some (v, H')) : Fr H H' := by
  unfold opE at h
  split at h
  all_goals first
    | (cases h; done)
    | (simp only [Option.map_eq_some_iff] at h; obtain ⟨u, h1, h2⟩ := h; cases h2; first | exact .refl H | exact .push H _)
    | skip
  all_goals (repeat' split at h)
  all_goals first
    | (cases h; done)
    | (cases h; exact .refl H)
    | (simp only [Option.map_eq_some_iff] at h; obtain ⟨u, h1, h2⟩ := h; cases h2; first | exact .refl H | exact .push H _ | exact storeE_fr h1)
    | (simp only [Option.bind_eq_some_iff] at h; obtain ⟨u, _, h1⟩ := h; exact buildSliceE_fr h1)
    | exact makeE_fr h
    | exact builtinE_fr h
    | exact hcl _ _ _ _ _ h

theorem veil_fr_size (H : Heap) (p : Nat → Bool) (rs : List Rec) : (veil H p rs).size = H.size := rfl

end
end Go.Proofs.Ytoiijpphfckdjaa.Ev
