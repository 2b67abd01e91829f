/- The statement 'DeskRuns' of this seat: whatever data the law is given, it answers true and leaves what was there as it was. Conditions: none. -/
import Derived.Test.YtfaojedfnjdnnaaGreatRows
import Derived.Test.YtfaojedfnjdnnaaGreatQ7
import Derived.HandedShaped
namespace Go.Proofs.YtfaojedfnjdnnaaGreat.RowDeskRuns
open Go Go.ChangeShapes Go.WideShapes Go.ChangeAt Go.RowKit Go.Proofs.YtfaojedfnjdnnaaGreat.Ev
theorem XJ : (Tryz.f3.params.toList.all fun t => Tryz.prog.readableRec t && decide (t < Tryz.prog.types.size)) = true := by kernel_rfl
theorem read : ∀ t ∈ Tryz.f3.params.toList, Tryz.prog.readableRec t = true /\ t < Tryz.prog.types.size := by
 intro t ht; have h := List.all_eq_true.1 XJ t ht; simp only [Bool.and_eq_true, decide_eq_true_eq] at h; exact h
set_option maxRecDepth 100000 in
theorem lifted (os : Os) (started : os.Started) (H : Type) (enc : TypeId × Value -> H) :
 ReturnsInHanded {} Tryz.checked os 3 .any (Rows.deskRunsSpec.pre6 enc Tryz.prog Tryz.f3 Rows.deskRunsRow.domain false) (Rows.deskRunsSpec.post enc Tryz.prog Tryz.f3 false true false false) := by
 refine returnsInHanded_of_change_shaped (C := Tryz.checked) Seat.own started (by kernel_rfl) Tryz.func3
  (ChangeSpec.witness6 (enc := enc) (C := Tryz.checked) false ⟨#[], #[], []⟩ 8 (by kernel_rfl) (by kernel_rfl) (by kernel_rfl) (by kernel_rfl)) ?_
 intro W base args ds gs before hval0 hW hcnd hz hsh _; have hW' := hW; obtain ⟨p, q, hA, hV, rfl, hfz, hnd⟩ := hW; obtain ⟨rfl, rfl⟩ := trodVars_none hV; have hval : ∀ (j : Nat) t v, Tryz.f3.params.toList[j]? = some t -> args.toList[j]? = some v -> Value.okWide Tryz.prog W .any base t v := fun j t v h1 h2 => hval0 j t v (by rw [Array.getElem?_toList] at h1; exact h1) (by rw [Array.getElem?_toList] at h2; exact h2)
 have hlen : ds.length = 0 := (pb hA).trans (by kernel_rfl); obtain rfl := List.eq_nil_of_length_eq_zero hlen; refine (Ds hsh hA hz hval).mono fun e W' ⟨he, hb⟩ => ?_
 subst he; exact ⟨_, rfl, OH (tb := 4) Seat.laid hW' rfl hb (by kernel_rfl) Tryz.underlying4 read rfl⟩
theorem proved : Rows.DeskRunsSaid :=
 OpenClaim.holds_of_wide 3 Tryz.f3 rfl rfl rfl rfl rfl rfl rfl ⟨rfl, rfl, rfl, rfl, rfl⟩ rfl rfl rfl rfl rfl (by kernel_rfl) Tryz.func3 (by kernel_rfl)
  (of_decide_eq_true (by kernel_rfl)) (by unfold Func.isWrapper; first | (rw [if_pos (by decide +kernel)]; kernel_rfl) | (rw [if_neg (by decide +kernel)]; exact ⟨rfl, rfl⟩))
  (fun os started H enc _ => lifted os started H enc)
#print axioms proved
end Go.Proofs.YtfaojedfnjdnnaaGreat.RowDeskRuns
