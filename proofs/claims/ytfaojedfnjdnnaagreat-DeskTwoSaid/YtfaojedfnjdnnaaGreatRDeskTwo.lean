/- The statement 'DeskTwo' of this seat: whatever data the law is given, it answers true and leaves what was there as it was. Conditions: none. -/
import Derived.Test.YtfaojedfnjdnnaaGreatRows
import Derived.Test.YtfaojedfnjdnnaaGreatWDeskTwo
import Derived.HandedShaped
namespace Go.Proofs.YtfaojedfnjdnnaaGreat.RowDeskTwo
open Go Go.ChangeShapes Go.WideShapes Go.ChangeAt Go.RowKit Go.Proofs.YtfaojedfnjdnnaaGreat.Ev
theorem PI : (Tryz.f5.params.toList.all fun t => Tryz.prog.readableRec t && decide (t < Tryz.prog.types.size)) = true := by kernel_rfl
theorem read : ∀ t ∈ Tryz.f5.params.toList, Tryz.prog.readableRec t = true /\ t < Tryz.prog.types.size := by
 intro t ht; have h := List.all_eq_true.1 PI t ht; simp only [Bool.and_eq_true, decide_eq_true_eq] at h; exact h
set_option maxRecDepth 100000 in
theorem lifted (os : Os) (started : os.Started) (H : Type) (enc : TypeId × Value -> H) :
 ReturnsInHanded {} Tryz.checked os 5 .any (Rows.deskTwoSpec.pre6 enc Tryz.prog Tryz.f5 Rows.deskTwoRow.domain false) (Rows.deskTwoSpec.post enc Tryz.prog Tryz.f5 false true false false) := by
 refine returnsInHanded_of_change_shaped (C := Tryz.checked) Seat.own started (by kernel_rfl) Tryz.func5
  (ChangeSpec.witness6 (enc := enc) (C := Tryz.checked) false ⟨#[], #[.agg #[.int .i64 0, .int .i64 0, .int .i64 0, .int .i64 0, .int .i64 0, .int .i64 0, .int .i64 0, .int .i64 0, .int .i64 0, .int .i64 0, .int .i64 0, .int .i64 0, .int .i64 0, .slice none 0 0, .slice none 0 0, .slice none 0 0, .slice none 0 0, .slice none 0 0, .slice none 0 0, .slice none 0 0], .agg #[.int .i64 0, .int .i64 0, .int .i64 0, .int .i64 0, .int .i64 0, .int .i64 0, .int .i64 0, .int .i64 0, .int .i64 0, .int .i64 0, .int .i64 0, .int .i64 0, .int .i64 0, .slice none 0 0, .slice none 0 0, .slice none 0 0, .slice none 0 0, .slice none 0 0, .slice none 0 0, .slice none 0 0], .slice none 0 0, .slice none 0 0], []⟩ 8 (by kernel_rfl) (by kernel_rfl) (by kernel_rfl) (by kernel_rfl)) ?_
 intro W base args ds gs before Tq hW afN hz hsh _; have hW' := hW; obtain ⟨p, q, hA, hV, rfl, hfz, hnd⟩ := hW; obtain ⟨rfl, rfl⟩ := trodVars_none hV; have FY : ∀ (j : Nat) t v, Tryz.f5.params.toList[j]? = some t -> args.toList[j]? = some v -> Value.okWide Tryz.prog W .any base t v := fun j t v h1 h2 => Tq j t v (by rw [Array.getElem?_toList] at h1; exact h1) (by rw [Array.getElem?_toList] at h2; exact h2)
 have hlen : ds.length = 4 := (m6 hA).trans (by kernel_rfl); obtain ⟨d0, d1, d2, d3, rfl⟩ : ∃ d0 d1 d2 d3, ds = [d0, d1, d2, d3] := by
  match ds, hlen with
  | [d0, d1, d2, d3], _ => exact ⟨d0, d1, d2, d3, rfl⟩
 refine (G8 hsh hA hz FY).mono fun e W' ⟨he, hb⟩ => ?_
 subst he; exact ⟨_, rfl, F1 (tb := 4) Seat.laid hW' rfl hb (by kernel_rfl) Tryz.underlying4 read rfl⟩
theorem proved : Rows.DeskTwoSaid :=
 OpenClaim.B4 5 Tryz.f5 rfl rfl rfl rfl rfl rfl rfl ⟨rfl, rfl, rfl, rfl, rfl⟩ rfl rfl rfl rfl rfl (by kernel_rfl) Tryz.func5 (by kernel_rfl)
  (of_decide_eq_true (by kernel_rfl)) (by unfold Func.isWrapper; first | (rw [if_pos (by decide +kernel)]; kernel_rfl) | (rw [if_neg (by decide +kernel)]; exact ⟨rfl, rfl⟩))
  (fun os started H enc _ => lifted os started H enc)
#print axioms proved
end Go.Proofs.YtfaojedfnjdnnaaGreat.RowDeskTwo
