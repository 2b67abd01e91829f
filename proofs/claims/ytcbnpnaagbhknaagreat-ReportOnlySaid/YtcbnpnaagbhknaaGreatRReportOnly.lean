/- The statement 'ReportOnly' of this seat: whatever data the law is given, it answers true and leaves what was there as it was. Conditions: none. -/
import Derived.Test.YtcbnpnaagbhknaaGreatRows
import Derived.Test.YtcbnpnaagbhknaaGreatWReportOnly
import Derived.HandedShaped
namespace Go.Proofs.YtcbnpnaagbhknaaGreat.RowReportOnly
open Go Go.ChangeShapes Go.WideShapes Go.ChangeAt Go.RowKit Go.Proofs.YtcbnpnaagbhknaaGreat.Ev
theorem Ee : (Tryz.f6.params.toList.all fun t => Tryz.prog.readableRec t && decide (t < Tryz.prog.types.size)) = true := by kernel_rfl
theorem read : ∀ t ∈ Tryz.f6.params.toList, Tryz.prog.readableRec t = true /\ t < Tryz.prog.types.size := by
 intro t ht; have h := List.all_eq_true.1 Ee t ht; simp only [Bool.and_eq_true, decide_eq_true_eq] at h; exact h
set_option maxRecDepth 100000 in
theorem lifted (os : Os) (started : os.Started) (H : Type) (enc : TypeId × Value -> H) :
 ReturnsInHanded {} Tryz.checked os 6 .any (Rows.reportOnlySpec.pre6 enc Tryz.prog Tryz.f6 Rows.reportOnlyRow.domain false) (Rows.reportOnlySpec.post enc Tryz.prog Tryz.f6 false true false false) := by
 refine returnsInHanded_of_change_shaped (C := Tryz.checked) Seat.own started (by kernel_rfl) Tryz.func6
  (ChangeSpec.witness6 (enc := enc) (C := Tryz.checked) false ⟨#[], #[.agg #[.bool false, .int .i64 0, .int .i64 0, .int .i64 0, .int .i64 0, .int .i64 0, .int .i64 0, .int .i64 0, .int .i64 0, .int .i64 0, .int .i64 0, .slice none 0 0, .int .i64 0, .int .i64 0, .int .i64 0, .int .i64 0, .int .i64 0, .slice none 0 0, .int .i64 0], .slice none 0 0, .int .i64 0, .int .u8 0, .int .i64 0], []⟩ 8 (by kernel_rfl) (by kernel_rfl) (by kernel_rfl) (by kernel_rfl)) ?_
 intro W base args ds gs before hval0 hW hcnd hz hsh _; have hW' := hW; obtain ⟨p, q, hA, hV, rfl, hfz, hnd⟩ := hW; obtain ⟨rfl, rfl⟩ := trodVars_none hV; have hval : ∀ (j : Nat) t v, Tryz.f6.params.toList[j]? = some t -> args.toList[j]? = some v -> Value.okWide Tryz.prog W .any base t v := fun j t v h1 h2 => hval0 j t v (by rw [Array.getElem?_toList] at h1; exact h1) (by rw [Array.getElem?_toList] at h2; exact h2)
 have hlen : ds.length = 5 := (ju hA).trans (by kernel_rfl); obtain ⟨d0, d1, d2, d3, d4, rfl⟩ : ∃ d0 d1 d2 d3 d4, ds = [d0, d1, d2, d3, d4] := by
  match ds, hlen with
  | [d0, d1, d2, d3, d4], _ => exact ⟨d0, d1, d2, d3, d4, rfl⟩
 refine (w7 hsh hA hz hval).mono fun e W' ⟨he, hb⟩ => ?_
 subst he; exact ⟨_, rfl, uY (tb := 4) Seat.laid hW' rfl hb (by kernel_rfl) Tryz.underlying4 read rfl⟩
theorem proved : Rows.ReportOnlySaid :=
 OpenClaim.holds_of_wide 6 Tryz.f6 rfl rfl rfl rfl rfl rfl rfl ⟨rfl, rfl, rfl, rfl, rfl⟩ rfl rfl rfl rfl rfl (by kernel_rfl) Tryz.func6 (by kernel_rfl)
  (of_decide_eq_true (by kernel_rfl)) (by unfold Func.isWrapper; first | (rw [if_pos (by decide +kernel)]; kernel_rfl) | (rw [if_neg (by decide +kernel)]; exact ⟨rfl, rfl⟩))
  (fun os started H enc _ => lifted os started H enc)
#print axioms proved
end Go.Proofs.YtcbnpnaagbhknaaGreat.RowReportOnly
