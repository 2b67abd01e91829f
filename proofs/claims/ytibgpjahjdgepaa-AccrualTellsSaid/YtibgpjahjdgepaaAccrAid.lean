/- Rounding half to the even is near and rises; interest by actual days. Conditions: none. -/
import Derived.Test.YtibgpjahjdgepaaAccr
namespace Go.Proofs.Ytibgpjahjdgepaa
open Go Go.Proofs.Ytibgpjahjdgepaa.Ev
set_option linter.unusedVariables false
set_option linter.unusedSimpArgs false
set_option linter.unnecessarySimpa false
/-- Half to the even. -/
def hround (z p : Int) : Int := z / p + (if z % p > p - z % p ∨ (z % p = p - z % p ∧ z / p % 2 = 1) then 1 else 0)
theorem hround_near {z p : Int} (hp : 0 < p) : -p ≤ 2 * (hround z p * p - z) ∧ 2 * (hround z p * p - z) ≤ p := by
  have e := Int.mul_ediv_add_emod z p
  have r0 := Int.emod_nonneg z (show p ≠ 0 by omega)
  have r1 := Int.emod_lt_of_pos z hp
  rw [Int.mul_comm] at e
  unfold hround
  split
  · rename_i h
    rw [Int.add_mul, Int.one_mul]
    omega
  · rename_i h
    rw [Int.add_zero]
    omega
theorem hround_mono {z w p : Int} (hp : 0 < p) (h : z ≤ w) : hround z p ≤ hround w p := by
  by_cases e : z = w
  · rw [e]; omega
  have a := hround_near (z := z) hp
  have b := hround_near (z := w) hp
  have : ¬ hround w p + 1 ≤ hround z p := by
    intro hl
    have := Int.mul_le_mul_of_nonneg_right hl (show 0 ≤ p by omega)
    rw [Int.add_mul, Int.one_mul] at this
    omega
  omega
theorem hround_pos {z p : Int} (hp : 0 < p) (h : 0 ≤ z) : 0 ≤ hround z p := by
  have : 0 ≤ z / p := Int.ediv_nonneg h (by omega)
  unfold hround; split <;> omega
theorem act_days {b n n' : Int} (hb : b = 1 ∨ b = 2) (h : rightN n = true) (h' : rightN n' = true) (hl : n ≤ n') : daysN b (dateY n) (dateM n) (dateD n) (dateY n') (dateM n') (dateD n') = n' - n := by
  unfold daysN
  rw [date_number h, date_number h', if_pos ⟨date_right h, date_right h', hl⟩, if_neg (by omega), if_pos hb]
theorem act_back {b n n' : Int} (h : rightN n = true) (h' : rightN n' = true) (hl : n' ≤ n) : daysN b (dateY n) (dateM n) (dateD n) (dateY n') (dateM n') (dateD n') = 0 ∨ n' = n := by
  by_cases e : n' = n
  · exact .inr e
  · refine .inl ?_
    unfold daysN
    rw [date_number h, date_number h', if_neg (by rintro ⟨_, _, h3⟩; omega)]
theorem int_act {bal r b n n' : Int} (hb : b = 1 ∨ b = 2) (h : rightN n = true) (h' : rightN n' = true) (hl : n ≤ n') (b0 : 0 ≤ bal) (b1 : bal ≤ 1152921504606846976) (r0 : 0 ≤ r) (r1 : r ≤ 5000)
    (hz : bal * (r * (n' - n)) ≤ 1152921504606846976) :
    intOk bal r b (dateY n) (dateM n) (dateD n) (dateY n') (dateM n') (dateD n') = true ∧ intV bal r b (dateY n) (dateM n) (dateD n) (dateY n') (dateM n') (dateD n') = hround (bal * (r * (n' - n))) (10000 * perN b) ∧
    0 ≤ bal * (r * (n' - n)) ∧ hround (bal * (r * (n' - n))) (10000 * perN b) ≤ bal * (r * (n' - n)) := by
  simp only [rightN_iff] at h h'
  have k0 := Int.mul_le_mul_of_nonneg_left (show n' - n ≤ 10000000 by omega) r0
  have k1 : 0 ≤ r * (n' - n) := Int.mul_nonneg r0 (by omega)
  have hp : 1 ≤ 10000 * perN b ∧ 10000 * perN b ≤ 1152921504606846976 := by unfold perN; split <;> omega
  have i := md_in (n := bal) (b := r * (n' - n)) (p := 10000 * perN b) (h := 2) b0 b1 k1 (by omega) hp.1 hp.2 (by omega) (by omega) hz
  have hd := act_days hb (by rw [rightN_iff]; exact h) (by rw [rightN_iff]; exact h') hl
  rw [mdQ2] at i
  refine ⟨?_, ?_, Int.mul_nonneg b0 k1, i.2.2.2⟩
  · unfold intOk; rw [hd, i.1]; simp [r0, r1]
  · unfold intV; rw [hd, if_pos ⟨r0, r1⟩, i.2.1]; rfl

end Go.Proofs.Ytibgpjahjdgepaa
