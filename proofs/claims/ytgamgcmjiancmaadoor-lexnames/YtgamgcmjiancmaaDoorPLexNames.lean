/- The law LexNames, plainly: it answers true. No condition. -/
import Derived.Test.YtgamgcmjiancmaaDoorP7
set_option linter.unusedSimpArgs false
set_option linter.unusedVariables false
set_option maxRecDepth 20000
namespace Go.Vid
open Go.Vabs
theorem Take_out {b : List Int} {at_ : Int} (h : ¬ (0 ≤ at_ ∧ at_ ≤ b.length)) : lex_Take b at_ = some (0, 0, 2) ∧ ref01_Take b at_ = some (0, 0, 2) := by
  constructor
  · unfold lex_Take
    rw [isPlace_eq, Option.bind_some, if_neg (by simpa using h)]
  · unfold ref01_Take
    simp only [ilt_iff, lenI_eq]
    by_cases e : at_ < 0
    · rw [if_pos e]
    · rw [if_neg e, if_pos (by omega)]
theorem LexNames_true (x : LexNamesIn_law01) (hx : x.Wf) : law01_LexNames x = some true := by
  obtain ⟨b, a, s, n⟩ := x
  obtain ⟨wb, wa, ws, wn, -⟩ := hx
  simp only at wb wa ws wn
  have hb : IsB b := fun c hc => (wb.2 c hc).u8
  unfold law01_LexNames
  rw [shown_eq, Option.bind_some]
  simp only [lenI_eq, sizI_eq, ilt_iff]
  by_cases h1 : (1000 : Int) < b.length
  · rw [if_pos h1]
  rw [if_neg h1]
  by_cases h2 : (1000 : Int) < s.size
  · rw [if_pos h2]
  rw [if_neg h2, Name_eq hb (by omega), refName_eq hb (by omega)]
  obtain ⟨p1, p2, p3, hT, hT2⟩ : ∃ p1 p2 p3, lex_Take b a = some (p1, p2, p3) ∧ ref01_Take b a = some (p1, p2, p3) := by
    by_cases h : 0 ≤ a ∧ a ≤ b.length
    · rw [Take_eq hb h.1 h.2 (by omega), refTake_eq hb h.1 h.2 (by omega)]
      exact ⟨_, _, _, rfl, rfl⟩
    · obtain ⟨e1, e2⟩ := Take_out h
      exact ⟨_, _, _, e1, e2⟩
  rw [hT, hT2, IsName_eq (by omega), refIsName_eq (by omega)]
  obtain ⟨v, hv1, hv2, hv3⟩ : ∃ v, lex_Put n = some v ∧ ref01_Put n = some v ∧ v.length ≤ 5 := by
    by_cases h : n < 0 ∨ 2147483647 < n
    · exact ⟨[], Put_no h, refPut_no h, by decide⟩
    · obtain ⟨k, rfl⟩ := Int.eq_ofNat_of_zero_le (show 0 ≤ n by omega)
      exact ⟨putN k, Put_eq (by omega), refPut_eq (by omega), putN_five (by omega)⟩
  generalize nameAt b a = q
  obtain ⟨q1, q2, q3⟩ := q
  simp [hv1, hv2, Row_eq (x := v) (y := v) (by omega)]
end Go.Vid
