/- The law CnfHolds, plainly. No condition. -/
import Derived.Test.YtkdlblpidghjcaaDoorP6
import Derived.Test.YtkdlblpidghjcaaDoorGw
set_option linter.unusedSimpArgs false
set_option linter.unusedVariables false
set_option maxRecDepth 20000
namespace Go.Vid
open Go.Vabs
theorem lit_other {m : List Bool} {l : Int} (h : l ≠ 0) : litT m l = (decide (l.natAbs ≤ m.length) && !litT m (-l)) := by
 unfold litT
 rw [Int.natAbs_neg]
 by_cases hl : l.natAbs ≤ m.length
 ·have hi : l.natAbs - 1 < m.length := by omega
  rw [decide_eq_true hl, Bool.true_and, List.getElem?_eq_getElem hi]
  generalize m[l.natAbs - 1] = x
  by_cases h0 : 0 < l
  ·rw [decide_eq_true h0, decide_eq_false (show ¬ 0 < -l by omega)]
   cases x <;> simp [show 1 ≤ l.natAbs by omega, show l.natAbs ≠ 0 by omega, h]
  ·rw [decide_eq_false h0, decide_eq_true (show 0 < -l by omega)]
   cases x <;> simp [show 1 ≤ l.natAbs by omega, show l.natAbs ≠ 0 by omega, h]
 ·rw [decide_eq_false hl, Bool.false_and, List.getElem?_eq_none (by omega)]
  simp
theorem CnfHolds_true (x : CnfHoldsIn_law03) (hx : x.Wf) : law03_CnfHolds x = some true := by
 obtain ⟨f, m, c, l⟩ := x
 obtain ⟨hf, _, hc, hl, _⟩ := hx
 simp only at hf hc hl
 have hF := FI_of hf
 obtain ⟨v, hv, hvs⟩ := small_dec f
 unfold law03_CnfHolds
 simp only
 rw [shown_eq, Option.bind_some, hv, Option.bind_some]
 cases v
 ·rfl
 have hS := hvs.1 rfl
 have hS1 := hS.1
 rw [if_pos rfl]
 by_cases h1 : m.length ≤ 100
 case neg => rw [if_pos (by rw [ilt_iff, lenI_eq]; omega)]
 rw [if_neg (by rw [ilt_iff, lenI_eq]; omega)]
 by_cases h2 : c.length ≤ 40
 case neg => rw [if_pos (by rw [ilt_iff, lenI_eq]; omega)]
 rw [if_neg (by rw [ilt_iff, lenI_eq]; omega)]
 by_cases h3 : -100 ≤ l
 case neg => rw [if_pos (by rw [ilt_iff]; omega)]
 rw [if_neg (by rw [ilt_iff]; omega)]
 by_cases h4 : l ≤ 100
 case neg => rw [if_pos (by rw [ilt_iff]; omega)]
 rw [if_neg (by rw [ilt_iff]; omega), if_pos (by rw [capN_iff, lenN_eq]; omega), if_pos (by rw [capN_iff, lenN_eq, List.length_append, List.length_singleton]; omega), if_pos (by rw [capN_iff, lenN_eq]; omega), if_pos (by rw [capN_iff, lenN_eq, List.length_append, List.length_singleton]; omega)]
 have hI : ∀ y ∈ c, I64 y := fun y hy => (hc.2 y hy).i64
 have hmm : m.length ≤ 1000000000000000 := by omega
 have e13 : cnf_Clause [l] m = some (litT m l) := by
  rw [Clause_eq (fun y hy => by rw [List.mem_singleton] at hy; subst hy; exact ⟨by omega, by omega⟩) (by simp) hmm]
  simp [clT]
 have e15 : cnf_Clause [ineg IntKind.i64 l] m = some (litT m (-l)) := by
  rw [ineg_ok (by omega) (by omega), Clause_eq (fun y hy => by rw [List.mem_singleton] at hy; subst hy; exact ⟨by omega, by omega⟩) (by simp) hmm]
  simp [clT]
 have e19 : cnf_Holds ({ N := f.N, cs := f.cs ++ [c] } : Cnf) m = some (hoT m f && clT m c) := by
  rw [Holds_eq ⟨by rw [List.length_append, List.length_singleton]; omega, fun d hd => by
   rcases List.mem_append.1 hd with hd | hd
   ·exact hF.2 d hd
   ·rw [List.mem_singleton] at hd; subst hd; exact ⟨by omega, hI⟩⟩ hmm]
  simp [hoT, List.all_append]
 have e21 := Holds_eq hF hmm
 have e24 := Clause_eq hI (by omega) hmm
 have e27 : cnf_Clause (c ++ [l]) m = some (clT m c || litT m l) := by
  rw [Clause_eq (fun y hy => by
   rcases List.mem_append.1 hy with hy | hy
   ·exact hI y hy
   ·rw [List.mem_singleton] at hy; subst hy; exact ⟨by omega, by omega⟩) (by rw [List.length_append, List.length_singleton]; omega) hmm]
  simp [clT, List.any_append]
 have eE : cnf_Holds ({ N := 0, cs := ([] : List (List Int)) } : Cnf) m = some true := by
  rw [Holds_eq ⟨by decide, fun c hc => by cases hc⟩ hmm]
  rfl
 have eN := Clause_nil_eq m
 simp only [e13, e15, e19, e21, e24, e27, eE, eN, Option.bind_some]
 by_cases h0 : l = 0
 ·subst h0
  have hz : litT m 0 = false := by unfold litT; simp
  have hz2 : litT m (-0) = false := hz
  rw [hz, hz2]
  generalize hoT m f = P
  generalize clT m c = Q
  cases P <;> cases Q <;> simp [ieq, beq2, bnot]
 ·have hab : imax l (ineg IntKind.i64 l) = (l.natAbs : Int) := by
   rw [ineg_ok (by omega) (by omega), imax_eq]
   split <;> omega
  have hd : ile (imax l (ineg IntKind.i64 l)) (lenI m) = decide (l.natAbs ≤ m.length) := by
   rw [hab, lenI_eq]
   unfold ile
   congr 1
   exact propext (by omega)
  have hlo := lit_other (m := m) h0
  rw [hd, hlo]
  have hno : litT m (-l) = true → l.natAbs ≤ m.length := by
   intro h
   unfold litT at h
   rw [decide_eq_true_iff, Int.natAbs_neg] at h
   have := (List.getElem?_eq_some_iff.1 h.2).1
   omega
  generalize hoT m f = P
  generalize clT m c = Q
  generalize hy : litT m (-l) = y at hno
  by_cases hz : l.natAbs ≤ m.length
  ·rw [decide_eq_true hz]
   cases P <;> cases Q <;> cases y <;> simp [ieq, beq2, bnot, h0]
  ·cases y
   ·rw [decide_eq_false hz]
    cases P <;> cases Q <;> simp [ieq, beq2, bnot, h0]
   ·exact absurd (hno rfl) hz
end Go.Vid
