/- The law EncFirst, plainly: it answers true. No condition. -/
import Derived.Test.YtdoapnmbopifjaaP4
set_option linter.unusedSimpArgs false
set_option linter.unusedVariables false
namespace Go.Vid
open Go.Vabs
theorem EncFirst_true (a : Aig) (state inn : List Bool) (ha : a.Wf) (hs : FitsL 1 (fun _ => True) state) (hi : FitsL 1 (fun _ => True) inn) : law19_EncFirst a state inn = some true := by
  unfold law19_EncFirst
  rw [shown_eq, Option.bind_some]
  obtain ⟨b1, h1, p1⟩ := May_total a ha
  rw [h1, Option.bind_some]
  by_cases e1 : b1 = true
  case neg => rw [if_neg e1]
  rw [if_pos e1]
  obtain ⟨hS, hR⟩ := p1 e1
  have hB := hR.bd
  by_cases e2 : ilt 60 (lenI state) = true
  · rw [if_pos e2]
  rw [if_neg e2]
  simp only [ilt_iff, lenI_eq] at e2
  by_cases hin : inn.length ≤ 100000
  case neg =>
    -- too many inputs
    have hI := hS.i
    have : ref08_Values a state inn = some ([], 7) := by
      unfold ref08_Values
      by_cases e : ieq (lenI state) (lenI a.L) = true
      · rw [if_pos e, if_neg (by simp [lenI_eq]; omega)]
      · rw [if_neg e]
    rw [this, Option.bind_some]
    obtain ⟨s, bad, hst, _, _, _, _⟩ := Start_spec hB state (by omega)
    dsimp only
    rw [hst, Option.bind_some]
    dsimp only
    rw [if_neg (by simp)]
  obtain ⟨w, bad, hw, hbad, hbi, hgood⟩ := Values_spec hR state inn (by omega) hin
  obtain ⟨s, bad2, hst, hbad2, hbi2, hgood2, _⟩ := Start_spec hB state (by omega)
  rw [hw, Option.bind_some]
  dsimp only
  rw [hst, Option.bind_some]
  dsimp only
  by_cases e3 : ieq bad 0 = true
  case neg => rw [if_neg e3]
  rw [if_pos e3]
  by_cases e4 : ieq bad2 0 = true
  case neg => rw [if_neg e4]
  rw [if_pos e4]
  simp only [ieq_iff] at e3 e4
  obtain ⟨hsl, hil⟩ := hbi.1 e3
  obtain ⟨hvals, gs, hgs⟩ := hgood e3
  obtain ⟨hl, hsp⟩ := hgood2 e4
  have hfl := first_len hB
  have hV := hB.v0
  have hwl : w.length ≤ 1000000 := by rw [hvals.1]; omega
  rw [if_pos rfl, enc_First_eq hB hR.lb, Option.bind_some]
  obtain ⟨b, hb, hbiff⟩ := Holds_spec { N := lenI w, cs := a.first } (by simp only; omega) (first_rows a) w hwl
  rw [hb, Option.bind_some, Flags_eq (by omega), Option.bind_some]
  have key : b = true ↔ s = state := by
    rw [hbiff]
    exact (first_model hR hgs hil hsl).trans (start_iff hsl hl hsp)
  have : b = decide (s = state) := by
    rw [Bool.eq_iff_iff, key]
    simp
  rw [this]
  simp [beq2]
end Go.Vid
