/- The law EncStarts, plainly: it answers true. No condition. -/
import Derived.Test.YtdoapnmbopifjaaP4
set_option linter.unusedSimpArgs false
set_option linter.unusedVariables false
namespace Go.Vid
open Go.Vabs
theorem EncStarts_true (x : EncStartsIn_law19) (hx : x.Wf) : law19_EncStarts x = some true := by
  obtain ⟨a, free, inn, inv⟩ := x
  obtain ⟨ha, hfr, hi, hinv, _⟩ := hx
  simp only at ha hfr hi hinv
  unfold law19_EncStarts
  dsimp only
  rw [shown_eq, Option.bind_some]
  obtain ⟨b1, h1, p1⟩ := may_total a ha inv hinv
  rw [h1, Option.bind_some]
  by_cases e1 : b1 = true
  case neg => rw [if_neg e1]
  rw [if_pos e1]
  obtain ⟨hS, hR, l0, l1⟩ := p1 e1
  have hB := hR.bd
  have hV : a.V = a.I + a.L.length + a.G.length := rfl
  have hvr := hR.vars
  rw [← hV] at l1 hvr
  by_cases e2 : ilt 60 (lenI free) = true
  · rw [if_pos e2]
  rw [if_neg e2]
  by_cases e2' : ilt 60 (lenI inn) = true
  · rw [if_pos e2']
  rw [if_neg e2']
  simp only [ilt_iff, lenI_eq] at e2 e2'
  obtain ⟨s, bad2, hst, hbad2, hbi2, hgood2, hnone⟩ := Start_spec hB free (by omega)
  rw [hst, Option.bind_some]
  dsimp only
  have hsl : s.length ≤ 100000 := by
    rcases hbad2 with h | h
    · have := (hgood2 h).1; have := hB.l; omega
    · rw [hnone h]; simp
  obtain ⟨w, bad, hw, hbad, hbi, hgood⟩ := Values_spec hR s inn hsl (by omega)
  rw [hw, Option.bind_some]
  dsimp only
  by_cases e3 : ieq bad2 0 = true
  case neg => rw [if_neg e3]
  rw [if_pos e3]
  by_cases e4 : ieq bad 0 = true
  case neg => rw [if_neg e4]
  rw [if_pos e4]
  simp only [ieq_iff] at e3 e4
  obtain ⟨hl, hsp⟩ := hgood2 e3
  obtain ⟨hsl', hil⟩ := hbi.1 e4
  obtain ⟨hvals, gs, hgs⟩ := hgood e4
  have hfree := hbi2.1 e3
  have hfl := first_len hB
  have hfr' := frame_len hB 0
  have hV0 := hB.v0
  have hwl : (w.length : Int) = a.V + 1 := by rw [hvals.1]; omega
  rw [enc_Starts_eq hB hR.gb hR.lb (by omega), Option.bind_some, if_pos rfl]
  dsimp only
  rw [if_pos (by simp [lenI_eq]; omega)]
  obtain ⟨b, hb, hbiff⟩ := Holds_spec { N := a.V + 1, cs := a.frame 0 ++ a.first ++ [[a.lt 0 (flip inv)]] } (by simp; omega) (by
    intro c hc
    simp only [List.mem_append, List.mem_singleton] at hc
    rcases hc with (hc | hc) | hc
    · exact frame_rows a 0 c hc
    · exact first_rows a c hc
    · subst hc; simp) w (by omega)
  rw [hb, Option.bind_some, ref08_Lit_eq (by omega), Option.bind_some]
  have hm1 : ModelOf (a.frame 0) w := IsVals_model hR hvals
  have hm2 : ModelOf a.first w := (first_model hR hgs hil hsl').2 (by
    rintro i y bb hy hbb
    have hfb := List.getElem?_eq_getElem (show i < free.length by have := (List.getElem?_eq_some_iff.1 hy).1; omega)
    have := hsp i y _ hy hfb
    rw [hbb] at this
    injection this with this
    subst this
    exact ⟨fun e => by rw [if_pos e], fun e => by rw [if_neg (by omega), if_pos e]⟩)
  have hf : 0 ≤ flip inv ∧ flip inv / 2 = inv / 2 := by unfold flip; split <;> omega
  have key : b = true ↔ vl w inv = false := by
    rw [hbiff]
    show ModelOf (a.frame 0 ++ a.first ++ [[a.lt 0 (flip inv)]]) w ↔ _
    rw [ModelOf_append, ModelOf_append]
    have : ModelOf [[a.lt 0 (flip inv)]] w ↔ vl w inv = false := by
      unfold ModelOf
      simp only [List.mem_singleton, forall_eq, exists_eq_left]
      rw [lt0_true hf.1 (by omega), vl_flip (by omega) (by omega)]
      simp
    rw [this]
    exact ⟨fun h => h.2, fun h => ⟨⟨hm1, hm2⟩, h⟩⟩
  have : b = !vl w inv := by
    rw [Bool.eq_iff_iff, key]
    simp
  rw [this]
  simp [beq2, bnot]
end Go.Vid
