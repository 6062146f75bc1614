/- The law CnfModels, plainly. No condition. -/
import Derived.Test.YtkdlblpidghjcaaDoorP6
import Derived.Test.YtkdlblpidghjcaaDoorGw
set_option linter.unusedSimpArgs false
set_option linter.unusedVariables false
set_option maxRecDepth 20000
namespace Go.Vid
open Go.Vabs
theorem CnfModels_true (x : CnfModelsIn_law03) (hx : x.Wf) : law03_CnfModels x = some true := by
 obtain ⟨m, b, n, f⟩ := x
 obtain ⟨_, hb, _, hf, _⟩ := hx
 simp only at hb hf
 have hF := FI_of hf
 have hB := IsB_of hb
 obtain ⟨v, hv, _⟩ := small_dec f
 unfold law03_CnfModels
 simp only
 rw [shown_eq, Option.bind_some]
 by_cases h1 : m.length ≤ 100
 case neg => rw [if_pos (by rw [ilt_iff, lenI_eq]; omega)]
 rw [if_neg (by rw [ilt_iff, lenI_eq]; omega)]
 by_cases h2 : b.length ≤ 2000
 case neg => rw [if_pos (by rw [ilt_iff, lenI_eq]; omega)]
 rw [if_neg (by rw [ilt_iff, lenI_eq]; omega)]
 by_cases h3 : 0 ≤ n
 case neg => rw [if_pos (by rw [ilt_iff]; omega)]
 rw [if_neg (by rw [ilt_iff]; omega)]
 by_cases h4 : n ≤ 1000
 case neg => rw [if_pos (by rw [ilt_iff]; omega)]
 rw [if_neg (by rw [ilt_iff]; omega), hv, Option.bind_some]
 cases v
 ·rfl
 obtain ⟨k, rfl⟩ : ∃ k : Nat, n = (k : Int) := ⟨n.toNat, by omega⟩
 rw [if_pos rfl, ParseModel_eq hB (by omega) (by omega), refParseModel_eq hB (by omega) (by omega), Option.bind_some, Option.bind_some]
 have hl := parseM_len b k
 generalize parseM b k = r at hl
 obtain ⟨r1, r2, r3⟩ := r
 simp only at hl ⊢
 have hloop : loopF (law03_CnfModels_B0 { m := m, b := b, n := (k : Int), f := f }) 0 = some (.inr ()) := by
  refine Or.elim (loop_find (b := law03_CnfModels_B0 { m := m, b := b, n := (k : Int), f := f }) f.cs.length (fun _ => false) (fun _ => ()) () (fun j hj => ?_) ?_) ?_ ?_
  rotate_left 2
  ·rintro ⟨_, _, h, _⟩; cases h
  ·rintro ⟨_, h⟩; exact h
  ·unfold law03_CnfModels_B0
   simp only
   have hc := hF.2 _ (List.getElem_mem hj)
   have := hF.1
   rw [if_pos (by rw [lt_len]; exact hj), getI_nat, List.getElem?_eq_getElem hj, Option.bind_some, Clause_eq hc.2 hc.1 (by omega), refClause_eq hc.2 hc.1 (by omega), Option.bind_some, Option.bind_some, if_pos (by simp), inc_ok (by omega)]
   simp
  ·unfold law03_CnfModels_B0
   simp only
   rw [if_neg (by rw [lt_len]; omega)]
 rw [PrintModel_eq (by omega), refPrintModel_eq (by omega), Option.bind_some, Option.bind_some, if_pos (by simp), refFlags_eq r1 (by omega), Option.bind_some, if_pos (by simp), if_pos (by simp), if_pos (by simp), hloop, Option.bind_some]
 simp only
 rw [if_pos trivial, Holds_eq hF (by omega), refHolds_eq hF (by omega), Option.bind_some, Option.bind_some]
 simp [beq2]
end Go.Vid
