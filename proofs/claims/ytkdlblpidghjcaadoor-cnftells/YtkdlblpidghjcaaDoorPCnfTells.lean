/- The law CnfTells, plainly. No condition. -/
import Derived.Test.YtkdlblpidghjcaaDoorP6
import Derived.Test.YtkdlblpidghjcaaDoorGw
set_option linter.unusedSimpArgs false
set_option linter.unusedVariables false
set_option maxRecDepth 20000
namespace Go.Vid
open Go.Vabs
theorem CnfTells_true (f g : Cnf) (b : List Int) (hf : Cnf.Wf f) (hg : Cnf.Wf g) (hb : FitsL 1 (Fits .u8) b) : law03_CnfTells f g b = some true := by
 have hF := FI_of hf
 have hB := IsB_of hb
 obtain ⟨v, hv, _⟩ := small_dec f
 obtain ⟨u, hu, _⟩ := small_dec g
 unfold law03_CnfTells
 rw [shown_eq, Option.bind_some, hv, Option.bind_some]
 cases v
 ·rfl
 rw [if_pos rfl, hu, Option.bind_some]
 cases u
 ·rfl
 rw [if_pos rfl]
 by_cases h : b.length ≤ 2000
 case neg => rw [if_pos (by rw [ilt_iff, lenI_eq]; omega)]
 have hP := parse_FL (b := b)
 have e1 := Print_eq f
 have e2 := refPrint_eq f
 have e3 := Parse_eq hB (by omega)
 have e4 := refParse_eq hB (by omega)
 generalize (if rightT f = true then (strOf (tx f), (0 : Int)) else (({ data := #[] } : ByteArray), 1)) = p at e1 e2
 generalize parseT b = r at hP e3 e4
 obtain ⟨p1, p2⟩ := p
 obtain ⟨r1, r2, r3⟩ := r
 simp only at hP
 rw [if_neg (by rw [ilt_iff, lenI_eq]; omega), e1, Option.bind_some]
 simp only
 rw [e2, Option.bind_some]
 simp only
 rw [e3, Option.bind_some]
 simp only
 rw [e4, Option.bind_some]
 simp only
 rw [if_pos trivial, Right_eq, refRight_eq, Option.bind_some, Option.bind_some, if_pos (by simp), Same_eq g hF.fl, refSame_eq g hF.fl, Option.bind_some, Option.bind_some, if_pos (by simp), if_pos (by simp), if_pos (by simp), refSame_eq r1 hP, Option.bind_some, if_pos (by simp), if_pos (by simp)]
 simp [ieq]
end Go.Vid
