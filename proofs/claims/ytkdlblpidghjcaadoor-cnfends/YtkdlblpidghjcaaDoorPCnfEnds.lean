/- The law CnfEnds, plainly. No condition. -/
import Derived.Test.YtkdlblpidghjcaaDoorP6
import Derived.Test.YtkdlblpidghjcaaDoorGw
set_option linter.unusedSimpArgs false
set_option linter.unusedVariables false
set_option maxRecDepth 20000
namespace Go.Vid
open Go.Vabs
theorem CnfEnds_true (f : Cnf) (more : List Int) (cut : Int) (hf : Cnf.Wf f) (hm : FitsL 1 (Fits .u8) more) (hc : Fits .u16 cut) : law03_CnfEnds f more cut = some true := by
 have hM := IsB_of hm
 have hc2 : 0 ≤ cut ∧ cut ≤ 65535 := by
  unfold Fits at hc
  exact hc
 obtain ⟨v, hv, hvs⟩ := small_dec f
 unfold law03_CnfEnds
 rw [shown_eq, Option.bind_some, hv, Option.bind_some]
 cases v
 ·rfl
 have sf := hvs.1 rfl
 rw [if_pos rfl]
 by_cases h1 : more.length ≤ 100
 case neg => rw [if_pos (by rw [ilt_iff, lenI_eq]; omega)]
 rw [if_neg (by rw [ilt_iff, lenI_eq]; omega)]
 by_cases h2 : more.length = 0
 ·rw [if_pos (by rw [ieq_iff, lenI_eq]; omega)]
 rw [if_neg (by rw [ieq_iff, lenI_eq]; omega), refRight_eq, Option.bind_some]
 by_cases hr : rightT f = true
 case neg => rw [if_neg hr]
 have e1 := Print_eq f
 rw [if_pos hr] at e1
 have hlen := small_tx hr sf
 have hB := tx_isB f
 have hsz : (strOf (tx f)).size = (tx f).length := strOf_size hB
 have hpos : 0 < (tx f).length := by
  unfold tx tx0
  simp only [List.length_append, List.length_cons, List.length_nil]
  omega
 rw [if_pos hr, e1, Option.bind_some]
 simp only
 rw [if_pos (by decide), if_neg (by rw [ieq_iff, sizI_eq, hsz]; omega), bytesOf_strOf hB, if_pos (by rw [capN_iff, lenN_eq, List.length_append]; omega), Parse_eq (hB.append hM) (by rw [List.length_append]; omega), Option.bind_some, parse_text hr more (by rw [List.length_append]; omega), if_neg (show ¬ more = [] from fun e => h2 (by rw [e]; rfl))]
 simp only
 rw [sizI_eq, hsz]
 obtain ⟨k, hk, hk2⟩ : ∃ k : Nat, irem (iconv IntKind.i64 cut) ((tx f).length : Int) = (k : Int) ∧ k < (tx f).length := by
  rw [iconv_ok (by omega) (by omega)]
  have h0 : irem cut ((tx f).length : Int) = cut % ((tx f).length : Int) := by unfold irem; rw [Int.tmod_eq_emod_of_nonneg hc2.1]
  rw [h0]
  have g1 := Int.emod_nonneg cut (show ((tx f).length : Int) ≠ 0 by omega)
  have g2 := Int.emod_lt_of_pos cut (show (0 : Int) < ((tx f).length : Int) by omega)
  exact ⟨(cut % ((tx f).length : Int)).toNat, by omega, by omega⟩
 rw [hk, if_pos (by rw [cutOk_iff]; omega)]
 have hcut : bytesOf (cutB (strOf (tx f)) 0 (k : Int)) = (tx f).take k := by
  rw [bytesOf_cutB, bytesOf_strOf hB]
  simp
 have hcl : ((tx f).take k).length = k := by rw [List.length_take]; omega
 rw [hcut, Parse_eq (hB.take k) (by omega), Option.bind_some]
 have hpl := parse_place ((tx f).take k)
 have hbad : (parseT ((tx f).take k)).2.2 ≠ 0 := by
  intro h0
  obtain ⟨b1, b2, b3⟩ := parse_back h0
  generalize (parseT ((tx f).take k)).1 = g at b1 b2
  have h3 := parse_text b1 ((tx f).drop k) (by rw [b2, List.take_append_drop]; omega)
  rw [b2, List.take_append_drop, parse_own hr sf, if_neg (show ¬ (tx f).drop k = [] from fun e => by
   have := congrArg List.length e
   rw [List.length_drop, List.length_nil] at this
   omega)] at h3
  injection h3 with _ h3
  injection h3 with _ h3
  cases h3
 generalize parseT ((tx f).take k) = r at hpl hbad
 obtain ⟨r1, r2, r3⟩ := r
 simp only at hpl hbad ⊢
 rw [if_pos trivial, if_pos (by decide), if_pos (by rw [ieq_iff]), if_neg (by rw [ieq_iff]; exact hbad)]
 congr 1
 rw [ile_iff]
 omega
end Go.Vid
