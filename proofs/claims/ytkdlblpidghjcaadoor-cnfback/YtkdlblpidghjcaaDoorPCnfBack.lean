/- The law CnfBack, plainly. No condition. -/
import Derived.Test.YtkdlblpidghjcaaDoorP6
import Derived.Test.YtkdlblpidghjcaaDoorGw
set_option linter.unusedSimpArgs false
set_option linter.unusedVariables false
set_option maxRecDepth 20000
namespace Go.Vid
open Go.Vabs
theorem back_tail {t : Bool} (ht : t = true) {b : List Int} (hB : IsB b) (hl : b.length ≤ 2000) :
  (Option.bind (cnf_Parse b) fun (v64, v65, v66) =>
   if (ilt v65 0) = true then some false
   else if (ilt (lenI b) v65) = true then some false
   else if (ieq v66 0) = true then
    Option.bind (cnf_Print v64) fun (v71, v72) =>
    if t = true then
     if (ieq v72 0) = true then
      if (seq v71 (strOf b)) = true then
       if (ieq v65 (lenI b)) = true then Option.bind (ref03_Right v64) fun v78 => some v78
       else some false
      else some false
     else some false
    else some false
   else if t = true then Option.bind (ref03_Same v64 (({ N := 0, cs := ([] : List (List Int)) } : Cnf))) fun v81 => some v81
   else some false) = some true := by
 have hp := parse_place b
 have hbk := parse_back (b := b)
 have hbad := parse_bad (b := b)
 rw [Parse_eq hB (by omega), Option.bind_some]
 generalize parseT b = r at hp hbk hbad
 obtain ⟨g, p, e⟩ := r
 simp only at hp hbk hbad ⊢
 rw [if_neg (by rw [ilt_iff]; omega), if_neg (by rw [ilt_iff, lenI_eq]; omega)]
 by_cases h0 : e = 0
 ·obtain ⟨h1, h2, h3⟩ := hbk h0
  have e1 := Print_eq g
  rw [if_pos h1, h2] at e1
  rw [if_pos (by rw [ieq_iff]; exact h0), e1, Option.bind_some]
  simp only
  rw [if_pos ht, if_pos (by decide), if_pos (by rw [seq_iff]), if_pos (by rw [ieq_iff, lenI_eq]; exact h3), refRight_eq, h1]
  rfl
 ·rw [if_neg (by rw [ieq_iff]; exact h0), if_pos ht, hbad h0, refSame_eq _ ⟨by decide, fun c hc => by cases hc⟩]
  rfl
theorem CnfBack_true (f : Cnf) (b : List Int) (m : List Bool) (hf : Cnf.Wf f) (hb : FitsL 1 (Fits .u8) b) (_ : FitsL 1 (fun _ => True) m) : law03_CnfBack f b m = some true := by
 have hF := FI_of hf
 have hB := IsB_of hb
 obtain ⟨v, hv, hvs⟩ := small_dec f
 obtain ⟨t, ht⟩ : ∃ t : Bool, t = true := ⟨_, rfl⟩
 have hsh : law03_shown = some t := by rw [ht]; exact shown_eq
 unfold law03_CnfBack
 rw [hsh, Option.bind_some, hv, Option.bind_some]
 cases v
 ·rw [ht]; rfl
 have sf := hvs.1 rfl
 rw [if_pos rfl]
 by_cases h1 : b.length ≤ 2000
 case neg => rw [if_pos (by rw [ilt_iff, lenI_eq]; omega), ht]
 rw [if_neg (by rw [ilt_iff, lenI_eq]; omega)]
 by_cases h2 : m.length ≤ 100
 case neg => rw [if_pos (by rw [ilt_iff, lenI_eq]; omega), ht]
 rw [if_neg (by rw [ilt_iff, lenI_eq]; omega)]
 have e1 := Print_eq f
 have m1 := PrintModel_eq (m := m) (by omega)
 have mB := txm_isB m
 have mlen : (txm m).length ≤ 1000000 := by
  have := cb_len (l := modL 0 m) fun x hx => by
   have := modL_bd m 0 x hx
   exact ⟨by omega, by omega⟩
  rw [modL_len] at this
  unfold txm
  simp only [List.length_append, List.length_cons, List.length_nil]
  omega
 have m2 := ParseModel_eq (n := m.length) mB (by omega) (by omega)
 rw [model_text] at m2
 have m2' : cnf_ParseModel (bytesOf (strOf (txm m))) (lenI m) = some (m, ((txm m).length : Int), 0) := by
  rw [bytesOf_strOf mB]
  exact m2
 have msz : sizI (strOf (txm m)) = ((txm m).length : Int) := by rw [sizI_eq, strOf_size mB]
 have hfl : ref03_Flags m m = some true := by rw [refFlags_eq m (by omega)]; simp
 by_cases hr : rightT f = true
 ·rw [if_pos hr] at e1
  have fB := tx_isB f
  have flen := small_tx hr sf
  have e2 : cnf_Parse (bytesOf (strOf (tx f))) = some (f, ((tx f).length : Int), 0) := by rw [bytesOf_strOf fB, Parse_eq fB (by omega), parse_own hr sf]
  have hsz : sizI (strOf (tx f)) = ((tx f).length : Int) := by rw [sizI_eq, strOf_size fB]
  have hsame : ref03_Same f f = some true := by rw [refSame_eq f hF.fl]; simp
  rw [e1, Option.bind_some]
  simp only
  rw [refRight_eq, hr, Option.bind_some, if_pos (by decide), if_pos (by decide), e2, Option.bind_some]
  simp only
  rw [if_pos (by decide), if_pos (by rw [ieq_iff, hsz]), hsame, Option.bind_some, if_pos rfl, m1, Option.bind_some, m2', Option.bind_some]
  simp only
  rw [if_pos (by decide), if_pos (by rw [ieq_iff, msz]), hfl, Option.bind_some, if_pos rfl]
  exact back_tail ht hB h1
 ·rw [if_neg hr] at e1
  rw [e1, Option.bind_some]
  simp only
  rw [refRight_eq, show rightT f = false by simpa using hr, Option.bind_some, if_pos (by decide), if_neg (by decide), m1, Option.bind_some, m2', Option.bind_some]
  simp only
  rw [if_pos (by decide), if_pos (by rw [ieq_iff, msz]), hfl, Option.bind_some, if_pos rfl]
  exact back_tail ht hB h1
end Go.Vid
