/- The law LexWords, plainly: it answers true. No condition. -/
import Derived.Test.YtgamgcmjiancmaaDoorP2
set_option linter.unusedSimpArgs false
set_option linter.unusedVariables false
set_option maxRecDepth 20000
namespace Go.Vid
open Go.Vabs
theorem LexWords_true (x : LexWordsIn_law01) (hx : x.Wf) : law01_LexWords x = some true := by
  obtain ⟨b, a, s, t⟩ := x
  obtain ⟨wb, wa, ws, wt, -⟩ := hx
  simp only at wb wa ws wt
  have hb : IsB b := fun c hc => (wb.2 c hc).u8
  unfold law01_LexWords
  rw [shown_eq, Option.bind_some]
  simp only [lenI_eq, sizI_eq', ilt_iff, ile_iff]
  by_cases h1 : (500 : Int) < b.length
  · rw [if_pos h1]
  rw [if_neg h1]
  by_cases h2 : (200 : Int) < (bytesOf s).length
  · rw [if_pos h2]
  rw [if_neg h2]
  by_cases h3 : (200 : Int) < (bytesOf t).length
  · rw [if_pos h3]
  rw [if_neg h3, Is_eq hb (by omega), Is_eq hb (by omega), Is_eq hb (by omega)]
  have hao : addOk s t = true := by rw [addOk_iff]; omega
  by_cases h4 : 0 ≤ a ∧ a ≤ b.length
  case neg =>
    rw [if_neg h4, if_neg h4, if_neg h4]
    simp only [Option.bind_some]
    rw [if_pos hao]
    by_cases h5 : a < 0
    · rw [if_pos h5]; rfl
    · rw [if_neg h5, if_pos (by omega)]; rfl
  rw [if_pos h4, if_pos h4, if_pos h4]
  have hst : bytesOf (s ++ t) = bytesOf s ++ bytesOf t := bytesOf_append s t
  have hcl : (cut b 0 a).length = a.toNat := by rw [cut_zero, List.length_take]; omega
  have hb' : IsB (cut b 0 a ++ bytesOf (s ++ t)) := (hb.cut 0 a).append (bytesOf_isB _)
  have hI : lex_Is (cut b 0 a ++ bytesOf (s ++ t)) a s = some (a + ((bytesOf s).length : Int), true) := by
    rw [Is_eq hb' (by rw [List.length_append, hcl, hst, List.length_append]; omega), if_pos (by rw [List.length_append, hcl]; omega), if_pos]
    rw [List.drop_append, hcl, List.drop_eq_nil_of_le (by omega), List.nil_append, Nat.sub_self, List.drop_zero, hst]
    exact pre_self _ _
  have hp0 : Pre (bytesOf { data := #[] }) (b.drop a.toNat) := pre_nil _
  have f1 : ¬ a < 0 := by omega
  have f2 : ¬ (b.length : Int) < a := by omega
  have f3 : cutOk (lenN b) 0 a = true := by rw [cutOk_iff, lenN_eq]; omega
  have f4 : capN (lenN (cut b 0 a)) 1 = true := by rw [capN_iff, lenN_eq, hcl]; omega
  have f5 : capN (lenN (cut b 0 a ++ bytesOf (s ++ t))) 1 = true := by rw [capN_iff, lenN_eq, List.length_append, hcl, hst, List.length_append]; omega
  have f6 : iadd .i64 a (bytesOf s).length = a + ((bytesOf s).length : Int) := iadd_ok (by omega) (by omega)
  have f8 : ieq a a = true := by rw [ieq_iff]
  rw [if_pos hp0]
  by_cases e1 : Pre (bytesOf s) (b.drop a.toNat)
  · have hl := e1.len
    rw [List.length_drop] at hl
    have hI2 := Is_eq hb (by omega) (a + ((bytesOf s).length : Int)) t
    rw [if_pos (by omega), show (a + ((bytesOf s).length : Int)).toNat = a.toNat + (bytesOf s).length by omega] at hI2
    rw [if_pos e1]
    by_cases e2 : Pre (bytesOf t) (b.drop (a.toNat + (bytesOf s).length))
    · rw [if_pos e2] at hI2
      have e3 : Pre (bytesOf (s ++ t)) (b.drop a.toNat) := by rw [hst]; exact pre_append.2 ⟨e1, by rw [List.drop_drop]; exact e2⟩
      have f7 : a + ((bytesOf (s ++ t)).length : Int) = a + ((bytesOf s).length : Int) + ((bytesOf t).length : Int) := by rw [hst, List.length_append]; omega
      rw [if_pos e3]
      simp only [Option.bind_some, reduceIte, hao, f1, f2, f3, f4, f5, hI, hI2, f6, f7, beq2_iff, ieq_iff]
    · rw [if_neg e2] at hI2
      have e3 : ¬ Pre (bytesOf (s ++ t)) (b.drop a.toNat) := by rw [hst]; exact fun h => e2 (by have := (pre_append.1 h).2; rwa [List.drop_drop] at this)
      rw [if_neg e3]
      simp [hao, f1, f2, f3, f4, f5, hI, hI2, f6, f8]
  · have e3 : ¬ Pre (bytesOf (s ++ t)) (b.drop a.toNat) := by rw [hst]; exact fun h => e1 (pre_append.1 h).1
    have hI2 := Is_eq hb (by omega) a t
    rw [if_pos (by omega)] at hI2
    rw [if_neg e1, if_neg e3]
    obtain ⟨p, q, hpq⟩ : ∃ p q, (if Pre (bytesOf t) (b.drop a.toNat) then (a + ((bytesOf t).length : Int), true) else (a, false)) = (p, q) := ⟨_, _, rfl⟩
    rw [hpq] at hI2
    simp [hao, f1, f2, f3, f4, f5, hI, hI2, f6, f8]
end Go.Vid
