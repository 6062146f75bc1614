/- Plain laws: words and places. No condition. -/
import Derived.Test.YtgamgcmjiancmaaDoorP1
import Derived.Test.YtgamgcmjiancmaaDoorVZ
set_option linter.unusedSimpArgs false
set_option linter.unusedVariables false
set_option maxRecDepth 20000
namespace Go.Vid
open Go.Vabs
theorem isPlace_eq (b : List Int) (at_ : Int) : lex_isPlace b at_ = some (decide (0 ≤ at_ ∧ at_ ≤ b.length)) := by
  unfold lex_isPlace
  simp only [ile_iff, lenI_eq]
  by_cases h : 0 ≤ at_
  · rw [if_pos h]
    congr 1
    unfold ile
    simp [h]
  · rw [if_neg h]
    simp [h]
/-- A row begins with another. -/
def Pre (p l : List Int) : Prop := l.take p.length = p
instance (p l : List Int) : Decidable (Pre p l) := inferInstanceAs (Decidable (_ = _))
theorem Pre.len {p l : List Int} (h : Pre p l) : p.length ≤ l.length := by
  have := congrArg List.length h
  rw [List.length_take] at this
  omega
theorem pre_nil (l : List Int) : Pre [] l := rfl
theorem pre_self (p l : List Int) : Pre p (p ++ l) := by unfold Pre; simp
theorem pre_append {p q l : List Int} : Pre (p ++ q) l ↔ Pre p l ∧ Pre q (l.drop p.length) := by
  unfold Pre
  constructor
  · intro h
    have hl := congrArg List.length h
    rw [List.length_take, List.length_append] at hl
    have h1 : (l.take (p ++ q).length).take p.length = p := by rw [h]; simp
    have h2 : (l.take (p ++ q).length).drop p.length = q := by rw [h]; simp
    rw [List.take_take, List.length_append, Nat.min_eq_left (by omega)] at h1
    rw [List.drop_take, List.length_append, Nat.add_sub_cancel_left] at h2
    exact ⟨h1, h2⟩
  · rintro ⟨h1, h2⟩
    rw [List.length_append, List.take_add, h1, h2]
theorem HasPrefix_eq (s p : ByteArray) : strings_HasPrefix s p = some (decide (Pre (bytesOf p) (bytesOf s))) := by
  unfold strings_HasPrefix internal_stringslite_HasPrefix
  rw [sizI_eq', sizI_eq']
  by_cases h : (bytesOf p).length ≤ (bytesOf s).length
  · rw [if_pos (by rw [ile_iff]; omega), if_pos (by rw [cutOk_iff, size_eq]; omega), Option.bind_some]
    congr 1
    rw [Bool.eq_iff_iff, seq_iff, decide_eq_true_eq]
    constructor
    · intro e
      have := congrArg bytesOf e
      rw [bytesOf_cutB] at this
      simpa [Pre] using this
    · intro e
      apply bytesOf_inj
      rw [bytesOf_cutB]
      simpa [Pre] using e
  · rw [if_neg (by rw [ile_iff]; omega), Option.bind_some]
    congr 1
    symm
    rw [decide_eq_false_iff_not]
    exact fun e => h e.len
/-- A word at a place. -/
theorem Is_eq {b : List Int} (hb : IsB b) (hl : b.length ≤ 1000000000) (at_ : Int) (s : ByteArray) :
    lex_Is b at_ s = some (if 0 ≤ at_ ∧ at_ ≤ b.length then (if Pre (bytesOf s) (b.drop at_.toNat) then (at_ + (bytesOf s).length, true) else (at_, false)) else (0, false)) := by
  unfold lex_Is
  rw [isPlace_eq, Option.bind_some]
  by_cases h : 0 ≤ at_ ∧ at_ ≤ b.length
  case neg => rw [if_neg (by simpa using h), if_neg h]
  rw [if_pos (by simpa using h), if_pos h, if_pos (by rw [cutOk_iff, lenI_eq, lenN_eq]; omega), cut_drop h.1 h.2, HasPrefix_eq, bytesOf_strOf (hb.drop _), Option.bind_some]
  by_cases e : Pre (bytesOf s) (b.drop at_.toNat)
  · have := e.len
    rw [List.length_drop] at this
    rw [if_pos (by simpa using e), if_pos e, sizI_eq', iadd_ok (by omega) (by omega)]
  · rw [if_neg (by simpa using e), if_neg e]
end Go.Vid
