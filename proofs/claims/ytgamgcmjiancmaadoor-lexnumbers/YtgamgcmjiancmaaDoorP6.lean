/- Plain laws: names. No condition. -/
import Derived.Test.YtgamgcmjiancmaaDoorP5
set_option linter.unusedSimpArgs false
set_option linter.unusedVariables false
set_option maxRecDepth 20000
namespace Go.Vid
open Go.Vabs
theorem wid_le (L : List Int) : wid L ≤ 4 := by
  cases L with
  | nil => simp [wid]
  | cons a t =>
    rw [wid]
    repeat' split
    all_goals omega
theorem wid_zero {a : Int} {t : List Int} (h : wid (a :: t) = 0) : 128 ≤ a := by
  rw [wid] at h
  split at h
  · cases h
  · omega
theorem wid_one {a : Int} {t : List Int} (h : a < 128) : wid (a :: t) = 1 := by rw [wid, if_pos h]
theorem wid_ge {a : Int} {t : List Int} (h : 128 ≤ a) : wid (a :: t) ≠ 1 := by
  rw [wid, if_neg (by omega)]
  repeat' split
  all_goals decide
/-- How many letters, if all are, and none is barred. -/
def chars (L : List Int) : Option Nat := match L with
  | [] => some 0
  | a :: t => if a < 32 ∨ a = 127 ∨ wid (a :: t) = 0 then none else (chars (t.drop (wid (a :: t) - 1))).map (· + 1)
termination_by L.length
decreasing_by simp only [List.length_drop, List.length_cons]; omega
theorem chars_nil : chars [] = some 0 := by rw [chars]
theorem chars_cons (a : Int) (t : List Int) : chars (a :: t) = if a < 32 ∨ a = 127 ∨ wid (a :: t) = 0 then none else (chars ((a :: t).drop (wid (a :: t)))).map (· + 1) := by
  rw [chars]
  split
  · rfl
  · rename_i h
    rw [show (a :: t).drop (wid (a :: t)) = t.drop (wid (a :: t) - 1) by
      obtain ⟨w, hw⟩ : ∃ w, wid (a :: t) = w + 1 := ⟨wid (a :: t) - 1, by omega⟩
      rw [hw]; rfl]
/-- What the library makes of a string's first letter. -/
theorem decStr_eq {s : ByteArray} {a : Int} {t : List Int} (h : bytesOf s = a :: t) (hl : t.length ≤ 1000000000) : ∃ r, unicode_utf8_DecodeRuneInString s = some (r, ((if wid (a :: t) = 0 then 1 else wid (a :: t) : Nat) : Int)) := by
  have hb := bytesOf_isB s
  rw [h] at hb
  unfold unicode_utf8_DecodeRuneInString
  rw [if_neg (by rw [seq_iff]; intro e; rw [e] at h; cases h), getB_eq, h, show getI (a :: t) 0 = some a from rfl, Option.bind_some]
  by_cases e : a < 128
  · rw [if_pos (by rw [ilt_iff]; exact e), wid_one e]
    exact ⟨_, rfl⟩
  · rw [if_neg (by rw [ilt_iff]; exact e), slowS_eq, h]
    obtain ⟨r, hr, _⟩ := slow_eq hb (by omega) hl
    rw [hr, lw_wid (by omega)]
    exact ⟨r, rfl⟩
theorem IsName_loop {s : ByteArray} (hs : s.size ≤ 1000000000) : ∀ (n pos : Nat) (x : Int), s.size - pos = n → 0 ≤ x → x + n ≤ 10000000000 →
    loopF (lex_IsName_B0 s) (x, pos) = some (match chars ((bytesOf s).drop pos) with | none => .inl () | some k => .inr (x + k)) := by
  have hsz := size_eq s
  intro n
  induction n using Nat.strongRecOn with
  | _ n ih =>
    intro pos x hn h0 h1
    cases hd : (bytesOf s).drop pos with
    | nil =>
      have hl := congrArg List.length hd
      rw [List.length_drop, List.length_nil] at hl
      rw [chars_nil, loopF_inr (r := .inr x)]
      · simp
      · simp only [lex_IsName_B0]
        rw [if_neg (by simp [isAt]; omega)]
    | cons a t =>
      have hl := congrArg List.length hd
      rw [List.length_drop, List.length_cons] at hl
      have hi : pos < s.size := by omega
      have hc : bytesOf (cutB s (ofN pos) (sizI s)) = a :: t := by rw [cutB_all]; exact hd
      obtain ⟨v28, hv⟩ := decStr_eq hc (by omega)
      have hm := decode_spec hi
      rw [hd] at hm
      obtain ⟨w, r, m1, m2, m3, m4, m5⟩ := hm
      have hr : decR s pos = (r : Int) := by unfold decR; rw [m2]
      have hw : decW s pos = if w = 0 then 1 else w := by unfold decW; rw [m2]
      have hw4 := wid_le (a :: t)
      rw [m1] at hw4
      have hstep : lex_IsName_B0 s (x, pos) = if a < 32 ∨ a = 127 ∨ w = 0 then some (.inr (.inl ())) else some (.inl (x + 1, pos + w)) := by
        simp only [lex_IsName_B0]
        rw [if_pos (by simp [isAt]; omega), if_pos (by rw [cutOk_iff, sizI_eq]; unfold ofN; omega), hv, Option.bind_some, hr, hw, m1, iadd_ok (by omega) (by omega)]
        simp only [ilt_iff, ieq_iff]
        rcases Nat.lt_trichotomy w 1 with h | h | h
        · have hw0 : w = 0 := by omega
          have := m3 hw0
          subst hw0
          rw [if_neg (by omega), if_neg (by omega), if_pos (by omega), if_pos (by rfl), if_pos (.inr (.inr rfl))]
        · have := m4 h
          have har : a = (r : Int) := by simpa using this
          subst h
          have ha : a < 128 := by
            by_cases ha : a < 128
            · exact ha
            · exact absurd m1 (wid_ge (by omega))
          by_cases e1 : a < 32
          · rw [if_pos (by omega), if_pos (.inl e1)]
          · rw [if_neg (by omega)]
            by_cases e2 : a = 127
            · rw [if_pos (by omega), if_pos (.inr (.inl e2))]
            · rw [if_neg (by omega), if_neg (by omega), if_neg (by omega), if_neg (by omega)]
        · have hr := m5 (by omega)
          have ha : 128 ≤ a := by
            by_cases ha : a < 128
            · have := wid_one (t := t) ha; omega
            · omega
          rw [if_neg (by omega), if_neg (by omega), if_neg (c := a < 32 ∨ _) (by omega), if_neg (show ¬ w = 0 by omega)]
          by_cases e : (r : Int) = 65533
          · rw [if_pos e, if_neg (by omega)]
          · rw [if_neg e]
      rw [chars_cons, m1]
      by_cases e : a < 32 ∨ a = 127 ∨ w = 0
      · rw [if_pos e] at hstep ⊢
        exact loopF_inr hstep
      · rw [if_neg e] at hstep ⊢
        rw [loopF_inl hstep, ih (s.size - (pos + w)) (by omega) (pos + w) (x + 1) rfl (by omega) (by omega), ← List.drop_drop, hd]
        cases chars ((a :: t).drop w) with
        | none => rfl
        | some k =>
          simp only [Option.map_some]
          congr 2
          omega
/-- A name. -/
def nameB (L : List Int) : Bool := match chars L with
  | none => false
  | some k => decide (1 ≤ k ∧ k ≤ 40)
theorem IsName_eq {s : ByteArray} (hs : s.size ≤ 1000000000) : lex_IsName s = some (nameB (bytesOf s)) := by
  unfold lex_IsName nameB
  rw [show ((0 : Int), (0 : Nat)) = (0, 0) from rfl, IsName_loop hs s.size 0 0 rfl (by omega) (by omega), List.drop_zero, Option.bind_some]
  cases chars (bytesOf s) with
  | none => rfl
  | some k =>
    simp only [ilt_iff, Int.zero_add]
    by_cases h : 1 ≤ k
    · rw [if_pos (by omega)]
      congr 1
      rw [Bool.eq_iff_iff, ile_iff, decide_eq_true_eq]
      omega
    · rw [if_neg (by omega)]
      congr 1
      symm
      rw [decide_eq_false_iff_not]
      omega
theorem refName_loop {s : ByteArray} (hs : s.size ≤ 1000000000) : ∀ (n pos : Nat) (x : Int), s.size - pos = n → 0 ≤ x → x + n ≤ 10000000000 → pos ≤ 2000000000 →
    loopF (ref01_IsName_B0 s) (x, (pos : Int)) = some (match chars ((bytesOf s).drop pos) with | none => .inl () | some k => .inr (x + k)) := by
  have hsz := size_eq s
  intro n
  induction n using Nat.strongRecOn with
  | _ n ih =>
    intro pos x hn h0 h1 h2
    cases hd : (bytesOf s).drop pos with
    | nil =>
      have hl := congrArg List.length hd
      rw [List.length_drop, List.length_nil] at hl
      rw [chars_nil, loopF_inr (r := .inr x)]
      · simp
      · simp only [ref01_IsName_B0]
        rw [if_neg (by rw [ilt_iff, sizI_eq]; omega)]
    | cons a t =>
      have hl := congrArg List.length hd
      rw [List.length_drop, List.length_cons] at hl
      have hi : pos < s.size := by omega
      have hc : (bytesOf s)[pos]? = some a := by
        have := congrArg (·[0]?) hd
        simpa using this
      have hw4 := wid_le (a :: t)
      have hstep : ref01_IsName_B0 s (x, (pos : Int)) = if a < 32 ∨ a = 127 ∨ wid (a :: t) = 0 then some (.inr (.inl ())) else some (.inl (x + 1, ((pos + wid (a :: t) : Nat) : Int))) := by
        simp only [ref01_IsName_B0]
        rw [if_pos (by rw [ilt_iff, sizI_eq]; omega), Long_eq hi hs, hd, Option.bind_some, getB_eq, getI_nat, hc, Option.bind_some, iadd_ok (by omega) (by omega), iadd_ok (by omega) (by omega)]
        simp only [ilt_iff, ieq_iff]
        by_cases e0 : wid (a :: t) = 0
        · rw [if_pos (by omega), if_pos (.inr (.inr e0))]
        rw [if_neg (by omega)]
        by_cases e1 : a < 32
        · rw [if_pos e1, if_pos (.inl e1)]
        rw [if_neg e1]
        by_cases e2 : a = 127
        · rw [if_pos e2, if_pos (.inr (.inl e2))]
        rw [if_neg e2, if_neg (by omega)]
        congr 3
      rw [chars_cons]
      by_cases e : a < 32 ∨ a = 127 ∨ wid (a :: t) = 0
      · rw [if_pos e] at hstep ⊢
        exact loopF_inr hstep
      · rw [if_neg e] at hstep ⊢
        rw [loopF_inl hstep, ih (s.size - (pos + wid (a :: t))) (by omega) (pos + wid (a :: t)) (x + 1) rfl (by omega) (by omega) (by omega), ← List.drop_drop, hd]
        cases chars ((a :: t).drop (wid (a :: t))) with
        | none => rfl
        | some k =>
          simp only [Option.map_some]
          congr 2
          omega
theorem refIsName_eq {s : ByteArray} (hs : s.size ≤ 1000000000) : ref01_IsName s = some (nameB (bytesOf s)) := by
  unfold ref01_IsName nameB
  rw [show ((0 : Int), (0 : Int)) = (0, ((0 : Nat) : Int)) from rfl, refName_loop hs s.size 0 0 rfl (by omega) (by omega) (by omega), List.drop_zero, Option.bind_some]
  cases chars (bytesOf s) with
  | none => rfl
  | some k =>
    simp only [ile_iff, Int.zero_add]
    by_cases h : 1 ≤ k
    · rw [if_pos (by omega)]
      congr 1
      rw [Bool.eq_iff_iff, ile_iff, decide_eq_true_eq]
      omega
    · rw [if_neg (by omega)]
      congr 1
      symm
      rw [decide_eq_false_iff_not]
      omega
end Go.Vid
