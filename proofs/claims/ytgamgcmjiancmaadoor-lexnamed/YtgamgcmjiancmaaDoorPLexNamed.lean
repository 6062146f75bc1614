/- The law LexNamed, plainly: it answers true. No condition. -/
import Derived.Test.YtgamgcmjiancmaaDoorP7
set_option linter.unusedSimpArgs false
set_option linter.unusedVariables false
set_option maxRecDepth 20000
namespace Go.Vid
open Go.Vabs
/-- A letter's bytes behind the first are none below 128. -/
theorem acc_cont : ∀ {n : Nat} {x v : Int} {l : List Int}, acc n x l = some v → n ≤ l.length ∧ ∀ i < n, ∃ c, l[i]? = some c ∧ 128 ≤ c
  | 0, _, _, _, _ => ⟨Nat.zero_le _, fun i h => absurd h (Nat.not_lt_zero i)⟩
  | n + 1, x, v, c :: l, h => by
    rw [acc] at h
    by_cases e : 128 ≤ c ∧ c ≤ 191
    · rw [if_pos e] at h
      obtain ⟨h1, h2⟩ := acc_cont h
      refine ⟨by rw [List.length_cons]; omega, fun i hi => ?_⟩
      match i with
      | 0 => exact ⟨c, rfl, e.1⟩
      | i + 1 => exact h2 i (by omega)
    · rw [if_neg e] at h; cases h
/-- It reads no further. -/
theorem acc_take : ∀ {n : Nat} {x v : Int} {l m : List Int}, acc n x l = some v → acc n x (l ++ m) = some v
  | 0, _, _, _, _, h => h
  | n + 1, x, v, c :: l, m, h => by
    rw [acc] at h
    rw [List.cons_append, acc]
    by_cases e : 128 ≤ c ∧ c ≤ 191
    · rw [if_pos e] at h ⊢
      exact acc_take h
    · rw [if_neg e] at h; cases h
theorem wid_acc {a : Int} {t : List Int} (h : 2 ≤ wid (a :: t)) : ∃ x v, acc (wid (a :: t) - 1) x t = some v := by
  rw [wid] at h ⊢
  by_cases e1 : a < 128
  · rw [if_pos e1] at h; omega
  rw [if_neg e1] at h ⊢
  by_cases e2 : a < 192
  · rw [if_pos e2] at h; omega
  rw [if_neg e2] at h ⊢
  by_cases e3 : a < 224
  · rw [if_pos e3] at h ⊢
    cases hv : acc 1 (a - 192) t with
    | none => rw [hv] at h; simp at h
    | some v =>
      rw [hv] at h
      simp only at h ⊢
      split at h
      · rename_i k
        rw [if_pos k]
        exact ⟨_, _, hv⟩
      · omega
  rw [if_neg e3] at h ⊢
  by_cases e4 : a < 240
  · rw [if_pos e4] at h ⊢
    cases hv : acc 2 (a - 224) t with
    | none => rw [hv] at h; simp at h
    | some v =>
      rw [hv] at h
      simp only at h ⊢
      split at h
      · rename_i k
        rw [if_pos k]
        exact ⟨_, _, hv⟩
      · omega
  rw [if_neg e4] at h ⊢
  by_cases e5 : a < 248
  · rw [if_pos e5] at h ⊢
    cases hv : acc 3 (a - 240) t with
    | none => rw [hv] at h; simp at h
    | some v =>
      rw [hv] at h
      simp only at h ⊢
      split at h
      · rename_i k
        rw [if_pos k]
        exact ⟨_, _, hv⟩
      · omega
  · rw [if_neg e5] at h; omega
theorem wid_len {L : List Int} : wid L ≤ L.length := by
  cases L with
  | nil => simp [wid]
  | cons a t =>
    by_cases h : 2 ≤ wid (a :: t)
    · obtain ⟨x, v, hv⟩ := wid_acc h
      have := (acc_cont hv).1
      rw [List.length_cons]
      omega
    · rw [List.length_cons]; omega
theorem wid_append {a : Int} {t m : List Int} (h : wid (a :: t) ≠ 0) : wid (a :: t ++ m) = wid (a :: t) := by
  rw [List.cons_append]
  rw [wid] at h ⊢
  rw [wid]
  by_cases e1 : a < 128
  · rw [if_pos e1, if_pos e1]
  rw [if_neg e1] at h
  rw [if_neg e1, if_neg e1]
  by_cases e2 : a < 192
  · rw [if_pos e2] at h; exact absurd rfl h
  rw [if_neg e2] at h
  rw [if_neg e2, if_neg e2]
  by_cases e3 : a < 224
  · rw [if_pos e3] at h
    rw [if_pos e3, if_pos e3]
    cases hv : acc 1 (a - 192) t with
    | none => rw [hv] at h; exact absurd rfl h
    | some v => rw [acc_take hv]
  rw [if_neg e3] at h
  rw [if_neg e3, if_neg e3]
  by_cases e4 : a < 240
  · rw [if_pos e4] at h
    rw [if_pos e4, if_pos e4]
    cases hv : acc 2 (a - 224) t with
    | none => rw [hv] at h; exact absurd rfl h
    | some v => rw [acc_take hv]
  rw [if_neg e4] at h
  rw [if_neg e4, if_neg e4]
  by_cases e5 : a < 248
  · rw [if_pos e5] at h
    rw [if_pos e5, if_pos e5]
    cases hv : acc 3 (a - 240) t with
    | none => rw [hv] at h; exact absurd rfl h
    | some v => rw [acc_take hv]
  · rw [if_neg e5] at h; exact absurd rfl h
theorem chars_append : ∀ (n : Nat) (s t : List Int) (k : Nat), s.length = n → chars s = some k → chars (s ++ t) = (chars t).map (· + k) := by
  intro n
  induction n using Nat.strongRecOn with
  | _ n ih =>
    intro s t k hn h
    match s, hn, h with
    | [], _, h =>
      rw [chars_nil] at h
      cases h
      simp
    | a :: s, hn, h =>
      rw [chars_cons] at h
      by_cases e : a < 32 ∨ a = 127 ∨ wid (a :: s) = 0
      · rw [if_pos e] at h; cases h
      rw [if_neg e] at h
      obtain ⟨j, hj, rfl⟩ := Option.map_eq_some_iff.1 h
      have hw : wid (a :: s ++ t) = wid (a :: s) := wid_append (by omega)
      have hle : wid (a :: s) ≤ (a :: s).length := wid_len
      have hcons : chars (a :: s ++ t) = (chars ((a :: s ++ t).drop (wid (a :: s)))).map (· + 1) := by
        rw [List.cons_append] at hw ⊢
        rw [chars_cons, hw, if_neg e]
      rw [hcons, List.drop_append_of_le_length hle, ih _ (by rw [List.length_drop]; rw [← hn]; omega) _ t j rfl hj]
      cases chars t with
      | none => rfl
      | some i => simp; omega
/-- With a line's end in it it is none. -/
theorem chars_nl : ∀ (n : Nat) (s t : List Int), s.length = n → chars (s ++ 10 :: t) = none := by
  intro n
  induction n using Nat.strongRecOn with
  | _ n ih =>
    intro s t hn
    match s, hn with
    | [], _ =>
      rw [List.nil_append, chars_cons, if_pos (.inl (by decide))]
    | a :: s, hn =>
      rw [List.cons_append, chars_cons]
      by_cases e : a < 32 ∨ a = 127 ∨ wid (a :: (s ++ 10 :: t)) = 0
      · rw [if_pos e]
      rw [if_neg e]
      have hle : wid (a :: (s ++ 10 :: t)) ≤ (a :: s).length := by
        by_cases h2 : 2 ≤ wid (a :: (s ++ 10 :: t))
        · obtain ⟨x, v, hv⟩ := wid_acc h2
          have hc := (acc_cont hv).2
          by_cases hlt : wid (a :: (s ++ 10 :: t)) - 1 ≤ s.length
          · rw [List.length_cons]; omega
          · obtain ⟨c, hc1, hc2⟩ := hc s.length (by omega)
            rw [List.getElem?_append_right (Nat.le_refl _), Nat.sub_self] at hc1
            simp at hc1
            omega
        · rw [List.length_cons]; omega
      generalize wid (a :: (s ++ 10 :: t)) = w at e hle ⊢
      rw [← List.cons_append, List.drop_append_of_le_length hle, ih _ (by rw [List.length_drop, ← hn, List.length_cons]; omega) _ t rfl]
      rfl
theorem nameB_nl (s t : List Int) : nameB (s ++ 10 :: t) = false := by
  unfold nameB
  rw [chars_nl _ s t rfl]
theorem chars_le : ∀ (n : Nat) (s : List Int) (k : Nat), s.length = n → chars s = some k → k ≤ s.length ∧ (s ≠ [] → 1 ≤ k) := by
  intro n
  induction n using Nat.strongRecOn with
  | _ n ih =>
    intro s k hn h
    match s, hn, h with
    | [], _, h =>
      rw [chars_nil] at h
      cases h
      exact ⟨Nat.zero_le _, fun h => absurd rfl h⟩
    | a :: s, hn, h =>
      rw [chars_cons] at h
      by_cases e : a < 32 ∨ a = 127 ∨ wid (a :: s) = 0
      · rw [if_pos e] at h; cases h
      rw [if_neg e] at h
      obtain ⟨j, hj, rfl⟩ := Option.map_eq_some_iff.1 h
      have := (ih _ (by rw [List.length_drop, ← hn, List.length_cons]; omega) _ j rfl hj).1
      rw [List.length_drop] at this
      rw [List.length_cons] at this ⊢
      exact ⟨by omega, fun _ => by omega⟩
theorem nameB_some {s : List Int} (h : nameB s = true) : ∃ k, chars s = some k ∧ 1 ≤ k ∧ k ≤ 40 := by
  unfold nameB at h
  cases hc : chars s with
  | none => rw [hc] at h; cases h
  | some k =>
    rw [hc] at h
    exact ⟨k, rfl, by simpa using h⟩
theorem nameB_append {s t : List Int} (hs : nameB s = true) (ht : nameB t = true) (hl : s.length + t.length ≤ 40) : nameB (s ++ t) = true := by
  obtain ⟨k, h1, h2, h3⟩ := nameB_some hs
  obtain ⟨j, g1, g2, g3⟩ := nameB_some ht
  unfold nameB
  rw [chars_append _ s t k rfl h1, g1]
  have := (chars_le _ s k rfl h1).1
  have := (chars_le _ t j rfl g1).1
  simp only [Option.map_some, decide_eq_true_eq]
  omega
theorem chars_no10 : ∀ (n : Nat) (s : List Int) (k : Nat), s.length = n → chars s = some k → nl s = s.length := by
  intro n s k hn h
  have hle := nl_le s
  by_cases hlt : nl s < s.length
  · exfalso
    have h10 := nl_at hlt
    obtain ⟨hl, he⟩ := List.getElem?_eq_some_iff.1 h10
    have : s = s.take (nl s) ++ 10 :: s.drop (nl s + 1) := by
      conv => lhs; rw [← List.take_append_drop (nl s) s]
      rw [List.drop_eq_getElem_cons hl, he]
    rw [this, chars_nl _ _ _ rfl] at h
    cases h
  · omega
theorem nl_append {s t : List Int} (h : nl s = s.length) : nl (s ++ 10 :: t) = s.length := by
  induction s with
  | nil => rfl
  | cons a s ih =>
    rw [nl, List.length_cons] at h
    by_cases e : a = 10
    · rw [if_pos e] at h; omega
    · rw [if_neg e] at h
      rw [List.cons_append, nl, if_neg e, ih (by omega), List.length_cons]
theorem LexNamed_true (s t : ByteArray) (ws : FitsS s) (wt : FitsS t) : law01_LexNamed s t = some true := by
  unfold law01_LexNamed
  rw [shown_eq, Option.bind_some]
  simp only [sizI_eq, ilt_iff, ile_iff]
  by_cases h1 : (500 : Int) < s.size
  · rw [if_pos h1]
  rw [if_neg h1]
  by_cases h2 : (500 : Int) < t.size
  · rw [if_pos h2]
  have hs1 := size_eq s
  have ht1 := size_eq t
  have hz : ∀ u v : ByteArray, (u ++ v).size = u.size + v.size := fun u v => ByteArray.size_append
  have h10 : (⟨#[10]⟩ : ByteArray).size = 1 := rfl
  have hB : bytesOf (s ++ { data := #[10] } ++ t) = bytesOf s ++ 10 :: bytesOf t := by
    rw [bytesOf_append, bytesOf_append, List.append_assoc]
    rfl
  have hA1 : addOk s { data := #[10] } = true := by rw [addOk_iff, ← hs1, ← size_eq, h10]; omega
  have hA2 : addOk (s ++ { data := #[10] }) t = true := by rw [addOk_iff, ← size_eq, ← ht1, hz, h10]; omega
  have hA3 : addOk s t = true := by rw [addOk_iff]; omega
  have hbb : IsB (bytesOf s ++ 10 :: bytesOf t) := by rw [← hB]; exact bytesOf_isB _
  have hN := Name_eq hbb (by rw [List.length_append, List.length_cons]; omega) 0
  unfold nameAt at hN
  rw [if_pos (by omega), show (0 : Int).toNat = 0 from rfl, List.drop_zero] at hN
  have hno : lex_IsName (s ++ { data := #[10] } ++ t) = some false := by rw [IsName_eq (by rw [hz, hz, h10]; omega), hB, nameB_nl]
  rw [if_neg h2, IsName_eq (by omega), Option.bind_some, IsName_eq (by omega), Option.bind_some, if_pos hA1, if_pos hA2, hB, hN, refIsName_eq (by omega), hno]
  cases e : nameB (bytesOf s) with
  | true =>
    obtain ⟨k, hk, _, _⟩ := nameB_some e
    have hnl : nl (bytesOf s ++ 10 :: bytesOf t) = (bytesOf s).length := nl_append (chars_no10 _ _ k rfl hk)
    rw [hnl, List.take_left, if_pos e, strOf_bytesOf, Option.bind_some]
    cases e2 : nameB (bytesOf t) with
    | true =>
      by_cases hle : (s.size : Int) + t.size ≤ 40
      · have hj : lex_IsName (s ++ t) = some true := by rw [IsName_eq (by rw [hz]; omega), bytesOf_append, nameB_append e e2 (by omega)]
        have f1 : iadd .i64 (s.size : Int) t.size ≤ 40 := by rw [iadd_ok (by omega) (by omega)]; exact hle
        have f2 : seq s s = true := by rw [seq_iff]
        have f3 : ieq (0 + ((bytesOf s).length : Int)) s.size = true := by rw [ieq_iff, hs1]; omega
        simp only [Option.bind_some, f1, f2, f3, hj, hA3, reduceIte, beq2, IsName_eq (s := s) (by omega), e, Bool.false_eq_true]
        rfl
      · have f1 : ¬ iadd .i64 (s.size : Int) t.size ≤ 40 := by rw [iadd_ok (by omega) (by omega)]; exact hle
        have f2 : seq s s = true := by rw [seq_iff]
        have f3 : ieq (0 + ((bytesOf s).length : Int)) s.size = true := by rw [ieq_iff, hs1]; omega
        simp only [Option.bind_some, f1, f2, f3, hA3, reduceIte, beq2, IsName_eq (s := s) (by omega), e, Bool.false_eq_true]
        rfl
    | false =>
      have f2 : seq s s = true := by rw [seq_iff]
      have f3 : ieq (0 + ((bytesOf s).length : Int)) s.size = true := by rw [ieq_iff, hs1]; omega
      simp only [Option.bind_some, f2, f3, hA3, reduceIte, beq2, IsName_eq (s := s) (by omega), e, Bool.false_eq_true]
      rfl
  | false =>
    by_cases hq : nameB ((bytesOf s ++ 10 :: bytesOf t).take (nl (bytesOf s ++ 10 :: bytesOf t))) = true
    · rw [if_pos hq, Option.bind_some]
      have hj : lex_IsName (strOf ((bytesOf s ++ 10 :: bytesOf t).take (nl (bytesOf s ++ 10 :: bytesOf t)))) = some true := by
        rw [IsName_eq (by rw [strOf_size (hbb.take _), List.length_take, List.length_append, List.length_cons]; omega), bytesOf_strOf (hbb.take _), hq]
      simp only [Option.bind_some, reduceIte, beq2, hj, Bool.false_eq_true]
      rfl
    · rw [if_neg hq, Option.bind_some]
      simp only [Option.bind_some, reduceIte, beq2, Bool.false_eq_true]
      rfl
end Go.Vid
