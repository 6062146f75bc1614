/- The law LexBack, plainly: it answers true. No condition. -/
import Derived.Test.YtgamgcmjiancmaaDoorP1
set_option linter.unusedSimpArgs false
set_option linter.unusedVariables false
set_option maxRecDepth 20000
namespace Go.Vid
open Go.Vabs
theorem Take_put {n : Nat} (hn : n ≤ 2147483647) {b : List Int} (hb : ∀ c ∈ b, 0 ≤ c ∧ c ≤ 255) (hl : b.length ≤ 500) : lex_Take (putN n ++ b) 0 = some ((n : Int), ((putN n).length : Int), 0) := by
  have h5 := putN_five hn
  rw [Take_eq (b := putN n ++ b) (at_ := 0) (by
    intro c hc
    rcases List.mem_append.1 hc with h | h
    · exact putN_byte h
    · exact hb c h) (by omega) (by omega) (by rw [List.length_append]; omega)]
  have := put_tk n 0 0 b (by omega) (by omega) (by omega) (by simp; omega)
  rw [show (0 : Int).toNat = 0 from rfl, List.drop_zero, this]
  simp
theorem LexBack_true (n m : Int) (b : List Int) (hn : Fits .i64 n) (hm : Fits .i64 m) (hb : FitsL 1 (Fits .u8) b) : law01_LexBack n m b = some true := by
  unfold law01_LexBack
  rw [shown_eq, Option.bind_some]
  by_cases hl : (500 : Int) < b.length
  · rw [if_pos (by rw [ilt_iff, lenI_eq]; exact hl)]
  rw [if_neg (by rw [ilt_iff, lenI_eq]; exact hl)]
  have hbb : ∀ c ∈ b, 0 ≤ c ∧ c ≤ 255 := fun c hc => (hb.2 c hc).u8
  have hT := Take_eq (b := b) (at_ := 0) hbb (by omega) (by omega) (by omega)
  rw [show (0 : Int).toNat = 0 from rfl, List.drop_zero] at hT
  have tail : ∀ (F : List Int → Option Bool), (∀ v, (lex_Put n = some v → F v = some true)) → Option.bind (lex_Put n) F = some true := by
    intro F h
    cases hp : lex_Put n with
    | none => 
      by_cases h1 : n < 0 ∨ 2147483647 < n
      · rw [Put_no h1] at hp; cases hp
      · rw [show n = (n.toNat : Int) by omega, Put_eq (by omega)] at hp; cases hp
    | some v => exact h v hp
  have core : ∀ v, lex_Put n = some v → (if ilt n 0 = true then some (ieq (lenI v) 0) else if ilt 2147483647 n = true then some (ieq (lenI v) 0) else
      if capN (lenN v) 1 = true then if capN (lenN (v ++ b)) 1 = true then
        Option.bind (lex_Take (v ++ b) 0) fun (v22, v23, v24) => Option.bind (lex_Put m) fun v26 =>
          if ieq v24 0 = true then if ieq v22 n = true then if ieq v23 (lenI v) = true then if ile (lenI v) 5 = true then
            if ilt m n = true then some true else if ilt 2147483647 m = true then some true else some (ile (lenI v) (lenI v26))
          else some false else some false else some false else some false
        else none else none) = some true := by
    intro v hv
    by_cases h0 : n < 0
    · rw [Put_no (.inl h0)] at hv
      cases hv
      rw [if_pos (by rw [ilt_iff]; exact h0)]
      rfl
    rw [if_neg (by rw [ilt_iff]; exact h0)]
    by_cases h1 : 2147483647 < n
    · rw [Put_no (.inr h1)] at hv
      cases hv
      rw [if_pos (by rw [ilt_iff]; exact h1)]
      rfl
    rw [if_neg (by rw [ilt_iff]; exact h1)]
    obtain ⟨k, rfl⟩ : ∃ k : Nat, n = k := ⟨n.toNat, by omega⟩
    rw [Put_eq (by omega)] at hv
    cases hv
    have h5 := putN_five (n := k) (by omega)
    rw [if_pos (by rw [capN_iff, lenN_eq]; omega), if_pos (by rw [capN_iff, lenN_eq, List.length_append]; omega), Take_put (by omega) hbb (by omega), Option.bind_some]
    simp only
    by_cases hmn : m < k
    · obtain ⟨w, hw⟩ : ∃ w, lex_Put m = some w := by
        by_cases h1 : m < 0
        · exact ⟨_, Put_no (.inl h1)⟩
        · rw [show m = (m.toNat : Int) by omega, Put_eq (by omega)]; exact ⟨_, rfl⟩
      rw [hw, Option.bind_some, if_pos (by rw [ieq_iff]), if_pos (by rw [ieq_iff]), if_pos (by rw [ieq_iff, lenI_eq]), if_pos (by rw [ile_iff, lenI_eq]; omega), if_pos (by rw [ilt_iff]; exact hmn)]
    by_cases hm2 : 2147483647 < m
    · rw [Put_no (.inr hm2), Option.bind_some, if_pos (by rw [ieq_iff]), if_pos (by rw [ieq_iff]), if_pos (by rw [ieq_iff, lenI_eq]), if_pos (by rw [ile_iff, lenI_eq]; omega), if_neg (by rw [ilt_iff]; exact hmn), if_pos (by rw [ilt_iff]; exact hm2)]
    · obtain ⟨j, rfl⟩ : ∃ j : Nat, m = j := ⟨m.toNat, by omega⟩
      rw [Put_eq (by omega), Option.bind_some, if_pos (by rw [ieq_iff]), if_pos (by rw [ieq_iff]), if_pos (by rw [ieq_iff, lenI_eq]), if_pos (by rw [ile_iff, lenI_eq]; omega), if_neg (by rw [ilt_iff]; exact hmn), if_neg (by rw [ilt_iff]; exact hm2)]
      have := putN_mono (n := k) (m := j) (by omega)
      congr 1
      rw [ile_iff, lenI_eq, lenI_eq]
      omega
  have hgo : ∀ F : List Int → Option Bool, (∀ v, F v = (if ilt n 0 = true then some (ieq (lenI v) 0) else if ilt 2147483647 n = true then some (ieq (lenI v) 0) else
      if capN (lenN v) 1 = true then if capN (lenN (v ++ b)) 1 = true then
        Option.bind (lex_Take (v ++ b) 0) fun (v22, v23, v24) => Option.bind (lex_Put m) fun v26 =>
          if ieq v24 0 = true then if ieq v22 n = true then if ieq v23 (lenI v) = true then if ile (lenI v) 5 = true then
            if ilt m n = true then some true else if ilt 2147483647 m = true then some true else some (ile (lenI v) (lenI v26))
          else some false else some false else some false else some false
        else none else none)) → Option.bind (lex_Put n) F = some true := fun F h => tail F fun v hv => by rw [h v]; exact core v hv
  rw [hT, Option.bind_some]
  cases ht : tk b 0 0 with
  | none =>
    simp only
    rw [if_neg (by rw [ieq_iff]; omega)]
    exact hgo _ fun v => rfl
  | some p =>
    obtain ⟨x, k⟩ := p
    obtain ⟨y, j, h1, h2, h3, h4, h5, h6⟩ := tk_put b 0 0 x k hbb ht
    simp only
    have hxy : x = (y : Int) := by rw [h2]; simp
    have hkj : k = j := by omega
    subst hkj
    rw [if_pos (by simp), hxy, Put_eq (by omega), Option.bind_some, if_pos (by unfold cutOk; rw [decide_eq_true_eq, lenN_eq]; omega)]
    have hcut : cut b 0 (0 + (k : Int)) = putN y := by
      rw [h3]
      unfold cut
      simp
    rw [hcut, Row_eq (by have := putN_five (n := y) (by omega); omega), Option.bind_some, if_pos (by simp)]
    exact hgo _ fun v => rfl
end Go.Vid
