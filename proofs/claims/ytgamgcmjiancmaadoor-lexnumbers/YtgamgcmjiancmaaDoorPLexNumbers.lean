/- The law LexNumbers, plainly: it answers true. No condition. -/
import Derived.Test.YtgamgcmjiancmaaDoorP8
set_option linter.unusedSimpArgs false
set_option linter.unusedVariables false
set_option maxRecDepth 20000
namespace Go.Vid
open Go.Vabs
/-- A number's figures. -/
def fig (n : Nat) : List Int := if h : n < 10 then [48 + (n : Int)] else fig (n / 10) ++ [48 + ((n % 10 : Nat) : Int)]
decreasing_by omega
theorem fig_small {n : Nat} (h : n < 10) : fig n = [48 + (n : Int)] := by rw [fig, dif_pos h]
theorem fig_big {n : Nat} (h : ¬ n < 10) : fig n = fig (n / 10) ++ [48 + ((n % 10 : Nat) : Int)] := by rw [fig, dif_neg h]
theorem fig_dig : ∀ (n : Nat), ∀ c ∈ fig n, dig c = true := by
  intro n
  induction n using Nat.strongRecOn with
  | _ n ih =>
    intro c hc
    by_cases h : n < 10
    · rw [fig_small h, List.mem_singleton] at hc
      subst hc
      simp [dig]; omega
    · rw [fig_big h, List.mem_append, List.mem_singleton] at hc
      rcases hc with hc | rfl
      · exact ih _ (by omega) c hc
      · simp [dig]; omega
theorem fig_pos (n : Nat) : 1 ≤ (fig n).length := by
  by_cases h : n < 10
  · rw [fig_small h]; exact Nat.le_refl _
  · rw [fig_big h]; simp
theorem fig_one {n : Nat} : 1 < (fig n).length ↔ 10 ≤ n := by
  by_cases h : n < 10
  · rw [fig_small h]; simp; omega
  · rw [fig_big h, List.length_append]
    have := fig_pos (n / 10)
    simp only [List.length_singleton]
    omega
theorem fig_head : ∀ (n : Nat), 0 < n → (fig n)[0]? ≠ some 48 := by
  intro n
  induction n using Nat.strongRecOn with
  | _ n ih =>
    intro hn
    by_cases h : n < 10
    · rw [fig_small h]
      simp; omega
    · rw [fig_big h, List.getElem?_append_left (by have := fig_pos (n / 10); omega)]
      exact ih _ (by omega) (by omega)
theorem fig_len : ∀ (k n : Nat), n < 10 ^ k → 0 < k → (fig n).length ≤ k := by
  intro k
  induction k with
  | zero => intro n _ h; omega
  | succ k ih =>
    intro n hn _
    by_cases h : n < 10
    · rw [fig_small h]; simp
    · rw [fig_big h, List.length_append]
      have hk : 0 < k := by
        cases k with
        | zero => omega
        | succ k => omega
      have := ih (n / 10) (by rw [Nat.pow_succ] at hn; omega) hk
      simpa using this
theorem nv_append {lim : Int} : ∀ (A B : List Int) (x : Int), nv lim (A ++ B) x = (nv lim A x).bind (nv lim B)
  | [], B, x => by rw [List.nil_append, nv, Option.bind_some]
  | c :: A, B, x => by
    rw [List.cons_append, nv, nv]
    split
    · rfl
    · exact nv_append A B _
theorem nv_fig (lim : Int) : ∀ (n : Nat), nv lim (fig n) 0 = if lim < n then none else some (n : Int) := by
  intro n
  induction n using Nat.strongRecOn with
  | _ n ih =>
    by_cases h : n < 10
    · rw [fig_small h, nv, nv]
      have : (0 : Int) * 10 + (48 + (n : Int) - 48) = n := by omega
      rw [this]
    · rw [fig_big h, nv_append, ih _ (by omega)]
      by_cases h1 : lim < ((n / 10 : Nat) : Int)
      · rw [if_pos h1, if_pos (by omega)]; rfl
      · rw [if_neg h1, Option.bind_some, nv, nv]
        have : ((n / 10 : Nat) : Int) * 10 + (48 + ((n % 10 : Nat) : Int) - 48) = n := by omega
        rw [this]
theorem lead_append {p : Int → Bool} {B : List Int} : ∀ {A : List Int}, (∀ c ∈ A, p c = true) → lead p (A ++ B) = A.length + lead p B
  | [], _ => by simp
  | c :: A, h => by
    rw [List.cons_append, lead, if_pos (h c List.mem_cons_self), lead_append (fun c hc => h c (List.mem_cons_of_mem _ hc)), List.length_cons]
    omega
theorem irem_nat (n : Nat) (h : n ≤ 4294967295) : irem (n : Int) 10 = ((n % 10 : Nat) : Int) ∧ iquo .i64 (n : Int) 10 = ((n / 10 : Nat) : Int) := by
  constructor
  · unfold irem
    rw [Int.tmod_eq_emod_of_nonneg (by omega)]
    omega
  · unfold iquo
    have : (n : Int).tdiv 10 = ((n / 10 : Nat) : Int) := by rw [Int.tdiv_eq_ediv_of_nonneg (by omega)]; omega
    rw [this]
    exact iconv_ok (by omega) (by omega)
theorem fig_loop : ∀ (n : Nat) (L : List Int), n ≤ 4294967295 → (fig n).length + L.length ≤ 1000 → ∃ y : List Int × Int, loopF law01_figures_B0 (L, (n : Int)) = some y ∧ (48 + y.2) :: y.1 = fig n ++ L ∧ 0 ≤ y.2 ∧ y.2 < 10 := by
  intro n
  induction n using Nat.strongRecOn with
  | _ n ih =>
    intro L hn hl
    by_cases h : n < 10
    · refine ⟨(L, n), ?_, ?_, by simp only; omega, by simp only; omega⟩
      · refine loopF_inr ?_
        unfold law01_figures_B0
        simp only
        rw [if_neg (by rw [ilt_iff]; omega)]
      · rw [fig_small h]; rfl
    · have hb := fig_big h
      have hlen : (fig n).length = (fig (n / 10)).length + 1 := by rw [hb, List.length_append]; rfl
      obtain ⟨y, h1, h2, h3⟩ := ih (n / 10) (by omega) ((48 + ((n % 10 : Nat) : Int)) :: L) (by omega) (by rw [List.length_cons]; omega)
      refine ⟨y, ?_, by rw [h2, hb, List.append_assoc]; rfl, h3⟩
      have hstep : law01_figures_B0 (L, (n : Int)) = some (.inl ((48 + ((n % 10 : Nat) : Int)) :: L, ((n / 10 : Nat) : Int))) := by
        unfold law01_figures_B0
        simp only
        obtain ⟨e1, e2⟩ := irem_nat n hn
        rw [if_pos (by rw [ilt_iff]; omega), if_pos (by rw [capN_iff, lenN_eq]; omega), e1, e2, iadd_ok (by omega) (by omega), iconv_u8 (by omega) (by omega)]
      rw [loopF_inl hstep]
      exact h1
theorem figures_eq (n : Nat) (h : n ≤ 4294967295) : law01_figures (n : Int) = some (fig n) := by
  have hlen := fig_len 10 n (by omega) (by decide)
  unfold law01_figures
  by_cases h1 : n < 10
  · rw [if_neg (by rw [ilt_iff]; omega), if_pos (by rw [capN_iff]; omega), iadd_ok (by omega) (by omega), iconv_u8 (by omega) (by omega), fig_small h1]
  · obtain ⟨e1, e2⟩ := irem_nat n h
    have hb := fig_big h1
    have hl2 : (fig n).length = (fig (n / 10)).length + 1 := by rw [hb, List.length_append]; rfl
    obtain ⟨y, g1, g2, g3, g4⟩ := fig_loop (n / 10) [48 + ((n % 10 : Nat) : Int)] (by omega) (by simp only [List.length_singleton]; omega)
    rw [if_pos (by rw [ilt_iff]; omega), if_pos (by rw [capN_iff]; omega), e1, e2, iadd_ok (by omega) (by omega), iconv_u8 (by omega) (by omega), g1, Option.bind_some]
    obtain ⟨y1, y2⟩ := y
    simp only at g2 g3 g4 ⊢
    have hyl : y1.length + 1 = (fig n).length := by rw [hb, ← g2, List.length_cons]
    rw [if_pos (by rw [capN_iff, lenN_eq]; omega), iadd_ok (by omega) (by omega), iconv_u8 (by omega) (by omega), g2, ← hb]
/-- What is read of a number's figures. -/
theorem num_fig (n : Nat) (b : List Int) (hb : lead dig b = 0) (most : Int) : numL (fig n ++ b) most = if min most 2147483647 < n then (0, 0, 3) else ((n : Int), (fig n).length, 0) := by
  have hp := fig_pos n
  have hlead : lead dig (fig n ++ b) = (fig n).length := by rw [lead_append (fig_dig n), hb, Nat.add_zero]
  have hh : ¬ ((fig n ++ b)[0]? = some 48 ∧ 1 < (fig n).length) := by
    rintro ⟨h1, h2⟩
    rw [List.getElem?_append_left (by omega)] at h1
    exact fig_head n (by have := fig_one.1 h2; omega) h1
  unfold numL
  rw [hlead, if_neg (by omega), if_neg hh, List.take_left, nv_fig]
  by_cases e : min most 2147483647 < (n : Int)
  · rw [if_pos e, if_pos e]
  · rw [if_neg e, if_neg e]
theorem num_nought (n : Nat) (b : List Int) (hb : lead dig b = 0) (most : Int) (hm : ¬ min most 2147483647 < n) : (numL ((fig n).set 0 48 ++ b) most).2.2 = if 1 < (fig n).length then 2 else 0 := by
  have hp := fig_pos n
  have hd : ∀ c ∈ (fig n).set 0 48, dig c = true := fun c hc => by
    rcases List.mem_or_eq_of_mem_set hc with hc | rfl
    · exact fig_dig n c hc
    · rfl
  have hlead : lead dig ((fig n).set 0 48 ++ b) = (fig n).length := by rw [lead_append hd, hb, Nat.add_zero, List.length_set]
  have h0 : ((fig n).set 0 48 ++ b)[0]? = some 48 := by
    rw [List.getElem?_append_left (by rw [List.length_set]; omega), List.getElem?_set_self (by omega)]
  unfold numL
  rw [hlead, if_neg (by omega), h0]
  by_cases h1 : 1 < (fig n).length
  · rw [if_pos ⟨rfl, h1⟩, if_pos h1]
  · rw [if_neg (fun h => h1 h.2), if_neg h1]
    have hl : ((fig n).set 0 48).length = (fig n).length := List.length_set
    have ht : ((fig n).set 0 48 ++ b).take (fig n).length = [48] := by
      rw [← hl, List.take_left]
      cases hf : fig n with
      | nil => rw [hf] at hp; simp at hp
      | cons c t =>
        rw [hf] at h1
        simp only [List.length_cons] at h1
        have : t = [] := List.eq_nil_of_length_eq_zero (by omega)
        rw [this]; rfl
    rw [ht, nv, nv, if_neg (by omega)]
theorem LexNumbers_tail {A b s : List Int} {n : Nat} {most : Int} (hA : IsB A) (hb : IsB b) (h1 : A.length ≤ 300) (h2 : b.length ≤ 300) (h3 : n ≤ 4294967295) (hs : s = fig n) (hl : lead dig b = 0) :
    (if (capN (lenN A) 1) = true then
      if (capN (lenN (A ++ s)) 1) = true then
        if (capN (lenN (A ++ (s ++ b))) 1) = true then
          Option.bind (lex_Number ((A ++ (s ++ b))) (lenI A) most) fun (v14, v15, v16) =>
          if (ilt most (n : Int)) = true then
            if (true : Bool) = true then
              if (ieq v16 3) = true then
                if (ieq v14 0) = true then
                  some ((ieq v15 (lenI A)))
                else
                  some false
              else
                some false
            else
              some false
          else
            if (ilt 2147483647 (n : Int)) = true then
              if (true : Bool) = true then
                if (ieq v16 3) = true then
                  if (ieq v14 0) = true then
                    some ((ieq v15 (lenI A)))
                  else
                    some false
                else
                  some false
              else
                some false
            else
              if (inI (lenN (A ++ (s ++ b))) (lenI A)) = true then
                Option.bind ((A ++ (s ++ b))[lenN A]?) fun v27 =>
                Option.bind (lex_Number (((A ++ (s ++ b)).set (lenN A) 48)) (lenI A) most) fun (v29, v30, v31) =>
                if (true : Bool) = true then
                  if (ieq v16 0) = true then
                    if (ieq v14 (n : Int)) = true then
                      if (ieq v15 (iadd IntKind.i64 (lenI A) (lenI s))) = true then
                        some ((beq2 (ieq v31 2) (ilt 1 (lenI s))))
                      else
                        some false
                    else
                      some false
                  else
                    some false
                else
                  some false
              else
                none
        else none
      else none
    else none) = some true := by
  subst hs
  have hp := fig_pos n
  have hlen := fig_len 10 n (by omega) (by decide)
  have hsb : IsB (fig n) := fun c hc => by
    have := fig_dig n c hc
    simp [dig] at this
    omega
  have hL : (A ++ (fig n ++ b)).length = A.length + ((fig n).length + b.length) := by rw [List.length_append, List.length_append]
  have hc := hA.append (hsb.append hb)
  have hdr : (A ++ (fig n ++ b)).drop ((A.length : Int)).toNat = fig n ++ b := by rw [Int.toNat_natCast, List.drop_left]
  simp only [lenI_eq, lenN_eq]
  rw [if_pos (by rw [capN_iff]; omega), if_pos (by rw [capN_iff, List.length_append]; omega), if_pos (by rw [capN_iff, hL]; omega), Number_eq hc (by omega) (by rw [hL]; omega), hdr, num_fig n b hl most, Option.bind_some]
  simp only [ilt_iff, if_true]
  by_cases e1 : most < (n : Int)
  · rw [if_pos e1, if_pos (show min most 2147483647 < (n : Int) by omega)]
    simp [ieq]
  rw [if_neg e1]
  by_cases e2 : (2147483647 : Int) < (n : Int)
  · rw [if_pos e2, if_pos (show min most 2147483647 < (n : Int) by omega)]
    simp [ieq]
  have hm : ¬ min most 2147483647 < (n : Int) := by omega
  rw [if_neg e2, if_neg hm, if_pos (by unfold inI; simp; omega)]
  have hset : (A ++ (fig n ++ b)).set A.length 48 = A ++ ((fig n).set 0 48 ++ b) := by
    rw [List.set_append_right _ _ (Nat.le_refl _), Nat.sub_self, List.set_append_left _ _ (by omega)]
  rw [List.getElem?_eq_getElem (by omega), Option.bind_some, hset]
  have hsb2 : IsB ((fig n).set 0 48) := fun c hc => by
    rcases List.mem_or_eq_of_mem_set hc with hc | rfl
    · exact hsb c hc
    · omega
  have hdr2 : (A ++ ((fig n).set 0 48 ++ b)).drop ((A.length : Int)).toNat = (fig n).set 0 48 ++ b := by rw [Int.toNat_natCast, List.drop_left]
  have hL2 : (A ++ ((fig n).set 0 48 ++ b)).length = A.length + ((fig n).length + b.length) := by rw [List.length_append, List.length_append, List.length_set]
  rw [Number_eq (hA.append (hsb2.append hb)) (by omega) (by rw [hL2]; omega), hdr2, Option.bind_some]
  simp only [num_nought n b hl most hm]
  rw [iadd_ok (by omega) (by omega)]
  by_cases e3 : 1 < (fig n).length
  · have e4 : (1 : Int) < ((fig n).length : Int) := by omega
    simp [ieq, ilt, beq2, e3, e4]
  · have e4 : ¬ (1 : Int) < ((fig n).length : Int) := by omega
    simp [ieq, ilt, beq2, e3, e4]
theorem LexNumbers_true (x : LexNumbersIn_law01) (hx : x.Wf) : law01_LexNumbers x = some true := by
  obtain ⟨n, most, A, b⟩ := x
  obtain ⟨wn, wm, wA, wb, -⟩ := hx
  simp only at wn wm wA wb
  have hA : IsB A := fun c hc => (wA.2 c hc).u8
  have hb : IsB b := fun c hc => (wb.2 c hc).u8
  have hn : (0 : Int) ≤ n ∧ n ≤ 4294967295 := wn
  obtain ⟨m, rfl⟩ : ∃ m : Nat, n = m := ⟨n.toNat, by omega⟩
  have hm : m ≤ 4294967295 := by omega
  have hconv : iconv IntKind.i64 (m : Int) = m := iconv_ok (by omega) (by omega)
  have hfig := figures_eq m hm
  unfold law01_LexNumbers
  rw [shown_eq, Option.bind_some]
  simp only [hconv, hfig, Option.bind_some]
  by_cases h1 : (300 : Int) < A.length
  · rw [if_pos (by rw [ilt_iff, lenI_eq]; exact h1)]
  rw [if_neg (by rw [ilt_iff, lenI_eq]; exact h1)]
  by_cases h2 : (300 : Int) < b.length
  · rw [if_pos (by rw [ilt_iff, lenI_eq]; exact h2)]
  rw [if_neg (by rw [ilt_iff, lenI_eq]; exact h2)]
  cases b with
  | nil =>
    rw [if_neg (by rw [ilt_iff, lenI_eq]; simp)]
    exact LexNumbers_tail hA hb (by omega) (by omega) hm rfl rfl
  | cons c t =>
    rw [if_pos (by rw [ilt_iff, lenI_eq, List.length_cons]; omega), show getI (c :: t) 0 = some c from rfl, Option.bind_some]
    simp only [ile_iff]
    by_cases h3 : 48 ≤ c
    · rw [if_pos h3]
      by_cases h4 : c ≤ 57
      · rw [if_pos h4]
      · rw [if_neg h4]
        exact LexNumbers_tail hA hb (by omega) (by omega) hm rfl (by rw [lead, if_neg (by simp [dig]; omega)])
    · rw [if_neg h3]
      exact LexNumbers_tail hA hb (by omega) (by omega) hm rfl (by rw [lead, if_neg (by simp [dig]; omega)])
end Go.Vid
