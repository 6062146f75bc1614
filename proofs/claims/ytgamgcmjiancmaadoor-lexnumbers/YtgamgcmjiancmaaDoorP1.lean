/- Plain laws: numbers of seven bits, put and taken. No condition. -/
import Derived.Test.YtgamgcmjiancmaaDoorP0
set_option linter.unusedSimpArgs false
set_option linter.unusedVariables false
set_option maxRecDepth 20000
namespace Go.Vid
open Go.Vabs
/-- A number's bytes. -/
def putN (n : Nat) : List Int := if h : n < 128 then [(n : Int)] else ((n % 128 + 128 : Nat) : Int) :: putN (n / 128)
termination_by n
decreasing_by omega
theorem putN_lt {n : Nat} (h : n < 128) : putN n = [(n : Int)] := by rw [putN, dif_pos h]
theorem putN_ge {n : Nat} (h : 128 ≤ n) : putN n = ((n % 128 + 128 : Nat) : Int) :: putN (n / 128) := by rw [putN, dif_neg (by omega)]
theorem bor128 : ∀ a : Nat, a < 256 → bor .u8 (a : Int) 128 = (a % 128 + 128 : Nat) := by decide +kernel
theorem iconv_u8_mod (n : Nat) : iconv .u8 (n : Int) = (n % 256 : Nat) := by
  unfold iconv IntKind.wrap
  simp [IntKind.signed, IntKind.bits]
theorem ishr7 (n : Nat) : ishr .i64 (n : Int) 7 = (n / 128 : Nat) := by
  unfold ishr
  rw [Int.fdiv_eq_ediv_of_nonneg _ (by decide)]
  rfl
theorem put_loop : ∀ (m n : Nat) (acc : List Int), n ≤ m → acc.length + n ≤ 1000000000000 → ∃ init last, loopF lex_Put_B0 (acc, (n : Int)) = some (acc ++ init, ((last : Nat) : Int)) ∧ last < 128 ∧ putN n = init ++ [(last : Int)] ∧ init.length ≤ n
  | m, n, acc, hm, ha => by
    by_cases h : n < 128
    · refine ⟨[], n, ?_, h, by rw [putN_lt h]; rfl, by simp⟩
      rw [loopF_inr (r := (acc, (n : Int)))]
      · rw [List.append_nil]
      · simp only [lex_Put_B0]
        rw [if_neg (by rw [ile_iff]; omega)]
    · match m, hm with
      | 0, hm => omega
      | m + 1, hm =>
        have hb : lex_Put_B0 (acc, (n : Int)) = some (.inl (acc ++ [((n % 128 + 128 : Nat) : Int)], ((n / 128 : Nat) : Int))) := by
          simp only [lex_Put_B0]
          rw [if_pos (by rw [ile_iff]; omega), if_pos (by rw [capN_iff, lenN_eq, List.length_append, List.length_singleton]; omega), if_neg (by decide), iconv_u8_mod, bor128 _ (by omega), ishr7]
          rw [show n % 256 % 128 = n % 128 by omega]
        obtain ⟨init, last, h1, h2, h3, h4⟩ := put_loop m (n / 128) (acc ++ [((n % 128 + 128 : Nat) : Int)]) (by omega) (by rw [List.length_append, List.length_singleton]; omega)
        refine ⟨((n % 128 + 128 : Nat) : Int) :: init, last, ?_, h2, by rw [putN_ge (by omega), h3]; rfl, by rw [List.length_cons]; omega⟩
        rw [loopF_inl hb, h1, List.append_assoc]
        rfl
theorem putN_byte : ∀ {n : Nat} {c : Int}, c ∈ putN n → 0 ≤ c ∧ c ≤ 255 := by
  intro n
  induction n using Nat.strongRecOn with
  | _ n ih =>
    intro c hc
    by_cases h : n < 128
    · rw [putN_lt h, List.mem_singleton] at hc
      omega
    · rw [putN_ge (by omega), List.mem_cons] at hc
      rcases hc with rfl | hc
      · omega
      · exact ih (n / 128) (by omega) hc
theorem put_len {n : Nat} : (putN n).length ≤ n + 1 := by
  induction n using Nat.strongRecOn with
  | _ n ih =>
    by_cases h : n < 128
    · rw [putN_lt h]; simp
    · rw [putN_ge (by omega), List.length_cons]
      have := ih (n / 128) (by omega)
      omega
/-- What is put. -/
theorem Put_eq {n : Nat} (hn : n ≤ 2147483647) : lex_Put (n : Int) = some (putN n) := by
  unfold lex_Put
  rw [if_neg (by rw [ilt_iff]; omega), if_neg (by rw [ilt_iff]; omega)]
  obtain ⟨init, last, h1, h2, h3, h4⟩ := put_loop n n [] (Nat.le_refl _) (by simp; omega)
  rw [h1, Option.bind_some]
  simp only [List.nil_append]
  rw [iconv_u8_mod, show last % 256 = last by omega, if_pos (by rw [capN_iff, lenN_eq, List.length_append, List.length_singleton]; omega), h3]
theorem Put_no {n : Int} (hn : n < 0 ∨ 2147483647 < n) : lex_Put n = some [] := by
  unfold lex_Put
  by_cases h : n < 0
  · rw [if_pos (by rw [ilt_iff]; exact h)]
  · rw [if_neg (by rw [ilt_iff]; exact h), if_pos (by rw [ilt_iff]; omega)]
/-- The bytes of a greater number are no fewer; five at most. -/
theorem putN_mono : ∀ {n m : Nat}, n ≤ m → (putN n).length ≤ (putN m).length := by
  intro n
  induction n using Nat.strongRecOn with
  | _ n ih =>
    intro m h
    by_cases hn : n < 128
    · rw [putN_lt hn]
      by_cases hm : m < 128
      · rw [putN_lt hm]; simp
      · rw [putN_ge (by omega)]; simp
    · rw [putN_ge (by omega), putN_ge (show 128 ≤ m by omega), List.length_cons, List.length_cons]
      have := @ih (n / 128) (by omega) (m / 128) (by omega)
      omega
theorem putN_five {n : Nat} (h : n ≤ 2147483647) : (putN n).length ≤ 5 := by
  rw [show (5 : Nat) = (putN 2147483647).length by
    rw [putN_ge (by omega), putN_ge (by omega), putN_ge (by omega), putN_ge (by omega), putN_lt (by omega)]
    rfl]
  exact putN_mono h
/-- What is taken: the number, and how many bytes. -/
def tk : List Int → Nat → Int → Option (Int × Nat)
  | [], _, _ => none
  | c :: l, i, n => if 2147483647 < n + c % 128 * 128 ^ i ∨ (0 < i ∧ c = 0) ∨ (i = 4 ∧ 128 ≤ c) then none else if c < 128 then some (n + c % 128 * 128 ^ i, i + 1) else tk l (i + 1) (n + c % 128 * 128 ^ i)
theorem cut_drop {α : Type} {b : List α} {at_ : Int} (h0 : 0 ≤ at_) (h1 : at_ ≤ b.length) : cut b at_ (lenI b) = b.drop at_.toNat := by
  unfold cut
  rw [lenI_eq]
  refine List.take_of_length_le ?_
  rw [List.length_drop]
  omega
theorem pow128 {i : Nat} (h : i ≤ 4) : (2 : Int) ^ (min (7 * (i : Int)).toNat 64) = 128 ^ i ∧ (1 : Int) ≤ 128 ^ i ∧ (128 : Int) ^ i ≤ 268435456 := by
  rcases i with _ | _ | _ | _ | _ | i
  · decide
  · decide
  · decide
  · decide
  · decide
  · omega
theorem take_step {b : List Int} {at_ : Int} (hb : ∀ c ∈ b, 0 ≤ c ∧ c ≤ 255) (h0 : 0 ≤ at_) (h1 : at_ ≤ b.length) (hl : b.length ≤ 1000000000) {i : Nat} (hi : i ≤ 4) {n : Int} (hn0 : 0 ≤ n) (hn1 : n ≤ 2147483647) :
    lex_Take_B0 b at_ (n, (i : Int)) = match (b.drop at_.toNat)[i]? with
      | some c => if 2147483647 < n + c % 128 * 128 ^ i ∨ (0 < i ∧ c = 0) ∨ (i = 4 ∧ 128 ≤ c) then some (.inr (.inl (0, at_, 2))) else if c < 128 then some (.inr (.inl (n + c % 128 * 128 ^ i, at_ + i + 1, 0))) else some (.inl (n + c % 128 * 128 ^ i, (i : Int) + 1))
      | none => some (.inr (.inr ())) := by
  obtain ⟨p1, p2, p3⟩ := pow128 hi
  simp only [lex_Take_B0]
  rw [cut_drop h0 h1, getI_nat]
  by_cases hlt : i < (b.drop at_.toNat).length
  case neg =>
    rw [if_neg (by rw [ilt_iff, lenI_eq]; omega), List.getElem?_eq_none (by omega)]
  rw [if_pos (by rw [ilt_iff, lenI_eq]; omega)]
  have hc := List.getElem?_eq_getElem hlt
  generalize (b.drop at_.toNat)[i] = c at hc
  have hcb : 0 ≤ c ∧ c ≤ 255 := hb c (List.mem_of_mem_drop (List.mem_of_getElem? hc))
  rw [hc, Option.bind_some]
  have hmul : imul .i64 7 (i : Int) = 7 * i := imul_ok (by omega) (by omega)
  have hrem : irem c 128 = c % 128 := Int.tmod_eq_emod_of_nonneg hcb.1
  have hm0 : 0 ≤ c % 128 := by omega
  have hm1 : c % 128 ≤ 127 := by omega
  have hp0 : 0 ≤ c % 128 * 128 ^ i := Int.mul_nonneg hm0 (by omega)
  have hp1 : c % 128 * 128 ^ i ≤ 127 * 268435456 := Int.le_trans (Int.mul_le_mul_of_nonneg_right hm1 (by omega)) (Int.mul_le_mul_of_nonneg_left p3 (by omega))
  have hshl : ishl .i64 (iconv .i64 (irem c 128)) (imul .i64 7 (i : Int)) = c % 128 * 128 ^ i := by
    rw [hmul, hrem, iconv_ok (by omega) (by omega)]
    unfold ishl
    rw [show IntKind.i64.bits = 64 from rfl, p1]
    exact wrap_ok (by omega) (by omega)
  rw [hshl, hmul, iadd_ok (by omega) (by omega), iadd_ok (a := (i : Int)) (b := 1) (by omega) (by omega), iadd_ok (a := at_) (b := (i : Int)) (by omega) (by omega), iadd_ok (a := at_ + (i : Int)) (b := 1) (by omega) (by omega)]
  simp only [ilt_iff, ile_iff, ieq_iff]
  generalize n + c % 128 * 128 ^ i = N
  rw [if_neg (by omega)]
  by_cases e1 : 2147483647 < N
  · rw [if_pos e1, if_pos (.inl e1)]
  rw [if_neg e1]
  by_cases e2 : 0 < i
  · rw [if_pos (by omega)]
    by_cases e3 : c = 0
    · rw [if_pos e3, if_pos (.inr (.inl ⟨e2, e3⟩))]
    rw [if_neg e3]
    by_cases e4 : i = 4
    · rw [if_pos (by omega)]
      by_cases e5 : 128 ≤ c
      · rw [if_pos e5, if_pos (.inr (.inr ⟨e4, e5⟩))]
      · rw [if_neg e5, if_pos (by omega), if_neg (by rintro (h | h | h) <;> omega)]
    · rw [if_neg (by omega), if_neg (c := 2147483647 < N ∨ _) (by rintro (h | h | h) <;> omega)]
  · rw [if_neg (by omega), if_neg (by omega), if_neg (c := 2147483647 < N ∨ _) (by rintro (h | h | h) <;> omega)]
theorem take_loop {b : List Int} {at_ : Int} (hb : ∀ c ∈ b, 0 ≤ c ∧ c ≤ 255) (h0 : 0 ≤ at_) (h1 : at_ ≤ b.length) (hl : b.length ≤ 1000000000) : ∀ (k i : Nat), 4 - i = k → i ≤ 4 → ∀ n : Int, 0 ≤ n → n ≤ 2147483647 →
    ∃ r, loopF (lex_Take_B0 b at_) (n, (i : Int)) = some r ∧ (match r with | .inl y => y | .inr () => (0, at_, 2)) = (match tk ((b.drop at_.toNat).drop i) i n with | some p => (p.1, at_ + p.2, 0) | none => (0, at_, 2)) := by
  intro k
  induction k with
  | zero =>
    intro i hk hi n hn0 hn1
    have hs := take_step hb h0 h1 hl hi hn0 hn1
    have hi4 : i = 4 := by omega
    cases hc : (b.drop at_.toNat)[i]? with
    | none =>
      rw [hc] at hs
      rw [List.drop_eq_nil_of_le (by have := List.getElem?_eq_none_iff.1 hc; omega)]
      exact ⟨_, loopF_inr hs, rfl⟩
    | some c =>
      rw [hc] at hs
      have hd : (b.drop at_.toNat).drop i = c :: (b.drop at_.toNat).drop (i + 1) := by
        obtain ⟨hlt, rfl⟩ := List.getElem?_eq_some_iff.1 hc
        exact List.drop_eq_getElem_cons hlt
      rw [hd, tk]
      simp only at hs
      split at hs
      · rename_i e
        rw [if_pos e]
        exact ⟨_, loopF_inr hs, rfl⟩
      · rename_i e
        rw [if_neg e]
        split at hs
        · rename_i e2
          rw [if_pos e2]
          refine ⟨_, loopF_inr hs, ?_⟩
          simp only
          rw [show at_ + ((i + 1 : Nat) : Int) = at_ + (i : Int) + 1 by omega]
        · rename_i e2
          exact absurd (.inr (.inr ⟨hi4, by omega⟩)) e
  | succ k ih =>
    intro i hk hi n hn0 hn1
    have hs := take_step hb h0 h1 hl hi hn0 hn1
    cases hc : (b.drop at_.toNat)[i]? with
    | none =>
      rw [hc] at hs
      rw [List.drop_eq_nil_of_le (by have := List.getElem?_eq_none_iff.1 hc; omega)]
      exact ⟨_, loopF_inr hs, rfl⟩
    | some c =>
      rw [hc] at hs
      have hd : (b.drop at_.toNat).drop i = c :: (b.drop at_.toNat).drop (i + 1) := by
        obtain ⟨hlt, rfl⟩ := List.getElem?_eq_some_iff.1 hc
        exact List.drop_eq_getElem_cons hlt
      rw [hd, tk]
      simp only at hs
      split at hs
      · rename_i e
        rw [if_pos e]
        exact ⟨_, loopF_inr hs, rfl⟩
      · rename_i e
        rw [if_neg e]
        split at hs
        · rename_i e2
          rw [if_pos e2]
          refine ⟨_, loopF_inr hs, ?_⟩
          simp only
          rw [show at_ + ((i + 1 : Nat) : Int) = at_ + (i : Int) + 1 by omega]
        · rename_i e2
          rw [if_neg e2, loopF_inl hs]
          have hcb : 0 ≤ c ∧ c ≤ 255 := hb c (List.mem_of_mem_drop (List.mem_of_getElem? hc))
          have hp0 : 0 ≤ c % 128 * 128 ^ i := Int.mul_nonneg (by omega) (by have := (pow128 hi).2.1; omega)
          have hmax : n + c % 128 * 128 ^ i ≤ 2147483647 := by
            have : ¬ 2147483647 < n + c % 128 * 128 ^ i := fun h => e (.inl h)
            omega
          exact ih (i + 1) (by omega) (by omega) _ (by omega) hmax
/-- What is taken at a place. -/
theorem Take_eq {b : List Int} {at_ : Int} (hb : ∀ c ∈ b, 0 ≤ c ∧ c ≤ 255) (h0 : 0 ≤ at_) (h1 : at_ ≤ b.length) (hl : b.length ≤ 1000000000) :
    lex_Take b at_ = some (match tk (b.drop at_.toNat) 0 0 with | some p => (p.1, at_ + p.2, 0) | none => (0, at_, 2)) := by
  have hpl : lex_isPlace b at_ = some true := by
    unfold lex_isPlace
    rw [if_pos (by rw [ile_iff]; exact h0)]
    congr 1
    rw [ile_iff, lenI_eq]
    exact h1
  unfold lex_Take
  rw [hpl, Option.bind_some, if_pos rfl, if_pos (by unfold cutOk; rw [decide_eq_true_eq, lenN_eq, lenI_eq]; omega)]
  obtain ⟨r, hr, he⟩ := take_loop hb h0 h1 hl 4 0 rfl (by omega) 0 (by omega) (by omega)
  rw [show ((0 : Nat) : Int) = 0 from rfl] at hr
  rw [hr, Option.bind_some, ← List.drop_zero (l := b.drop at_.toNat), ← he]
  match r with
  | .inl (a, c, d) => rfl
  | .inr () => rfl
/-- What is taken was put so. -/
theorem tk_put : ∀ (l : List Int) (i : Nat) (n x : Int) (k : Nat), (∀ c ∈ l, 0 ≤ c ∧ c ≤ 255) → tk l i n = some (x, k) → ∃ y j : Nat, k = i + j ∧ x = n + y * 128 ^ i ∧ putN y = l.take j ∧ (0 < i → 0 < y) ∧ j ≤ l.length ∧ x ≤ 2147483647
  | [], i, n, x, k, hb, h => by cases h
  | c :: l, i, n, x, k, hb, h => by
    obtain ⟨hc0, hc1⟩ := hb c List.mem_cons_self
    rw [tk] at h
    split at h
    · cases h
    · rename_i e
      split at h
      · rename_i e2
        injection h with h
        obtain ⟨h1, h2⟩ := Prod.mk.injEq _ _ _ _ ▸ h
        refine ⟨c.toNat, 1, by omega, ?_, ?_, fun hi => ?_, by simp, ?_⟩
        · rw [← h1, show c % 128 = (c.toNat : Int) by omega]
        · rw [putN_lt (by omega), List.take_succ_cons, List.take_zero]
          congr 1
          omega
        · have : c ≠ 0 := fun hc => e (.inr (.inl ⟨hi, hc⟩))
          omega
        · rw [← h1]
          have : ¬ 2147483647 < n + c % 128 * 128 ^ i := fun h => e (.inl h)
          omega
      · rename_i e2
        obtain ⟨y, j, h1, h2, h3, h4, h5, h6⟩ := tk_put l (i + 1) _ x k (fun c hc => hb c (List.mem_cons_of_mem _ hc)) h
        have hy := h4 (by omega)
        refine ⟨(c % 128).toNat + 128 * y, j + 1, by omega, ?_, ?_, fun _ => by omega, by simp; omega, h6⟩
        · rw [h2, show (((c % 128).toNat + 128 * y : Nat) : Int) = c % 128 + 128 * (y : Int) by omega, Int.pow_succ, Int.add_mul]
          rw [show (y : Int) * (128 ^ i * 128) = 128 * (y : Int) * 128 ^ i by rw [Int.mul_comm (128 ^ i) 128, ← Int.mul_assoc, Int.mul_comm (y : Int) 128]]
          omega
        · rw [putN_ge (by omega), show ((c % 128).toNat + 128 * y) / 128 = y by omega, h3, List.take_succ_cons]
          congr 1
          omega
/-- What is put is taken. -/
theorem put_tk : ∀ (y i : Nat) (n : Int) (b : List Int), i ≤ 4 → (0 < i → 0 < y) → 0 ≤ n → n + y * 128 ^ i ≤ 2147483647 → tk (putN y ++ b) i n = some (n + y * 128 ^ i, i + (putN y).length) := by
  intro y
  induction y using Nat.strongRecOn with
  | _ y ih =>
    intro i n b hi hy hn hle
    obtain ⟨_, p2, p3⟩ := pow128 hi
    by_cases h : y < 128
    · rw [putN_lt h, List.singleton_append, tk, show (y : Int) % 128 = y by omega, if_neg (by rintro (h | h | h) <;> omega), if_pos (by omega)]
      rfl
    · have hdm : (y : Int) = (y % 128 : Nat) + 128 * ((y / 128 : Nat) : Int) := by omega
      have hsum : n + ((y % 128 + 128 : Nat) : Int) % 128 * 128 ^ i + ((y / 128 : Nat) : Int) * 128 ^ (i + 1) = n + y * 128 ^ i := by
        rw [show ((y % 128 + 128 : Nat) : Int) % 128 = (y % 128 : Nat) by omega, Int.pow_succ]
        rw [show ((y / 128 : Nat) : Int) * (128 ^ i * 128) = 128 * ((y / 128 : Nat) : Int) * 128 ^ i by rw [Int.mul_comm (128 ^ i) 128, ← Int.mul_assoc, Int.mul_comm ((y / 128 : Nat) : Int) 128]]
        rw [Int.add_assoc, ← Int.add_mul, ← hdm]
      have hpos : (0 : Int) ≤ ((y / 128 : Nat) : Int) * 128 ^ (i + 1) := Int.mul_nonneg (by omega) (Int.pow_nonneg (by omega))
      have hpos2 : (0 : Int) ≤ ((y % 128 + 128 : Nat) : Int) % 128 * 128 ^ i := Int.mul_nonneg (by omega) (by omega)
      have hi3 : i ≠ 4 := by
        rintro rfl
        have : (128 : Int) ^ 4 = 268435456 := by decide
        rw [this] at hle
        omega
      rw [putN_ge (by omega), List.cons_append, tk, if_neg (by rintro (h | h | h) <;> omega), if_neg (by omega), ih (y / 128) (by omega) (i + 1) _ b (by omega) (fun _ => by omega) (by omega) (by omega), hsum, List.length_cons]
      congr 2
      omega
theorem Row_eq {x y : List Int} (hx : x.length ≤ 1000000000) : ref01_Row x y = some (decide (x = y)) := by
  unfold ref01_Row
  by_cases hl : x.length = y.length
  case neg =>
    rw [if_neg (by simp [lenI_eq]; omega)]
    have : x ≠ y := fun h => hl (by rw [h])
    simp [this]
  rw [if_pos (by simp [lenI_eq]; omega)]
  obtain ⟨r, hr, hq⟩ := loopF_ex (body := ref01_Row_B0 x y) (fun j => (j : Int)) x.length (fun j => x[j]? = y[j]?) (fun r => (r = .inr () ∧ x = y) ∨ (r = .inl () ∧ x ≠ y)) (by
    intro i hi _
    have h1 := List.getElem?_eq_getElem hi
    have h2 := List.getElem?_eq_getElem (show i < y.length by omega)
    simp only [ref01_Row_B0]
    rw [if_pos (by simp [lenI_eq]; omega), getI_nat, h1, Option.bind_some, getI_nat, h2, Option.bind_some]
    split
    · rename_i e
      simp only [ieq_iff] at e
      exact .inl ⟨by rw [iadd_ok (by omega) (by omega)]; rfl, by rw [e]⟩
    · rename_i e
      simp only [ieq_iff] at e
      refine .inr ⟨_, rfl, .inr ⟨rfl, fun h => e ?_⟩⟩
      subst h
      rfl) (by
    intro hA
    simp only [ref01_Row_B0]
    rw [if_neg (by simp [lenI_eq])]
    refine ⟨_, rfl, .inl ⟨rfl, List.ext_getElem? fun j => ?_⟩⟩
    by_cases hj : j < x.length
    · exact hA j hj
    · rw [List.getElem?_eq_none (by omega), List.getElem?_eq_none (by omega)])
  have hr : loopF (ref01_Row_B0 x y) 0 = some r := hr
  rw [hr, Option.bind_some]
  rcases hq with ⟨rfl, he⟩ | ⟨rfl, he⟩ <;> simp [he]
end Go.Vid
