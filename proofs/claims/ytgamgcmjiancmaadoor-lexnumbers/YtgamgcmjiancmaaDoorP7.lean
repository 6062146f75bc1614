/- Plain laws: a name's end; the reference's numbers. No condition. -/
import Derived.Test.YtgamgcmjiancmaaDoorP6
set_option linter.unusedSimpArgs false
set_option linter.unusedVariables false
set_option maxRecDepth 20000
namespace Go.Vid
open Go.Vabs
/-- A line's end, or the row's. -/
def nl : List Int → Nat
  | [] => 0
  | a :: t => if a = 10 then 0 else nl t + 1
theorem nl_le : ∀ L : List Int, nl L ≤ L.length
  | [] => Nat.le_refl _
  | a :: t => by
    rw [nl, List.length_cons]
    have := nl_le t
    split <;> omega
theorem nl_no : ∀ {L : List Int}, nl L = L.length → ∀ (i : Nat), L[i]? ≠ some 10
  | [], _, i, h => by cases h
  | a :: t, hn, i, h => by
    rw [nl, List.length_cons] at hn
    by_cases e : a = 10
    · rw [if_pos e] at hn; omega
    · rw [if_neg e] at hn
      match i, h with
      | 0, h => exact e (by simpa using h)
      | i + 1, h => exact nl_no (L := t) (by omega) i (by simpa using h)
theorem nl_at : ∀ {L : List Int}, nl L < L.length → L[nl L]? = some 10
  | [], h => by cases h
  | a :: t, hn => by
    rw [nl, List.length_cons] at hn
    rw [nl]
    by_cases e : a = 10
    · rw [if_pos e]; simp [e]
    · rw [if_neg e] at hn ⊢
      rw [List.getElem?_cons_succ]
      exact nl_at (L := t) (by omega)
theorem nl_lt : ∀ {L : List Int} {i : Nat}, i < nl L → L[i]? ≠ some 10
  | [], i, h => by cases h
  | a :: t, i, hn => by
    rw [nl] at hn
    by_cases e : a = 10
    · rw [if_pos e] at hn; omega
    · rw [if_neg e] at hn
      match i, hn with
      | 0, _ => simpa using e
      | i + 1, h => rw [List.getElem?_cons_succ]; exact nl_lt (by omega)
theorem byte_at (s : ByteArray) (i : Nat) (h : i < s.size) : (bytesOf s)[i]? = some ((s[i]!.toNat : Nat) : Int) := by
  have := get_drop s 0 i
  rw [List.drop_zero, if_pos (by omega), Nat.zero_add] at this
  rw [this]
  congr 3
  exact (getElem!_pos s.data i h).trans (getElem!_pos s i h).symm
theorem findB_nl (s : ByteArray) : findB s 10 = if nl (bytesOf s) < s.size then (nl (bytesOf s) : Int) else -1 := by
  have hsz := size_eq s
  have hb : ∀ i, i < s.size → ((s[i]! == (10 : Int).toNat.toUInt8) = true ↔ (bytesOf s)[i]? = some 10) := by
    intro i hi
    rw [byte_at s i hi, beq_iff_eq]
    constructor
    · intro h; rw [h]; rfl
    · intro h
      have : (s[i]!.toNat : Int) = 10 := by simpa using h
      apply UInt8.toNat_inj.1
      rw [show ((10 : Int).toNat.toUInt8).toNat = 10 from rfl]
      omega
  unfold findB
  have hle := nl_le (bytesOf s)
  by_cases h : nl (bytesOf s) < s.size
  · have hf : (List.range s.size).find? (fun i => s[i]! == (10 : Int).toNat.toUInt8) = some (nl (bytesOf s)) := by
      rw [List.find?_range_eq_some]
      refine ⟨(hb _ h).2 (nl_at (by omega)), by simpa using h, fun j hj => ?_⟩
      have : ¬ (s[j]! == (10 : Int).toNat.toUInt8) = true := fun e => nl_lt hj ((hb j (by omega)).1 e)
      simpa using this
    rw [hf, if_pos h]
  · have hf : (List.range s.size).find? (fun i => s[i]! == (10 : Int).toNat.toUInt8) = none := by
      rw [List.find?_eq_none]
      intro i hi e
      exact nl_no (by omega) i ((hb i (by simpa using hi)).1 e)
    rw [hf, if_neg h]
theorem Cut_eq {s : ByteArray} (hs : s.size ≤ 1000000000) : ∃ r f, strings_Cut_nl s = some (strOf ((bytesOf s).take (nl (bytesOf s))), r, f) := by
  have hsz := size_eq s
  have hle := nl_le (bytesOf s)
  have hI : internal_stringslite_Index_nl s = some (if nl (bytesOf s) < s.size then (nl (bytesOf s) : Int) else -1) := by
    unfold internal_stringslite_Index_nl
    by_cases e : s = ⟨#[10]⟩
    · rw [if_pos (by rw [seq_iff]; exact e.symm)]
      subst e
      rfl
    · rw [if_neg (by rw [seq_iff]; exact fun h => e h.symm), show getB { data := #[10] } 0 = some 10 from rfl, Option.bind_some]
      unfold internal_stringslite_IndexByte
      rw [findB_nl, Option.bind_some]
  unfold strings_Cut_nl internal_stringslite_Cut_nl
  rw [hI, Option.bind_some]
  by_cases h : nl (bytesOf s) < s.size
  · rw [if_pos h, if_pos (by rw [ile_iff]; omega), if_pos (by rw [cutOk_iff]; omega), if_pos (by rw [cutOk_iff, sizI_eq, iadd_ok (by omega) (by omega)]; omega), Option.bind_some]
    refine ⟨cutB s (iadd .i64 (nl (bytesOf s)) 1) (sizI s), true, ?_⟩
    have : cutB s 0 (nl (bytesOf s) : Int) = strOf ((bytesOf s).take (nl (bytesOf s))) := by
      apply bytesOf_inj
      rw [bytesOf_cutB, bytesOf_strOf ((bytesOf_isB s).take _)]
      simp
    rw [this]
  · rw [if_neg h, if_neg (by decide), Option.bind_some]
    refine ⟨⟨#[]⟩, false, ?_⟩
    rw [List.take_of_length_le (by omega), strOf_bytesOf]
/-- A name at a place. -/
def nameAt (b : List Int) (at_ : Int) : ByteArray × Int × Int :=
  if 0 ≤ at_ ∧ at_ ≤ b.length then
    (if nameB ((b.drop at_.toNat).take (nl (b.drop at_.toNat))) = true then (strOf ((b.drop at_.toNat).take (nl (b.drop at_.toNat))), at_ + nl (b.drop at_.toNat), 0) else (⟨#[]⟩, at_, 2))
  else (⟨#[]⟩, 0, 2)
theorem Name_eq {b : List Int} (hb : IsB b) (hl : b.length ≤ 1000000000) (at_ : Int) : lex_Name b at_ = some (nameAt b at_) := by
  unfold lex_Name nameAt
  rw [isPlace_eq, Option.bind_some]
  by_cases h : 0 ≤ at_ ∧ at_ ≤ b.length
  case neg => rw [if_neg (by simpa using h), if_neg h]
  rw [if_pos (by simpa using h), if_pos h, if_pos (by rw [cutOk_iff, lenI_eq, lenN_eq]; omega), cut_drop h.1 h.2]
  have hbd := hb.drop at_.toNat
  have hsz : (strOf (b.drop at_.toNat)).size ≤ 1000000000 := by rw [strOf_size hbd, List.length_drop]; omega
  obtain ⟨r, f, hC⟩ := Cut_eq hsz
  rw [bytesOf_strOf hbd] at hC
  have hnl := nl_le (b.drop at_.toNat)
  rw [List.length_drop] at hnl
  have hsz2 : (strOf ((b.drop at_.toNat).take (nl (b.drop at_.toNat)))).size = nl (b.drop at_.toNat) := by rw [strOf_size (hbd.take _), List.length_take, List.length_drop]; omega
  rw [hC, Option.bind_some]
  simp only
  rw [IsName_eq (by rw [hsz2]; omega), Option.bind_some, bytesOf_strOf (hbd.take _), sizI_eq, hsz2, iadd_ok (by omega) (by omega)]
  split <;> rfl
theorem refName_end {b : List Int} (hl : b.length ≤ 1000000000) : ∀ (n at_ : Nat), b.length - at_ = n → at_ ≤ b.length → loopF (ref01_Name_B0 b) (at_ : Int) = some (((at_ + nl (b.drop at_) : Nat) : Int)) := by
  intro n
  induction n with
  | zero =>
    intro at_ h h1
    rw [loopF_inr (r := (at_ : Int)), List.drop_eq_nil_of_le (by omega)]
    · rfl
    · simp only [ref01_Name_B0]
      rw [if_neg (by rw [ilt_iff, lenI_eq]; omega)]
  | succ n ih =>
    intro at_ h h1
    have hlt : at_ < b.length := by omega
    have hd := List.drop_eq_getElem_cons hlt
    have hg := List.getElem?_eq_getElem hlt
    generalize b[at_] = c at hd hg
    have hstep : ref01_Name_B0 b (at_ : Int) = if c = 10 then some (.inr (at_ : Int)) else some (.inl (((at_ + 1 : Nat) : Int))) := by
      simp only [ref01_Name_B0]
      rw [if_pos (by rw [ilt_iff, lenI_eq]; omega), getI_nat, hg, Option.bind_some, iadd_ok (by omega) (by omega)]
      simp only [ieq_iff]
      rfl
    rw [hd, nl]
    by_cases e : c = 10
    · rw [if_pos e] at hstep ⊢
      exact loopF_inr hstep
    · rw [if_neg e] at hstep ⊢
      rw [loopF_inl hstep, ih (at_ + 1) (by omega) (by omega)]
      congr 1
      omega
theorem refName_eq {b : List Int} (hb : IsB b) (hl : b.length ≤ 1000000000) (at_ : Int) : ref01_Name b at_ = some (nameAt b at_) := by
  unfold ref01_Name nameAt
  simp only [ilt_iff, lenI_eq]
  by_cases h : 0 ≤ at_ ∧ at_ ≤ b.length
  case neg =>
    rw [if_neg h]
    by_cases e : at_ < 0
    · rw [if_pos e]
    · rw [if_neg e, if_pos (by omega)]
  rw [if_neg (by omega), if_neg (by omega), if_pos h]
  obtain ⟨a, rfl⟩ := Int.eq_ofNat_of_zero_le h.1
  have hnl := nl_le (b.drop a)
  rw [List.length_drop] at hnl
  rw [refName_end hl _ a rfl (by omega), Option.bind_some, if_pos (by rw [cutOk_iff, lenN_eq]; omega)]
  have hc : cut b (a : Int) ((a + nl (b.drop a) : Nat) : Int) = (b.drop a).take (nl (b.drop a)) := by
    unfold cut
    congr 1
    omega
  have hbd := (hb.drop a).take (nl (b.drop a))
  simp only [Int.toNat_natCast]
  rw [hc, refIsName_eq (by rw [strOf_size hbd, List.length_take, List.length_drop]; omega), bytesOf_strOf hbd, Option.bind_some, show ((a + nl (b.drop a) : Nat) : Int) = (a : Int) + nl (b.drop a) by omega]
  split <;> rfl
theorem refPut_loop : ∀ (m n : Nat) (acc : List Int), n ≤ m → n ≤ 2147483647 → acc.length + n ≤ 1000000000000 → ∃ init last, loopF ref01_Put_B0 (acc, (n : Int)) = some (acc ++ init, ((last : Nat) : Int)) ∧ last < 128 ∧ putN n = init ++ [(last : Int)] ∧ init.length ≤ n
  | m, n, acc, hm, hn, ha => by
    by_cases h : n < 128
    · refine ⟨[], n, ?_, h, by rw [putN_lt h]; rfl, by simp⟩
      rw [loopF_inr (r := (acc, (n : Int)))]
      · rw [List.append_nil]
      · simp only [ref01_Put_B0]
        rw [if_neg (by rw [ilt_iff]; omega)]
    · match m, hm with
      | 0, hm => omega
      | m + 1, hm =>
        have hr : irem (n : Int) 128 = (n % 128 : Nat) := Int.tmod_eq_emod_of_nonneg (by omega)
        have hq : iquo .i64 (n : Int) 128 = (n / 128 : Nat) := by
          unfold iquo
          rw [Int.tdiv_eq_ediv_of_nonneg (by omega)]
          exact wrap_ok (by omega) (by omega)
        have hb : ref01_Put_B0 (acc, (n : Int)) = some (.inl (acc ++ [((n % 128 + 128 : Nat) : Int)], ((n / 128 : Nat) : Int))) := by
          simp only [ref01_Put_B0]
          rw [if_pos (by rw [ilt_iff]; omega), if_pos (by rw [capN_iff, lenN_eq, List.length_append, List.length_singleton]; omega), hr, hq, iadd_ok (by omega) (by omega), iconv_u8 (by omega) (by omega)]
          rw [show (128 : Int) + ((n % 128 : Nat) : Int) = ((n % 128 + 128 : Nat) : Int) by omega]
        obtain ⟨init, last, h1, h2, h3, h4⟩ := refPut_loop m (n / 128) (acc ++ [((n % 128 + 128 : Nat) : Int)]) (by omega) (by omega) (by rw [List.length_append, List.length_singleton]; omega)
        refine ⟨((n % 128 + 128 : Nat) : Int) :: init, last, ?_, h2, by rw [putN_ge (by omega), h3]; rfl, by rw [List.length_cons]; omega⟩
        rw [loopF_inl hb, h1, List.append_assoc]
        rfl
theorem refPut_eq {n : Nat} (hn : n ≤ 2147483647) : ref01_Put (n : Int) = some (putN n) := by
  unfold ref01_Put
  rw [if_neg (by rw [ilt_iff]; omega), if_neg (by rw [ilt_iff]; omega)]
  obtain ⟨init, last, h1, h2, h3, h4⟩ := refPut_loop n n [] (Nat.le_refl _) hn (by simp; omega)
  rw [h1, Option.bind_some]
  simp only [List.nil_append]
  rw [iconv_u8_mod, show last % 256 = last by omega, if_pos (by rw [capN_iff, lenN_eq, List.length_append, List.length_singleton]; omega), h3]
theorem refPut_no {n : Int} (hn : n < 0 ∨ 2147483647 < n) : ref01_Put n = some [] := by
  unfold ref01_Put
  by_cases h : n < 0
  · rw [if_pos (by rw [ilt_iff]; exact h)]
  · rw [if_neg (by rw [ilt_iff]; exact h), if_pos (by rw [ilt_iff]; omega)]
theorem tk_over : ∀ (L : List Int) (i : Nat) (n : Int), IsB L → 2147483647 < n → tk L i n = none
  | [], _, _, _, _ => rfl
  | c :: t, i, n, hb, h => by
    have hc := hb c List.mem_cons_self
    have : (0 : Int) ≤ c % 128 * 128 ^ i := Int.mul_nonneg (by omega) (Int.pow_nonneg (by omega))
    rw [tk, if_pos (.inl (by omega))]
def bdt : Nat → Int
  | 0 => 0
  | 1 => 1000
  | 2 => 100000
  | 3 => 10000000
  | 4 => 1000000000
  | _ => 1000000000000
theorem refTake_loop {b : List Int} {at_ : Nat} (hb : IsB b) (h1 : at_ ≤ b.length) (hl : b.length ≤ 1000000000) : ∀ (k i : Nat), 5 - i = k → i ≤ 5 → ∀ n : Int, 0 ≤ n → n ≤ bdt i →
    ∃ r, loopF (ref01_Take_B0 b at_) (n, 128 ^ i, (i : Int)) = some r ∧ (match r with | .inl y => y | .inr () => (0, (at_ : Int), 2)) = (match (if i = 5 then none else tk ((b.drop at_).drop i) i n) with | some p => (p.1, (at_ : Int) + p.2, 0) | none => (0, (at_ : Int), 2)) := by
  intro k
  induction k with
  | zero =>
    intro i hk hi n h0 hn
    have : i = 5 := by omega
    subst this
    refine ⟨.inr (), loopF_inr ?_, by rw [if_pos rfl]⟩
    simp only [ref01_Take_B0]
    rw [if_neg (by rw [ilt_iff]; omega)]
  | succ k ih =>
    intro i hk hi n h0 hn
    rw [if_neg (by omega)]
    cases hc : (b.drop at_)[i]? with
    | none =>
      have := List.getElem?_eq_none_iff.1 hc
      rw [List.length_drop] at this
      refine ⟨.inr (), loopF_inr ?_, ?_⟩
      · simp only [ref01_Take_B0]
        rw [if_pos (by rw [ilt_iff]; omega), if_neg (by rw [ilt_iff, lenI_eq, isub_ok (by omega) (by omega)]; omega)]
      · rw [List.drop_eq_nil_of_le (by rw [List.length_drop]; omega)]
        rfl
    | some c =>
      have hcb := (hb.drop at_).nth hc
      obtain ⟨hlt, he⟩ := List.getElem?_eq_some_iff.1 hc
      have hd : (b.drop at_).drop i = c :: (b.drop at_).drop (i + 1) := by rw [← he]; exact List.drop_eq_getElem_cons hlt
      rw [List.length_drop] at hlt
      rw [List.getElem?_drop] at hc
      obtain ⟨p1, p2, p3⟩ := pow128 (i := i) (by omega)
      have hm0 : 0 ≤ c % 128 := by omega
      have hm1 : c % 128 ≤ 127 := by omega
      have hp0 : 0 ≤ c % 128 * 128 ^ i := Int.mul_nonneg hm0 (by omega)
      have hp1 : c % 128 * 128 ^ i ≤ 127 * 128 ^ i := Int.mul_le_mul_of_nonneg_right hm1 (by omega)
      have hbd : n + 127 * 128 ^ i ≤ bdt (i + 1) ∧ (128 : Int) ^ (i + 1) = 128 ^ i * 128 ∧ n ≤ 1000000000 := by
        refine ⟨?_, Int.pow_succ _ _, ?_⟩ <;> rcases i with _ | _ | _ | _ | _ | i
        all_goals first | (simp only [bdt] at hn ⊢; omega) | omega
      have hrem : irem c 128 = c % 128 := Int.tmod_eq_emod_of_nonneg hcb.1
      have hstep : ref01_Take_B0 b at_ (n, 128 ^ i, (i : Int)) = if c < 128 then (if 2147483647 < n + c % 128 * 128 ^ i ∨ (0 < i ∧ c = 0) then some (.inr (.inl (0, (at_ : Int), 2))) else some (.inr (.inl (n + c % 128 * 128 ^ i, (at_ : Int) + i + 1, 0)))) else some (.inl (n + c % 128 * 128 ^ i, 128 ^ (i + 1), ((i + 1 : Nat) : Int))) := by
        simp only [ref01_Take_B0]
        rw [if_pos (by rw [ilt_iff]; omega), if_pos (by rw [ilt_iff, lenI_eq, isub_ok (by omega) (by omega)]; omega), iadd_ok (a := (at_ : Int)) (b := (i : Int)) (by omega) (by omega), show (at_ : Int) + (i : Int) = ((at_ + i : Nat) : Int) by omega, getI_nat, hc, Option.bind_some, iconv_ok (by omega) (by omega), hrem, imul_ok (by omega) (by omega), imul_ok (by omega) (by omega), iadd_ok (a := n) (by omega) (by omega), iadd_ok (a := ((at_ + i : Nat) : Int)) (by omega) (by omega), iadd_ok (a := (i : Int)) (by omega) (by omega), hbd.2.1]
        simp only [ilt_iff, ieq_iff]
        by_cases e1 : c < 128
        · rw [if_pos e1, if_pos e1]
          by_cases e2 : 2147483647 < n + c % 128 * 128 ^ i
          · rw [if_pos e2, if_pos (.inl e2)]
          rw [if_neg e2]
          by_cases e3 : 0 < i
          · rw [if_pos (by omega)]
            by_cases e4 : c = 0
            · rw [if_pos e4, if_pos (.inr ⟨e3, e4⟩)]
            · rw [if_neg e4, if_neg (c := 2147483647 < _ ∨ _) (by omega)]
          · rw [if_neg (by omega), if_neg (c := 2147483647 < _ ∨ _) (by omega)]
        · rw [if_neg e1, if_neg e1]
          rfl
      rw [hd, tk]
      by_cases e1 : c < 128
      · rw [if_pos e1] at hstep
        by_cases e2 : 2147483647 < n + c % 128 * 128 ^ i ∨ (0 < i ∧ c = 0)
        · rw [if_pos e2] at hstep
          rw [if_pos (by omega)]
          exact ⟨_, loopF_inr hstep, rfl⟩
        · rw [if_neg e2] at hstep
          rw [if_neg (by omega), if_pos e1]
          refine ⟨_, loopF_inr hstep, ?_⟩
          simp only
          congr 2
      · rw [if_neg e1] at hstep
        rw [loopF_inl hstep]
        obtain ⟨r, hr, hq⟩ := ih (i + 1) (by omega) (by omega) (n + c % 128 * 128 ^ i) (by omega) (by omega)
        refine ⟨r, hr, hq.trans ?_⟩
        by_cases e5 : i = 4
        · rw [if_pos (by omega), if_pos (.inr (.inr ⟨e5, by omega⟩))]
        rw [if_neg (by omega)]
        by_cases e2 : 2147483647 < n + c % 128 * 128 ^ i
        · rw [if_pos (.inl e2), tk_over _ _ _ ((hb.drop _).drop _) e2]
        · rw [if_neg (by omega), if_neg e1]
theorem refTake_eq {b : List Int} {at_ : Int} (hb : IsB b) (h0 : 0 ≤ at_) (h1 : at_ ≤ b.length) (hl : b.length ≤ 1000000000) :
    ref01_Take b at_ = some (match tk (b.drop at_.toNat) 0 0 with | some p => (p.1, at_ + p.2, 0) | none => (0, at_, 2)) := by
  obtain ⟨a, rfl⟩ := Int.eq_ofNat_of_zero_le h0
  unfold ref01_Take
  rw [if_neg (by rw [ilt_iff]; omega), if_neg (by rw [ilt_iff, lenI_eq]; omega)]
  obtain ⟨r, hr, he⟩ := refTake_loop (at_ := a) hb (by omega) hl 5 0 rfl (by omega) 0 (by omega) (by decide)
  rw [if_neg (by decide), List.drop_zero] at he
  have hr : loopF (ref01_Take_B0 b a) (0, 1, 0) = some r := hr
  rw [hr, Option.bind_some, Int.toNat_natCast, ← he]
  match r with
  | .inl (a, c, d) => rfl
  | .inr () => rfl
end Go.Vid
