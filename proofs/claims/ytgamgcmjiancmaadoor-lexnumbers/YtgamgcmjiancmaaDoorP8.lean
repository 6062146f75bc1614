/- Plain laws: figures, signs, noughts and ones. No condition. -/
import Derived.Test.YtgamgcmjiancmaaDoorP7
set_option linter.unusedSimpArgs false
set_option linter.unusedVariables false
set_option maxRecDepth 20000
namespace Go.Vid
open Go.Vabs
/-- What stands ahead of the first that isn't so. -/
def lead (p : Int → Bool) : List Int → Nat
  | [] => 0
  | a :: t => if p a = true then lead p t + 1 else 0
theorem lead_le (p : Int → Bool) : ∀ L : List Int, lead p L ≤ L.length
  | [] => Nat.le_refl _
  | a :: t => by
    rw [lead, List.length_cons]
    have := lead_le p t
    split <;> omega
theorem lead_all (p : Int → Bool) : ∀ (L : List Int) (c : Int), c ∈ L.take (lead p L) → p c = true
  | [], c, h => by cases h
  | a :: t, c, h => by
    rw [lead] at h
    by_cases e : p a = true
    · rw [if_pos e, List.take_succ_cons, List.mem_cons] at h
      rcases h with rfl | h
      · exact e
      · exact lead_all p t c h
    · rw [if_neg e] at h; cases h
theorem DecodeRune_eq {a : Int} {t : List Int} (hb : IsB (a :: t)) (hl : t.length ≤ 1000000000) : ∃ (r : Int) (w : Nat), unicode_utf8_DecodeRune (a :: t) = some (r, (w : Int)) ∧ (a < 128 → r = a ∧ w = 1) ∧ (128 ≤ a → 128 ≤ r) := by
  have ha := hb a List.mem_cons_self
  by_cases e : a < 128
  · exact ⟨a, 1, decode_one ha.1 e, fun _ => ⟨rfl, rfl⟩, fun h => by omega⟩
  · obtain ⟨r, hr, hge⟩ := slow_eq hb (by omega) hl
    refine ⟨r, lw (a :: t), ?_, fun h => absurd h e, fun _ => hge⟩
    unfold unicode_utf8_DecodeRune
    rw [loopF_inr (r := .inr ()), Option.bind_some]
    · simp only
      rw [hr]
      rfl
    · simp only [unicode_utf8_DecodeRune_B0]
      rw [if_pos (by rw [ilt_iff, lenI_eq, List.length_cons]; omega), show getI (a :: t) 0 = some a from rfl, Option.bind_some, if_neg (by rw [ilt_iff]; exact e)]
/-- A round of the search. -/
def SB (f : Int → Option Bool) (s : List Int) (x : Int) : Option (Int ⊕ (Int ⊕ Unit)) :=
  if (ilt x (lenI s)) = true then
    if (cutOk (lenN s) x (lenI s)) = true then
      Option.bind (unicode_utf8_DecodeRune ((cut s x (lenI s)))) fun (v23, v24) =>
      Option.bind (f v23) fun v26 =>
      if (beq2 v26 true) = true then some (.inr (.inl x))
      else some (.inl (iadd IntKind.i64 x v24))
    else none
  else some (.inr (.inr ()))
theorem SB_loop {f : Int → Option Bool} {p : Int → Bool} (h0 : ∀ c, 0 ≤ c → c < 128 → f c = some (!p c)) (h1 : ∀ c, 128 ≤ c → f c = some true) (h2 : ∀ c, 128 ≤ c → p c = false) {s : List Int} (hb : IsB s) (hl : s.length ≤ 1000000000) :
    ∀ (n x : Nat), s.length - x = n → x ≤ s.length → loopF (SB f s) (x : Int) = some (if x + lead p (s.drop x) < s.length then .inl ((x + lead p (s.drop x) : Nat) : Int) else .inr ()) := by
  intro n
  induction n with
  | zero =>
    intro x hn hx
    rw [loopF_inr (r := .inr ()), List.drop_eq_nil_of_le (by omega), if_neg (by simp [lead]; omega)]
    unfold SB
    rw [if_neg (by rw [ilt_iff, lenI_eq]; omega)]
  | succ n ih =>
    intro x hn hx
    have hlt : x < s.length := by omega
    have hd := List.drop_eq_getElem_cons hlt
    have hg := List.getElem?_eq_getElem hlt
    generalize s[x] = c at hd hg
    have hc := hb.nth hg
    have hbd := hb.drop x
    rw [hd] at hbd
    obtain ⟨r, w, hr, k1, k2⟩ := DecodeRune_eq hbd (by rw [List.length_drop]; omega)
    have hstep : SB f s (x : Int) = if p c = true then some (.inl (((x + 1 : Nat) : Int))) else some (.inr (.inl (x : Int))) := by
      unfold SB
      rw [if_pos (by rw [ilt_iff, lenI_eq]; omega), if_pos (by rw [cutOk_iff, lenI_eq, lenN_eq]; omega), cut_drop (by omega) (by omega), Int.toNat_natCast, hd, hr, Option.bind_some]
      simp only
      by_cases e : c < 128
      · obtain ⟨rfl, rfl⟩ := k1 e
        rw [h0 _ hc.1 e, Option.bind_some]
        cases hp : p r with
        | true =>
          rw [if_neg (by decide), if_pos rfl, iadd_ok (by omega) (by omega)]
          rfl
        | false =>
          rw [if_pos (by decide), if_neg (by decide)]
      · rw [h1 _ (k2 (by omega)), Option.bind_some, if_pos (by decide), h2 _ (by omega), if_neg (by decide)]
    rw [hd, lead]
    by_cases e : p c = true
    · rw [if_pos e] at hstep ⊢
      rw [loopF_inl hstep, ih (x + 1) (by omega) (by omega)]
      rw [show x + 1 + lead p (s.drop (x + 1)) = x + (lead p (s.drop (x + 1)) + 1) by omega]
    · rw [if_neg e] at hstep ⊢
      rw [loopF_inr hstep, if_pos (by omega)]
      rfl
def dig (c : Int) : Bool := decide (48 ≤ c ∧ c ≤ 57)
def one (c : Int) : Bool := decide (c = 48 ∨ c = 49)
theorem figs_f : (∀ c, 0 ≤ c → c < 128 → lex_run_1_figs c = some (!dig c)) ∧ (∀ c, 128 ≤ c → lex_run_1_figs c = some true) := by
  constructor
  · intro c h0 h1
    unfold lex_run_1_figs lex_Number_1
    rw [if_neg (by rw [ile_iff]; omega), iconv_u8 h0 (by omega)]
    unfold dig
    simp only [ile_iff]
    by_cases e : 48 ≤ c
    · rw [if_pos e, Option.bind_some]
      congr 1
      unfold bnot ile
      simp [e]
    · rw [if_neg e, Option.bind_some]
      congr 1
      unfold bnot
      simp [e]
  · intro c h
    unfold lex_run_1_figs
    rw [if_pos (by rw [ile_iff]; exact h)]
theorem ones_f : (∀ c, 0 ≤ c → c < 128 → lex_run_1_ones c = some (!one c)) ∧ (∀ c, 128 ≤ c → lex_run_1_ones c = some true) := by
  constructor
  · intro c h0 h1
    unfold lex_run_1_ones lex_Ones_1
    rw [if_neg (by rw [ile_iff]; omega), iconv_u8 h0 (by omega)]
    unfold one
    simp only [ieq_iff]
    by_cases e : c = 48
    · rw [if_pos e, Option.bind_some]
      simp [e, bnot]
    · rw [if_neg e, Option.bind_some]
      congr 1
      unfold bnot ieq
      simp [e]
  · intro c h
    unfold lex_run_1_ones
    rw [if_pos (by rw [ile_iff]; exact h)]
theorem run_figs_eq {b : List Int} (hb : IsB b) (hl : b.length ≤ 1000000000) {at_ : Int} (h : 0 ≤ at_ ∧ at_ ≤ b.length) : lex_run_figs b at_ = some (at_ + lead dig (b.drop at_.toNat)) := by
  have hbd := hb.drop at_.toNat
  have hdl : (b.drop at_.toNat).length = b.length - at_.toNat := List.length_drop
  have hle := lead_le dig (b.drop at_.toNat)
  unfold lex_run_figs
  rw [if_pos (by rw [cutOk_iff, lenI_eq, lenN_eq]; omega), cut_drop h.1 h.2]
  have hS := SB_loop (p := dig) figs_f.1 figs_f.2 (fun c h => by unfold dig; simp; omega) hbd (by omega) _ 0 rfl (by omega)
  rw [Nat.zero_add, List.drop_zero] at hS
  have hI : bytes_indexFunc_figs (b.drop at_.toNat) = some (if lead dig (b.drop at_.toNat) < (b.drop at_.toNat).length then ((lead dig (b.drop at_.toNat) : Nat) : Int) else -1) := by
    unfold bytes_indexFunc_figs
    rw [show loopF (bytes_indexFunc_figs_B0 (b.drop at_.toNat)) 0 = _ from hS]
    split <;> rfl
  unfold bytes_IndexFunc_figs
  rw [hI, Option.bind_some, Option.bind_some]
  split
  · rw [if_neg (by rw [ilt_iff]; omega), iadd_ok (by omega) (by omega)]
  · rw [if_pos (by decide), lenI_eq]
    congr 1
    omega
theorem run_ones_eq {b : List Int} (hb : IsB b) (hl : b.length ≤ 1000000000) {at_ : Int} (h : 0 ≤ at_ ∧ at_ ≤ b.length) : lex_run_ones b at_ = some (at_ + lead one (b.drop at_.toNat)) := by
  have hbd := hb.drop at_.toNat
  have hdl : (b.drop at_.toNat).length = b.length - at_.toNat := List.length_drop
  have hle := lead_le one (b.drop at_.toNat)
  unfold lex_run_ones
  rw [if_pos (by rw [cutOk_iff, lenI_eq, lenN_eq]; omega), cut_drop h.1 h.2]
  have hS := SB_loop (p := one) ones_f.1 ones_f.2 (fun c h => by unfold one; simp; omega) hbd (by omega) _ 0 rfl (by omega)
  rw [Nat.zero_add, List.drop_zero] at hS
  have hI : bytes_indexFunc_ones (b.drop at_.toNat) = some (if lead one (b.drop at_.toNat) < (b.drop at_.toNat).length then ((lead one (b.drop at_.toNat) : Nat) : Int) else -1) := by
    unfold bytes_indexFunc_ones
    rw [show loopF (bytes_indexFunc_ones_B0 (b.drop at_.toNat)) 0 = _ from hS]
    split <;> rfl
  unfold bytes_IndexFunc_ones
  rw [hI, Option.bind_some, Option.bind_some]
  split
  · rw [if_neg (by rw [ilt_iff]; omega), iadd_ok (by omega) (by omega)]
  · rw [if_pos (by decide), lenI_eq]
    congr 1
    omega
/-- Noughts and ones. -/
def onesL (L : List Int) (most : Int) : ByteArray × Nat × Int :=
  if lead one L = 0 then (⟨#[]⟩, 0, 2) else if most < lead one L then (⟨#[]⟩, 0, 3) else (strOf (L.take (lead one L)), lead one L, 0)
theorem Ones_eq {b : List Int} (hb : IsB b) (hl : b.length ≤ 1000000000) {at_ : Int} (h : 0 ≤ at_ ∧ at_ ≤ b.length) (most : Int) :
    lex_Ones b at_ most = some ((onesL (b.drop at_.toNat) most).1, at_ + (onesL (b.drop at_.toNat) most).2.1, (onesL (b.drop at_.toNat) most).2.2) := by
  have hdl : (b.drop at_.toNat).length = b.length - at_.toNat := List.length_drop
  have hle := lead_le one (b.drop at_.toNat)
  unfold lex_Ones onesL
  rw [isPlace_eq, Option.bind_some, if_pos (by simpa using h), run_ones_eq hb hl h, Option.bind_some, isub_ok (by omega) (by omega)]
  simp only [ieq_iff, ilt_iff]
  by_cases e1 : lead one (b.drop at_.toNat) = 0
  · rw [if_pos (by omega), if_pos e1]; simp
  rw [if_neg (by omega), if_neg e1]
  by_cases e2 : most < lead one (b.drop at_.toNat)
  · rw [if_pos (by omega), if_pos e2]; simp
  rw [if_neg (by omega), if_neg e2, if_pos (by rw [cutOk_iff, lenN_eq]; omega)]
  have hc : cut b at_ (at_ + (lead one (b.drop at_.toNat) : Nat)) = (b.drop at_.toNat).take (lead one (b.drop at_.toNat)) := by
    unfold cut
    congr 1
    omega
  rw [hc]
theorem onesL_le (L : List Int) (most : Int) : (onesL L most).2.1 ≤ L.length := by
  unfold onesL
  have := lead_le one L
  split
  · exact Nat.zero_le _
  · split
    · exact Nat.zero_le _
    · exact this
/-- A number's figures reckoned. -/
def nv (lim : Int) : List Int → Int → Option Int
  | [], n => some n
  | c :: t, n => if lim < n * 10 + (c - 48) then none else nv lim t (n * 10 + (c - 48))
def NB (w : List Int) (most : Int) (p : Int × Int) : Option ((Int × Int) ⊕ (Unit ⊕ Int)) := match p with
  | (x28, x29) =>
    if (ilt x29 (lenI w)) = true then
      Option.bind (getI w x29) fun v31 =>
      if (ilt (imin most 2147483647) (iadd IntKind.i64 (imul IntKind.i64 x28 10) (iconv IntKind.i64 (isub IntKind.u8 v31 48)))) = true then some (.inr (.inl ()))
      else some (.inl (((iadd IntKind.i64 (imul IntKind.i64 x28 10) (iconv IntKind.i64 (isub IntKind.u8 v31 48))), (iadd IntKind.i64 x29 1))))
    else some (.inr (.inr x28))
theorem isub_u8 {c : Int} (h0 : 48 ≤ c) (h1 : c ≤ 57) : isub .u8 c 48 = c - 48 := iconv_u8 (a := c - 48) (by omega) (by omega)
theorem NB_loop {w : List Int} (hw : ∀ c ∈ w, dig c = true) (hl : w.length ≤ 1000000000) (most : Int) : ∀ (n k : Nat) (x : Int), w.length - k = n → k ≤ w.length → 0 ≤ x → x ≤ 2147483647 →
    loopF (NB w most) (x, (k : Int)) = some (match nv (min most 2147483647) (w.drop k) x with | none => .inl () | some v => .inr v) := by
  intro n
  induction n with
  | zero =>
    intro k x hn hk h0 h1
    rw [loopF_inr (r := .inr x), List.drop_eq_nil_of_le (by omega), nv]
    unfold NB
    simp only
    rw [if_neg (by rw [ilt_iff, lenI_eq]; omega)]
  | succ n ih =>
    intro k x hn hk h0 h1
    have hlt : k < w.length := by omega
    have hd := List.drop_eq_getElem_cons hlt
    have hg := List.getElem?_eq_getElem hlt
    generalize w[k] = c at hd hg
    have hc : 48 ≤ c ∧ c ≤ 57 := by simpa [dig] using hw c (List.mem_of_getElem? hg)
    have hstep : NB w most (x, (k : Int)) = if min most 2147483647 < x * 10 + (c - 48) then some (.inr (.inl ())) else some (.inl (x * 10 + (c - 48), ((k + 1 : Nat) : Int))) := by
      unfold NB
      simp only
      rw [if_pos (by rw [ilt_iff, lenI_eq]; omega), getI_nat, hg, Option.bind_some, isub_u8 hc.1 hc.2, iconv_ok (by omega) (by omega), imul_ok (by omega) (by omega), iadd_ok (by omega) (by omega), iadd_ok (by omega) (by omega)]
      simp only [ilt_iff]
      rfl
    rw [hd, nv]
    by_cases e : min most 2147483647 < x * 10 + (c - 48)
    · rw [if_pos e] at hstep ⊢
      exact loopF_inr hstep
    · rw [if_neg e] at hstep ⊢
      rw [loopF_inl hstep, ih (k + 1) _ (by omega) (by omega) (by omega) (by omega)]
/-- A number. -/
def numL (L : List Int) (most : Int) : Int × Nat × Int :=
  if lead dig L = 0 then (0, 0, 2)
  else if L[0]? = some 48 ∧ 1 < lead dig L then (0, 0, 2)
  else match nv (min most 2147483647) (L.take (lead dig L)) 0 with
    | none => (0, 0, 3)
    | some v => (v, lead dig L, 0)
theorem Number_eq {b : List Int} (hb : IsB b) (hl : b.length ≤ 1000000000) {at_ : Int} (h : 0 ≤ at_ ∧ at_ ≤ b.length) (most : Int) :
    lex_Number b at_ most = some ((numL (b.drop at_.toNat) most).1, at_ + (numL (b.drop at_.toNat) most).2.1, (numL (b.drop at_.toNat) most).2.2) := by
  have hdl : (b.drop at_.toNat).length = b.length - at_.toNat := List.length_drop
  have hle := lead_le dig (b.drop at_.toNat)
  unfold lex_Number numL
  rw [isPlace_eq, Option.bind_some, if_pos (by simpa using h), run_figs_eq hb hl h, Option.bind_some]
  simp only [ieq_iff, ilt_iff]
  by_cases e1 : lead dig (b.drop at_.toNat) = 0
  · rw [if_pos (by omega), if_pos e1]; simp
  rw [if_neg (by omega), if_neg e1]
  have hlt : at_.toNat < b.length := by omega
  have hg := List.getElem?_eq_getElem hlt
  generalize b[at_.toNat] = c at hg
  have hgi : getI b at_ = some c := by unfold getI; rw [if_pos h.1]; exact hg
  have hg0 : (b.drop at_.toNat)[0]? = some c := by rw [List.getElem?_drop]; exact hg
  rw [hgi, Option.bind_some, hg0, iadd_ok (by omega) (by omega)]
  have hc : cut b at_ (at_ + (lead dig (b.drop at_.toNat) : Nat)) = (b.drop at_.toNat).take (lead dig (b.drop at_.toNat)) := by
    unfold cut
    congr 1
    omega
  have hcut : cutOk (lenN b) at_ (at_ + (lead dig (b.drop at_.toNat) : Nat)) = true := by rw [cutOk_iff, lenN_eq]; omega
  have hN := NB_loop (w := (b.drop at_.toNat).take (lead dig (b.drop at_.toNat))) (lead_all dig _) (by rw [List.length_take]; omega) most _ 0 0 rfl (Nat.zero_le _) (Int.le_refl 0) (by decide)
  rw [List.drop_zero] at hN
  have hN0 : loopF (lex_Number_B0 b at_ most (at_ + (lead dig (b.drop at_.toNat) : Nat))) (0, 0) = some (match nv (min most 2147483647) ((b.drop at_.toNat).take (lead dig (b.drop at_.toNat))) 0 with | none => .inl () | some v => .inr v) := by
    rw [← hN, ← hc]; rfl
  have hN1 : loopF (lex_Number_B1 b at_ most (at_ + (lead dig (b.drop at_.toNat) : Nat))) (0, 0) = some (match nv (min most 2147483647) ((b.drop at_.toNat).take (lead dig (b.drop at_.toNat))) 0 with | none => .inl () | some v => .inr v) := by
    rw [← hN, ← hc]; rfl
  by_cases e2 : c = 48
  · rw [if_pos e2]
    by_cases e3 : 1 < lead dig (b.drop at_.toNat)
    · rw [if_pos (by omega), if_pos ⟨by rw [e2], e3⟩]; simp
    · rw [if_neg (by omega), if_pos hcut, if_neg (fun h => e3 h.2), hN0, Option.bind_some]
      cases nv (min most 2147483647) ((b.drop at_.toNat).take (lead dig (b.drop at_.toNat))) 0 <;> simp
  · rw [if_neg e2, if_pos hcut, if_neg (fun h => e2 (by simpa using h.1)), hN1, Option.bind_some]
    cases nv (min most 2147483647) ((b.drop at_.toNat).take (lead dig (b.drop at_.toNat))) 0 <;> simp
theorem nv_bd : ∀ {L : List Int} {lim n v : Int}, (∀ c ∈ L, dig c = true) → 0 ≤ n → n ≤ 2147483647 → lim ≤ 2147483647 → nv lim L n = some v → 0 ≤ v ∧ v ≤ 2147483647
  | [], lim, n, v, _, h0, h1, _, h => by
    rw [nv] at h
    cases h
    exact ⟨h0, h1⟩
  | c :: t, lim, n, v, hw, h0, h1, h2, h => by
    have hc : 48 ≤ c ∧ c ≤ 57 := by simpa [dig] using hw c List.mem_cons_self
    rw [nv] at h
    by_cases e : lim < n * 10 + (c - 48)
    · rw [if_pos e] at h; cases h
    · rw [if_neg e] at h
      exact nv_bd (fun c hc => hw c (List.mem_cons_of_mem _ hc)) (by omega) (by omega) h2 h
theorem numL_bd (L : List Int) (most : Int) : 0 ≤ (numL L most).1 ∧ (numL L most).1 ≤ 2147483647 ∧ (numL L most).2.1 ≤ L.length := by
  unfold numL
  split
  · exact ⟨by decide, by decide, Nat.zero_le _⟩
  split
  · exact ⟨by decide, by decide, Nat.zero_le _⟩
  cases hv : nv (min most 2147483647) (L.take (lead dig L)) 0 with
  | none => exact ⟨Int.le_refl 0, (by decide : (0 : Int) ≤ 2147483647), Nat.zero_le _⟩
  | some v =>
    have := nv_bd (lead_all dig L) (by decide) (by decide) (by omega) hv
    exact ⟨this.1, this.2, lead_le dig L⟩
/-- A number with a sign. -/
def signL (L : List Int) (most : Int) : Int × Nat × Int :=
  if Pre [45] L then
    (if (numL (L.drop 1) most).2.2 = 0 then (if (numL (L.drop 1) most).1 = 0 then (0, 0, 2) else (-(numL (L.drop 1) most).1, 1 + (numL (L.drop 1) most).2.1, 0)) else (0, 0, (numL (L.drop 1) most).2.2))
  else numL L most
theorem Signed_eq {b : List Int} (hb : IsB b) (hl : b.length ≤ 1000000000) {at_ : Int} (h : 0 ≤ at_ ∧ at_ ≤ b.length) (most : Int) :
    lex_Signed b at_ most = some ((signL (b.drop at_.toNat) most).1, at_ + (signL (b.drop at_.toNat) most).2.1, (signL (b.drop at_.toNat) most).2.2) := by
  unfold lex_Signed signL
  rw [isPlace_eq, Option.bind_some, if_pos (by simpa using h), Is_eq hb hl, if_pos h, show bytesOf { data := #[45] } = [45] from rfl]
  by_cases e : Pre [45] (b.drop at_.toNat)
  · have hlen := e.len
    rw [List.length_drop] at hlen
    simp only [List.length_cons, List.length_nil] at hlen
    rw [if_pos e, if_pos e, Option.bind_some]
    simp only [List.length_cons, List.length_nil]
    rw [Number_eq hb hl (by omega), show (at_ + ((0 + 1 : Nat) : Int)).toNat = at_.toNat + 1 by omega, ← List.drop_drop, Option.bind_some]
    simp only [ieq_iff, reduceIte]
    have hbd := numL_bd ((b.drop at_.toNat).drop 1) most
    generalize numL ((b.drop at_.toNat).drop 1) most = q at hbd
    obtain ⟨q1, q2, q3⟩ := q
    simp only at hbd ⊢
    by_cases k : q3 = 0
    · rw [if_pos k, if_pos k]
      by_cases k2 : q1 = 0
      · rw [if_pos k2, if_pos k2]; simp
      · rw [if_neg k2, if_neg k2, ineg_ok (by omega) (by omega)]
        simp
        omega
    · rw [if_neg k, if_neg k]; simp
  · rw [if_neg e, if_neg e, Option.bind_some]
    simp only
    rw [Number_eq hb hl h, Option.bind_some]
    simp only [Bool.false_eq_true, reduceIte]
theorem signL_le (L : List Int) (most : Int) : (signL L most).2.1 ≤ L.length := by
  unfold signL
  by_cases e : Pre [45] L
  · have hlen := e.len
    simp only [List.length_cons, List.length_nil] at hlen
    have h2 := (numL_bd (L.drop 1) most).2.2
    rw [List.length_drop] at h2
    rw [if_pos e]
    split
    · split
      · exact Nat.zero_le _
      · simp only; omega
    · exact Nat.zero_le _
  · rw [if_neg e]
    exact (numL_bd L most).2.2
end Go.Vid
