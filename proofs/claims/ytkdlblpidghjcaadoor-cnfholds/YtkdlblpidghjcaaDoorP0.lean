/- Plain laws: words, figures, signs (as proved for the seat of words). No condition. -/
import Derived.Test.YtkdlblpidghjcaaDoorVX
import Derived.Test.YtkdlblpidghjcaaDoorG
import Derived.KernelRfl
set_option linter.unusedSimpArgs false
set_option linter.unusedVariables false
set_option maxRecDepth 20000
namespace Go.Vid
open Go.Vabs
theorem iconv_i32 {a : Int} (h0 : -2147483648 ≤ a) (h1 : a ≤ 2147483647) : iconv .i32 a = a := by
 unfold iconv IntKind.wrap
 simp [IntKind.signed, IntKind.bits, IntKind.max]
 omega
theorem iconv_u8 {a : Int} (h0 : 0 ≤ a) (h1 : a ≤ 255) : iconv .u8 a = a := by
 unfold iconv IntKind.wrap
 simp [IntKind.signed, IntKind.bits]
 omega
theorem decode_one {c : Int} {l : List Int} (h0 : 0 ≤ c) (h1 : c < 128) : unicode_utf8_DecodeRune (c :: l) = some (c, 1) := by
 unfold unicode_utf8_DecodeRune
 have hb : unicode_utf8_DecodeRune_B0 (c :: l) () = some (.inr (.inl c)) := by
  simp only [unicode_utf8_DecodeRune_B0]
  rw [if_pos (by rw [ilt_iff, lenI_eq, List.length_cons]; omega), show getI (c :: l) 0 = some c from rfl, Option.bind_some, if_pos (by rw [ilt_iff]; exact h1), iconv_i32 (by omega) (by omega)]
 rw [loopF_inr hb]
 rfl
theorem figs_no {s : List Int} {i c : Int} (hi : cutOk (lenN s) i (lenI s) = true) (hl : ilt i (lenI s) = true) (hc : ∃ l, cut s i (lenI s) = c :: l) (h0 : 0 ≤ c) (h1 : c < 128) (h2 : lex_run_1_figs c = some false) : bytes_indexFunc_figs_B0 s i = some (.inl (iadd .i64 i 1)) := by
 obtain ⟨l, hl2⟩ := hc
 simp only [bytes_indexFunc_figs_B0]
 rw [if_pos hl, if_pos hi, hl2, decode_one h0 h1, Option.bind_some]
 simp only
 rw [h2]
 rfl
theorem figs_yes {s : List Int} {i c : Int} (hi : cutOk (lenN s) i (lenI s) = true) (hl : ilt i (lenI s) = true) (hc : ∃ l, cut s i (lenI s) = c :: l) (h0 : 0 ≤ c) (h1 : c < 128) (h2 : lex_run_1_figs c = some true) : bytes_indexFunc_figs_B0 s i = some (.inr (.inl i)) := by
 obtain ⟨l, hl2⟩ := hc
 simp only [bytes_indexFunc_figs_B0]
 rw [if_pos hl, if_pos hi, hl2, decode_one h0 h1, Option.bind_some]
 simp only
 rw [h2]
 rfl
theorem isPlace_eq (b : List Int) (at_ : Int) : lex_isPlace b at_ = some (decide (0 ≤ at_ ∧ at_ ≤ b.length)) := by
 unfold lex_isPlace
 simp only [ile_iff, lenI_eq]
 by_cases h : 0 ≤ at_
 ·rw [if_pos h]
  congr 1
  unfold ile
  simp [h]
 ·rw [if_neg h]
  simp [h]
def Pre (p l : List Int) : Prop := l.take p.length = p
instance (p l : List Int) : Decidable (Pre p l) := inferInstanceAs (Decidable (_ = _))
theorem Pre.len {p l : List Int} (h : Pre p l) : p.length ≤ l.length := by
 have := congrArg List.length h
 rw [List.length_take] at this
 omega
theorem pre_nil (l : List Int) : Pre [] l := rfl
theorem pre_self (p l : List Int) : Pre p (p ++ l) := by unfold Pre; simp
theorem pre_append {p q l : List Int} : Pre (p ++ q) l ↔ Pre p l ∧ Pre q (l.drop p.length) := by
 unfold Pre
 constructor
 ·intro h
  have hl := congrArg List.length h
  rw [List.length_take, List.length_append] at hl
  have h1 : (l.take (p ++ q).length).take p.length = p := by rw [h]; simp
  have h2 : (l.take (p ++ q).length).drop p.length = q := by rw [h]; simp
  rw [List.take_take, List.length_append, Nat.min_eq_left (by omega)] at h1
  rw [List.drop_take, List.length_append, Nat.add_sub_cancel_left] at h2
  exact ⟨h1, h2⟩
 ·rintro ⟨h1, h2⟩
  rw [List.length_append, List.take_add, h1, h2]
theorem HasPrefix_eq (s p : ByteArray) : strings_HasPrefix s p = some (decide (Pre (bytesOf p) (bytesOf s))) := by
 unfold strings_HasPrefix internal_stringslite_HasPrefix
 rw [sizI_eq', sizI_eq']
 by_cases h : (bytesOf p).length ≤ (bytesOf s).length
 ·rw [if_pos (by rw [ile_iff]; omega), if_pos (by rw [cutOk_iff, size_eq]; omega), Option.bind_some]
  congr 1
  rw [Bool.eq_iff_iff, seq_iff, decide_eq_true_eq]
  constructor
  ·intro e
   have := congrArg bytesOf e
   rw [bytesOf_cutB] at this
   simpa [Pre] using this
  ·intro e
   apply bytesOf_inj
   rw [bytesOf_cutB]
   simpa [Pre] using e
 ·rw [if_neg (by rw [ile_iff]; omega), Option.bind_some]
  congr 1
  symm
  rw [decide_eq_false_iff_not]
  exact fun e => h e.len
theorem Is_eq {b : List Int} (hb : IsB b) (hl : b.length ≤ 1000000000) (at_ : Int) (s : ByteArray) :
  lex_Is b at_ s = some (if 0 ≤ at_ ∧ at_ ≤ b.length then (if Pre (bytesOf s) (b.drop at_.toNat) then (at_ + (bytesOf s).length, true) else (at_, false)) else (0, false)) := by
 unfold lex_Is
 rw [isPlace_eq, Option.bind_some]
 by_cases h : 0 ≤ at_ ∧ at_ ≤ b.length
 case neg => rw [if_neg (by simpa using h), if_neg h]
 rw [if_pos (by simpa using h), if_pos h, if_pos (by rw [cutOk_iff, lenI_eq, lenN_eq]; omega), cut_drop h.1 h.2, HasPrefix_eq, bytesOf_strOf (hb.drop _), Option.bind_some]
 by_cases e : Pre (bytesOf s) (b.drop at_.toNat)
 ·have := e.len
  rw [List.length_drop] at this
  rw [if_pos (by simpa using e), if_pos e, sizI_eq', iadd_ok (by omega) (by omega)]
 ·rw [if_neg (by simpa using e), if_neg e]
def fstN (a : Nat) : Int := if a < 128 then 240 else if a < 194 then 241 else if a < 224 then 2 else if a = 224 then 19 else if a = 237 then 35 else if a < 240 then 3 else if a = 240 then 52 else if a < 244 then 4 else if a = 244 then 68 else 241
theorem first_eq : ∀ a : Nat, a < 256 → tabI first (a : Int) = some (fstN a) := by decide +kernel
def fo (a : Int) : Int × Int × Nat := if a = 224 then (160, 191, 3) else if a = 237 then (128, 159, 3) else if a < 224 then (128, 191, 2) else if a < 240 then (128, 191, 3) else if a = 240 then (144, 191, 4) else if a = 244 then (128, 143, 4) else (128, 191, 4)
theorem first_bad {a : Int} (h0 : 128 ≤ a) (h1 : a ≤ 255) (h2 : a < 194 ∨ 244 < a) : tabI first a = some 241 := by
 rw [show a = ((a.toNat : Nat) : Int) by omega, first_eq _ (by omega)]
 unfold fstN
 rw [if_neg (by omega)]
 by_cases e : a.toNat < 194
 ·rw [if_pos e]
 ·rw [if_neg e, if_neg (by omega), if_neg (by omega), if_neg (by omega), if_neg (by omega), if_neg (by omega), if_neg (by omega), if_neg (by omega)]
theorem first_good {a : Int} (h0 : 194 ≤ a) (h1 : a ≤ 244) : ∃ v, tabI first a = some v ∧ ile 240 v = false ∧ inI 16 (ishr .u8 v 4) = true ∧ tabI ranges (ishr .u8 v 4) = some ((fo a).1, (fo a).2.1) ∧ iconv .i64 (band .u8 v 7) = ((fo a).2.2 : Nat) := by
 rw [show a = ((a.toNat : Nat) : Int) by omega, first_eq _ (by omega)]
 refine ⟨_, rfl, ?_⟩
 unfold fstN fo
 rw [if_neg (by omega), if_neg (by omega)]
 by_cases e1 : a.toNat < 224
 ·rw [if_pos e1, if_neg (by omega), if_neg (by omega), if_pos (by omega)]; decide +kernel
 by_cases e2 : a.toNat = 224
 ·rw [if_neg e1, if_pos e2, if_pos (by omega)]; decide +kernel
 by_cases e3 : a.toNat = 237
 ·rw [if_neg e1, if_neg e2, if_pos e3, if_neg (by omega), if_pos (by omega)]; decide +kernel
 by_cases e4 : a.toNat < 240
 ·rw [if_neg e1, if_neg e2, if_neg e3, if_pos e4, if_neg (by omega), if_neg (by omega), if_neg (by omega), if_pos (by omega)]; decide +kernel
 by_cases e5 : a.toNat = 240
 ·rw [if_neg e1, if_neg e2, if_neg e3, if_neg e4, if_pos e5, if_neg (by omega), if_neg (by omega), if_neg (by omega), if_neg (by omega), if_pos (by omega)]; decide +kernel
 by_cases e6 : a.toNat < 244
 ·rw [if_neg e1, if_neg e2, if_neg e3, if_neg e4, if_neg e5, if_pos e6, if_neg (by omega), if_neg (by omega), if_neg (by omega), if_neg (by omega), if_neg (by omega), if_neg (by omega)]; decide +kernel
 ·rw [if_neg e1, if_neg e2, if_neg e3, if_neg e4, if_neg e5, if_neg e6, if_pos (by omega), if_neg (by omega), if_neg (by omega), if_neg (by omega), if_neg (by omega), if_neg (by omega), if_pos (by omega)]; decide +kernel
def lw4 : List Int → Nat
 | [] => 1
 | d :: _ => if 128 ≤ d ∧ d ≤ 191 then 4 else 1
def lw3 (n : Nat) : List Int → Nat
 | [] => 1
 | c :: t => if 128 ≤ c ∧ c ≤ 191 then (if n ≤ 3 then 3 else lw4 t) else 1
def lw2 (lo hi : Int) (n : Nat) : List Int → Nat
 | [] => 1
 | b :: t => if lo ≤ b ∧ b ≤ hi then (if n ≤ 2 then 2 else lw3 n t) else 1
def lw : List Int → Nat
 | [] => 0
 | a :: t => if 194 ≤ a ∧ a ≤ 244 then lw2 (fo a).1 (fo a).2.1 (fo a).2.2 t else 1
theorem wrap_i32 {a : Int} (h0 : -2147483648 ≤ a) (h1 : a ≤ 2147483647) : IntKind.i32.wrap a = a := iconv_i32 h0 h1
theorem bor_ge {x y : Int} (hx : 0 ≤ x ∧ x < 2147483648) (hy : 0 ≤ y ∧ y < 2147483648) : 0 ≤ bor .i32 x y ∧ bor .i32 x y < 2147483648 ∧ x ≤ bor .i32 x y ∧ y ≤ bor .i32 x y := by
 obtain ⟨n, rfl⟩ := Int.eq_ofNat_of_zero_le hx.1
 obtain ⟨m, rfl⟩ := Int.eq_ofNat_of_zero_le hy.1
 have h1 : (BitVec.ofInt 32 (n : Int)).toNat = n := by simp only [BitVec.toNat_ofInt]; omega
 have h2 : (BitVec.ofInt 32 (m : Int)).toNat = m := by simp only [BitVec.toNat_ofInt]; omega
 have h3 : n ||| m < 2 ^ 31 := Nat.or_lt_two_pow (by omega) (by omega)
 have h4 : bor .i32 (n : Int) (m : Int) = ((n ||| m : Nat) : Int) := by
  show IntKind.i32.wrap ((BitVec.ofInt 32 (n : Int) ||| BitVec.ofInt 32 (m : Int)).toNat : Nat) = _
  rw [BitVec.toNat_or, h1, h2]
  exact wrap_i32 (by omega) (by omega)
 rw [h4]
 have := @Nat.left_le_or n m
 have := @Nat.right_le_or n m
 omega
theorem band_lo : ∀ a : Nat, a < 256 → band .u8 (a : Int) 31 = (a % 32 : Nat) ∧ band .u8 (a : Int) 15 = (a % 16 : Nat) ∧ band .u8 (a : Int) 7 = (a % 8 : Nat) ∧ band .u8 (a : Int) 63 = (a % 64 : Nat) := by decide +kernel
theorem band_lo' {a : Int} (h0 : 0 ≤ a) (h1 : a ≤ 255) : iconv .i32 (band .u8 a 31) = a % 32 ∧ iconv .i32 (band .u8 a 15) = a % 16 ∧ iconv .i32 (band .u8 a 7) = a % 8 ∧ iconv .i32 (band .u8 a 63) = a % 64 := by
 obtain ⟨n, rfl⟩ := Int.eq_ofNat_of_zero_le h0
 obtain ⟨e1, e2, e3, e4⟩ := band_lo n (by omega)
 rw [e1, e2, e3, e4, iconv_i32 (by omega) (by omega), iconv_i32 (by omega) (by omega), iconv_i32 (by omega) (by omega), iconv_i32 (by omega) (by omega)]
 omega
theorem ishl_i32 {x : Int} (h0 : 0 ≤ x) (h1 : x ≤ 255) : ishl .i32 x 6 = x * 64 ∧ ishl .i32 x 12 = x * 4096 ∧ (x ≤ 7 → ishl .i32 x 18 = x * 262144) := by
 unfold ishl
 refine ⟨?_, ?_, fun h => ?_⟩
 ·rw [show (2 : Int) ^ (min (6 : Int).toNat IntKind.i32.bits) = 64 from rfl]; exact wrap_i32 (by omega) (by omega)
 ·rw [show (2 : Int) ^ (min (12 : Int).toNat IntKind.i32.bits) = 4096 from rfl]; exact wrap_i32 (by omega) (by omega)
 ·rw [show (2 : Int) ^ (min (18 : Int).toNat IntKind.i32.bits) = 262144 from rfl]; exact wrap_i32 (by omega) (by omega)
theorem bad_rune : ∀ a : Nat, a < 256 → bor .i32 (iandn .i32 (iconv .i32 (a : Int)) (ishr .i32 (ishl .i32 (iconv .i32 241) 31) 31)) (band .i32 65533 (ishr .i32 (ishl .i32 (iconv .i32 241) 31) 31)) = 65533 := by decide +kernel
set_option maxHeartbeats 2000000 in
theorem slow_eq {a : Int} {t : List Int} (hb : IsB (a :: t)) (ha : 128 ≤ a) (hl : t.length ≤ 1000000000) : ∃ r : Int, unicode_utf8_decodeRuneSlow (a :: t) = some (r, ((lw (a :: t) : Nat) : Int)) ∧ 128 ≤ r := by
 have ha2 := (hb a List.mem_cons_self).2
 unfold unicode_utf8_decodeRuneSlow
 rw [if_neg (by rw [ilt_iff, lenI_eq, List.length_cons]; omega), show getI (a :: t) 0 = some a from rfl, Option.bind_some, if_pos (by rw [inI_iff]; omega)]
 by_cases e : a < 194 ∨ 244 < a
 ·rw [first_bad ha ha2 e, Option.bind_some, if_pos (show ile 240 241 = true from rfl), if_neg (by decide)]
  have := bad_rune a.toNat (by omega)
  rw [show ((a.toNat : Nat) : Int) = a by omega] at this
  rw [this]
  refine ⟨65533, ?_, by omega⟩
  have : lw (a :: t) = 1 := by
   rw [lw, if_neg (by omega)]
  rw [this]
  rfl
 obtain ⟨v, f1, f2, f3, f4, f5⟩ := first_good (a := a) (by omega) (by omega)
 rw [f1, Option.bind_some, if_neg (by rw [f2]; decide), if_neg (by decide), if_pos f3, f4, Option.bind_some, f5]
 simp only [lenI_eq, List.length_cons, ilt_iff, ile_iff]
 have hfo : (fo a).1 ≥ 128 ∧ (fo a).2.1 ≤ 191 ∧ (a = 224 → (fo a).1 = 160) ∧ (a = 240 → (fo a).1 = 144) ∧ (((fo a).2.2 = 2 ∧ a < 224) ∨ ((fo a).2.2 = 3 ∧ 224 ≤ a ∧ a < 240) ∨ ((fo a).2.2 = 4 ∧ 240 ≤ a)) := by
  unfold fo
  by_cases e1 : a = 224
  ·rw [if_pos e1]; simp; omega
  by_cases e2 : a = 237
  ·rw [if_neg e1, if_pos e2]; simp; omega
  by_cases e3 : a < 224
  ·rw [if_neg e1, if_neg e2, if_pos e3]; simp; omega
  by_cases e4 : a < 240
  ·rw [if_neg e1, if_neg e2, if_neg e3, if_pos e4]; simp; omega
  by_cases e5 : a = 240
  ·rw [if_neg e1, if_neg e2, if_neg e3, if_neg e4, if_pos e5]; simp; omega
  by_cases e6 : a = 244
  ·rw [if_neg e1, if_neg e2, if_neg e3, if_neg e4, if_neg e5, if_pos e6]; simp; omega
  ·rw [if_neg e1, if_neg e2, if_neg e3, if_neg e4, if_neg e5, if_neg e6]; simp; omega
 rw [show lw (a :: t) = lw2 (fo a).1 (fo a).2.1 (fo a).2.2 t by rw [lw, if_pos (by omega)]]
 generalize fo a = q at hfo
 obtain ⟨lo, hi, n⟩ := q
 simp only at hfo ⊢
 obtain ⟨g1, g2, g3, g4, g5⟩ := hfo
 have R : ∀ {c : Int}, c ∈ a :: t → 0 ≤ c ∧ c ≤ 255 := fun {c} hc => hb c hc
 cases t with
 | nil =>
  rw [if_pos (by simp; omega)]
  exact ⟨_, rfl, by decide⟩
 | cons b t =>
  have hb1 := R (c := b) (by simp)
  rw [show getI (a :: b :: t) 1 = some b from rfl, Option.bind_some, lw2]
  by_cases hlen : (((b :: t).length + 1 : Nat) : Int) < (n : Int)
  ·rw [if_pos hlen]
   refine ⟨65533, ?_, by decide⟩
   rw [List.length_cons] at hlen
   by_cases k : lo ≤ b ∧ b ≤ hi
   ·rw [if_pos k, if_neg (by omega)]
    cases t with
    | nil => rfl
    | cons c t =>
     rw [lw3]
     by_cases k2 : 128 ≤ c ∧ c ≤ 191
     ·rw [List.length_cons] at hlen
      rw [if_pos k2, if_neg (by omega)]
      cases t with
      | nil => rfl
      | cons d t => rw [List.length_cons] at hlen; omega
     ·rw [if_neg k2]; rfl
   ·rw [if_neg k]; rfl
  rw [if_neg hlen]
  rw [List.length_cons] at hlen
  by_cases k : lo ≤ b ∧ b ≤ hi
  case neg =>
   rw [if_neg k]
   by_cases k1 : b < lo
   ·rw [if_pos k1]; exact ⟨_, rfl, by decide⟩
   ·rw [if_neg k1, if_pos (by omega)]; exact ⟨_, rfl, by decide⟩
  rw [if_neg (by omega), if_neg (by omega), if_pos k]
  obtain ⟨m1, m2, m3, -⟩ := band_lo' (a := a) (by omega) (by omega)
  obtain ⟨-, -, -, n4⟩ := band_lo' (a := b) (by omega) (by omega)
  obtain ⟨s1, -, -⟩ := ishl_i32 (x := a % 32) (by omega) (by omega)
  obtain ⟨-, s2, -⟩ := ishl_i32 (x := a % 16) (by omega) (by omega)
  obtain ⟨-, -, s3⟩ := ishl_i32 (x := a % 8) (by omega) (by omega)
  obtain ⟨s4, s5, -⟩ := ishl_i32 (x := b % 64) (by omega) (by omega)
  rw [m1, m2, m3, n4, s1, s2, s3 (by omega), s4, s5]
  by_cases hn2 : n ≤ 2
  ·rw [if_pos (by omega), if_pos hn2, if_neg (by omega)]
   refine ⟨_, rfl, ?_⟩
   have := bor_ge (x := a % 32 * 64) (y := b % 64) (by omega) (by omega)
   omega
  rw [if_neg (by omega), if_neg hn2]
  cases t with
  | nil => rw [List.length_nil] at hlen; omega
  | cons c t =>
   have hc1 := R (c := c) (by simp)
   rw [show getI (a :: b :: c :: t) 2 = some c from rfl, Option.bind_some, lw3]
   by_cases k2 : 128 ≤ c ∧ c ≤ 191
   case neg =>
    rw [if_neg k2]
    by_cases k1 : c < 128
    ·rw [if_pos k1]; exact ⟨_, rfl, by decide⟩
    ·rw [if_neg k1, if_pos (by omega)]; exact ⟨_, rfl, by decide⟩
   rw [if_neg (by omega), if_neg (by omega), if_pos k2]
   obtain ⟨-, -, -, c4⟩ := band_lo' (a := c) (by omega) (by omega)
   obtain ⟨s6, -, -⟩ := ishl_i32 (x := c % 64) (by omega) (by omega)
   rw [c4, s6]
   by_cases hn3 : n ≤ 3
   ·rw [if_pos (by omega), if_pos hn3, if_neg (by omega), if_neg (by omega)]
    refine ⟨_, rfl, ?_⟩
    have p1 := bor_ge (x := a % 16 * 4096) (y := b % 64 * 64) (by omega) (by omega)
    have p2 := bor_ge (x := bor .i32 (a % 16 * 4096) (b % 64 * 64)) (y := c % 64) (by omega) (by omega)
    omega
   rw [if_neg (by omega), if_neg hn3]
   rw [List.length_cons] at hlen
   cases t with
   | nil => rw [List.length_nil] at hlen; omega
   | cons d t =>
    have hd1 := R (c := d) (by simp)
    rw [show getI (a :: b :: c :: d :: t) 3 = some d from rfl, Option.bind_some, lw4]
    by_cases k3 : 128 ≤ d ∧ d ≤ 191
    case neg =>
     rw [if_neg k3]
     by_cases k1 : d < 128
     ·rw [if_pos k1]; exact ⟨_, rfl, by decide⟩
     ·rw [if_neg k1, if_pos (by omega)]; exact ⟨_, rfl, by decide⟩
    rw [if_neg (by omega), if_neg (by omega), if_pos k3, if_neg (by omega), if_neg (by omega), if_neg (by omega)]
    obtain ⟨-, -, -, d4⟩ := band_lo' (a := d) (by omega) (by omega)
    rw [d4]
    refine ⟨_, rfl, ?_⟩
    have p1 := bor_ge (x := a % 8 * 262144) (y := b % 64 * 4096) (by omega) (by omega)
    have p2 := bor_ge (x := bor .i32 (a % 8 * 262144) (b % 64 * 4096)) (y := c % 64 * 64) (by omega) (by omega)
    have p3 := bor_ge (x := bor .i32 (bor .i32 (a % 8 * 262144) (b % 64 * 4096)) (c % 64 * 64)) (y := d % 64) (by omega) (by omega)
    omega
def lead (p : Int → Bool) : List Int → Nat
 | [] => 0
 | a :: t => if p a = true then lead p t + 1 else 0
theorem lead_le (p : Int → Bool) : ∀ L : List Int, lead p L ≤ L.length
 | [] => Nat.le_refl _
 | a :: t => by
  rw [lead, List.length_cons]
  have := lead_le p t
  split <;> omega
theorem lead_all (p : Int → Bool) : ∀ (L : List Int) (c : Int), c ∈ L.take (lead p L) → p c = true
 | [], c, h => by cases h
 | a :: t, c, h => by
  rw [lead] at h
  by_cases e : p a = true
  ·rw [if_pos e, List.take_succ_cons, List.mem_cons] at h
   rcases h with rfl | h
   ·exact e
   ·exact lead_all p t c h
  ·rw [if_neg e] at h; cases h
theorem DecodeRune_eq {a : Int} {t : List Int} (hb : IsB (a :: t)) (hl : t.length ≤ 1000000000) : ∃ (r : Int) (w : Nat), unicode_utf8_DecodeRune (a :: t) = some (r, (w : Int)) ∧ (a < 128 → r = a ∧ w = 1) ∧ (128 ≤ a → 128 ≤ r) := by
 have ha := hb a List.mem_cons_self
 by_cases e : a < 128
 ·exact ⟨a, 1, decode_one ha.1 e, fun _ => ⟨rfl, rfl⟩, fun h => by omega⟩
 ·obtain ⟨r, hr, hge⟩ := slow_eq hb (by omega) hl
  refine ⟨r, lw (a :: t), ?_, fun h => absurd h e, fun _ => hge⟩
  unfold unicode_utf8_DecodeRune
  rw [loopF_inr (r := .inr ()), Option.bind_some]
  ·simp only
   rw [hr]
   rfl
  ·simp only [unicode_utf8_DecodeRune_B0]
   rw [if_pos (by rw [ilt_iff, lenI_eq, List.length_cons]; omega), show getI (a :: t) 0 = some a from rfl, Option.bind_some, if_neg (by rw [ilt_iff]; exact e)]
def SB (f : Int → Option Bool) (s : List Int) (x : Int) : Option (Int ⊕ (Int ⊕ Unit)) :=
 if (ilt x (lenI s)) = true then
  if (cutOk (lenN s) x (lenI s)) = true then
   Option.bind (unicode_utf8_DecodeRune ((cut s x (lenI s)))) fun (v23, v24) =>
   Option.bind (f v23) fun v26 =>
   if (beq2 v26 true) = true then some (.inr (.inl x))
   else some (.inl (iadd IntKind.i64 x v24))
  else none
 else some (.inr (.inr ()))
theorem SB_loop {f : Int → Option Bool} {p : Int → Bool} (h0 : ∀ c, 0 ≤ c → c < 128 → f c = some (!p c)) (h1 : ∀ c, 128 ≤ c → f c = some true) (h2 : ∀ c, 128 ≤ c → p c = false) {s : List Int} (hb : IsB s) (hl : s.length ≤ 1000000000) :
  ∀ (n x : Nat), s.length - x = n → x ≤ s.length → loopF (SB f s) (x : Int) = some (if x + lead p (s.drop x) < s.length then .inl ((x + lead p (s.drop x) : Nat) : Int) else .inr ()) := by
 intro n
 induction n with
 | zero =>
  intro x hn hx
  rw [loopF_inr (r := .inr ()), List.drop_eq_nil_of_le (by omega), if_neg (by simp [lead]; omega)]
  unfold SB
  rw [if_neg (by rw [ilt_iff, lenI_eq]; omega)]
 | succ n ih =>
  intro x hn hx
  have hlt : x < s.length := by omega
  have hd := List.drop_eq_getElem_cons hlt
  have hg := List.getElem?_eq_getElem hlt
  generalize s[x] = c at hd hg
  have hc := hb.nth hg
  have hbd := hb.drop x
  rw [hd] at hbd
  obtain ⟨r, w, hr, k1, k2⟩ := DecodeRune_eq hbd (by rw [List.length_drop]; omega)
  have hstep : SB f s (x : Int) = if p c = true then some (.inl (((x + 1 : Nat) : Int))) else some (.inr (.inl (x : Int))) := by
   unfold SB
   rw [if_pos (by rw [ilt_iff, lenI_eq]; omega), if_pos (by rw [cutOk_iff, lenI_eq, lenN_eq]; omega), cut_drop (by omega) (by omega), Int.toNat_natCast, hd, hr, Option.bind_some]
   simp only
   by_cases e : c < 128
   ·obtain ⟨rfl, rfl⟩ := k1 e
    rw [h0 _ hc.1 e, Option.bind_some]
    cases hp : p r with
    | true =>
     rw [if_neg (by decide), if_pos rfl, iadd_ok (by omega) (by omega)]
     rfl
    | false =>
     rw [if_pos (by decide), if_neg (by decide)]
   ·rw [h1 _ (k2 (by omega)), Option.bind_some, if_pos (by decide), h2 _ (by omega), if_neg (by decide)]
  rw [hd, lead]
  by_cases e : p c = true
  ·rw [if_pos e] at hstep ⊢
   rw [loopF_inl hstep, ih (x + 1) (by omega) (by omega)]
   rw [show x + 1 + lead p (s.drop (x + 1)) = x + (lead p (s.drop (x + 1)) + 1) by omega]
  ·rw [if_neg e] at hstep ⊢
   rw [loopF_inr hstep, if_pos (by omega)]
   rfl
def dig (c : Int) : Bool := decide (48 ≤ c ∧ c ≤ 57)
theorem figs_f : (∀ c, 0 ≤ c → c < 128 → lex_run_1_figs c = some (!dig c)) ∧ (∀ c, 128 ≤ c → lex_run_1_figs c = some true) := by
 constructor
 ·intro c h0 h1
  unfold lex_run_1_figs lex_Number_1
  rw [if_neg (by rw [ile_iff]; omega), iconv_u8 h0 (by omega)]
  unfold dig
  simp only [ile_iff]
  by_cases e : 48 ≤ c
  ·rw [if_pos e, Option.bind_some]
   congr 1
   unfold bnot ile
   simp [e]
  ·rw [if_neg e, Option.bind_some]
   congr 1
   unfold bnot
   simp [e]
 ·intro c h
  unfold lex_run_1_figs
  rw [if_pos (by rw [ile_iff]; exact h)]
theorem run_figs_eq {b : List Int} (hb : IsB b) (hl : b.length ≤ 1000000000) {at_ : Int} (h : 0 ≤ at_ ∧ at_ ≤ b.length) : lex_run_figs b at_ = some (at_ + lead dig (b.drop at_.toNat)) := by
 have hbd := hb.drop at_.toNat
 have hdl : (b.drop at_.toNat).length = b.length - at_.toNat := List.length_drop
 have hle := lead_le dig (b.drop at_.toNat)
 unfold lex_run_figs
 rw [if_pos (by rw [cutOk_iff, lenI_eq, lenN_eq]; omega), cut_drop h.1 h.2]
 have hS := SB_loop (p := dig) figs_f.1 figs_f.2 (fun c h => by unfold dig; simp; omega) hbd (by omega) _ 0 rfl (by omega)
 rw [Nat.zero_add, List.drop_zero] at hS
 have hI : bytes_indexFunc_figs (b.drop at_.toNat) = some (if lead dig (b.drop at_.toNat) < (b.drop at_.toNat).length then ((lead dig (b.drop at_.toNat) : Nat) : Int) else -1) := by
  unfold bytes_indexFunc_figs
  rw [show loopF (bytes_indexFunc_figs_B0 (b.drop at_.toNat)) 0 = _ from hS]
  split <;> rfl
 unfold bytes_IndexFunc_figs
 rw [hI, Option.bind_some, Option.bind_some]
 split
 ·rw [if_neg (by rw [ilt_iff]; omega), iadd_ok (by omega) (by omega)]
 ·rw [if_pos (by decide), lenI_eq]
  congr 1
  omega
def nv (lim : Int) : List Int → Int → Option Int
 | [], n => some n
 | c :: t, n => if lim < n * 10 + (c - 48) then none else nv lim t (n * 10 + (c - 48))
def NB (w : List Int) (most : Int) (p : Int × Int) : Option ((Int × Int) ⊕ (Unit ⊕ Int)) := match p with
 | (x28, x29) =>
  if (ilt x29 (lenI w)) = true then
   Option.bind (getI w x29) fun v31 =>
   if (ilt (imin most 2147483647) (iadd IntKind.i64 (imul IntKind.i64 x28 10) (iconv IntKind.i64 (isub IntKind.u8 v31 48)))) = true then some (.inr (.inl ()))
   else some (.inl (((iadd IntKind.i64 (imul IntKind.i64 x28 10) (iconv IntKind.i64 (isub IntKind.u8 v31 48))), (iadd IntKind.i64 x29 1))))
  else some (.inr (.inr x28))
theorem isub_u8 {c : Int} (h0 : 48 ≤ c) (h1 : c ≤ 57) : isub .u8 c 48 = c - 48 := iconv_u8 (a := c - 48) (by omega) (by omega)
theorem NB_loop {w : List Int} (hw : ∀ c ∈ w, dig c = true) (hl : w.length ≤ 1000000000) (most : Int) : ∀ (n k : Nat) (x : Int), w.length - k = n → k ≤ w.length → 0 ≤ x → x ≤ 2147483647 →
  loopF (NB w most) (x, (k : Int)) = some (match nv (min most 2147483647) (w.drop k) x with | none => .inl () | some v => .inr v) := by
 intro n
 induction n with
 | zero =>
  intro k x hn hk h0 h1
  rw [loopF_inr (r := .inr x), List.drop_eq_nil_of_le (by omega), nv]
  unfold NB
  simp only
  rw [if_neg (by rw [ilt_iff, lenI_eq]; omega)]
 | succ n ih =>
  intro k x hn hk h0 h1
  have hlt : k < w.length := by omega
  have hd := List.drop_eq_getElem_cons hlt
  have hg := List.getElem?_eq_getElem hlt
  generalize w[k] = c at hd hg
  have hc : 48 ≤ c ∧ c ≤ 57 := by simpa [dig] using hw c (List.mem_of_getElem? hg)
  have hstep : NB w most (x, (k : Int)) = if min most 2147483647 < x * 10 + (c - 48) then some (.inr (.inl ())) else some (.inl (x * 10 + (c - 48), ((k + 1 : Nat) : Int))) := by
   unfold NB
   simp only
   rw [if_pos (by rw [ilt_iff, lenI_eq]; omega), getI_nat, hg, Option.bind_some, isub_u8 hc.1 hc.2, iconv_ok (by omega) (by omega), imul_ok (by omega) (by omega), iadd_ok (by omega) (by omega), iadd_ok (by omega) (by omega)]
   simp only [ilt_iff]
   rfl
  rw [hd, nv]
  by_cases e : min most 2147483647 < x * 10 + (c - 48)
  ·rw [if_pos e] at hstep ⊢
   exact loopF_inr hstep
  ·rw [if_neg e] at hstep ⊢
   rw [loopF_inl hstep, ih (k + 1) _ (by omega) (by omega) (by omega) (by omega)]
def numL (L : List Int) (most : Int) : Int × Nat × Int :=
 if lead dig L = 0 then (0, 0, 2)
 else if L[0]? = some 48 ∧ 1 < lead dig L then (0, 0, 2)
 else match nv (min most 2147483647) (L.take (lead dig L)) 0 with
  | none => (0, 0, 3)
  | some v => (v, lead dig L, 0)
theorem Number_eq {b : List Int} (hb : IsB b) (hl : b.length ≤ 1000000000) {at_ : Int} (h : 0 ≤ at_ ∧ at_ ≤ b.length) (most : Int) :
  lex_Number b at_ most = some ((numL (b.drop at_.toNat) most).1, at_ + (numL (b.drop at_.toNat) most).2.1, (numL (b.drop at_.toNat) most).2.2) := by
 have hdl : (b.drop at_.toNat).length = b.length - at_.toNat := List.length_drop
 have hle := lead_le dig (b.drop at_.toNat)
 unfold lex_Number numL
 rw [isPlace_eq, Option.bind_some, if_pos (by simpa using h), run_figs_eq hb hl h, Option.bind_some]
 simp only [ieq_iff, ilt_iff]
 by_cases e1 : lead dig (b.drop at_.toNat) = 0
 ·rw [if_pos (by omega), if_pos e1]; simp
 rw [if_neg (by omega), if_neg e1]
 have hlt : at_.toNat < b.length := by omega
 have hg := List.getElem?_eq_getElem hlt
 generalize b[at_.toNat] = c at hg
 have hgi : getI b at_ = some c := by unfold getI; rw [if_pos h.1]; exact hg
 have hg0 : (b.drop at_.toNat)[0]? = some c := by rw [List.getElem?_drop]; exact hg
 rw [hgi, Option.bind_some, hg0, iadd_ok (by omega) (by omega)]
 have hc : cut b at_ (at_ + (lead dig (b.drop at_.toNat) : Nat)) = (b.drop at_.toNat).take (lead dig (b.drop at_.toNat)) := by
  unfold cut
  congr 1
  omega
 have hcut : cutOk (lenN b) at_ (at_ + (lead dig (b.drop at_.toNat) : Nat)) = true := by rw [cutOk_iff, lenN_eq]; omega
 have hN := NB_loop (w := (b.drop at_.toNat).take (lead dig (b.drop at_.toNat))) (lead_all dig _) (by rw [List.length_take]; omega) most _ 0 0 rfl (Nat.zero_le _) (Int.le_refl 0) (by decide)
 rw [List.drop_zero] at hN
 have hN0 : loopF (lex_Number_B0 b at_ most (at_ + (lead dig (b.drop at_.toNat) : Nat))) (0, 0) = some (match nv (min most 2147483647) ((b.drop at_.toNat).take (lead dig (b.drop at_.toNat))) 0 with | none => .inl () | some v => .inr v) := by
  rw [← hN, ← hc]; rfl
 have hN1 : loopF (lex_Number_B1 b at_ most (at_ + (lead dig (b.drop at_.toNat) : Nat))) (0, 0) = some (match nv (min most 2147483647) ((b.drop at_.toNat).take (lead dig (b.drop at_.toNat))) 0 with | none => .inl () | some v => .inr v) := by
  rw [← hN, ← hc]; rfl
 by_cases e2 : c = 48
 ·rw [if_pos e2]
  by_cases e3 : 1 < lead dig (b.drop at_.toNat)
  ·rw [if_pos (by omega), if_pos ⟨by rw [e2], e3⟩]; simp
  ·rw [if_neg (by omega), if_pos hcut, if_neg (fun h => e3 h.2), hN0, Option.bind_some]
   cases nv (min most 2147483647) ((b.drop at_.toNat).take (lead dig (b.drop at_.toNat))) 0 <;> simp
 ·rw [if_neg e2, if_pos hcut, if_neg (fun h => e2 (by simpa using h.1)), hN1, Option.bind_some]
  cases nv (min most 2147483647) ((b.drop at_.toNat).take (lead dig (b.drop at_.toNat))) 0 <;> simp
theorem nv_bd : ∀ {L : List Int} {lim n v : Int}, (∀ c ∈ L, dig c = true) → 0 ≤ n → n ≤ 2147483647 → lim ≤ 2147483647 → nv lim L n = some v → 0 ≤ v ∧ v ≤ 2147483647
 | [], lim, n, v, _, h0, h1, _, h => by
  rw [nv] at h
  cases h
  exact ⟨h0, h1⟩
 | c :: t, lim, n, v, hw, h0, h1, h2, h => by
  have hc : 48 ≤ c ∧ c ≤ 57 := by simpa [dig] using hw c List.mem_cons_self
  rw [nv] at h
  by_cases e : lim < n * 10 + (c - 48)
  ·rw [if_pos e] at h; cases h
  ·rw [if_neg e] at h
   exact nv_bd (fun c hc => hw c (List.mem_cons_of_mem _ hc)) (by omega) (by omega) h2 h
theorem numL_bd (L : List Int) (most : Int) : 0 ≤ (numL L most).1 ∧ (numL L most).1 ≤ 2147483647 ∧ (numL L most).2.1 ≤ L.length := by
 unfold numL
 split
 ·exact ⟨by decide, by decide, Nat.zero_le _⟩
 split
 ·exact ⟨by decide, by decide, Nat.zero_le _⟩
 cases hv : nv (min most 2147483647) (L.take (lead dig L)) 0 with
 | none => exact ⟨Int.le_refl 0, (by decide : (0 : Int) ≤ 2147483647), Nat.zero_le _⟩
 | some v =>
  have := nv_bd (lead_all dig L) (by decide) (by decide) (by omega) hv
  exact ⟨this.1, this.2, lead_le dig L⟩
def signL (L : List Int) (most : Int) : Int × Nat × Int :=
 if Pre [45] L then
  (if (numL (L.drop 1) most).2.2 = 0 then (if (numL (L.drop 1) most).1 = 0 then (0, 0, 2) else (-(numL (L.drop 1) most).1, 1 + (numL (L.drop 1) most).2.1, 0)) else (0, 0, (numL (L.drop 1) most).2.2))
 else numL L most
theorem Signed_eq {b : List Int} (hb : IsB b) (hl : b.length ≤ 1000000000) {at_ : Int} (h : 0 ≤ at_ ∧ at_ ≤ b.length) (most : Int) :
  lex_Signed b at_ most = some ((signL (b.drop at_.toNat) most).1, at_ + (signL (b.drop at_.toNat) most).2.1, (signL (b.drop at_.toNat) most).2.2) := by
 unfold lex_Signed signL
 rw [isPlace_eq, Option.bind_some, if_pos (by simpa using h), Is_eq hb hl, if_pos h, show bytesOf { data := #[45] } = [45] from rfl]
 by_cases e : Pre [45] (b.drop at_.toNat)
 ·have hlen := e.len
  rw [List.length_drop] at hlen
  simp only [List.length_cons, List.length_nil] at hlen
  rw [if_pos e, if_pos e, Option.bind_some]
  simp only [List.length_cons, List.length_nil]
  rw [Number_eq hb hl (by omega), show (at_ + ((0 + 1 : Nat) : Int)).toNat = at_.toNat + 1 by omega, ← List.drop_drop, Option.bind_some]
  simp only [ieq_iff, reduceIte]
  have hbd := numL_bd ((b.drop at_.toNat).drop 1) most
  generalize numL ((b.drop at_.toNat).drop 1) most = q at hbd
  obtain ⟨q1, q2, q3⟩ := q
  simp only at hbd ⊢
  by_cases k : q3 = 0
  ·rw [if_pos k, if_pos k]
   by_cases k2 : q1 = 0
   ·rw [if_pos k2, if_pos k2]; simp
   ·rw [if_neg k2, if_neg k2, ineg_ok (by omega) (by omega)]
    simp
    omega
  ·rw [if_neg k, if_neg k]; simp
 ·rw [if_neg e, if_neg e, Option.bind_some]
  simp only
  rw [Number_eq hb hl h, Option.bind_some]
  simp only [Bool.false_eq_true, reduceIte]
theorem signL_le (L : List Int) (most : Int) : (signL L most).2.1 ≤ L.length := by
 unfold signL
 by_cases e : Pre [45] L
 ·have hlen := e.len
  simp only [List.length_cons, List.length_nil] at hlen
  have h2 := (numL_bd (L.drop 1) most).2.2
  rw [List.length_drop] at h2
  rw [if_pos e]
  split
  ·split
   ·exact Nat.zero_le _
   ·simp only; omega
  ·exact Nat.zero_le _
 ·rw [if_neg e]
  exact (numL_bd L most).2.2
end Go.Vid
