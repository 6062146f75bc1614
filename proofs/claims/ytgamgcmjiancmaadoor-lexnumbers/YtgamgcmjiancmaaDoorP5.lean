/- Plain laws: the library's reading of a letter. No condition. -/
import Derived.Test.YtgamgcmjiancmaaDoorP4
set_option linter.unusedSimpArgs false
set_option linter.unusedVariables false
set_option maxRecDepth 20000
namespace Go.Vid
open Go.Vabs
/-- The table of first bytes. -/
def fstN (a : Nat) : Int := if a < 128 then 240 else if a < 194 then 241 else if a < 224 then 2 else if a = 224 then 19 else if a = 237 then 35 else if a < 240 then 3 else if a = 240 then 52 else if a < 244 then 4 else if a = 244 then 68 else 241
theorem first_eq : ∀ a : Nat, a < 256 → tabI first (a : Int) = some (fstN a) := by decide +kernel
/-- What stands behind a first byte. -/
def fo (a : Int) : Int × Int × Nat := if a = 224 then (160, 191, 3) else if a = 237 then (128, 159, 3) else if a < 224 then (128, 191, 2) else if a < 240 then (128, 191, 3) else if a = 240 then (144, 191, 4) else if a = 244 then (128, 143, 4) else (128, 191, 4)
theorem first_bad {a : Int} (h0 : 128 ≤ a) (h1 : a ≤ 255) (h2 : a < 194 ∨ 244 < a) : tabI first a = some 241 := by
  rw [show a = ((a.toNat : Nat) : Int) by omega, first_eq _ (by omega)]
  unfold fstN
  rw [if_neg (by omega)]
  by_cases e : a.toNat < 194
  · rw [if_pos e]
  · rw [if_neg e, if_neg (by omega), if_neg (by omega), if_neg (by omega), if_neg (by omega), if_neg (by omega), if_neg (by omega), if_neg (by omega)]
theorem first_good {a : Int} (h0 : 194 ≤ a) (h1 : a ≤ 244) : ∃ v, tabI first a = some v ∧ ile 240 v = false ∧ inI 16 (ishr .u8 v 4) = true ∧ tabI ranges (ishr .u8 v 4) = some ((fo a).1, (fo a).2.1) ∧ iconv .i64 (band .u8 v 7) = ((fo a).2.2 : Nat) := by
  rw [show a = ((a.toNat : Nat) : Int) by omega, first_eq _ (by omega)]
  refine ⟨_, rfl, ?_⟩
  unfold fstN fo
  rw [if_neg (by omega), if_neg (by omega)]
  by_cases e1 : a.toNat < 224
  · rw [if_pos e1, if_neg (by omega), if_neg (by omega), if_pos (by omega)]; decide +kernel
  by_cases e2 : a.toNat = 224
  · rw [if_neg e1, if_pos e2, if_pos (by omega)]; decide +kernel
  by_cases e3 : a.toNat = 237
  · rw [if_neg e1, if_neg e2, if_pos e3, if_neg (by omega), if_pos (by omega)]; decide +kernel
  by_cases e4 : a.toNat < 240
  · rw [if_neg e1, if_neg e2, if_neg e3, if_pos e4, if_neg (by omega), if_neg (by omega), if_neg (by omega), if_pos (by omega)]; decide +kernel
  by_cases e5 : a.toNat = 240
  · rw [if_neg e1, if_neg e2, if_neg e3, if_neg e4, if_pos e5, if_neg (by omega), if_neg (by omega), if_neg (by omega), if_neg (by omega), if_pos (by omega)]; decide +kernel
  by_cases e6 : a.toNat < 244
  · rw [if_neg e1, if_neg e2, if_neg e3, if_neg e4, if_neg e5, if_pos e6, if_neg (by omega), if_neg (by omega), if_neg (by omega), if_neg (by omega), if_neg (by omega), if_neg (by omega)]; decide +kernel
  · rw [if_neg e1, if_neg e2, if_neg e3, if_neg e4, if_neg e5, if_neg e6, if_pos (by omega), if_neg (by omega), if_neg (by omega), if_neg (by omega), if_neg (by omega), if_neg (by omega), if_pos (by omega)]; decide +kernel
/-- The library's width: by what stands behind the first byte. -/
def lw4 : List Int → Nat
  | [] => 1
  | d :: _ => if 128 ≤ d ∧ d ≤ 191 then 4 else 1
def lw3 (n : Nat) : List Int → Nat
  | [] => 1
  | c :: t => if 128 ≤ c ∧ c ≤ 191 then (if n ≤ 3 then 3 else lw4 t) else 1
def lw2 (lo hi : Int) (n : Nat) : List Int → Nat
  | [] => 1
  | b :: t => if lo ≤ b ∧ b ≤ hi then (if n ≤ 2 then 2 else lw3 n t) else 1
def lw : List Int → Nat
  | [] => 0
  | a :: t => if 194 ≤ a ∧ a ≤ 244 then lw2 (fo a).1 (fo a).2.1 (fo a).2.2 t else 1
theorem wid_bad {a : Int} {t : List Int} (h : 128 ≤ a) (h2 : a < 194 ∨ 244 < a) : wid (a :: t) = 0 := by
  have hm : ∀ {α : Type} {o : Option α} {f : α → Nat}, (∀ v, o = some v → f v = 0) → (match o with | some v => f v | none => 0) = 0 := by
    intro α o f h
    cases o with
    | none => rfl
    | some v => exact h v rfl
  rw [wid, if_neg (by omega)]
  by_cases e1 : a < 192
  · rw [if_pos e1]
  rw [if_neg e1]
  by_cases e2 : a < 224
  · rw [if_pos e2]
    cases hv : acc 1 (a - 192) t with
    | none => rfl
    | some v =>
      have := acc_bd hv
      simp only
      rw [if_neg (by omega)]
  rw [if_neg e2, if_neg (by omega)]
  by_cases e3 : a < 248
  · rw [if_pos e3]
    cases hv : acc 3 (a - 240) t with
    | none => rfl
    | some v =>
      have := acc_bd hv
      simp only
      rw [if_neg (by omega)]
  · rw [if_neg e3]
theorem wrap_i32 {a : Int} (h0 : -2147483648 ≤ a) (h1 : a ≤ 2147483647) : IntKind.i32.wrap a = a := iconv_i32 h0 h1
theorem bor_ge {x y : Int} (hx : 0 ≤ x ∧ x < 2147483648) (hy : 0 ≤ y ∧ y < 2147483648) : 0 ≤ bor .i32 x y ∧ bor .i32 x y < 2147483648 ∧ x ≤ bor .i32 x y ∧ y ≤ bor .i32 x y := by
  obtain ⟨n, rfl⟩ := Int.eq_ofNat_of_zero_le hx.1
  obtain ⟨m, rfl⟩ := Int.eq_ofNat_of_zero_le hy.1
  have h1 : (BitVec.ofInt 32 (n : Int)).toNat = n := by simp only [BitVec.toNat_ofInt]; omega
  have h2 : (BitVec.ofInt 32 (m : Int)).toNat = m := by simp only [BitVec.toNat_ofInt]; omega
  have h3 : n ||| m < 2 ^ 31 := Nat.or_lt_two_pow (by omega) (by omega)
  have h4 : bor .i32 (n : Int) (m : Int) = ((n ||| m : Nat) : Int) := by
    show IntKind.i32.wrap ((BitVec.ofInt 32 (n : Int) ||| BitVec.ofInt 32 (m : Int)).toNat : Nat) = _
    rw [BitVec.toNat_or, h1, h2]
    exact wrap_i32 (by omega) (by omega)
  rw [h4]
  have := @Nat.left_le_or n m
  have := @Nat.right_le_or n m
  omega
theorem band_lo : ∀ a : Nat, a < 256 → band .u8 (a : Int) 31 = (a % 32 : Nat) ∧ band .u8 (a : Int) 15 = (a % 16 : Nat) ∧ band .u8 (a : Int) 7 = (a % 8 : Nat) ∧ band .u8 (a : Int) 63 = (a % 64 : Nat) := by decide +kernel
theorem band_lo' {a : Int} (h0 : 0 ≤ a) (h1 : a ≤ 255) : iconv .i32 (band .u8 a 31) = a % 32 ∧ iconv .i32 (band .u8 a 15) = a % 16 ∧ iconv .i32 (band .u8 a 7) = a % 8 ∧ iconv .i32 (band .u8 a 63) = a % 64 := by
  obtain ⟨n, rfl⟩ := Int.eq_ofNat_of_zero_le h0
  obtain ⟨e1, e2, e3, e4⟩ := band_lo n (by omega)
  rw [e1, e2, e3, e4, iconv_i32 (by omega) (by omega), iconv_i32 (by omega) (by omega), iconv_i32 (by omega) (by omega), iconv_i32 (by omega) (by omega)]
  omega
theorem ishl_i32 {x : Int} (h0 : 0 ≤ x) (h1 : x ≤ 255) : ishl .i32 x 6 = x * 64 ∧ ishl .i32 x 12 = x * 4096 ∧ (x ≤ 7 → ishl .i32 x 18 = x * 262144) := by
  unfold ishl
  refine ⟨?_, ?_, fun h => ?_⟩
  · rw [show (2 : Int) ^ (min (6 : Int).toNat IntKind.i32.bits) = 64 from rfl]; exact wrap_i32 (by omega) (by omega)
  · rw [show (2 : Int) ^ (min (12 : Int).toNat IntKind.i32.bits) = 4096 from rfl]; exact wrap_i32 (by omega) (by omega)
  · rw [show (2 : Int) ^ (min (18 : Int).toNat IntKind.i32.bits) = 262144 from rfl]; exact wrap_i32 (by omega) (by omega)
theorem bad_rune : ∀ a : Nat, a < 256 → bor .i32 (iandn .i32 (iconv .i32 (a : Int)) (ishr .i32 (ishl .i32 (iconv .i32 241) 31) 31)) (band .i32 65533 (ishr .i32 (ishl .i32 (iconv .i32 241) 31) 31)) = 65533 := by decide +kernel
set_option maxHeartbeats 2000000 in
/-- The library's slow reading. -/
theorem slow_eq {a : Int} {t : List Int} (hb : IsB (a :: t)) (ha : 128 ≤ a) (hl : t.length ≤ 1000000000) : ∃ r : Int, unicode_utf8_decodeRuneSlow (a :: t) = some (r, ((lw (a :: t) : Nat) : Int)) ∧ 128 ≤ r := by
  have ha2 := (hb a List.mem_cons_self).2
  unfold unicode_utf8_decodeRuneSlow
  rw [if_neg (by rw [ilt_iff, lenI_eq, List.length_cons]; omega), show getI (a :: t) 0 = some a from rfl, Option.bind_some, if_pos (by rw [inI_iff]; omega)]
  by_cases e : a < 194 ∨ 244 < a
  · rw [first_bad ha ha2 e, Option.bind_some, if_pos (show ile 240 241 = true from rfl), if_neg (by decide)]
    have := bad_rune a.toNat (by omega)
    rw [show ((a.toNat : Nat) : Int) = a by omega] at this
    rw [this]
    refine ⟨65533, ?_, by omega⟩
    have : lw (a :: t) = 1 := by
      rw [lw, if_neg (by omega)]
    rw [this]
    rfl
  obtain ⟨v, f1, f2, f3, f4, f5⟩ := first_good (a := a) (by omega) (by omega)
  rw [f1, Option.bind_some, if_neg (by rw [f2]; decide), if_neg (by decide), if_pos f3, f4, Option.bind_some, f5]
  simp only [lenI_eq, List.length_cons, ilt_iff, ile_iff]
  have hfo : (fo a).1 ≥ 128 ∧ (fo a).2.1 ≤ 191 ∧ (a = 224 → (fo a).1 = 160) ∧ (a = 240 → (fo a).1 = 144) ∧ (((fo a).2.2 = 2 ∧ a < 224) ∨ ((fo a).2.2 = 3 ∧ 224 ≤ a ∧ a < 240) ∨ ((fo a).2.2 = 4 ∧ 240 ≤ a)) := by
    unfold fo
    by_cases e1 : a = 224
    · rw [if_pos e1]; simp; omega
    by_cases e2 : a = 237
    · rw [if_neg e1, if_pos e2]; simp; omega
    by_cases e3 : a < 224
    · rw [if_neg e1, if_neg e2, if_pos e3]; simp; omega
    by_cases e4 : a < 240
    · rw [if_neg e1, if_neg e2, if_neg e3, if_pos e4]; simp; omega
    by_cases e5 : a = 240
    · rw [if_neg e1, if_neg e2, if_neg e3, if_neg e4, if_pos e5]; simp; omega
    by_cases e6 : a = 244
    · rw [if_neg e1, if_neg e2, if_neg e3, if_neg e4, if_neg e5, if_pos e6]; simp; omega
    · rw [if_neg e1, if_neg e2, if_neg e3, if_neg e4, if_neg e5, if_neg e6]; simp; omega
  rw [show lw (a :: t) = lw2 (fo a).1 (fo a).2.1 (fo a).2.2 t by rw [lw, if_pos (by omega)]]
  generalize fo a = q at hfo
  obtain ⟨lo, hi, n⟩ := q
  simp only at hfo ⊢
  obtain ⟨g1, g2, g3, g4, g5⟩ := hfo
  have R : ∀ {c : Int}, c ∈ a :: t → 0 ≤ c ∧ c ≤ 255 := fun {c} hc => hb c hc
  cases t with
  | nil =>
    rw [if_pos (by simp; omega)]
    exact ⟨_, rfl, by decide⟩
  | cons b t =>
    have hb1 := R (c := b) (by simp)
    rw [show getI (a :: b :: t) 1 = some b from rfl, Option.bind_some, lw2]
    by_cases hlen : (((b :: t).length + 1 : Nat) : Int) < (n : Int)
    · rw [if_pos hlen]
      refine ⟨65533, ?_, by decide⟩
      rw [List.length_cons] at hlen
      by_cases k : lo ≤ b ∧ b ≤ hi
      · rw [if_pos k, if_neg (by omega)]
        cases t with
        | nil => rfl
        | cons c t =>
          rw [lw3]
          by_cases k2 : 128 ≤ c ∧ c ≤ 191
          · rw [List.length_cons] at hlen
            rw [if_pos k2, if_neg (by omega)]
            cases t with
            | nil => rfl
            | cons d t => rw [List.length_cons] at hlen; omega
          · rw [if_neg k2]; rfl
      · rw [if_neg k]; rfl
    rw [if_neg hlen]
    rw [List.length_cons] at hlen
    by_cases k : lo ≤ b ∧ b ≤ hi
    case neg =>
      rw [if_neg k]
      by_cases k1 : b < lo
      · rw [if_pos k1]; exact ⟨_, rfl, by decide⟩
      · rw [if_neg k1, if_pos (by omega)]; exact ⟨_, rfl, by decide⟩
    rw [if_neg (by omega), if_neg (by omega), if_pos k]
    obtain ⟨m1, m2, m3, -⟩ := band_lo' (a := a) (by omega) (by omega)
    obtain ⟨-, -, -, n4⟩ := band_lo' (a := b) (by omega) (by omega)
    obtain ⟨s1, -, -⟩ := ishl_i32 (x := a % 32) (by omega) (by omega)
    obtain ⟨-, s2, -⟩ := ishl_i32 (x := a % 16) (by omega) (by omega)
    obtain ⟨-, -, s3⟩ := ishl_i32 (x := a % 8) (by omega) (by omega)
    obtain ⟨s4, s5, -⟩ := ishl_i32 (x := b % 64) (by omega) (by omega)
    rw [m1, m2, m3, n4, s1, s2, s3 (by omega), s4, s5]
    by_cases hn2 : n ≤ 2
    · rw [if_pos (by omega), if_pos hn2, if_neg (by omega)]
      refine ⟨_, rfl, ?_⟩
      have := bor_ge (x := a % 32 * 64) (y := b % 64) (by omega) (by omega)
      omega
    rw [if_neg (by omega), if_neg hn2]
    cases t with
    | nil => rw [List.length_nil] at hlen; omega
    | cons c t =>
      have hc1 := R (c := c) (by simp)
      rw [show getI (a :: b :: c :: t) 2 = some c from rfl, Option.bind_some, lw3]
      by_cases k2 : 128 ≤ c ∧ c ≤ 191
      case neg =>
        rw [if_neg k2]
        by_cases k1 : c < 128
        · rw [if_pos k1]; exact ⟨_, rfl, by decide⟩
        · rw [if_neg k1, if_pos (by omega)]; exact ⟨_, rfl, by decide⟩
      rw [if_neg (by omega), if_neg (by omega), if_pos k2]
      obtain ⟨-, -, -, c4⟩ := band_lo' (a := c) (by omega) (by omega)
      obtain ⟨s6, -, -⟩ := ishl_i32 (x := c % 64) (by omega) (by omega)
      rw [c4, s6]
      by_cases hn3 : n ≤ 3
      · rw [if_pos (by omega), if_pos hn3, if_neg (by omega), if_neg (by omega)]
        refine ⟨_, rfl, ?_⟩
        have p1 := bor_ge (x := a % 16 * 4096) (y := b % 64 * 64) (by omega) (by omega)
        have p2 := bor_ge (x := bor .i32 (a % 16 * 4096) (b % 64 * 64)) (y := c % 64) (by omega) (by omega)
        omega
      rw [if_neg (by omega), if_neg hn3]
      rw [List.length_cons] at hlen
      cases t with
      | nil => rw [List.length_nil] at hlen; omega
      | cons d t =>
        have hd1 := R (c := d) (by simp)
        rw [show getI (a :: b :: c :: d :: t) 3 = some d from rfl, Option.bind_some, lw4]
        by_cases k3 : 128 ≤ d ∧ d ≤ 191
        case neg =>
          rw [if_neg k3]
          by_cases k1 : d < 128
          · rw [if_pos k1]; exact ⟨_, rfl, by decide⟩
          · rw [if_neg k1, if_pos (by omega)]; exact ⟨_, rfl, by decide⟩
        rw [if_neg (by omega), if_neg (by omega), if_pos k3, if_neg (by omega), if_neg (by omega), if_neg (by omega)]
        obtain ⟨-, -, -, d4⟩ := band_lo' (a := d) (by omega) (by omega)
        rw [d4]
        refine ⟨_, rfl, ?_⟩
        have p1 := bor_ge (x := a % 8 * 262144) (y := b % 64 * 4096) (by omega) (by omega)
        have p2 := bor_ge (x := bor .i32 (a % 8 * 262144) (b % 64 * 4096)) (y := c % 64 * 64) (by omega) (by omega)
        have p3 := bor_ge (x := bor .i32 (bor .i32 (a % 8 * 262144) (b % 64 * 4096)) (c % 64 * 64)) (y := d % 64) (by omega) (by omega)
        omega
theorem slowS_eq (s : ByteArray) : unicode_utf8_decodeRuneInStringSlow s = unicode_utf8_decodeRuneSlow (bytesOf s) := by
  unfold unicode_utf8_decodeRuneInStringSlow unicode_utf8_decodeRuneSlow
  simp only [getB_eq, sizI_eq', lenI_eq]
  rfl
theorem lw_of {L : List Int} {w : Nat} (h : wid L = w) (h1 : lw L = if w = 0 then 1 else w) : lw L = if wid L = 0 then 1 else wid L := by rw [h]; exact h1
/-- The library's width is ours. -/
theorem lw_wid {a : Int} {t : List Int} (ha : 128 ≤ a) : lw (a :: t) = if wid (a :: t) = 0 then 1 else wid (a :: t) := by
  by_cases e : a < 194 ∨ 244 < a
  · exact lw_of (wid_bad ha e) (by rw [lw, if_neg (by omega)]; rfl)
  have hl0 : ∀ t, lw (a :: t) = lw2 (fo a).1 (fo a).2.1 (fo a).2.2 t := fun t => by rw [lw, if_pos (by omega)]
  by_cases e1 : a < 224
  · have hw : ∀ t, wid (a :: t) = (match acc 1 (a - 192) t with | some v => if 128 ≤ v then 2 else 0 | none => 0) := fun t => by rw [wid, if_neg (by omega), if_neg (by omega), if_pos (by omega)]; rfl
    have hf : fo a = (128, 191, 2) := by unfold fo; rw [if_neg (by omega), if_neg (by omega), if_pos e1]
    rw [hf] at hl0
    cases t with
    | nil => exact lw_of (w := 0) (by rw [hw, acc]) (by rw [hl0]; rfl)
    | cons b t =>
      by_cases k : 128 ≤ b ∧ b ≤ 191
      · exact lw_of (w := 2) (by rw [hw, acc, if_pos k, acc]; exact if_pos (by omega)) (by rw [hl0, lw2, if_pos k, if_pos (by decide)]; rfl)
      · exact lw_of (w := 0) (by rw [hw, acc, if_neg k]) (by rw [hl0, lw2, if_neg k]; rfl)
  by_cases e2 : a < 240
  · have hw : ∀ t, wid (a :: t) = (match acc 2 (a - 224) t with | some v => if 2048 ≤ v ∧ (v < 55296 ∨ 57344 ≤ v) then 3 else 0 | none => 0) := fun t => by rw [wid, if_neg (by omega), if_neg (by omega), if_neg (by omega), if_pos (by omega)]; rfl
    have hf : ∃ lo hi, fo a = (lo, hi, 3) ∧ lo = (if a = 224 then 160 else 128) ∧ hi = (if a = 237 then 159 else 191) := by
      unfold fo
      by_cases h1 : a = 224
      · rw [if_pos h1, if_pos h1, if_neg (by omega)]; exact ⟨_, _, rfl, rfl, rfl⟩
      by_cases h2 : a = 237
      · rw [if_neg h1, if_pos h2, if_neg h1, if_pos h2]; exact ⟨_, _, rfl, rfl, rfl⟩
      · rw [if_neg h1, if_neg h2, if_neg e1, if_pos e2, if_neg h1, if_neg h2]; exact ⟨_, _, rfl, rfl, rfl⟩
    obtain ⟨lo, hi, hf, hlo, hhi⟩ := hf
    have hlo2 : (a = 224 ∧ lo = 160) ∨ (a ≠ 224 ∧ lo = 128) := by rw [hlo]; split <;> simp [*]
    have hhi2 : (a = 237 ∧ hi = 159) ∨ (a ≠ 237 ∧ hi = 191) := by rw [hhi]; split <;> simp [*]
    clear hlo hhi
    rw [hf] at hl0
    simp only at hl0
    cases t with
    | nil => exact lw_of (w := 0) (by rw [hw, acc]) (by rw [hl0]; rfl)
    | cons b t =>
      by_cases k : 128 ≤ b ∧ b ≤ 191
      case neg => exact lw_of (w := 0) (by rw [hw, acc, if_neg k]) (by rw [hl0, lw2, if_neg (by omega)]; rfl)
      cases t with
      | nil =>
        refine lw_of (w := 0) (by rw [hw, acc, if_pos k, acc]) ?_
        rw [hl0, lw2]
        split
        · rw [if_neg (by decide), lw3]; rfl
        · rfl
      | cons c t =>
        by_cases k2 : 128 ≤ c ∧ c ≤ 191
        case neg =>
          refine lw_of (w := 0) (by rw [hw, acc, if_pos k, acc, if_neg k2]) ?_
          rw [hl0, lw2]
          split
          · rw [if_neg (by decide), lw3, if_neg k2]; rfl
          · rfl
        by_cases k3 : 2048 ≤ ((a - 224) * 64 + b - 128) * 64 + c - 128 ∧ (((a - 224) * 64 + b - 128) * 64 + c - 128 < 55296 ∨ 57344 ≤ ((a - 224) * 64 + b - 128) * 64 + c - 128)
        · exact lw_of (w := 3) (by rw [hw, acc, if_pos k, acc, if_pos k2, acc]; exact if_pos k3) (by rw [hl0, lw2, if_pos (by omega), if_neg (by decide), lw3, if_pos k2, if_pos (by decide)]; rfl)
        · exact lw_of (w := 0) (by rw [hw, acc, if_pos k, acc, if_pos k2, acc]; exact if_neg k3) (by rw [hl0, lw2, if_neg (by omega)]; rfl)
  · have hw : ∀ t, wid (a :: t) = (match acc 3 (a - 240) t with | some v => if 65536 ≤ v ∧ v ≤ 1114111 then 4 else 0 | none => 0) := fun t => by rw [wid, if_neg (by omega), if_neg (by omega), if_neg (by omega), if_neg (by omega), if_pos (by omega)]; rfl
    have hf : ∃ lo hi, fo a = (lo, hi, 4) ∧ lo = (if a = 240 then 144 else 128) ∧ hi = (if a = 244 then 143 else 191) := by
      unfold fo
      rw [if_neg (by omega), if_neg (by omega), if_neg e1, if_neg e2]
      by_cases h1 : a = 240
      · rw [if_pos h1, if_pos h1, if_neg (by omega)]; exact ⟨_, _, rfl, rfl, rfl⟩
      by_cases h2 : a = 244
      · rw [if_neg h1, if_pos h2, if_neg h1, if_pos h2]; exact ⟨_, _, rfl, rfl, rfl⟩
      · rw [if_neg h1, if_neg h2, if_neg h1, if_neg h2]; exact ⟨_, _, rfl, rfl, rfl⟩
    obtain ⟨lo, hi, hf, hlo, hhi⟩ := hf
    have hlo2 : (a = 240 ∧ lo = 144) ∨ (a ≠ 240 ∧ lo = 128) := by rw [hlo]; split <;> simp [*]
    have hhi2 : (a = 244 ∧ hi = 143) ∨ (a ≠ 244 ∧ hi = 191) := by rw [hhi]; split <;> simp [*]
    clear hlo hhi
    rw [hf] at hl0
    simp only at hl0
    cases t with
    | nil => exact lw_of (w := 0) (by rw [hw, acc]) (by rw [hl0]; rfl)
    | cons b t =>
      by_cases k : 128 ≤ b ∧ b ≤ 191
      case neg => exact lw_of (w := 0) (by rw [hw, acc, if_neg k]) (by rw [hl0, lw2, if_neg (by omega)]; rfl)
      cases t with
      | nil =>
        refine lw_of (w := 0) (by rw [hw, acc, if_pos k, acc]) ?_
        rw [hl0, lw2]
        split
        · rw [if_neg (by decide), lw3]; rfl
        · rfl
      | cons c t =>
        by_cases k2 : 128 ≤ c ∧ c ≤ 191
        case neg =>
          refine lw_of (w := 0) (by rw [hw, acc, if_pos k, acc, if_neg k2]) ?_
          rw [hl0, lw2]
          split
          · rw [if_neg (by decide), lw3, if_neg k2]; rfl
          · rfl
        cases t with
        | nil =>
          refine lw_of (w := 0) (by rw [hw, acc, if_pos k, acc, if_pos k2, acc]) ?_
          rw [hl0, lw2]
          split
          · rw [if_neg (by decide), lw3, if_pos k2, if_neg (by decide), lw4]; rfl
          · rfl
        | cons d t =>
          by_cases k4 : 128 ≤ d ∧ d ≤ 191
          case neg =>
            refine lw_of (w := 0) (by rw [hw, acc, if_pos k, acc, if_pos k2, acc, if_neg k4]) ?_
            rw [hl0, lw2]
            split
            · rw [if_neg (by decide), lw3, if_pos k2, if_neg (by decide), lw4, if_neg k4]; rfl
            · rfl
          by_cases k3 : 65536 ≤ (((a - 240) * 64 + b - 128) * 64 + c - 128) * 64 + d - 128 ∧ (((a - 240) * 64 + b - 128) * 64 + c - 128) * 64 + d - 128 ≤ 1114111
          · exact lw_of (w := 4) (by rw [hw, acc, if_pos k, acc, if_pos k2, acc, if_pos k4, acc]; exact if_pos k3) (by rw [hl0, lw2, if_pos (by omega), if_neg (by decide), lw3, if_pos k2, if_neg (by decide), lw4, if_pos k4]; rfl)
          · exact lw_of (w := 0) (by rw [hw, acc, if_pos k, acc, if_pos k2, acc, if_pos k4, acc]; exact if_neg k3) (by rw [hl0, lw2, if_neg (by omega)]; rfl)
end Go.Vid
