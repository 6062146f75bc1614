/- Plain laws: what stands at a string's place, three ways. No condition. -/
import Derived.Test.YtgamgcmjiancmaaDoorP2
set_option linter.unusedSimpArgs false
set_option linter.unusedVariables false
set_option maxRecDepth 20000
namespace Go.Vid
open Go.Vabs
/-- Further bytes: six bits each. -/
def acc : Nat → Int → List Int → Option Int
  | 0, x, _ => some x
  | _ + 1, _, [] => none
  | n + 1, x, c :: l => if 128 ≤ c ∧ c ≤ 191 then acc n (x * 64 + c - 128) l else none
/-- How many bytes a letter has; 0 where there is none. -/
def wid : List Int → Nat
  | [] => 0
  | a :: t =>
    if a < 128 then 1 else if a < 192 then 0
    else if a < 224 then (match acc 1 (a - 192) t with | some v => if 128 ≤ v then 2 else 0 | none => 0)
    else if a < 240 then (match acc 2 (a - 224) t with | some v => if 2048 ≤ v ∧ (v < 55296 ∨ 57344 ≤ v) then 3 else 0 | none => 0)
    else if a < 248 then (match acc 3 (a - 240) t with | some v => if 65536 ≤ v ∧ v ≤ 1114111 then 4 else 0 | none => 0)
    else 0
/-- The reference's round. -/
def LB (N : Int) (s : ByteArray) (at_ : Int) (p : Int × Int) : Option ((Int × Int) ⊕ (Unit ⊕ Int)) := match p with
  | (x, k) =>
    if (ilt k N) = true then
      if (ile (isub IntKind.i64 (sizI s) at_) k) = true then some (.inr (.inl ()))
      else
        Option.bind (getB s (iadd IntKind.i64 at_ k)) fun v =>
        if (ilt v 128) = true then some (.inr (.inl ()))
        else
          if (ilt 191 v) = true then some (.inr (.inl ()))
          else some (.inl (((isub IntKind.i64 (iadd IntKind.i64 (imul IntKind.i64 x 64) (iconv IntKind.i64 v)) 128), (iadd IntKind.i64 k 1))))
    else some (.inr (.inr x))
def bdx : Nat → Int
  | 0 => 100000000
  | 1 => 1000000
  | 2 => 10000
  | _ => 100
theorem LB_loop {s : ByteArray} {a : Nat} (ha : a < s.size) (hs : s.size ≤ 1000000000) {N : Nat} (hN : N ≤ 4) : ∀ (n k : Nat) (x : Int), k + n = N → n ≤ 3 → 0 ≤ x → x ≤ bdx n →
    loopF (LB N s a) (x, (k : Int)) = some (match acc n x ((bytesOf s).drop (a + k)) with | none => .inl () | some v => .inr v) := by
  have hsz := size_eq s
  intro n
  induction n with
  | zero =>
    intro k x hk _ h0 h1
    rw [loopF_inr (r := .inr x)]
    · rfl
    · simp only [LB]
      rw [if_neg (by rw [ilt_iff]; omega)]
  | succ n ih =>
    intro k x hk hn h0 h1
    have hx : x ≤ 1000000 ∧ x * 64 + 63 ≤ bdx n := by
      rcases n with _ | _ | _ | n
      · simp only [bdx] at h1 ⊢; omega
      · simp only [bdx] at h1 ⊢; omega
      · simp only [bdx] at h1 ⊢; omega
      · omega
    cases hd : (bytesOf s).drop (a + k) with
    | nil =>
      have hl := congrArg List.length hd
      rw [List.length_drop, List.length_nil] at hl
      rw [loopF_inr (r := .inl ())]
      · rfl
      · simp only [LB]
        rw [if_pos (by rw [ilt_iff]; omega), if_pos (by rw [ile_iff, sizI_eq, isub_ok (by omega) (by omega)]; omega)]
    | cons c t =>
      have hl := congrArg List.length hd
      rw [List.length_drop, List.length_cons] at hl
      have hc : (bytesOf s)[a + k]? = some c := by
        have := congrArg (·[0]?) hd
        simpa using this
      have hcb := (bytesOf_isB s).nth hc
      have hstep : LB N s a (x, (k : Int)) = if 128 ≤ c ∧ c ≤ 191 then some (.inl (x * 64 + c - 128, (k : Int) + 1)) else some (.inr (.inl ())) := by
        simp only [LB]
        rw [if_pos (by rw [ilt_iff]; omega), if_neg (by rw [ile_iff, sizI_eq, isub_ok (by omega) (by omega)]; omega), iadd_ok (a := (a : Int)) (by omega) (by omega), getB_eq, show (a : Int) + (k : Int) = ((a + k : Nat) : Int) by omega, getI_nat, hc, Option.bind_some, imul_ok (by omega) (by omega), iconv_ok (by omega) (by omega), iadd_ok (by omega) (by omega), isub_ok (by omega) (by omega), iadd_ok (a := (k : Int)) (by omega) (by omega)]
        simp only [ilt_iff]
        by_cases e1 : c < 128
        · rw [if_pos e1, if_neg (by omega)]
        · rw [if_neg e1]
          by_cases e2 : 191 < c
          · rw [if_pos e2, if_neg (by omega)]
          · rw [if_neg e2, if_pos (by omega)]
      rw [acc]
      by_cases e : 128 ≤ c ∧ c ≤ 191
      · rw [if_pos e] at hstep
        rw [loopF_inl hstep, if_pos e]
        have := ih (k + 1) (x * 64 + c - 128) (by omega) (by omega) (by omega) (by omega)
        rw [show ((k + 1 : Nat) : Int) = (k : Int) + 1 by omega, show a + (k + 1) = (a + k) + 1 by omega, ← List.drop_drop, hd] at this
        exact this
      · rw [if_neg e] at hstep
        rw [loopF_inr hstep, if_neg e]
theorem acc_bd {x v : Int} : ∀ {n : Nat} {l : List Int}, acc n x l = some v → x * 64 ^ n ≤ v ∧ v < (x + 1) * 64 ^ n := by
  intro n
  induction n generalizing x with
  | zero =>
    intro l h
    simp only [acc, Option.some.injEq] at h
    subst h
    simp
    omega
  | succ n ih =>
    intro l h
    match l, h with
    | c :: l, h =>
      rw [acc] at h
      by_cases e : 128 ≤ c ∧ c ≤ 191
      · rw [if_pos e] at h
        obtain ⟨h1, h2⟩ := ih h
        have hp : (0 : Int) < 64 ^ n := Int.pow_pos (by decide)
        have e1 : x * 64 ^ (n + 1) = x * 64 * 64 ^ n := by rw [Int.pow_succ, Int.mul_comm (64 ^ n) 64, ← Int.mul_assoc]
        have e2 : (x + 1) * 64 ^ (n + 1) = (x * 64 + 64) * 64 ^ n := by rw [Int.pow_succ, Int.mul_comm (64 ^ n) 64, ← Int.mul_assoc, Int.add_mul x 1 64, Int.one_mul]
        have e3 : x * 64 * 64 ^ n ≤ (x * 64 + c - 128) * 64 ^ n := Int.mul_le_mul_of_nonneg_right (by omega) (by omega)
        have e4 : (x * 64 + c - 128 + 1) * 64 ^ n ≤ (x * 64 + 64) * 64 ^ n := Int.mul_le_mul_of_nonneg_right (by omega) (by omega)
        omega
      · rw [if_neg e] at h
        cases h
set_option maxHeartbeats 1000000 in
/-- The reference's width is ours. -/
theorem Long_eq {s : ByteArray} {a : Nat} (ha : a < s.size) (hs : s.size ≤ 1000000000) : ref01_Long s a = some ((wid ((bytesOf s).drop a) : Nat) : Int) := by
  have hsz := size_eq s
  have hlt : a < (bytesOf s).length := by omega
  have hd := List.drop_eq_getElem_cons hlt
  have hg := List.getElem?_eq_getElem hlt
  generalize (bytesOf s)[a] = c at hd hg
  have hcb := (bytesOf_isB s).nth hg
  unfold ref01_Long
  rw [getB_eq, getI_nat, hg, Option.bind_some, iconv_ok (by omega) (by omega), isub_ok (by omega) (by omega), isub_ok (by omega) (by omega), isub_ok (by omega) (by omega)]
  have L4 := LB_loop ha hs (N := 4) (by omega) 3 1 (c - 240) rfl (by omega)
  have L3 := LB_loop ha hs (N := 3) (by omega) 2 1 (c - 224) rfl (by omega)
  have L2 := LB_loop ha hs (N := 2) (by omega) 1 1 (c - 192) rfl (by omega)
  have L1 := LB_loop ha hs (N := 1) (by omega) 0 1 c rfl (by omega)
  rw [show ((4 : Nat) : Int) = 4 from rfl, show ((1 : Nat) : Int) = 1 from rfl] at L4
  rw [show ((3 : Nat) : Int) = 3 from rfl, show ((1 : Nat) : Int) = 1 from rfl] at L3
  rw [show ((2 : Nat) : Int) = 2 from rfl, show ((1 : Nat) : Int) = 1 from rfl] at L2
  rw [show ((1 : Nat) : Int) = 1 from rfl] at L1
  simp only [ile_iff, ilt_iff, bdx] at L1 L2 L3 L4 ⊢
  rw [hd]
  by_cases e1 : c < 128
  · rw [show wid (c :: (bytesOf s).drop (a + 1)) = 1 by rw [wid, if_pos e1], if_neg (by omega), if_neg (by omega), if_neg (by omega), if_neg (by omega)]
    rw [show loopF (ref01_Long_B14 s a) (c, 1) = _ from L1 (by omega) (by omega), acc, Option.bind_some]
    simp only
    rw [if_neg (by omega), if_neg (by omega), if_neg (by omega)]
    rfl
  by_cases e2 : c < 192
  · rw [show wid (c :: (bytesOf s).drop (a + 1)) = 0 by rw [wid, if_neg e1, if_pos e2], if_neg (by omega), if_neg (by omega), if_neg (by omega), if_pos (by omega)]
    rfl
  by_cases e3 : c < 224
  · rw [show wid (c :: (bytesOf s).drop (a + 1)) = (match acc 1 (c - 192) ((bytesOf s).drop (a + 1)) with | some v => if 128 ≤ v then 2 else 0 | none => 0) by rw [wid, if_neg e1, if_neg e2, if_pos e3], if_neg (by omega), if_neg (by omega), if_pos (by omega), if_pos e3]
    rw [show loopF (ref01_Long_B12 s a) (c - 192, 1) = _ from L2 (by omega) (by omega), Option.bind_some]
    cases hv : acc 1 (c - 192) ((bytesOf s).drop (a + 1)) with
    | none => rfl
    | some v =>
      obtain ⟨b1, b2⟩ := acc_bd hv
      simp only
      by_cases e : v < 128
      · rw [if_pos e, if_neg (by omega)]; rfl
      · rw [if_neg e, if_neg (by omega), if_neg (by omega), if_pos (by omega)]; rfl
  by_cases e4 : c < 240
  · rw [show wid (c :: (bytesOf s).drop (a + 1)) = (match acc 2 (c - 224) ((bytesOf s).drop (a + 1)) with | some v => if 2048 ≤ v ∧ (v < 55296 ∨ 57344 ≤ v) then 3 else 0 | none => 0) by rw [wid, if_neg e1, if_neg e2, if_neg e3, if_pos e4], if_neg (by omega), if_pos (by omega), if_pos e4]
    rw [show loopF (ref01_Long_B8 s a) (c - 224, 1) = _ from L3 (by omega) (by omega), Option.bind_some]
    cases hv : acc 2 (c - 224) ((bytesOf s).drop (a + 1)) with
    | none => rfl
    | some v =>
      obtain ⟨b1, b2⟩ := acc_bd hv
      simp only
      by_cases e : v < 2048
      · rw [if_pos e, if_neg (c := 2048 ≤ v ∧ _) (by omega)]; rfl
      rw [if_neg e, if_neg (by omega)]
      by_cases e5 : 55296 ≤ v
      · rw [if_pos e5]
        by_cases e6 : v < 57344
        · rw [if_pos e6, if_neg (c := 2048 ≤ v ∧ _) (by omega)]; rfl
        · rw [if_neg e6, if_pos (c := 2048 ≤ v ∧ _) (by omega)]; rfl
      · rw [if_neg e5, if_pos (c := 2048 ≤ v ∧ _) (by omega)]; rfl
  by_cases e5 : c < 248
  · rw [show wid (c :: (bytesOf s).drop (a + 1)) = (match acc 3 (c - 240) ((bytesOf s).drop (a + 1)) with | some v => if 65536 ≤ v ∧ v ≤ 1114111 then 4 else 0 | none => 0) by rw [wid, if_neg e1, if_neg e2, if_neg e3, if_neg e4, if_pos e5], if_pos (by omega), if_pos e5]
    rw [show loopF (ref01_Long_B0 s a) (c - 240, 1) = _ from L4 (by omega) (by omega), Option.bind_some]
    cases hv : acc 3 (c - 240) ((bytesOf s).drop (a + 1)) with
    | none => rfl
    | some v =>
      obtain ⟨b1, b2⟩ := acc_bd hv
      simp only
      by_cases e : v < 65536
      · rw [if_pos e, if_neg (c := 65536 ≤ v ∧ _) (by omega)]; rfl
      rw [if_neg e]
      by_cases e6 : 1114111 < v
      · rw [if_pos e6, if_neg (c := 65536 ≤ v ∧ _) (by omega)]; rfl
      · rw [if_neg e6, if_pos (c := 65536 ≤ v ∧ _) (by omega), if_pos (by omega), if_neg (by omega)]; rfl
  · rw [show wid (c :: (bytesOf s).drop (a + 1)) = 0 by rw [wid, if_neg e1, if_neg e2, if_neg e3, if_neg e4, if_neg e5], if_pos (by omega), if_neg e5, if_pos (by omega), if_neg e4, if_pos (by omega), if_neg e3, if_pos (by omega)]
    rfl
end Go.Vid
