/- Plain laws: what is read, as a function of lists; the program's and the document's. No condition. -/
import Derived.Test.YtkdlblpidghjcaaDoorP1
set_option linter.unusedSimpArgs false
set_option linter.unusedVariables false
set_option maxRecDepth 20000
namespace Go.Vid
open Go.Vabs
theorem drop_get {b : List Int} {a k : Nat} : (b.drop a)[k]? = b[a + k]? := List.getElem?_drop
def wordS (b s : List Int) (q : Nat × Int) : Nat × Int := if q.2 = 0 then (if Pre s (b.drop q.1) then (q.1 + s.length, 0) else (q.1, 2)) else q
def numS (b : List Int) (most : Int) (q : Nat × Int) : Int × Nat × Int := if q.2 = 0 then ((numL (b.drop q.1) most).1, q.1 + (numL (b.drop q.1) most).2.1, (numL (b.drop q.1) most).2.2) else (0, q)
def sgnS (b : List Int) (most : Int) (q : Nat × Int) : Int × Nat × Int := if q.2 = 0 then ((signL (b.drop q.1) most).1, q.1 + (signL (b.drop q.1) most).2.1, (signL (b.drop q.1) most).2.2) else (0, q)
def endS (b : List Int) (q : Nat × Int) : Nat × Int := if q.2 = 0 then (if q.1 < b.length then (q.1, 2) else q) else q
def rd (b : List Int) (q : Nat × Int) : Reader_cnf := { b := b, at' := (q.1 : Int), e := q.2 }
def ra (b : List Int) (q : Nat × Int) : At_ref03 := { b := b, n := (q.1 : Int), bad := q.2 }
theorem wordS_le {b s : List Int} {q : Nat × Int} (h : q.1 ≤ b.length) : (wordS b s q).1 ≤ b.length := by
 unfold wordS
 split
 ·split
  ·rename_i e
   have := e.len
   rw [List.length_drop] at this
   simp only
   omega
  ·exact h
 ·exact h
theorem numS_le {b : List Int} {most : Int} {q : Nat × Int} (h : q.1 ≤ b.length) : (numS b most q).2.1 ≤ b.length := by
 unfold numS
 split
 ·have := (numL_bd (b.drop q.1) most).2.2
  rw [List.length_drop] at this
  simp only
  omega
 ·exact h
theorem sgnS_le {b : List Int} {most : Int} {q : Nat × Int} (h : q.1 ≤ b.length) : (sgnS b most q).2.1 ≤ b.length := by
 unfold sgnS
 split
 ·have := signL_le (b.drop q.1) most
  rw [List.length_drop] at this
  simp only
  omega
 ·exact h
section
variable {b : List Int} (hb : IsB b) (hl : b.length ≤ 1000000000) {q : Nat × Int} (h : q.1 ≤ b.length)
include hb hl h
theorem word_eq (s : ByteArray) : cnf_reader_word s (rd b q) = some (rd b (wordS b (bytesOf s) q)) := by
 obtain ⟨a, e⟩ := q
 unfold cnf_reader_word wordS rd
 simp only [ieq_iff]
 by_cases he : e = 0
 ·rw [if_pos he, if_pos he, Is_eq hb hl, if_pos (by simp only at h; omega), Int.toNat_natCast]
  by_cases hp : Pre (bytesOf s) (b.drop a)
  ·rw [if_pos hp, if_pos hp, Option.bind_some]
   simp only [if_true, he]
   rfl
  ·rw [if_neg hp, if_neg hp, Option.bind_some]
   simp only [Bool.false_eq_true, if_false]
 ·rw [if_neg he, if_neg he]
theorem number_eq (most : Int) : cnf_reader_number most (rd b q) = some ((numS b most q).1, rd b (numS b most q).2) := by
 obtain ⟨a, e⟩ := q
 unfold cnf_reader_number numS rd
 simp only [ieq_iff]
 by_cases he : e = 0
 ·rw [if_pos he, if_pos he, Number_eq hb hl (by simp only at h; omega), Int.toNat_natCast, Option.bind_some]
  rfl
 ·rw [if_neg he, if_neg he]
theorem signed_eq (most : Int) : cnf_reader_signed most (rd b q) = some ((sgnS b most q).1, rd b (sgnS b most q).2) := by
 obtain ⟨a, e⟩ := q
 unfold cnf_reader_signed sgnS rd
 simp only [ieq_iff]
 by_cases he : e = 0
 ·rw [if_pos he, if_pos he, Signed_eq hb hl (by simp only at h; omega), Int.toNat_natCast, Option.bind_some]
  rfl
 ·rw [if_neg he, if_neg he]
omit hb hl in
theorem end_eq : cnf_reader_end (rd b q) = some (rd b (endS b q)) := by
 obtain ⟨a, e⟩ := q
 unfold cnf_reader_end endS rd
 simp only [ieq_iff, ilt_iff, lenI_eq]
 by_cases he : e = 0
 ·rw [if_pos he, if_pos he]
  by_cases ha : a < b.length
  ·rw [if_pos (by omega), if_pos ha]
  ·rw [if_neg (by omega), if_neg ha]
 ·rw [if_neg he, if_neg he]
omit hb hl in
theorem refEnd_eq : ref03_End (ra b q) = some (ra b (endS b q)) := by
 obtain ⟨a, e⟩ := q
 unfold ref03_End endS ra
 simp only [ieq_iff, ilt_iff, lenI_eq]
 by_cases he : e = 0
 ·rw [if_pos he, if_pos he]
  by_cases ha : a < b.length
  ·rw [if_pos (by omega), if_pos ha]
  ·rw [if_neg (by omega), if_neg ha]
 ·rw [if_neg he, if_neg he]
end
end Go.Vid
set_option linter.unusedSimpArgs false
set_option linter.unusedVariables false
set_option maxRecDepth 20000
namespace Go.Vid
open Go.Vabs
def clS (b : List Int) (most : Int) : Nat → List Int → Nat × Int → List Int × Nat × Int
 | 0, _, q => ([], q)
 | n + 1, acc, q =>
  if q.2 = 0 then
   if (sgnS b most q).2.2 = 0 then
    if (sgnS b most q).1 = 0 then (acc, wordS b [10] (sgnS b most q).2)
    else if acc.length = 1000 then ([], q.1, 3)
    else clS b most n (acc ++ [(sgnS b most q).1]) (wordS b [32] (sgnS b most q).2)
   else ([], (sgnS b most q).2)
  else ([], q)
theorem numL_adv {L : List Int} {most : Int} (h : (numL L most).2.2 = 0) : 1 ≤ (numL L most).2.1 := by
 unfold numL at h ⊢
 by_cases e1 : lead dig L = 0
 ·rw [if_pos e1] at h; cases h
 rw [if_neg e1] at h ⊢
 split at h
 ·cases h
 ·rename_i hc
  rw [if_neg hc]
  split at h
  ·cases h
  ·simp only
   omega
theorem signL_adv {L : List Int} {most : Int} (h : (signL L most).2.2 = 0) : 1 ≤ (signL L most).2.1 := by
 unfold signL at h ⊢
 by_cases e : Pre [45] L
 ·rw [if_pos e] at h ⊢
  split at h
  ·rename_i h1
   rw [if_pos h1]
   split at h
   ·cases h
   ·rename_i h2
    rw [if_neg h2]
    simp only
    omega
  ·exact absurd h (by assumption)
 ·rw [if_neg e] at h ⊢
  exact numL_adv h
theorem wordS_ge (b s : List Int) (q : Nat × Int) : q.1 ≤ (wordS b s q).1 := by
 unfold wordS
 split
 ·split
  ·simp only; omega
  ·exact Nat.le_refl _
 ·exact Nat.le_refl _
theorem clS_le {b : List Int} {most : Int} : ∀ (n : Nat) (acc : List Int) (q : Nat × Int), q.1 ≤ b.length → (clS b most n acc q).2.1 ≤ b.length
 | 0, acc, q, h => h
 | n + 1, acc, q, h => by
  rw [clS]
  split
  ·split
   ·split
    ·exact wordS_le (sgnS_le h)
    ·split
     ·exact h
     ·exact clS_le n _ _ (wordS_le (sgnS_le h))
   ·exact sgnS_le h
  ·exact h
def Fuel (b : List Int) (n : Nat) (q : Nat × Int) : Prop := 1 ≤ n ∧ (q.2 = 0 → b.length - q.1 + 2 ≤ n)
theorem fuel_step {b : List Int} {most : Int} {n : Nat} {q : Nat × Int} (hq : q.1 ≤ b.length) (h : Fuel b (n + 1) q) (h0 : q.2 = 0) (h1 : (sgnS b most q).2.2 = 0) : Fuel b n (wordS b [32] (sgnS b most q).2) := by
 have hle := sgnS_le (most := most) hq
 have g := h.2 h0
 have hadv : q.1 + 1 ≤ (sgnS b most q).2.1 := by
  unfold sgnS at h1 ⊢
  rw [if_pos h0] at h1 ⊢
  have := signL_adv h1
  simp only
  omega
 have hw := wordS_ge b [32] (sgnS b most q).2
 refine ⟨by omega, fun _ => by omega⟩
section
variable {b : List Int} (hb : IsB b) (hl : b.length ≤ 1000000000)
include hb hl
theorem clause_loop (most : Int) : ∀ (n : Nat) (acc : List Int) (q : Nat × Int), q.1 ≤ b.length → acc.length ≤ 1000 → Fuel b n q → ∃ r, loopF (cnf_reader_clause_B0 most) (acc, b, (q.1 : Int), q.2) = some r ∧
  (match r with
   | .inl (y49, y50, y51, y52) => ((y49, ({ b := y50, at' := y51, e := y52 } : Reader_cnf)) : List Int × Reader_cnf)
   | .inr (.inl (y53, y54, y55)) => ([], { b := y53, at' := y54, e := y55 })
   | .inr (.inr (y56, y57, y58)) => ([], { b := y56, at' := y57, e := y58 })) = ((clS b most n acc q).1, rd b (clS b most n acc q).2) := by
 intro n
 induction n with
 | zero => intro acc q _ _ h; exact absurd h.1 (by decide)
 | succ n ih =>
  intro acc q hq hacc hf
  by_cases h0 : q.2 = 0
  ·have hs := signed_eq hb hl hq most
   have hle := sgnS_le (most := most) hq
   unfold rd at hs
   by_cases h1 : (sgnS b most q).2.2 = 0
   ·by_cases h2 : (sgnS b most q).1 = 0
    ·refine ⟨_, loopF_inr (r := .inl (acc, b, ((wordS b [10] (sgnS b most q).2).1 : Int), (wordS b [10] (sgnS b most q).2).2)) ?_, ?_⟩
     ·unfold cnf_reader_clause_B0
      simp only
      rw [if_pos (by rw [ieq_iff]; exact h0), hs, Option.bind_some]
      simp only [ieq_iff]
      rw [if_pos h1, if_pos h2]
      have := word_eq hb hl hle { data := #[10] }
      unfold rd at this
      rw [this, Option.bind_some]
      rfl
     ·rw [clS, if_pos h0, if_pos h1, if_pos h2]
      rfl
    ·by_cases h3 : acc.length = 1000
     ·refine ⟨_, loopF_inr (r := .inr (.inl (b, (q.1 : Int), 3))) ?_, ?_⟩
      ·unfold cnf_reader_clause_B0
       simp only
       rw [if_pos (by rw [ieq_iff]; exact h0), hs, Option.bind_some]
       simp only [ieq_iff, lenI_eq]
       rw [if_pos h1, if_neg h2, if_pos (by omega)]
      ·rw [clS, if_pos h0, if_pos h1, if_neg h2, if_pos h3]
       rfl
     ·obtain ⟨r, hr, hr2⟩ := ih (acc ++ [(sgnS b most q).1]) (wordS b [32] (sgnS b most q).2) (wordS_le hle) (by rw [List.length_append, List.length_singleton]; omega) (fuel_step hq hf h0 h1)
      refine ⟨r, ?_, ?_⟩
      ·rw [loopF_inl (j := (acc ++ [(sgnS b most q).1], b, ((wordS b [32] (sgnS b most q).2).1 : Int), (wordS b [32] (sgnS b most q).2).2)), hr]
       unfold cnf_reader_clause_B0
       simp only
       rw [if_pos (by rw [ieq_iff]; exact h0), hs, Option.bind_some]
       simp only [ieq_iff, lenI_eq]
       rw [if_pos h1, if_neg h2, if_neg (by omega), if_pos (by rw [capN_iff, lenN_eq, List.length_append, List.length_singleton]; omega)]
       have := word_eq hb hl hle { data := #[32] }
       unfold rd at this
       rw [this, Option.bind_some]
       rfl
      ·rw [hr2, clS, if_pos h0, if_pos h1, if_neg h2, if_neg h3]
   ·refine ⟨_, loopF_inr (r := .inr (.inl (b, ((sgnS b most q).2.1 : Int), (sgnS b most q).2.2))) ?_, ?_⟩
    ·unfold cnf_reader_clause_B0
     simp only
     rw [if_pos (by rw [ieq_iff]; exact h0), hs, Option.bind_some]
     simp only [ieq_iff]
     rw [if_neg h1]
    ·rw [clS, if_pos h0, if_neg h1]
     rfl
  ·refine ⟨_, loopF_inr (r := .inr (.inr (b, (q.1 : Int), q.2))) ?_, ?_⟩
   ·unfold cnf_reader_clause_B0
    simp only
    rw [if_neg (by rw [ieq_iff]; exact h0)]
   ·rw [clS, if_neg h0]
    rfl
omit hb hl in
theorem fuel_all (q : Nat × Int) : Fuel b (b.length + 2) q := ⟨by omega, fun _ => by omega⟩
def clQ (b : List Int) (most : Int) (q : Nat × Int) : List Int × Nat × Int := clS b most (b.length + 2) [] q
theorem clause_eq (most : Int) {q : Nat × Int} (h : q.1 ≤ b.length) : cnf_reader_clause most (rd b q) = some ((clQ b most q).1, rd b (clQ b most q).2) := by
 obtain ⟨r, h1, h2⟩ := clause_loop hb hl most (b.length + 2) [] q h (by decide) (fuel_all q)
 unfold cnf_reader_clause
 show Option.bind (loopF (cnf_reader_clause_B0 most) ([], b, (q.1 : Int), q.2)) _ = _
 rw [h1, Option.bind_some]
 unfold clQ
 rw [← h2]
 match r with
 | .inl (y49, y50, y51, y52) => rfl
 | .inr (.inl (y53, y54, y55)) => rfl
 | .inr (.inr (y56, y57, y58)) => rfl
end
theorem clQ_le {b : List Int} {most : Int} {q : Nat × Int} (h : q.1 ≤ b.length) : (clQ b most q).2.1 ≤ b.length := clS_le _ _ _ h
def parS (b : List Int) (most : Int) : Nat → List (List Int) → Nat × Int → List (List Int) × Nat × Int
 | 0, cs, q => (cs, q)
 | n + 1, cs, q => if (clQ b most q).2.2 = 0 then parS b most n (cs ++ [(clQ b most q).1]) (clQ b most q).2 else (cs, (clQ b most q).2)
theorem parS_le {b : List Int} {most : Int} : ∀ (n : Nat) (cs : List (List Int)) (q : Nat × Int), q.1 ≤ b.length → (parS b most n cs q).2.1 ≤ b.length
 | 0, cs, q, h => h
 | n + 1, cs, q, h => by
  rw [parS]
  split
  ·exact parS_le n _ _ (clQ_le h)
  ·exact clQ_le h
theorem clQ_bad {b : List Int} {most : Int} {q : Nat × Int} (h : q.2 ≠ 0) : clQ b most q = ([], q) := by
 unfold clQ
 rw [clS, if_neg h]
section
variable {b : List Int} (hb : IsB b) (hl : b.length ≤ 1000000000)
include hb hl
theorem parse_loop (most : Int) (N : Nat) (hN : N ≤ 1000000) : ∀ (n k : Nat) (cs : List (List Int)) (q : Nat × Int), k + n = N → q.1 ≤ b.length → cs.length ≤ k →
  loopF (cnf_Parse_B0 b most (N : Int)) (cs, b, (q.1 : Int), q.2, (k : Int)) = some ((parS b most n cs q).1, b, ((parS b most n cs q).2.1 : Int), (parS b most n cs q).2.2) := by
 intro n
 induction n with
 | zero =>
  intro k cs q hk hq hcs
  rw [loopF_inr (r := (cs, b, (q.1 : Int), q.2))]
  ·rfl
  ·unfold cnf_Parse_B0
   simp only
   rw [if_neg (by rw [ilt_iff]; omega)]
 | succ n ih =>
  intro k cs q hk hq hcs
  have hc := clause_eq hb hl most hq
  unfold rd at hc
  by_cases h0 : (clQ b most q).2.2 = 0
  ·rw [loopF_inl (j := (cs ++ [(clQ b most q).1], b, ((clQ b most q).2.1 : Int), (clQ b most q).2.2, ((k + 1 : Nat) : Int))), ih (k + 1) _ (clQ b most q).2 (by omega) (clQ_le hq) (by rw [List.length_append, List.length_singleton]; omega), parS, if_pos h0]
   unfold cnf_Parse_B0
   simp only
   rw [if_pos (by rw [ilt_iff]; omega), hc, Option.bind_some]
   simp only [ieq_iff]
   rw [if_pos h0, if_pos (by rw [capN_iff, lenN_eq, List.length_append, List.length_singleton]; omega), inc_ok (by omega)]
  ·rw [loopF_inr (r := (cs, b, ((clQ b most q).2.1 : Int), (clQ b most q).2.2)), parS, if_neg h0]
   unfold cnf_Parse_B0
   simp only
   rw [if_pos (by rw [ilt_iff]; omega), hc, Option.bind_some]
   simp only [ieq_iff]
   rw [if_neg h0]
end
def pcnf : List Int := [112, 32, 99, 110, 102, 32]
def hd1 (b : List Int) : Int × Nat × Int := numS b 100000 (wordS b pcnf (0, 0))
def hd2 (b : List Int) : Int × Nat × Int := numS b 20000 (wordS b [32] (hd1 b).2)
def hd3 (b : List Int) : Nat × Int := wordS b [10] (hd2 b).2
def body (b : List Int) : List (List Int) × Nat × Int := parS b (hd1 b).1 (hd2 b).1.toNat [] (hd3 b)
def fin (b : List Int) : Nat × Int := endS b (body b).2
def parseT (b : List Int) : Cnf × Int × Int :=
 if 100000 < b.length then ({ N := 0, cs := [] }, 0, 3)
 else if (fin b).2 = 0 then ({ N := (hd1 b).1, cs := (body b).1 }, ((fin b).1 : Int), 0)
 else ({ N := 0, cs := [] }, ((fin b).1 : Int), (fin b).2)
theorem nv_lim : ∀ {L : List Int} {lim n v : Int}, n ≤ lim → nv lim L n = some v → v ≤ lim
 | [], lim, n, v, h, hv => by rw [nv] at hv; cases hv; exact h
 | c :: t, lim, n, v, h, hv => by
  rw [nv] at hv
  split at hv
  ·cases hv
  ·exact nv_lim (by omega) hv
theorem numL_lim {L : List Int} {most : Int} (h : 0 ≤ most) : (numL L most).1 ≤ most := by
 unfold numL
 split
 ·exact h
 split
 ·exact h
 cases hv : nv (min most 2147483647) (L.take (lead dig L)) 0 with
 | none => exact h
 | some v => exact Int.le_trans (nv_lim (by omega) hv) (Int.min_le_left _ _)
theorem numS_bd (b : List Int) {most : Int} (hm : 0 ≤ most) (q : Nat × Int) : 0 ≤ (numS b most q).1 ∧ (numS b most q).1 ≤ most := by
 unfold numS
 split
 ·exact ⟨(numL_bd _ _).1, numL_lim hm⟩
 ·exact ⟨by simp, hm⟩
theorem hd1_le (b : List Int) : (hd1 b).2.1 ≤ b.length := numS_le (wordS_le (Nat.zero_le _))
theorem hd2_le (b : List Int) : (hd2 b).2.1 ≤ b.length := numS_le (wordS_le (hd1_le b))
theorem hd3_le (b : List Int) : (hd3 b).1 ≤ b.length := wordS_le (hd2_le b)
theorem body_le (b : List Int) : (body b).2.1 ≤ b.length := parS_le _ _ _ (hd3_le b)
theorem fin_le (b : List Int) : (fin b).1 ≤ b.length := by
 unfold fin endS
 have := body_le b
 split
 ·split <;> exact this
 ·exact this
theorem Parse_eq {b : List Int} (hb : IsB b) (hlen : b.length ≤ 1000000000) : cnf_Parse b = some (parseT b) := by
 unfold cnf_Parse parseT
 simp only [ilt_iff, lenI_eq]
 by_cases h0 : 100000 < b.length
 ·rw [if_pos (by omega), if_pos h0]
 rw [if_neg (by omega), if_neg h0]
 have e1 := word_eq hb hlen (q := (0, 0)) (Nat.zero_le _) { data := #[112, 32, 99, 110, 102, 32] }
 have e2 := number_eq hb hlen (q := wordS b pcnf (0, 0)) (wordS_le (Nat.zero_le _)) 100000
 have e3 := word_eq hb hlen (q := (hd1 b).2) (hd1_le b) { data := #[32] }
 have e4 := number_eq hb hlen (q := wordS b [32] (hd1 b).2) (wordS_le (hd1_le b)) 20000
 have e5 := word_eq hb hlen (q := (hd2 b).2) (hd2_le b) { data := #[10] }
 have hn := numS_bd b (most := 20000) (by decide) (wordS b [32] (hd1 b).2)
 rw [show ({ b := b, at' := 0, e := 0 } : Reader_cnf) = rd b (0, 0) from rfl, e1, Option.bind_some, show wordS b (bytesOf { data := #[112, 32, 99, 110, 102, 32] }) (0, 0) = wordS b pcnf (0, 0) from rfl, e2, Option.bind_some]
 simp only
 rw [show (numS b 100000 (wordS b pcnf (0, 0))).2 = (hd1 b).2 from rfl, show (numS b 100000 (wordS b pcnf (0, 0))).1 = (hd1 b).1 from rfl, e3, Option.bind_some, show wordS b (bytesOf { data := #[32] }) (hd1 b).2 = wordS b [32] (hd1 b).2 from rfl, e4, Option.bind_some]
 simp only
 rw [show (numS b 20000 (wordS b [32] (hd1 b).2)).2 = (hd2 b).2 from rfl, show (numS b 20000 (wordS b [32] (hd1 b).2)).1 = (hd2 b).1 from rfl, e5, Option.bind_some, show wordS b (bytesOf { data := #[10] }) (hd2 b).2 = hd3 b from rfl]
 rw [show (numS b 20000 (wordS b [32] (hd1 b).2)).1 = (hd2 b).1 from rfl] at hn
 have hfin : ∀ (cs : List (List Int)) (q : Nat × Int), q.1 ≤ b.length → body b = (cs, q) →
   (Option.bind (cnf_reader_end (rd b q)) fun v80 => if (ieq v80.e 0) = true then some ((({ N := (hd1 b).1, cs := cs } : Cnf), v80.at', 0)) else some ((({ N := 0, cs := ([] : List (List Int)) } : Cnf), v80.at', v80.e))) =
   some (if (fin b).2 = 0 then (({ N := (hd1 b).1, cs := (body b).1 } : Cnf), ((fin b).1 : Int), (0 : Int)) else (({ N := 0, cs := [] } : Cnf), ((fin b).1 : Int), (fin b).2)) := by
  intro cs q hq e
  unfold fin
  rw [end_eq hq, Option.bind_some, e]
  simp only [ieq_iff, rd]
  split <;> rfl
 by_cases hz : 0 < (hd2 b).1
 ·rw [if_pos hz, clause_eq hb hlen _ (hd3_le b), Option.bind_some]
  simp only
  obtain ⟨m, hm⟩ : ∃ m : Nat, (hd2 b).1 = ((m + 1 : Nat) : Int) := ⟨(hd2 b).1.toNat - 1, by omega⟩
  have hbd : body b = parS b (hd1 b).1 (m + 1) [] (hd3 b) := by
   unfold body
   rw [hm]
   rfl
  by_cases hc : (clQ b (hd1 b).1 (hd3 b)).2.2 = 0
  ·rw [if_pos (show ieq (rd b (clQ b (hd1 b).1 (hd3 b)).2).e 0 = true by rw [ieq_iff]; exact hc), if_pos (by decide)]
   have hloop := parse_loop hb hlen (hd1 b).1 (m + 1) (by omega) m 1 [(clQ b (hd1 b).1 (hd3 b)).1] (clQ b (hd1 b).1 (hd3 b)).2 (by omega) (clQ_le (hd3_le b)) (by simp)
   have hbd2 : body b = parS b (hd1 b).1 m [(clQ b (hd1 b).1 (hd3 b)).1] (clQ b (hd1 b).1 (hd3 b)).2 := by rw [hbd, parS, if_pos hc]; rfl
   rw [← hbd2] at hloop
   have e0 : iadd IntKind.i64 0 1 = ((1 : Nat) : Int) := by decide
   rw [e0, hm]
   unfold rd
   simp only
   rw [hloop, Option.bind_some]
   exact hfin (body b).1 (body b).2 (body_le b) rfl
  ·rw [if_neg (show ¬ ieq (rd b (clQ b (hd1 b).1 (hd3 b)).2).e 0 = true by rw [ieq_iff]; exact hc)]
   exact hfin [] (clQ b (hd1 b).1 (hd3 b)).2 (clQ_le (hd3_le b)) (by rw [hbd, parS, if_neg hc])
 ·rw [if_neg hz]
  exact hfin [] (hd3 b) (hd3_le b) (by unfold body; rw [show (hd2 b).1.toNat = 0 by omega]; rfl)
end Go.Vid
