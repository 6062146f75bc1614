/- Plain laws: the document's clauses are the program's. No condition. -/
import Derived.Test.YthmnnieiibeiaaaP1
set_option linter.unusedSimpArgs false
set_option linter.unusedVariables false
set_option maxRecDepth 10000
namespace Go.Vid
open Go.Vabs
theorem lt_flip (a : Aig) (k : Int) {l : Int} (h : 0 ≤ l) : a.lt k (flip l) = -a.lt k l := by
 unfold Aig.lt flip
 by_cases e : l % 2 = 1
 ·rw [if_pos e, if_pos e, if_neg (by omega), Int.neg_neg]
  have : (l - 1) / 2 = l / 2 := by omega
  rw [this]
 ·rw [if_neg e, if_neg e, if_pos (by omega)]
  have : (l + 1) / 2 = l / 2 := by omega
  rw [this]
theorem lt_range {a : Aig} (h : a.Bd) {k l : Int} (hk : 0 ≤ k ∧ k ≤ 4) (hl : 0 ≤ l ∧ l ≤ 1000000) : -1000000 ≤ a.lt k l ∧ a.lt k l ≤ 1000000 := by
 have := frames_bd h hk
 unfold Aig.lt
 split <;> omega
theorem ref19_Vars_eq {a : Aig} (h : a.Bd) {k : Int} (hk : 0 ≤ k ∧ k ≤ 4) : ref19_Vars a k = some (k * (a.V + 1)) := by
 have hv := h.v0
 have hm := frames_bd h hk
 unfold ref19_Vars
 rw [ref06_Vars_eq h, Option.bind_some, iadd_ok (by omega) (by omega), imul_ok (by omega) (by omega)]
theorem ref19_Lit_eq {a : Aig} (h : a.Bd) {k l : Int} (hk : 0 ≤ k ∧ k ≤ 4) (hl : 0 ≤ l ∧ l ≤ 1000000) : ref19_Lit a k l = some (a.lt k l) := by
 have hv := h.v0
 have hm := frames_bd h hk
 unfold ref19_Lit Aig.lt
 rw [ref06_Vars_eq h, Option.bind_some, irem2_ok hl.1, iquo2_ok hl.1 (by omega), iadd_ok (a := a.V) (by omega) (by omega), imul_ok (by omega) (by omega), iadd_ok (a := k * (a.V + 1)) (by omega) (by omega), iadd_ok (by omega) (by omega), ineg_ok (by omega) (by omega)]
 simp only [ieq_iff]
 split <;> rfl
theorem ineg_lt {a : Aig} (h : a.Bd) {k l : Int} (hk : 0 ≤ k ∧ k ≤ 4) (hl : 0 ≤ l ∧ l ≤ 1000000) : ineg .i64 (a.lt k l) = -a.lt k l := by
 have := lt_range h hk hl
 exact ineg_ok (by omega) (by omega)
theorem ref19_Frame_eq {a : Aig} (h : a.Bd) (hg : GatesB a) {k : Int} (hk : 0 ≤ k ∧ k ≤ 4) : ref19_Frame a k = some (a.frame k) := by
 obtain ⟨b1, b2, b3, b4⟩ := h
 have h : a.Bd := ⟨b1, b2, b3, b4⟩
 unfold ref19_Frame
 have h01 : -a.lt k 0 = a.lt k 1 := by
  have := lt_flip a k (l := 0) (by omega)
  rw [← this]
  rfl
 rw [ref19_Lit_eq h hk (by omega), Option.bind_some, ineg_lt h hk (by omega), h01]
 have hc := loopF_count (body := ref19_Frame_B0 a k) (fun j => ([a.lt k 1] :: upto (a.gF k) a.G j, (j : Int))) a.G.length (r := a.frame k) (fun j hj => by
  have hx := List.getElem?_eq_getElem hj
  have hb := hg a.G[j] (List.getElem_mem hj)
  have hu := upto_succ (g := a.gF k) hx
  have hl := gF_len a k j
  simp only [ref19_Frame_B0]
  rw [if_pos (by simp [lenI_eq]; omega)]
  rw [lenI_eq, iadd_ok (a := a.I) (by omega) (by omega), iadd_ok (a := a.I + a.L.length) (by omega) (by omega), iadd_ok (a := a.I + a.L.length + 1) (by omega) (by omega), imul_ok (by omega) (by omega)]
  have hgl : 2 * (a.I + a.L.length + 1 + (j : Int)) = a.gl j := rfl
  have hgb : 0 ≤ a.gl j ∧ a.gl j ≤ 200000 := by unfold Aig.gl; omega
  rw [hgl, ref19_Lit_eq h hk (by omega), Option.bind_some, getI_nat, hx, Option.bind_some, ref19_Lit_eq h hk (by omega), Option.bind_some, ref19_Lit_eq h hk (by omega), Option.bind_some, ineg_lt h hk (by omega), ineg_lt h hk (by omega), ineg_lt h hk (by omega)]
  rw [if_pos (by rw [capN_iff, lenN_eq]; simp; omega), iadd_ok (by omega) (by omega), hu]
  have e1 : a.lt k (a.gl j + 1) = -a.lt k (a.gl j) := by
   rw [← lt_flip a k hgb.1]
   unfold flip
   rw [if_neg (by unfold Aig.gl; omega)]
  unfold Aig.gF
  rw [e1, lt_flip a k (by omega), lt_flip a k (by omega)]
  rfl) (by
  simp only [ref19_Frame_B0]
  rw [if_neg (by simp [lenI_eq])]
  rfl)
 have hc : loopF (ref19_Frame_B0 a k) ([[a.lt k 1]], 0) = some (a.frame k) := hc
 rw [hc, Option.bind_some]
def Aig.lk (a : Aig) (x : Latch) (i : Nat) : List (List Int) := [[-a.lt 1 (2 * (a.I + 1 + i)), a.lt 0 x.next], [a.lt 1 (2 * (a.I + 1 + i)), -a.lt 0 x.next]]
def Aig.link (a : Aig) : List (List Int) := upto a.lk a.L a.L.length
theorem lk_len (a : Aig) (i : Nat) : (upto a.lk a.L i).length ≤ 2 * a.L.length := upto_length 2 (fun x i => by simp [Aig.lk]) i
theorem enc_Link_eq {a : Aig} (h : a.Bd) (hg : LatchesB a) : enc_Link a = some a.link := by
 obtain ⟨b1, b2, b3, b4⟩ := h
 have h : a.Bd := ⟨b1, b2, b3, b4⟩
 unfold enc_Link
 have hc := loopF_count (body := enc_Link_B0 a) (fun j => (upto a.lk a.L j, (j : Int))) a.L.length (r := a.link) (fun j hj => by
  have hx := List.getElem?_eq_getElem hj
  have hb := hg a.L[j] (List.getElem_mem hj)
  have hu := upto_succ (g := a.lk) hx
  have hl := lk_len a j
  simp only [enc_Link_B0]
  rw [if_pos (by simp [lenI_eq]; omega), getI_nat, hx, Option.bind_some, iadd_ok (a := a.I) (by omega) (by omega), iadd_ok (a := a.I + 1) (by omega) (by omega), imul_ok (by omega) (by omega)]
  rw [enc_Lit_eq h (by omega) (by omega), Option.bind_some, enc_Lit_eq h (by omega) (by omega), Option.bind_some, ineg_lt h (by omega) (by omega), ineg_lt h (by omega) (by omega)]
  rw [if_pos (by rw [capN_iff, lenN_eq]; simp; omega), iadd_ok (by omega) (by omega), hu]
  rfl) (by
  simp only [enc_Link_B0]
  rw [if_neg (by simp [lenI_eq])]
  rfl)
 have hc : loopF (enc_Link_B0 a) ([], 0) = some a.link := hc
 rw [hc, Option.bind_some]
theorem ref19_Link_eq {a : Aig} (h : a.Bd) (hg : LatchesB a) : ref19_Link a = some a.link := by
 obtain ⟨b1, b2, b3, b4⟩ := h
 have h : a.Bd := ⟨b1, b2, b3, b4⟩
 unfold ref19_Link
 have hc := loopF_count (body := ref19_Link_B0 a) (fun j => (upto a.lk a.L j, (j : Int))) a.L.length (r := a.link) (fun j hj => by
  have hx := List.getElem?_eq_getElem hj
  have hb := hg a.L[j] (List.getElem_mem hj)
  have hu := upto_succ (g := a.lk) hx
  have hl := lk_len a j
  simp only [ref19_Link_B0]
  rw [if_pos (by simp [lenI_eq]; omega), iadd_ok (a := a.I) (by omega) (by omega), iadd_ok (a := a.I + 1) (by omega) (by omega), imul_ok (by omega) (by omega)]
  rw [ref19_Lit_eq h (by omega) (by omega), Option.bind_some, getI_nat, hx, Option.bind_some, ref19_Lit_eq h (by omega) (by omega), Option.bind_some, ineg_lt h (by omega) (by omega), ineg_lt h (by omega) (by omega)]
  rw [if_pos (by rw [capN_iff, lenN_eq]; simp; omega), iadd_ok (by omega) (by omega), hu]
  rfl) (by
  simp only [ref19_Link_B0]
  rw [if_neg (by simp [lenI_eq])]
  rfl)
 have hc : loopF (ref19_Link_B0 a) ([], 0) = some a.link := hc
 rw [hc, Option.bind_some]
theorem ref19_First_eq {a : Aig} (h : a.Bd) (hg : LatchesB a) : ref19_First a = some a.first := by
 obtain ⟨b1, b2, b3, b4⟩ := h
 have h : a.Bd := ⟨b1, b2, b3, b4⟩
 unfold ref19_First
 have hc := loopF_count (body := ref19_First_B0 a) (fun j => (upto a.ff a.L j, (j : Int))) a.L.length (r := a.first) (fun j hj => by
  have hx := List.getElem?_eq_getElem hj
  have hb := hg a.L[j] (List.getElem_mem hj)
  have hu := upto_succ (g := a.ff) hx
  have hl := ff_len a j
  simp only [ref19_First_B0]
  rw [if_pos (by simp [lenI_eq]; omega), iadd_ok (a := a.I) (by omega) (by omega), iadd_ok (a := a.I + 1) (by omega) (by omega), imul_ok (by omega) (by omega)]
  rw [ref19_Lit_eq h (by omega) (by omega), Option.bind_some, getI_nat, hx, Option.bind_some, ineg_lt h (by omega) (by omega), iadd_ok (by omega) (by omega), hu]
  have e1 : a.lt 0 (2 * (a.I + 1 + j) + 1) = -a.lt 0 (2 * (a.I + 1 + j)) := by
   rw [← lt_flip a 0 (by omega)]
   unfold flip
   rw [if_neg (by omega)]
  rw [show a.ff a.L[j] j = (if a.L[j].reset < 2 then [[a.lt 0 (2 * (a.I + 1 + j) + 1 - a.L[j].reset)]] else []) from rfl]
  split
  ·rename_i e
   simp only [ieq_iff] at e
   rw [if_pos (by rw [capN_iff, lenN_eq]; simp; omega), if_pos (by omega), e, Int.sub_zero, e1]
   rfl
  ·rename_i e
   simp only [ieq_iff] at e
   split
   ·rename_i e2
    simp only [ieq_iff] at e2
    rw [if_pos (by rw [capN_iff, lenN_eq]; simp; omega), if_pos (by omega), e2]
    have : 2 * (a.I + 1 + (j : Int)) + 1 - 1 = 2 * (a.I + 1 + j) := by omega
    rw [this]
    rfl
   ·rename_i e2
    simp only [ieq_iff] at e2
    rw [if_neg (by omega), List.append_nil]
    rfl) (by
  simp only [ref19_First_B0]
  rw [if_neg (by simp [lenI_eq])]
  rfl)
 have hc : loopF (ref19_First_B0 a) ([], 0) = some a.first := hc
 rw [hc, Option.bind_some]
theorem upto_mem {α β : Type} {g : α → Nat → List β} {l : List α} {i : Nat} {y : β} (h : y ∈ upto g l i) : ∃ (j : Nat) (x : α), l[j]? = some x ∧ j < i ∧ y ∈ g x j := by
 induction i with
 | zero => cases h
 | succ i ih =>
  cases hx : l[i]? with
  | none =>
   have : upto g l (i + 1) = upto g l i := by
    unfold upto
    rw [List.take_add_one, List.getElem?_zipIdx, hx]
    simp
   rw [this] at h
   obtain ⟨j, x, h1, h2, h3⟩ := ih h
   exact ⟨j, x, h1, by omega, h3⟩
  | some x =>
   rw [upto_succ hx, List.mem_append] at h
   rcases h with h | h
   ·obtain ⟨j, x, h1, h2, h3⟩ := ih h
    exact ⟨j, x, h1, by omega, h3⟩
   ·exact ⟨i, x, hx, by omega, h⟩
theorem frame_rows (a : Aig) (k : Int) : ∀ p ∈ a.frame k, p.length ≤ 1000000 := by
 intro p hp
 unfold Aig.frame at hp
 rw [List.mem_cons] at hp
 rcases hp with rfl | hp
 ·simp
 ·obtain ⟨j, x, _, _, h⟩ := upto_mem hp
  simp [Aig.gF] at h
  rcases h with rfl | rfl | rfl <;> simp
theorem link_rows (a : Aig) : ∀ p ∈ a.link, p.length ≤ 1000000 := by
 intro p hp
 obtain ⟨j, x, _, _, h⟩ := upto_mem hp
 simp [Aig.lk] at h
 rcases h with rfl | rfl <;> simp
theorem first_rows (a : Aig) : ∀ p ∈ a.first, p.length ≤ 1000000 := by
 intro p hp
 obtain ⟨j, x, _, _, h⟩ := upto_mem hp
 unfold Aig.ff at h
 split at h
 ·simp at h; subst h; simp
 ·cases h
end Go.Vid
