/- Plain laws about gates as clauses: what each function makes. No condition. -/
import Derived.Test.YthmnnieiibeiaaaP0
set_option linter.unusedSimpArgs false
set_option linter.unusedVariables false
set_option maxRecDepth 10000
namespace Go.Vid
open Go.Vabs
structure Aig.Bd (a : Aig) : Prop where
 i0 : 0 ≤ a.I
 i1 : a.I ≤ 20000
 l : a.L.length ≤ 20000
 g : a.G.length ≤ 20000
def Aig.V (a : Aig) : Int := a.I + a.L.length + a.G.length
theorem Aig.Bd.v0 {a : Aig} (h : a.Bd) : 0 ≤ a.V ∧ a.V ≤ 60000 := by
 obtain ⟨h1, h2, h3, h4⟩ := h
 unfold Aig.V
 omega
theorem RightP.bd {a : Aig} (h : RightP a) : a.Bd := by
 have := h.i0
 have := h.vars
 exact ⟨h.i0, by omega, by omega, by omega⟩
def Aig.lt (a : Aig) (k l : Int) : Int := if l % 2 = 1 then -(k * (a.V + 1) + l / 2 + 1) else k * (a.V + 1) + l / 2 + 1
theorem aig_Vars_eq {a : Aig} (h : a.Bd) : aig_Vars a = some a.V := by
 obtain ⟨h1, h2, h3, h4⟩ := h
 unfold aig_Vars Aig.V
 rw [lenI_eq, lenI_eq, iadd_ok (a := a.I) (by omega) (by omega), iadd_ok (by omega) (by omega)]
theorem ref06_Vars_eq {a : Aig} (h : a.Bd) : ref06_Vars a = some a.V := aig_Vars_eq h
theorem frames_bd {a : Aig} (h : a.Bd) {k : Int} (hk : 0 ≤ k ∧ k ≤ 4) : 0 ≤ k * (a.V + 1) ∧ k * (a.V + 1) ≤ 4 * 60001 := by
 have := h.v0
 exact ⟨Int.mul_nonneg hk.1 (by omega), Int.mul_le_mul hk.2 (by omega) (by omega) (by omega)⟩
theorem enc_Vars_eq {a : Aig} (h : a.Bd) {k : Int} (hk : 0 ≤ k ∧ k ≤ 4) : enc_Vars a k = some (k * (a.V + 1)) := by
 have hv := h.v0
 have hm := frames_bd h hk
 unfold enc_Vars
 rw [aig_Vars_eq h, Option.bind_some, iadd_ok (by omega) (by omega), imul_ok (by omega) (by omega)]
theorem enc_Lit_eq {a : Aig} (h : a.Bd) {k l : Int} (hk : 0 ≤ k ∧ k ≤ 4) (hl : 0 ≤ l ∧ l ≤ 1000000) : enc_Lit a k l = some (a.lt k l) := by
 have hm := frames_bd h hk
 unfold enc_Lit Aig.lt
 rw [enc_Vars_eq h hk, Option.bind_some, irem2_ok hl.1, iquo2_ok hl.1 (by omega), iadd_ok (a := k * (a.V + 1)) (by omega) (by omega), iadd_ok (by omega) (by omega), ineg_ok (by omega) (by omega)]
 simp only [ieq_iff]
 split <;> rfl
theorem enc_clause_eq {a : Aig} (h : a.Bd) {k : Int} (hk : 0 ≤ k ∧ k ≤ 4) {l : List Int} (hn : l.length ≤ 1000) (hl : ∀ x ∈ l, 0 ≤ x ∧ x ≤ 1000000) : enc_clause a k l = some (l.map (a.lt k)) := by
 unfold enc_clause
 rw [if_pos (by simp [mkOk, lenI_eq]; omega)]
 have hc := loopF_count (body := enc_clause_B0 a k l) (fun j => ((l.take j).map (a.lt k) ++ List.replicate (l.length - j) 0, (j : Int))) l.length (r := l.map (a.lt k)) (fun j hj => by
  have hx := List.getElem?_eq_getElem hj
  have hb := hl l[j] (List.getElem_mem hj)
  simp only [enc_clause_B0]
  rw [if_pos (by simp [lenI_eq]; omega), getI_nat, hx, Option.bind_some, enc_Lit_eq h hk hb, Option.bind_some, if_pos (by rw [inI_iff, lenN_eq]; simp; omega), nthI_nat]
  have hr : l.length - j = (l.length - (j + 1)) + 1 := by omega
  rw [hr, List.replicate_succ]
  have hlen : ((l.take j).map (a.lt k)).length = j := by simp; omega
  have hg : ((l.take j).map (a.lt k) ++ 0 :: List.replicate (l.length - (j + 1)) 0)[j]? = some 0 := by
   rw [List.getElem?_append_right (by omega), hlen]
   simp
  rw [hg, Option.bind_some, natI_eq, Int.toNat_natCast, iadd_ok (by omega) (by omega)]
  have hs : ((l.take j).map (a.lt k) ++ 0 :: List.replicate (l.length - (j + 1)) 0).set j (a.lt k l[j]) = (l.take (j + 1)).map (a.lt k) ++ List.replicate (l.length - (j + 1)) 0 := by
   rw [List.set_append_right _ _ (by omega), hlen, Nat.sub_self, List.take_succ_eq_append_getElem hj, List.map_append, List.append_assoc]
   rfl
  rw [hs]
  rfl) (by
  simp only [enc_clause_B0]
  rw [if_neg (by simp [lenI_eq])]
  simp)
 simp only [List.take_zero, List.map_nil, List.nil_append, Nat.sub_zero] at hc
 rw [lenN_eq]
 have hc : loopF (enc_clause_B0 a k l) (List.replicate l.length 0, 0) = some (l.map (a.lt k)) := hc
 rw [hc, Option.bind_some]
def flip (x : Int) : Int := if x % 2 = 1 then x - 1 else x + 1
theorem bxor_flip {x : Int} (h : 0 ≤ x ∧ x ≤ 1000000) : bxor .i64 x 1 = flip x := bxor1_ok h.1 (by omega)
def GatesB (a : Aig) : Prop := ∀ x ∈ a.G, 0 ≤ x.a ∧ x.a ≤ 200000 ∧ 0 ≤ x.b ∧ x.b ≤ 200000
def LatchesB (a : Aig) : Prop := ∀ x ∈ a.L, 0 ≤ x.next ∧ x.next ≤ 200000 ∧ 0 ≤ x.reset
theorem RightP.gb {a : Aig} (h : RightP a) : GatesB a := fun x hx => by
 obtain ⟨i, hi, rfl⟩ := List.mem_iff_getElem.1 hx
 obtain ⟨h1, h2, h3⟩ := h.gates i a.G[i] (List.getElem?_eq_getElem hi)
 have := h.vars
 have := h.i0
 omega
theorem RightP.lb {a : Aig} (h : RightP a) : LatchesB a := fun x hx => by
 obtain ⟨i, hi, rfl⟩ := List.mem_iff_getElem.1 hx
 obtain ⟨h1, h2, h3⟩ := h.latches i a.L[i] (List.getElem?_eq_getElem hi)
 have := h.vars
 have := h.i0
 omega
def Aig.gl (a : Aig) (i : Nat) : Int := 2 * (a.I + a.L.length + 1 + i)
def Aig.gF (a : Aig) (k : Int) (x : And) (i : Nat) : List (List Int) := [[a.lt k (a.gl i + 1), a.lt k x.a], [a.lt k (a.gl i + 1), a.lt k x.b], [a.lt k (a.gl i), a.lt k (flip x.a), a.lt k (flip x.b)]]
def Aig.frame (a : Aig) (k : Int) : List (List Int) := [a.lt k 1] :: upto (a.gF k) a.G a.G.length
theorem gF_len (a : Aig) (k : Int) (i : Nat) : (upto (a.gF k) a.G i).length ≤ 3 * a.G.length := upto_length 3 (fun x i => by simp [Aig.gF]) i
theorem flip_bd {x : Int} (h : 0 ≤ x ∧ x ≤ 200000) : 0 ≤ flip x ∧ flip x ≤ 200001 := by
 unfold flip
 split <;> omega
theorem enc_Frame_eq {a : Aig} (h : a.Bd) (hg : GatesB a) {k : Int} (hk : 0 ≤ k ∧ k ≤ 4) : enc_Frame a k = some (a.frame k) := by
 obtain ⟨b1, b2, b3, b4⟩ := h
 have h : a.Bd := ⟨b1, b2, b3, b4⟩
 unfold enc_Frame
 rw [enc_clause_eq h hk (by simp) (by simp), Option.bind_some]
 have hc := loopF_count (body := enc_Frame_B0 a k) (fun j => ([a.lt k 1] :: upto (a.gF k) a.G j, (j : Int))) a.G.length (r := a.frame k) (fun j hj => by
  have hx := List.getElem?_eq_getElem hj
  have hb := hg a.G[j] (List.getElem_mem hj)
  have f1 := flip_bd (x := a.G[j].a) (by omega)
  have f2 := flip_bd (x := a.G[j].b) (by omega)
  simp only [enc_Frame_B0]
  rw [if_pos (by simp [lenI_eq]; omega), getI_nat, hx, Option.bind_some]
  rw [lenI_eq, iadd_ok (a := a.I) (by omega) (by omega), iadd_ok (a := a.I + a.L.length) (by omega) (by omega), iadd_ok (a := a.I + a.L.length + 1) (by omega) (by omega), imul_ok (by omega) (by omega)]
  rw [bxor_flip (x := 2 * (a.I + a.L.length + 1 + j)) (by omega), bxor_flip (x := a.G[j].a) (by omega), bxor_flip (x := a.G[j].b) (by omega)]
  have hfl : flip (2 * (a.I + a.L.length + 1 + j)) = a.gl j + 1 := by unfold flip Aig.gl; rw [if_neg (by omega)]
  rw [hfl]
  have hgl : 0 ≤ a.gl j ∧ a.gl j ≤ 200000 := by unfold Aig.gl; omega
  rw [enc_clause_eq h hk (by simp) (by simp; omega), Option.bind_some, enc_clause_eq h hk (by simp) (by simp; omega), Option.bind_some, enc_clause_eq h hk (by simp) (by simp only [List.mem_cons, List.not_mem_nil, or_false, forall_eq_or_imp, forall_eq]; refine ⟨?_, ?_, ?_⟩ <;> omega), Option.bind_some]
  have hu := upto_succ (g := a.gF k) hx
  have hl := gF_len a k j
  rw [if_pos (by rw [capN_iff, lenN_eq]; simp; omega), iadd_ok (by omega) (by omega), hu]
  rfl) (by
  simp only [enc_Frame_B0]
  rw [if_neg (by simp [lenI_eq])]
  rfl)
 have hc : loopF (enc_Frame_B0 a k) ([[a.lt k 1]], 0) = some (a.frame k) := hc
 exact (by rw [show List.map (a.lt k) [1] = [a.lt k 1] from rfl, hc, Option.bind_some])
def Aig.ff (a : Aig) (x : Latch) (i : Nat) : List (List Int) := if x.reset < 2 then [[a.lt 0 (2 * (a.I + 1 + i) + 1 - x.reset)]] else []
def Aig.first (a : Aig) : List (List Int) := upto a.ff a.L a.L.length
theorem ff_len (a : Aig) (i : Nat) : (upto a.ff a.L i).length ≤ 1 * a.L.length := upto_length 1 (fun x i => by unfold Aig.ff; split <;> simp) i
theorem enc_First_eq {a : Aig} (h : a.Bd) (hg : LatchesB a) : enc_First a = some a.first := by
 obtain ⟨b1, b2, b3, b4⟩ := h
 have h : a.Bd := ⟨b1, b2, b3, b4⟩
 unfold enc_First
 have hc := loopF_count (body := enc_First_B0 a) (fun j => (upto a.ff a.L j, (j : Int))) a.L.length (r := a.first) (fun j hj => by
  have hx := List.getElem?_eq_getElem hj
  have hb := hg a.L[j] (List.getElem_mem hj)
  have hu := upto_succ (g := a.ff) hx
  have hl := ff_len a j
  simp only [enc_First_B0]
  rw [if_pos (by simp [lenI_eq]; omega), getI_nat, hx, Option.bind_some, iadd_ok (a := (j : Int)) (by omega) (by omega), hu]
  split
  ·rename_i e
   simp only [ilt_iff] at e
   rw [iadd_ok (a := a.I) (by omega) (by omega), iadd_ok (a := a.I + 1) (by omega) (by omega), imul_ok (by omega) (by omega), iadd_ok (a := 2 * (a.I + 1 + j)) (by omega) (by omega), isub_ok (by omega) (by omega)]
   rw [enc_clause_eq h (by omega) (by simp) (by simp; omega), Option.bind_some, if_pos (by rw [capN_iff, lenN_eq]; simp; omega)]
   unfold Aig.ff
   rw [if_pos e]
   rfl
  ·rename_i e
   simp only [ilt_iff] at e
   unfold Aig.ff
   rw [if_neg e, List.append_nil]
   rfl) (by
  simp only [enc_First_B0]
  rw [if_neg (by simp [lenI_eq])]
  rfl)
 have hc : loopF (enc_First_B0 a) ([], 0) = some a.first := hc
 rw [hc, Option.bind_some]
theorem Grow_eq {n : Int} (h0 : 0 ≤ n) (h1 : n ≤ 1000000) : slices_Grow_nil0 n = some [] := by
 unfold slices_Grow_nil0
 rw [if_neg (by simp; omega), isub_ok (a := 0) (by omega) (by omega), isub_ok (by omega) (by omega)]
 split
 ·rename_i e
  simp only [ilt_iff] at e
  rw [if_pos (by simp [cutOk]), if_pos (by simp [zOk]; omega), if_pos (by simp [cutOk])]
 ·rfl
theorem Grow'_eq {n : Int} (h0 : 0 ≤ n) (h1 : n ≤ 1000000) : slices_Grow'_nil0 n = some [] := by
 unfold slices_Grow'_nil0
 rw [if_neg (by simp; omega), isub_ok (a := 0) (by omega) (by omega), isub_ok (by omega) (by omega)]
 split
 ·rename_i e
  simp only [ilt_iff] at e
  rw [if_pos (by simp [cutOk]), if_pos (by simp [zOk]; omega), if_pos (by simp [cutOk])]
 ·rfl
theorem flat_take {α : Type} {l : List (List α)} {j : Nat} (hj : j < l.length) : (l.take (j + 1)).flatten = (l.take j).flatten ++ l[j] := by
 rw [List.take_succ_eq_append_getElem hj, List.flatten_append]
 simp
theorem flat_take_le {α : Type} (l : List (List α)) (j : Nat) : (l.take j).flatten.length ≤ l.flatten.length := by
 have := congrArg (fun l : List (List α) => l.flatten.length) (List.take_append_drop j l)
 simp only [List.flatten_append, List.length_append] at this
 omega
theorem Concat_eq {l : List (List (List Int))} (hn : l.length ≤ 1000) (hl : l.flatten.length ≤ 1000000) : slices_Concat l = some l.flatten := by
 unfold slices_Concat
 have h1 := loopF_count (body := slices_Concat_B0 l) (fun j => (((l.take j).flatten.length : Int), (j : Int))) l.length (r := (l.flatten.length : Int)) (fun j hj => by
  have hx := List.getElem?_eq_getElem hj
  have hf := flat_take hj
  have hb := flat_take_le l (j + 1)
  rw [hf] at hb
  simp only [List.length_append] at hb
  simp only [slices_Concat_B0]
  rw [if_pos (by simp [lenI_eq]; omega), getI_nat, hx, Option.bind_some, lenI_eq, iadd_ok (by omega) (by omega), if_neg (by simp; omega), iadd_ok (by omega) (by omega), hf, List.length_append]
  simp) (by
  simp only [slices_Concat_B0]
  rw [if_neg (by simp [lenI_eq])]
  simp)
 have h1 : loopF (slices_Concat_B0 l) (0, 0) = some (l.flatten.length : Int) := h1
 rw [h1, Option.bind_some, Grow_eq (by omega) (by omega), Option.bind_some]
 have h2 := loopF_count (body := slices_Concat_B1 l) (fun j => ((l.take j).flatten, (j : Int))) l.length (r := l.flatten) (fun j hj => by
  have hx := List.getElem?_eq_getElem hj
  have hf := flat_take hj
  have hb := flat_take_le l (j + 1)
  rw [hf] at hb
  simp only [slices_Concat_B1]
  rw [if_pos (by simp [lenI_eq]; omega), getI_nat, hx, Option.bind_some, if_pos (by rw [capN_iff, lenN_eq]; omega), iadd_ok (by omega) (by omega), hf]
  rfl) (by
  simp only [slices_Concat_B1]
  rw [if_neg (by simp [lenI_eq])]
  simp)
 have h2 : loopF (slices_Concat_B1 l) ([], 0) = some l.flatten := h2
 rw [h2, Option.bind_some]
theorem Concat'_eq {l : List (List Int)} (hn : l.length ≤ 1000) (hl : l.flatten.length ≤ 1000000) : slices_Concat' l = some l.flatten := by
 unfold slices_Concat'
 have h1 := loopF_count (body := slices_Concat'_B0 l) (fun j => (((l.take j).flatten.length : Int), (j : Int))) l.length (r := (l.flatten.length : Int)) (fun j hj => by
  have hx := List.getElem?_eq_getElem hj
  have hf := flat_take hj
  have hb := flat_take_le l (j + 1)
  rw [hf] at hb
  simp only [List.length_append] at hb
  simp only [slices_Concat'_B0]
  rw [if_pos (by simp [lenI_eq]; omega), getI_nat, hx, Option.bind_some, lenI_eq, iadd_ok (by omega) (by omega), if_neg (by simp; omega), iadd_ok (by omega) (by omega), hf, List.length_append]
  simp) (by
  simp only [slices_Concat'_B0]
  rw [if_neg (by simp [lenI_eq])]
  simp)
 have h1 : loopF (slices_Concat'_B0 l) (0, 0) = some (l.flatten.length : Int) := h1
 rw [h1, Option.bind_some, Grow'_eq (by omega) (by omega), Option.bind_some]
 have h2 := loopF_count (body := slices_Concat'_B1 l) (fun j => ((l.take j).flatten, (j : Int))) l.length (r := l.flatten) (fun j hj => by
  have hx := List.getElem?_eq_getElem hj
  have hf := flat_take hj
  have hb := flat_take_le l (j + 1)
  rw [hf] at hb
  simp only [slices_Concat'_B1]
  rw [if_pos (by simp [lenI_eq]; omega), getI_nat, hx, Option.bind_some, if_pos (by rw [capN_iff, lenN_eq]; omega), iadd_ok (by omega) (by omega), hf]
  rfl) (by
  simp only [slices_Concat'_B1]
  rw [if_neg (by simp [lenI_eq])]
  simp)
 have h2 : loopF (slices_Concat'_B1 l) ([], 0) = some l.flatten := h2
 rw [h2, Option.bind_some]
theorem upto_map {α β : Type} (f : α → β) (l : List α) : upto (fun x _ => [f x]) l l.length = l.map f := by
 have gen : ∀ j, j ≤ l.length → upto (fun x _ => [f x]) l j = (l.take j).map f := by
  intro j
  induction j with
  | zero => intro _; rfl
  | succ j ih =>
   intro hj
   rw [upto_succ (List.getElem?_eq_getElem (show j < l.length by omega)), ih (by omega), List.take_succ_eq_append_getElem (by omega), List.map_append]
   rfl
 have := gen l.length (Nat.le_refl _)
 rw [List.take_length] at this
 exact this
theorem enc_holds_eq {a : Aig} (h : a.Bd) (hc : ∀ x ∈ a.con, 0 ≤ x ∧ x ≤ 200000) (hn : a.con.length ≤ 2000) {m : List Int} (hm : ∀ x ∈ m, 0 ≤ x ∧ x ≤ 200000) (hmn : m.length ≤ 1000) : enc_holds a m = some ((a.con ++ m).map fun x => [a.lt 0 x]) := by
 unfold enc_holds
 have he : [a.con, m].flatten = a.con ++ m := by simp
 rw [Concat'_eq (by simp) (by rw [he]; simp; omega), Option.bind_some, he]
 obtain ⟨v, hv⟩ : ∃ v, v = a.con ++ m := ⟨_, rfl⟩
 have hb : ∀ x ∈ v, 0 ≤ x ∧ x ≤ 200000 := fun x hx => by
  rw [hv, List.mem_append] at hx
  rcases hx with hx | hx
  ·exact hc x hx
  ·exact hm x hx
 have hvn : v.length ≤ 3000 := by rw [hv]; simp; omega
 rw [← hv]
 have hc := loopF_count (body := enc_holds_B0 a v) (fun j => ((v.take j).map fun x => [a.lt 0 x], (j : Int))) v.length (r := v.map fun x => [a.lt 0 x]) (fun j hj => by
  have hx := List.getElem?_eq_getElem hj
  have hbj := hb v[j] (List.getElem_mem hj)
  simp only [enc_holds_B0]
  rw [if_pos (by simp [lenI_eq]; omega), if_pos (by rw [inI_iff, lenN_eq]; omega), nthI_nat, hx, Option.bind_some, enc_clause_eq h (by omega) (by simp) (by simp; omega), Option.bind_some, if_pos (by rw [capN_iff, lenN_eq]; simp; omega), iadd_ok (by omega) (by omega), List.take_succ_eq_append_getElem hj, List.map_append]
  rfl) (by
  simp only [enc_holds_B0]
  rw [if_neg (by simp [lenI_eq])]
  simp)
 have hc : loopF (enc_holds_B0 a v) ([], 0) = some (v.map fun x => [a.lt 0 x]) := hc
 rw [hc, Option.bind_some]
theorem frame_len {a : Aig} (h : a.Bd) (k : Int) : (a.frame k).length ≤ 60001 := by
 have := gF_len a k a.G.length
 have := h.g
 unfold Aig.frame
 simp
 omega
theorem first_len {a : Aig} (h : a.Bd) : a.first.length ≤ 20000 := by
 have := ff_len a a.L.length
 have := h.l
 unfold Aig.first
 omega
theorem enc_Starts_eq {a : Aig} (h : a.Bd) (hg : GatesB a) (hl : LatchesB a) {inv : Int} (hi : 0 ≤ inv ∧ inv ≤ 200000) : enc_Starts a inv = some { N := a.V + 1, cs := a.frame 0 ++ a.first ++ [[a.lt 0 (flip inv)]] } := by
 have hf := flip_bd hi
 have h1 := frame_len h 0
 have h2 := first_len h
 unfold enc_Starts
 rw [enc_Vars_eq h (by omega), Option.bind_some, enc_Frame_eq h hg (by omega), Option.bind_some, enc_First_eq h hl, Option.bind_some, bxor_flip (by omega), enc_clause_eq h (by omega) (by simp) (by simp; omega), Option.bind_some]
 have he : [a.frame 0, a.first, [List.map (a.lt 0) [flip inv]]].flatten = a.frame 0 ++ a.first ++ [[a.lt 0 (flip inv)]] := by simp
 rw [Concat_eq (by simp) (by rw [he]; simp; omega), he, Option.bind_some, Int.one_mul]
theorem enc_Safe_eq {a : Aig} (h : a.Bd) (hg : GatesB a) (hc : ∀ x ∈ a.con, 0 ≤ x ∧ x ≤ 200000) (hn : a.con.length ≤ 2000) {inv bad : Int} (hi : 0 ≤ inv ∧ inv ≤ 200000) (hb : 0 ≤ bad ∧ bad ≤ 200000) : enc_Safe a inv bad = some { N := a.V + 1, cs := a.frame 0 ++ (a.con ++ [inv, bad]).map fun x => [a.lt 0 x] } := by
 have h1 := frame_len h 0
 unfold enc_Safe
 rw [enc_Vars_eq h (by omega), Option.bind_some, enc_Frame_eq h hg (by omega), Option.bind_some, enc_holds_eq h hc hn (by simp; omega) (by simp), Option.bind_some]
 have he : [a.frame 0, (a.con ++ [inv, bad]).map fun x => [a.lt 0 x]].flatten = a.frame 0 ++ (a.con ++ [inv, bad]).map fun x => [a.lt 0 x] := by simp
 rw [Concat_eq (by simp) (by rw [he]; simp; omega), he, Option.bind_some, Int.one_mul]
theorem Clauses_eq {x y : List (List Int)} (hx : x.length ≤ 1000000) (hb : ∀ p ∈ x, p.length ≤ 1000000) : ref19_Clauses x y = some (decide (x = y)) := by
 unfold ref19_Clauses
 by_cases hl : x.length = y.length
 case neg =>
  rw [if_neg (by simp [lenI_eq]; omega)]
  have : x ≠ y := fun h => hl (by rw [h])
  simp [this]
 rw [if_pos (by simp [lenI_eq]; omega)]
 obtain ⟨r, hr, hq⟩ := loopF_ex (body := ref19_Clauses_B1 x y) (fun j => (j : Int)) x.length (fun j => x[j]? = y[j]?) (fun r => (r = .inr () ∧ x = y) ∨ (r = .inl () ∧ x ≠ y)) (by
  intro i hi _
  have h1 := List.getElem?_eq_getElem hi
  have h2 := List.getElem?_eq_getElem (show i < y.length by omega)
  have hbi := hb x[i] (List.getElem_mem hi)
  simp only [ref19_Clauses_B1]
  rw [if_pos (by simp [lenI_eq]; omega), getI_nat, h1, Option.bind_some, getI_nat, h2, Option.bind_some]
  by_cases hr : x[i].length = y[i].length
  case neg =>
   rw [if_neg (by simp [lenI_eq]; omega)]
   refine .inr ⟨_, rfl, .inr ⟨rfl, fun h => hr ?_⟩⟩
   subst h
   rfl
  rw [if_pos (by simp [lenI_eq]; omega)]
  obtain ⟨r, hr', hq⟩ := loopF_ex (body := ref19_Clauses_B0 x y i) (fun j => (j : Int)) x[i].length (fun j => x[i][j]? = y[i][j]?) (fun r => (r = .inr () ∧ x[i] = y[i]) ∨ (r = .inl () ∧ x[i] ≠ y[i])) (by
   intro j hj _
   have g1 := List.getElem?_eq_getElem hj
   have g2 := List.getElem?_eq_getElem (show j < y[i].length by omega)
   simp only [ref19_Clauses_B0]
   rw [getI_nat, h1, Option.bind_some, if_pos (by simp [lenI_eq]; omega), getI_nat, g1, Option.bind_some, getI_nat, h2, Option.bind_some, getI_nat, g2, Option.bind_some]
   split
   ·rename_i e
    simp only [ieq_iff] at e
    exact .inl ⟨by rw [iadd_ok (by omega) (by omega)]; rfl, by rw [e]⟩
   ·rename_i e
    simp only [ieq_iff] at e
    refine .inr ⟨_, rfl, .inr ⟨rfl, fun h => e ?_⟩⟩
    have := congrArg (fun l : List Int => l[j]?) h
    simp only [g1, g2, Option.some.injEq] at this
    exact this) (by
   intro hA
   simp only [ref19_Clauses_B0]
   rw [getI_nat, h1, Option.bind_some, if_neg (by simp [lenI_eq])]
   refine ⟨_, rfl, .inl ⟨rfl, List.ext_getElem? fun j => ?_⟩⟩
   by_cases hj : j < x[i].length
   ·exact hA j hj
   ·rw [List.getElem?_eq_none (by omega), List.getElem?_eq_none (by omega)])
  have hr' : loopF (ref19_Clauses_B0 x y i) 0 = some r := hr'
  rw [hr', Option.bind_some]
  rcases hq with ⟨rfl, he⟩ | ⟨rfl, he⟩
  ·exact .inl ⟨by simp only; rw [iadd_ok (by omega) (by omega)]; rfl, by rw [he]⟩
  ·refine .inr ⟨_, rfl, .inr ⟨rfl, fun h => he ?_⟩⟩
   subst h
   rfl) (by
  intro hA
  simp only [ref19_Clauses_B1]
  rw [if_neg (by simp [lenI_eq])]
  refine ⟨_, rfl, .inl ⟨rfl, List.ext_getElem? fun j => ?_⟩⟩
  by_cases hj : j < x.length
  ·exact hA j hj
  ·rw [List.getElem?_eq_none (by omega), List.getElem?_eq_none (by omega)])
 have hr : loopF (ref19_Clauses_B1 x y) 0 = some r := hr
 rw [hr, Option.bind_some]
 rcases hq with ⟨rfl, he⟩ | ⟨rfl, he⟩ <;> simp [he]
def exA : Aig := { I := 2, L := [], G := [{ a := 4, b := 2 }], outs := [], bad := [], con := [], names := [] }
theorem shown_eq : law19_shown = some true := by
 have hB : exA.Bd := ⟨by decide, by decide, by decide, by decide⟩
 have hG : GatesB exA := by intro x hx; simp [exA] at hx; subst hx; decide
 have hL : LatchesB exA := by intro x hx; simp [exA] at hx
 unfold law19_shown
 rw [show ({ I := 2, L := ([] : List Latch), G := ([{ a := 4, b := 2 }]), outs := ([] : List Int), bad := ([] : List Int), con := ([] : List Int), names := ([] : List Name) } : Aig) = exA from rfl]
 rw [enc_Starts_eq hB hG hL (by omega), Option.bind_some, enc_Safe_eq hB hG (by simp [exA]) (by simp [exA]) (by omega) (by omega), Option.bind_some, enc_Frame_eq hB hG (by omega), Option.bind_some]
 have hf : exA.frame 0 = [[-1], [-4, 3], [-4, 2], [4, -3, -2]] := by decide
 rw [Clauses_eq (by rw [hf]; decide) (by rw [hf]; decide), Option.bind_some, if_pos (by rw [hf]; decide), enc_Vars_eq hB (by omega), Option.bind_some]
 rw [if_pos (by decide), enc_Lit_eq hB (by omega) (by omega), Option.bind_some, if_pos (by decide), if_pos (by decide), if_pos (by rw [hf]; decide), hf]
 decide
end Go.Vid
