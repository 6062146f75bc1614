/- Plain laws: clauses, formulas, what is right, what is the same. No condition. -/
import Derived.Test.YtkdlblpidghjcaaDoorP0
set_option linter.unusedSimpArgs false
set_option linter.unusedVariables false
set_option maxRecDepth 20000
namespace Go.Vid
open Go.Vabs
theorem loop_find {ε δ : Type} {b : Int → Option (Int ⊕ (ε ⊕ δ))} (n : Nat) (q : Nat → Bool) (e : Nat → ε) (d : δ) (h1 : ∀ k : Nat, k < n → b (k : Int) = some (if q k = true then .inr (.inl (e k)) else .inl ((k + 1 : Nat) : Int))) (h2 : b (n : Int) = some (.inr (.inr d))) :
  (∃ k, k < n ∧ q k = true ∧ loopF b 0 = some (.inl (e k))) ∨ ((∀ k, k < n → q k = false) ∧ loopF b 0 = some (.inr d)) := by
 have aux : ∀ m k : Nat, n - k = m → k ≤ n → (∀ j, j < k → q j = false) → (∃ k', k' < n ∧ q k' = true ∧ loopF b (k : Int) = some (.inl (e k'))) ∨ ((∀ k, k < n → q k = false) ∧ loopF b (k : Int) = some (.inr d)) := by
  intro m
  induction m with
  | zero =>
   intro k hm hk hj
   obtain rfl : k = n := by omega
   exact .inr ⟨hj, loopF_inr h2⟩
  | succ m ih =>
   intro k hm hk hj
   have h := h1 k (by omega)
   by_cases hq : q k = true
   ·rw [if_pos hq] at h
    exact .inl ⟨k, by omega, hq, loopF_inr h⟩
   ·rw [if_neg hq] at h
    rw [loopF_inl h]
    refine ih (k + 1) (by omega) (by omega) (fun j hjk => ?_)
    by_cases e : j = k
    ·subst e; simpa using hq
    ·exact hj j (by omega)
 exact aux n 0 rfl (Nat.zero_le _) (fun j h => absurd h (Nat.not_lt_zero _))
theorem inc_ok {k : Nat} (h : k ≤ 1000000000000000) : iadd .i64 (k : Int) 1 = ((k + 1 : Nat) : Int) := by rw [iadd_ok (by omega) (by omega)]; rfl
theorem lt_len {α : Type} {s : List α} {k : Nat} : (ilt (k : Int) (lenI s) = true) = (k < s.length) := by rw [ilt_iff, lenI_eq]; exact propext (by omega)
theorem any_ex {α : Type} {s : List α} {p : α → Bool} : s.any p = true ↔ ∃ k, ∃ h : k < s.length, p s[k] = true := by
 rw [List.any_eq_true]
 constructor
 ·rintro ⟨x, hx, hp⟩
  obtain ⟨k, hk, rfl⟩ := List.mem_iff_getElem.1 hx
  exact ⟨k, hk, hp⟩
 ·rintro ⟨k, hk, hp⟩
  exact ⟨_, List.getElem_mem hk, hp⟩
theorem any_no {α : Type} {s : List α} {p : α → Bool} : s.any p = false ↔ ∀ k, ∀ h : k < s.length, p s[k] = false := by
 rw [← Bool.not_eq_true, any_ex]
 constructor
 ·intro h k hk
  rw [← Bool.not_eq_true]
  exact fun hp => h ⟨k, hk, hp⟩
 ·rintro h ⟨k, hk, hp⟩
  rw [h k hk] at hp
  cases hp
def IB {α : Type} (f : α → Option Bool) (s : List α) (x : Int) : Option (Int ⊕ (Int ⊕ Unit)) :=
 if (ilt x (lenI s)) = true then
  Option.bind (getI s x) fun v18 =>
  Option.bind (f v18) fun v20 =>
  if v20 = true then some (.inr (.inl x)) else some (.inl (iadd IntKind.i64 x 1))
 else some (.inr (.inr ()))
theorem IB_any {α : Type} {f : α → Option Bool} {p : α → Bool} {s : List α} (hf : ∀ c ∈ s, f c = some (p c)) (hl : s.length ≤ 1000000000000000) :
  (∃ k : Nat, loopF (IB f s) 0 = some (.inl (k : Int)) ∧ s.any p = true) ∨ (loopF (IB f s) 0 = some (.inr ()) ∧ s.any p = false) := by
 refine Or.elim (loop_find (b := IB f s) s.length (fun k => if h : k < s.length then p s[k] else false) (fun k => (k : Int)) () (fun k hk => ?_) ?_) ?_ ?_
 rotate_left 2
 ·rintro ⟨k, hk, hq, h⟩
  refine .inl ⟨k, h, any_ex.2 ⟨k, hk, ?_⟩⟩
  simpa [hk] using hq
 ·rintro ⟨hq, h⟩
  refine .inr ⟨h, any_no.2 fun k hk => ?_⟩
  simpa [hk] using hq k hk
 ·unfold IB
  rw [if_pos (by rw [lt_len]; exact hk), getI_nat, List.getElem?_eq_getElem hk, Option.bind_some, hf _ (List.getElem_mem hk), Option.bind_some, inc_ok (by omega)]
  simp only [hk, dif_pos]
  split <;> rfl
 ·unfold IB
  rw [if_neg (by rw [lt_len]; omega)]
def litT (m : List Bool) (l : Int) : Bool := decide (1 ≤ l.natAbs ∧ m[l.natAbs - 1]? = some (decide (0 < l)))
def clT (m : List Bool) (c : List Int) : Bool := c.any (litT m)
theorem cl_eq {l : Int} {m : List Bool} (h0 : -9223372036854775808 ≤ l) (h1 : l ≤ 9223372036854775807) (hm : m.length ≤ 1000000000000000) : cnf_Clause_1_cl l m = some (litT m l) := by
 unfold cnf_Clause_1_cl litT
 simp only [ile_iff, lenI_eq]
 by_cases e : l = -9223372036854775808
 ·subst e
  rw [if_neg (by decide)]
  congr 1
  rw [eq_comm, decide_eq_false_iff_not]
  rintro ⟨_, h⟩
  have := (List.getElem?_eq_some_iff.1 h).1
  have e : (-9223372036854775808 : Int).natAbs = 9223372036854775808 := by decide
  omega
 ·rw [ineg_ok (by omega) (by omega)]
  have hx : imax l (-l) = (l.natAbs : Int) := by rw [imax_eq]; split <;> omega
  rw [hx]
  by_cases h2 : 1 ≤ l.natAbs
  ·rw [if_pos (by omega)]
   by_cases h3 : l.natAbs ≤ m.length
   ·have hi : l.natAbs - 1 < m.length := by omega
    rw [if_pos (by omega), isub_ok (by omega) (by omega), show ((l.natAbs : Int) - 1) = ((l.natAbs - 1 : Nat) : Int) by omega, getI_nat, List.getElem?_eq_getElem hi, Option.bind_some]
    congr 1
    have : ilt 0 l = decide (0 < l) := rfl
    rw [this]
    unfold beq2
    generalize m[l.natAbs - 1] = x
    simp only [h2, true_and, Option.some.injEq]
    cases x <;> cases decide (0 < l) <;> rfl
   ·rw [if_neg (by omega), List.getElem?_eq_none (by omega)]
    simp
  ·rw [if_neg (by omega)]
   simp [h2]
theorem Clause_eq {c : List Int} {m : List Bool} (hc : ∀ l ∈ c, I64 l) (hl : c.length ≤ 1000000000000000) (hm : m.length ≤ 1000000000000000) : cnf_Clause c m = some (clT m c) := by
 unfold cnf_Clause slices_ContainsFunc_cl slices_IndexFunc_cl
 rw [show slices_IndexFunc_cl_B0 c m = IB (fun l => cnf_Clause_1_cl l m) c from rfl]
 rcases IB_any (f := fun l => cnf_Clause_1_cl l m) (p := litT m) (s := c) (fun l h => cl_eq (hc l h).1 (hc l h).2 hm) hl with ⟨k, h, e⟩ | ⟨h, e⟩
 ·rw [h]
  unfold clT
  rw [e]
  simp [ile]
 ·rw [h]
  unfold clT
  rw [e]
  simp [ile]
theorem Clause_nil_eq (m : List Bool) : cnf_Clause_nil m = some false := by
 unfold cnf_Clause_nil slices_ContainsFunc_cln slices_IndexFunc_cln
 rw [loopF_inr (r := ()) rfl]
 rfl
def FI (f : Cnf) : Prop := f.cs.length ≤ 1000000000000000 ∧ ∀ c ∈ f.cs, c.length ≤ 1000000000000000 ∧ ∀ l ∈ c, I64 l
def hoT (m : List Bool) (f : Cnf) : Bool := f.cs.all (clT m)
theorem Holds_eq {f : Cnf} {m : List Bool} (hf : FI f) (hm : m.length ≤ 1000000000000000) : cnf_Holds f m = some (hoT m f) := by
 unfold cnf_Holds slices_ContainsFunc'_ho slices_IndexFunc'_ho hoT
 rw [show slices_IndexFunc'_ho_B0 f.cs m = IB (fun c => cnf_Holds_1_ho c m) f.cs from rfl]
 have hq : f.cs.all (clT m) = !f.cs.any (fun c => !clT m c) := by simp [List.all_eq_not_any_not]
 rw [hq]
 rcases IB_any (f := fun c => cnf_Holds_1_ho c m) (p := fun c => !clT m c) (s := f.cs) (fun c h => by
  unfold cnf_Holds_1_ho
  rw [Clause_eq (hf.2 c h).2 (hf.2 c h).1 hm]
  rfl) hf.1 with ⟨k, h, e⟩ | ⟨h, e⟩
 ·rw [h, e]
  simp [ile, bnot]
 ·rw [h, e]
  simp [ile, bnot]
theorem refLit {c : List Int} {m : List Bool} {i : Nat} (hi : i < c.length) (hc : I64 c[i]) (hm : m.length ≤ 1000000000000000) :
  loopF (ref03_Clause_B0 c m i) 0 = some (if litT m c[i] = true then .inl () else .inr ()) := by
 refine Or.elim (loop_find (b := ref03_Clause_B0 c m i) m.length (fun k => if m[k]? = some true then decide (c[i] = (k : Int) + 1) else decide (c[i] = -(k : Int) - 1)) (fun _ => ()) () (fun k hk => ?_) ?_) ?_ ?_
 rotate_left 2
 ·rintro ⟨k, hk, hq, h⟩
  rw [h, if_pos]
  unfold litT
  rw [decide_eq_true_iff]
  have hg := List.getElem?_eq_getElem hk
  simp only [hg] at hq
  generalize m[k] = x at hq hg
  cases x with
  | true =>
   rw [if_pos rfl, decide_eq_true_iff] at hq
   rw [hq, show ((k : Int) + 1).natAbs - 1 = k by omega, hg]
   refine ⟨by omega, ?_⟩
   rw [decide_eq_true (by omega)]
  | false =>
   rw [if_neg (by simp), decide_eq_true_iff] at hq
   rw [hq, show (-(k : Int) - 1).natAbs - 1 = k by omega, hg]
   refine ⟨by omega, ?_⟩
   rw [decide_eq_false (by omega)]
 ·rintro ⟨hq, h⟩
  rw [h, if_neg]
  unfold litT
  rw [decide_eq_true_iff]
  rintro ⟨g1, g2⟩
  have hk := (List.getElem?_eq_some_iff.1 g2).1
  have := hq _ hk
  rw [g2] at this
  by_cases h0 : 0 < c[i]
  ·rw [decide_eq_true h0, if_pos rfl, decide_eq_false_iff_not] at this
   omega
  ·rw [decide_eq_false h0, if_neg (by simp), decide_eq_false_iff_not] at this
   omega
 ·unfold ref03_Clause_B0
  simp only
  have hg := List.getElem?_eq_getElem hk
  rw [if_pos (by rw [lt_len]; exact hk), getI_nat, hg, Option.bind_some, getI_nat, List.getElem?_eq_getElem hi]
  generalize m[k] = x
  generalize c[i] = l
  simp only [Option.bind_some, ieq_iff, inc_ok (show k ≤ 1000000000000000 by omega), ineg_ok (a := (k : Int)) (by omega) (by omega), isub_ok (a := -(k : Int)) (b := 1) (by omega) (by omega)]
  cases x
  ·simp only [Bool.false_eq_true, reduceIte, Option.some.injEq, decide_eq_true_iff]
   split <;> rfl
  ·simp only [reduceIte, decide_eq_true_iff, show ((k + 1 : Nat) : Int) = (k : Int) + 1 by omega]
   split <;> rfl
 ·unfold ref03_Clause_B0
  simp only
  rw [if_neg (by rw [lt_len]; omega)]
theorem refClause_eq {c : List Int} {m : List Bool} (hc : ∀ l ∈ c, I64 l) (hl : c.length ≤ 1000000000000000) (hm : m.length ≤ 1000000000000000) : ref03_Clause c m = some (clT m c) := by
 unfold ref03_Clause clT
 refine Or.elim (loop_find (b := ref03_Clause_B1 c m) c.length (fun k => if h : k < c.length then litT m c[k] else false) (fun _ => ()) () (fun k hk => ?_) ?_) ?_ ?_
 rotate_left 2
 ·rintro ⟨k, hk, hq, h⟩
  rw [h, any_ex.2 ⟨k, hk, by simpa [hk] using hq⟩]
  rfl
 ·rintro ⟨hq, h⟩
  rw [h, any_no.2 fun k hk => by simpa [hk] using hq k hk]
  rfl
 ·unfold ref03_Clause_B1
  simp only
  rw [if_pos (by rw [lt_len]; exact hk), refLit hk (hc _ (List.getElem_mem hk)) hm, Option.bind_some, inc_ok (by omega)]
  simp only [hk, dif_pos]
  cases litT m c[k] <;> rfl
 ·unfold ref03_Clause_B1
  simp only
  rw [if_neg (by rw [lt_len]; omega)]
theorem refHolds_eq {f : Cnf} {m : List Bool} (hf : FI f) (hm : m.length ≤ 1000000000000000) : ref03_Holds f m = some (hoT m f) := by
 unfold ref03_Holds hoT
 have hq : f.cs.all (clT m) = !f.cs.any (fun c => !clT m c) := by simp [List.all_eq_not_any_not]
 rw [hq]
 refine Or.elim (loop_find (b := ref03_Holds_B0 f m) f.cs.length (fun k => if h : k < f.cs.length then !clT m f.cs[k] else false) (fun _ => ()) () (fun k hk => ?_) ?_) ?_ ?_
 rotate_left 2
 ·rintro ⟨k, hk, hq, h⟩
  rw [h, any_ex.2 ⟨k, hk, by simpa [hk] using hq⟩]
  rfl
 ·rintro ⟨hq, h⟩
  rw [h, any_no.2 fun k hk => by simpa [hk] using hq k hk]
  rfl
 ·unfold ref03_Holds_B0
  simp only
  have hm' := hf.2 _ (List.getElem_mem hk)
  have := hf.1
  rw [if_pos (by rw [lt_len]; exact hk), getI_nat, List.getElem?_eq_getElem hk, Option.bind_some, refClause_eq hm'.2 hm'.1 hm, Option.bind_some, inc_ok (by omega)]
  simp only [hk, dif_pos]
  cases clT m f.cs[k] <;> rfl
 ·unfold ref03_Holds_B0
  simp only
  rw [if_neg (by rw [lt_len]; omega)]
def litR (N : Int) (l : Int) : Bool := decide (l ≠ 0 ∧ -N ≤ l ∧ l ≤ N)
def clR (N : Int) (c : List Int) : Bool := decide (c.length ≤ 1000) && c.all (litR N)
def rightT (f : Cnf) : Bool := decide (0 ≤ f.N ∧ f.N ≤ 100000 ∧ f.cs.length ≤ 20000) && f.cs.all (clR f.N)
theorem Right_eq (f : Cnf) : cnf_Right f = some (rightT f) := by
 unfold cnf_Right rightT
 simp only [ile_iff, lenI_eq]
 by_cases h0 : 0 ≤ f.N
 case neg => rw [if_neg h0, decide_eq_false (by omega)]; rfl
 rw [if_pos h0]
 by_cases h1 : f.N ≤ 100000
 case neg => rw [if_neg h1, decide_eq_false (by omega)]; rfl
 rw [if_pos h1]
 by_cases h2 : f.cs.length ≤ 20000
 case neg => rw [if_neg (by omega), decide_eq_false (by omega)]; rfl
 rw [if_pos (by omega), decide_eq_true ⟨h0, h1, h2⟩, Bool.true_and]
 unfold slices_ContainsFunc'_odd slices_IndexFunc'_odd
 rw [show slices_IndexFunc'_odd_B0 f.cs f = IB (fun c => cnf_Right_2_odd c f) f.cs from rfl]
 have hq : f.cs.all (clR f.N) = !f.cs.any (fun c => !clR f.N c) := by simp [List.all_eq_not_any_not]
 rw [hq]
 rcases IB_any (f := fun c => cnf_Right_2_odd c f) (p := fun c => !clR f.N c) (s := f.cs) (fun c h => by
  unfold cnf_Right_2_odd clR
  simp only [ilt_iff, lenI_eq]
  by_cases h3 : c.length ≤ 1000
  case neg => rw [if_pos (by omega), decide_eq_false h3]; rfl
  rw [if_neg (by omega), decide_eq_true h3, Bool.true_and]
  unfold slices_ContainsFunc_lit slices_IndexFunc_lit
  rw [show slices_IndexFunc_lit_B0 c f = IB (fun l => cnf_Right_1_lit l f) c from rfl]
  have hq : (!c.all (litR f.N)) = c.any (fun l => !litR f.N l) := by simp [List.all_eq_not_any_not]
  rw [hq]
  rcases IB_any (f := fun l => cnf_Right_1_lit l f) (p := fun l => !litR f.N l) (s := c) (fun l h => by
   unfold cnf_Right_1_lit litR
   simp only [ieq_iff, ilt_iff]
   rw [ineg_ok (by omega) (by omega)]
   by_cases g1 : l = 0
   ·rw [if_pos g1, decide_eq_false (by simp [g1])]; rfl
   rw [if_neg g1]
   by_cases g2 : f.N < l
   ·rw [if_pos g2, decide_eq_false (by omega)]; rfl
   rw [if_neg g2]
   congr 1
   by_cases g3 : l < -f.N
   ·rw [decide_eq_false (p := _ ∧ _) (by omega)]; simpa [ilt] using g3
   ·rw [decide_eq_true (p := _ ∧ _) ⟨g1, by omega, by omega⟩]; simpa [ilt] using g3) (by omega) with ⟨k, h, e⟩ | ⟨h, e⟩
  ·rw [h, e]; simp [ile]
  ·rw [h, e]; simp [ile]) (by omega) with ⟨k, h, e⟩ | ⟨h, e⟩
 ·rw [h, e]; simp [ile, bnot]
 ·rw [h, e]; simp [ile, bnot]
theorem refRight_eq (f : Cnf) : ref03_Right f = some (rightT f) := by
 unfold ref03_Right rightT
 simp only [ilt_iff, lenI_eq]
 by_cases h0 : 0 ≤ f.N
 case neg => rw [if_pos (by omega), decide_eq_false (by omega)]; rfl
 rw [if_neg (by omega)]
 by_cases h1 : f.N ≤ 100000
 case neg => rw [if_pos (by omega), decide_eq_false (by omega)]; rfl
 rw [if_neg (by omega)]
 by_cases h2 : f.cs.length ≤ 20000
 case neg => rw [if_pos (by omega), decide_eq_false (by omega)]; rfl
 rw [if_neg (by omega), decide_eq_true ⟨h0, h1, h2⟩, Bool.true_and]
 have hq : f.cs.all (clR f.N) = !f.cs.any (fun c => !clR f.N c) := by simp [List.all_eq_not_any_not]
 rw [hq]
 refine Or.elim (loop_find (b := ref03_Right_B1 f) f.cs.length (fun k => if h : k < f.cs.length then !clR f.N f.cs[k] else false) (fun _ => ()) () (fun k hk => ?_) ?_) ?_ ?_
 rotate_left 2
 ·rintro ⟨k, hk, hq, h⟩
  rw [h, any_ex.2 ⟨k, hk, by simpa [hk] using hq⟩]
  rfl
 ·rintro ⟨hq, h⟩
  rw [h, any_no.2 fun k hk => by simpa [hk] using hq k hk]
  rfl
 ·unfold ref03_Right_B1
  simp only
  have hg := List.getElem?_eq_getElem hk
  rw [if_pos (by rw [lt_len]; exact hk), getI_nat, hg, Option.bind_some, inc_ok (by omega)]
  simp only [hk, dif_pos]
  generalize hc : f.cs[k] = c at hg
  unfold clR
  by_cases h3 : c.length ≤ 1000
  case neg => rw [if_pos (by rw [ilt_iff, lenI_eq]; omega), decide_eq_false h3]; rfl
  rw [if_neg (by rw [ilt_iff, lenI_eq]; omega), decide_eq_true h3, Bool.true_and]
  have hq : (!c.all (litR f.N)) = c.any (fun l => !litR f.N l) := by simp [List.all_eq_not_any_not]
  rw [hq]
  refine Or.elim (loop_find (b := ref03_Right_B0 f k) c.length (fun j => if h : j < c.length then !litR f.N c[j] else false) (fun _ => ()) () (fun j hj => ?_) ?_) ?_ ?_
  rotate_left 2
  ·rintro ⟨j, hj, hq, h⟩
   rw [h, any_ex.2 ⟨j, hj, by simpa [hj] using hq⟩]
   rfl
  ·rintro ⟨hq, h⟩
   rw [h, any_no.2 fun j hj => by simpa [hj] using hq j hj]
   rfl
  ·unfold ref03_Right_B0
   simp only
   rw [getI_nat, hg, Option.bind_some, if_pos (by rw [lt_len]; exact hj), getI_nat, List.getElem?_eq_getElem hj, Option.bind_some, inc_ok (by omega), ineg_ok (by omega) (by omega)]
   simp only [hj, dif_pos]
   generalize c[j] = l
   unfold litR
   simp only [ieq_iff, ilt_iff]
   by_cases g1 : l = 0
   ·rw [if_pos g1, decide_eq_false (by simp [g1])]; rfl
   rw [if_neg g1]
   by_cases g2 : f.N < l
   ·rw [if_pos g2, decide_eq_false (by omega)]; rfl
   rw [if_neg g2]
   by_cases g3 : l < -f.N
   ·rw [if_pos g3, decide_eq_false (by omega)]; rfl
   ·rw [if_neg g3, decide_eq_true ⟨g1, by omega, by omega⟩]; rfl
  ·unfold ref03_Right_B0
   simp only
   rw [getI_nat, hg, Option.bind_some, if_neg (by rw [lt_len]; omega)]
 ·unfold ref03_Right_B1
  simp only
  rw [if_neg (by rw [lt_len]; omega)]
def EB {α : Type} (f : α → α → Option Bool) (s1 s2 : List α) (x : Int) : Option (Int ⊕ (Unit ⊕ Unit)) :=
 if (ilt x (lenI s1)) = true then
  Option.bind (getI s1 x) fun v20 =>
  Option.bind (getI s2 x) fun v22 =>
  Option.bind (f v20 v22) fun v28 =>
  if v28 = true then some (.inl (iadd IntKind.i64 x 1)) else some (.inr (.inl ()))
 else some (.inr (.inr ()))
theorem EB_eq {α : Type} {f : α → α → Option Bool} {s1 s2 : List α} (hf : ∀ a ∈ s1, ∀ b, ∃ v, f a b = some v ∧ (v = true ↔ a = b)) (hn : s1.length = s2.length) (hl : s1.length ≤ 1000000000000000) :
  (loopF (EB f s1 s2) 0 = some (.inr ()) ∧ s1 = s2) ∨ (loopF (EB f s1 s2) 0 = some (.inl ()) ∧ s1 ≠ s2) := by
 classical
 refine Or.elim (loop_find (b := EB f s1 s2) s1.length (fun k => !decide (s1[k]? = s2[k]?)) (fun _ => ()) () (fun k hk => ?_) ?_) ?_ ?_
 rotate_left 2
 ·rintro ⟨k, hk, hq, h⟩
  refine .inr ⟨h, fun e => ?_⟩
  rw [e] at hq
  simp at hq
 ·rintro ⟨hq, h⟩
  refine .inl ⟨h, List.ext_getElem? fun k => ?_⟩
  by_cases hk : k < s1.length
  ·simpa using hq k hk
  ·rw [List.getElem?_eq_none (by omega), List.getElem?_eq_none (by omega)]
 ·unfold EB
  obtain ⟨v, h1, h2⟩ := hf s1[k] (List.getElem_mem hk) (s2[k]'(by omega))
  rw [if_pos (by rw [lt_len]; exact hk), getI_nat, List.getElem?_eq_getElem hk, Option.bind_some, getI_nat, List.getElem?_eq_getElem (show k < s2.length by omega), Option.bind_some, h1, Option.bind_some, inc_ok (by omega)]
  simp only [Option.some.injEq]
  by_cases e : s1[k] = s2[k]'(by omega)
  ·rw [if_pos (h2.2 e), if_neg (by simp [e])]
  ·rw [if_neg (fun h => e (h2.1 h)), if_pos (by simp [e])]
 ·unfold EB
  rw [if_neg (by rw [lt_len]; omega)]
theorem Equal_eq {a : List Int} (b : List Int) (hl : a.length ≤ 1000000000000000) : slices_Equal a b = some (decide (a = b)) := by
 unfold slices_Equal
 simp only [ieq_iff, lenI_eq]
 by_cases hn : a.length = b.length
 ·rw [if_pos (by omega), show slices_Equal_B0 a b = EB (fun x y => some (ieq x y)) a b from rfl]
  rcases EB_eq (f := fun x y => some (ieq x y)) (s1 := a) (s2 := b) (fun x _ y => ⟨_, rfl, by rw [ieq_iff]⟩) hn hl with ⟨h, e⟩ | ⟨h, e⟩
  ·rw [h, decide_eq_true e]; rfl
  ·rw [h, decide_eq_false e]; rfl
 ·rw [if_neg (by omega), decide_eq_false (fun e => hn (by rw [e]))]
theorem refInts_eq {a : List Int} (b : List Int) (hl : a.length ≤ 1000000000000000) : ref03_Ints a b = some (decide (a = b)) := by
 unfold ref03_Ints
 simp only [ieq_iff, lenI_eq]
 by_cases hn : a.length = b.length
 ·rw [if_pos (by omega), show ref03_Ints_B0 a b = EB (fun x y => some (ieq x y)) a b from rfl]
  rcases EB_eq (f := fun x y => some (ieq x y)) (s1 := a) (s2 := b) (fun x _ y => ⟨_, rfl, by rw [ieq_iff]⟩) hn hl with ⟨h, e⟩ | ⟨h, e⟩
  ·rw [h, decide_eq_true e]; rfl
  ·rw [h, decide_eq_false e]; rfl
 ·rw [if_neg (by omega), decide_eq_false (fun e => hn (by rw [e]))]
theorem refFlags_eq {a : List Bool} (b : List Bool) (hl : a.length ≤ 1000000000000000) : ref03_Flags a b = some (decide (a = b)) := by
 unfold ref03_Flags
 simp only [ieq_iff, lenI_eq]
 by_cases hn : a.length = b.length
 ·rw [if_pos (by omega), show ref03_Flags_B0 a b = EB (fun x y => some (beq2 x y)) a b from rfl]
  rcases EB_eq (f := fun x y => some (beq2 x y)) (s1 := a) (s2 := b) (fun x _ y => ⟨_, rfl, by rw [beq2_iff]⟩) hn hl with ⟨h, e⟩ | ⟨h, e⟩
  ·rw [h, decide_eq_true e]; rfl
  ·rw [h, decide_eq_false e]; rfl
 ·rw [if_neg (by omega), decide_eq_false (fun e => hn (by rw [e]))]
def FL (f : Cnf) : Prop := f.cs.length ≤ 1000000000000000 ∧ ∀ c ∈ f.cs, c.length ≤ 1000000000000000
theorem FI.fl {f : Cnf} (h : FI f) : FL f := ⟨h.1, fun c hc => (h.2 c hc).1⟩
theorem Same_eq {a : Cnf} (b : Cnf) (hf : FL a) : cnf_Same a b = some (decide (a.N = b.N ∧ a.cs = b.cs)) := by
 unfold cnf_Same
 simp only [ieq_iff]
 by_cases h0 : a.N = b.N
 case neg => rw [if_neg h0, decide_eq_false (fun h => h0 h.1)]
 rw [if_pos h0]
 unfold slices_EqualFunc_same
 simp only [ieq_iff, lenI_eq]
 by_cases hn : a.cs.length = b.cs.length
 ·rw [if_pos (by omega), show slices_EqualFunc_same_B0 a.cs b.cs = EB cnf_Same_1 a.cs b.cs from rfl]
  rcases EB_eq (f := cnf_Same_1) (s1 := a.cs) (s2 := b.cs) (fun x hx y => ⟨_, by unfold cnf_Same_1; rw [Equal_eq y (hf.2 x hx)]; rfl, by rw [decide_eq_true_iff]⟩) hn hf.1 with ⟨h, e⟩ | ⟨h, e⟩
  ·rw [h, decide_eq_true ⟨h0, e⟩]; rfl
  ·rw [h, decide_eq_false (fun h => e h.2)]; rfl
 ·rw [if_neg (by omega), decide_eq_false (fun e => hn (by rw [e.2]))]; rfl
theorem refSame_eq {a : Cnf} (b : Cnf) (hf : FL a) : ref03_Same a b = some (decide (a.N = b.N ∧ a.cs = b.cs)) := by
 unfold ref03_Same
 simp only [ieq_iff, lenI_eq]
 by_cases h0 : a.N = b.N
 case neg => rw [if_neg h0, decide_eq_false (fun h => h0 h.1)]
 rw [if_pos h0]
 by_cases hn : a.cs.length = b.cs.length
 ·rw [if_pos (by omega), show ref03_Same_B0 a b = EB ref03_Ints a.cs b.cs from rfl]
  rcases EB_eq (f := ref03_Ints) (s1 := a.cs) (s2 := b.cs) (fun x hx y => ⟨_, refInts_eq y (hf.2 x hx), by rw [decide_eq_true_iff]⟩) hn hf.1 with ⟨h, e⟩ | ⟨h, e⟩
  ·rw [h, decide_eq_true ⟨h0, e⟩]; rfl
  ·rw [h, decide_eq_false (fun h => e h.2)]; rfl
 ·rw [if_neg (by omega), decide_eq_false (fun e => hn (by rw [e.2]))]
def SmallP (f : Cnf) (n : Nat) : Prop := f.cs.length ≤ n ∧ ∀ c ∈ f.cs, c.length ≤ n
theorem Small_eq (f : Cnf) {n : Nat} (hn : n ≤ 1000000000000000) : ∃ v, ref03_Small f (n : Int) = some v ∧ (v = true ↔ SmallP f n) := by
 unfold ref03_Small
 simp only [ilt_iff, lenI_eq]
 by_cases h0 : f.cs.length ≤ n
 case neg => exact ⟨false, by rw [if_pos (by omega)], by simp [SmallP, h0]⟩
 rw [if_neg (by omega)]
 refine Or.elim (loop_find (b := ref03_Small_B0 f n) f.cs.length (fun k => if h : k < f.cs.length then decide (n < (f.cs[k]).length) else false) (fun _ => ()) () (fun k hk => ?_) ?_) ?_ ?_
 rotate_left 2
 ·rintro ⟨k, hk, hq, h⟩
  refine ⟨false, by rw [h]; rfl, ?_⟩
  simp only [hk, dif_pos, decide_eq_true_iff] at hq
  simp only [Bool.false_eq_true, false_iff]
  exact fun h => absurd (h.2 _ (List.getElem_mem hk)) (by omega)
 ·rintro ⟨hq, h⟩
  refine ⟨true, by rw [h]; rfl, ?_⟩
  simp only [true_iff]
  refine ⟨h0, fun c hc => ?_⟩
  obtain ⟨k, hk, rfl⟩ := List.mem_iff_getElem.1 hc
  have := hq k hk
  simp only [hk, dif_pos, decide_eq_false_iff_not] at this
  omega
 ·unfold ref03_Small_B0
  simp only
  rw [if_pos (by rw [lt_len]; exact hk), getI_nat, List.getElem?_eq_getElem hk, Option.bind_some, inc_ok (by omega)]
  simp only [hk, dif_pos, decide_eq_true_iff, ilt_iff, lenI_eq]
  by_cases e : n < (f.cs[k]).length
  ·rw [if_pos (by omega), if_pos e]
  ·rw [if_neg (by omega), if_neg e]
 ·unfold ref03_Small_B0
  simp only
  rw [if_neg (by rw [lt_len]; omega)]
end Go.Vid
set_option linter.unusedSimpArgs false
set_option linter.unusedVariables false
set_option maxRecDepth 20000
namespace Go.Vid
open Go.Vabs
def numB (n : Int) : List Int := bytesOf (numeral n)
theorem numB_isB (n : Int) : IsB (numB n) := bytesOf_isB _
theorem numB_len {n : Int} (h : I64 n) : (numB n).length ≤ 21 := numeral_len h.1 h.2
theorem Itoa_eq {n : Int} (h : I64 n) : strconv_Itoa n = some (numeral n) := by unfold strconv_Itoa; rw [if_pos ⟨h.1, h.2⟩]
theorem Figures_eq {n : Int} (h0 : -9223372036854775807 ≤ n) (h1 : n ≤ 9223372036854775807) : ref03_Figures n = some (numeral n) := by unfold ref03_Figures; rw [if_pos ⟨h0, h1⟩]
theorem flat_len {α : Type} {g : α → List Int} {n : Nat} : ∀ {l : List α}, (∀ x ∈ l, (g x).length ≤ n) → (l.flatMap g).length ≤ l.length * n
 | [], _ => by simp
 | x :: l, h => by
  have h1 := h x List.mem_cons_self
  have h2 := flat_len (l := l) fun y hy => h y (List.mem_cons_of_mem _ hy)
  rw [List.flatMap_cons, List.length_append, List.length_cons, Nat.succ_mul]
  omega
theorem flat_isB {α : Type} {g : α → List Int} {l : List α} (h : ∀ x ∈ l, IsB (g x)) : IsB (l.flatMap g) := fun c hc => by
 obtain ⟨x, hx, hc⟩ := List.mem_flatMap.1 hc
 exact h x hx c hc
theorem take_snoc {α : Type} {l : List α} {k : Nat} (h : k < l.length) : l.take (k + 1) = l.take k ++ [l[k]] := by
 rw [List.take_add_one, List.getElem?_eq_getElem h]
 rfl
def sp : List Int → List Int
 | [] => []
 | x :: xs => numB x ++ xs.flatMap fun y => 32 :: numB y
theorem sp_snoc (l : List Int) (x : Int) : sp (l ++ [x]) = sp l ++ ((if l.length = 0 then [] else [32]) ++ numB x) := by
 cases l with
 | nil => simp [sp]
 | cons y l => simp [sp, List.append_assoc]
theorem sp_isB : ∀ l : List Int, IsB (sp l)
 | [] => fun c h => by cases h
 | x :: xs => (numB_isB x).append (flat_isB fun y _ c hc => by
   rcases List.mem_cons.1 hc with rfl | hc
   ·omega
   ·exact numB_isB y c hc)
theorem sp_len {l : List Int} (h : ∀ x ∈ l, I64 x) : (sp l).length ≤ l.length * 22 := by
 cases l with
 | nil => simp [sp]
 | cons x xs =>
  have h1 := numB_len (h x List.mem_cons_self)
  have h2 := flat_len (g := fun y => 32 :: numB y) (n := 22) (l := xs) fun y hy => by
   have := numB_len (h y (List.mem_cons_of_mem _ hy))
   simp only [List.length_cons]
   omega
  rw [sp, List.length_append, List.length_cons, Nat.succ_mul]
  omega
def cb (c : List Int) : List Int := c.flatMap fun x => numB x ++ [32]
theorem sp_zero (c : List Int) : sp (c ++ [0]) = cb c ++ [48] := by
 have h0 : numB 0 = [48] := by
  show bytesOf (numeral 0) = _
  rw [bytes_numeral, if_neg (by decide)]
  exact fig_small (by decide)
 cases c with
 | nil => simp [sp, cb, h0]
 | cons x xs =>
  have : ∀ (a : List Int) (xs : List Int), a ++ (xs ++ [0]).flatMap (fun y => 32 :: numB y) = a ++ [32] ++ xs.flatMap (fun x => numB x ++ [32]) ++ [48] := by
   intro a xs
   induction xs generalizing a with
   | nil => simp [h0]
   | cons y ys ih =>
    have := ih (a ++ 32 :: numB y)
    simp only [List.cons_append, List.flatMap_cons, List.append_assoc] at this ⊢
    simpa [List.append_assoc] using this
  simp only [List.cons_append, sp, cb, List.flatMap_cons]
  rw [this]
theorem cb_isB (c : List Int) : IsB (cb c) := flat_isB fun x _ => (numB_isB x).append (fun c hc => by rw [List.mem_singleton] at hc; omega)
theorem cb_len {l : List Int} (h : ∀ x ∈ l, I64 x) : (cb l).length ≤ l.length * 22 := flat_len fun x hx => by
 have := numB_len (h x hx)
 rw [List.length_append, List.length_singleton]
 omega
theorem Write0_eq (s : ByteArray) (h : (bytesOf s).length ≤ 140737488355328) : strings_Builder_WriteString0 s = some (sizI s, bytesOf s) := by
 unfold strings_Builder_WriteString0
 rw [show bld_check0 = some () from rfl, Option.bind_some, if_pos (by rw [capN_iff, lenN_eq]; omega)]
theorem Write1_eq (s : ByteArray) (q : List Int) (h : q.length + (bytesOf s).length ≤ 140737488355328) : strings_Builder_WriteString1 s q = some (sizI s, q ++ bytesOf s) := by
 unfold strings_Builder_WriteString1
 rw [show bld_check1 q = some q from rfl, Option.bind_some, if_pos (by rw [capN_iff, lenN_eq, List.length_append]; omega)]
theorem line_eq (ahead : ByteArray) {l : List Int} (hl : ∀ x ∈ l, I64 x) (hn : l.length ≤ 1000000000) (ha : (bytesOf ahead).length ≤ 1000) : cnf_line ahead l = some (strOf (bytesOf ahead ++ sp l ++ [10])) := by
 unfold cnf_line
 rw [Write0_eq _ (by omega), Option.bind_some]
 simp only
 have htk : ∀ k, (sp (l.take k)).length ≤ 22000000000 := fun k => by
  have h1 := sp_len (l := l.take k) fun x hx => hl x (List.mem_of_mem_take hx)
  have h2 : (l.take k).length ≤ l.length := by rw [List.length_take]; omega
  omega
 have hloop := loopF_count (body := cnf_line_B0 l) (fun k => (bytesOf ahead ++ sp (l.take k), (k : Int))) l.length (r := bytesOf ahead ++ sp l) (fun k hk => by
  have h1 := htk k
  have hx := hl _ (List.getElem_mem hk)
  have h2 := numB_len hx
  unfold cnf_line_B0
  simp only
  rw [if_pos (by rw [lt_len]; exact hk), getI_nat, List.getElem?_eq_getElem hk, Option.bind_some, inc_ok (by omega), take_snoc hk, sp_snoc]
  generalize l[k] = x at hx h2
  by_cases h0 : 0 < k
  ·rw [if_pos (by rw [ilt_iff]; omega), if_neg (by rw [List.length_take]; omega), Write1_eq _ _ (by rw [List.length_append, show bytesOf { data := #[32] } = [32] from rfl, List.length_singleton]; omega), Option.bind_some, Itoa_eq hx, Option.bind_some]
   simp only
   rw [Write1_eq _ _ (by rw [List.length_append, List.length_append, show bytesOf { data := #[32] } = [32] from rfl, List.length_singleton, show bytesOf (numeral x) = numB x from rfl]; omega), Option.bind_some]
   simp only [show bytesOf { data := #[32] } = [32] from rfl, List.append_assoc]
   rfl
  ·obtain rfl : k = 0 := by omega
   rw [if_neg (by rw [ilt_iff]; omega), if_pos (by simp), Itoa_eq hx, Option.bind_some, Write1_eq _ _ (by rw [List.length_append, show bytesOf (numeral x) = numB x from rfl]; omega), Option.bind_some]
   simp only [List.append_assoc, List.nil_append]
   rfl) (by
  unfold cnf_line_B0
  simp only
  rw [if_neg (by rw [lt_len]; omega), List.take_length])
 have h0 : (bytesOf ahead ++ sp (l.take 0), ((0 : Nat) : Int)) = (bytesOf ahead, 0) := by simp [sp]
 rw [h0] at hloop
 have h3 := htk l.length
 rw [List.take_length] at h3
 rw [hloop, Option.bind_some, Write1_eq _ _ (by rw [List.length_append, show bytesOf { data := #[10] } = [10] from rfl, List.length_singleton]; omega), Option.bind_some]
 simp only [show bytesOf { data := #[10] } = [10] from rfl]
 unfold strings_Builder_String
 rw [if_pos (by rw [List.length_append, List.length_append, List.length_singleton]; omega), Option.bind_some]
theorem joined_bytes (xs : List ByteArray) : bytesOf (joined xs ⟨#[]⟩) = xs.flatMap bytesOf := by
 unfold joined
 rw [bytesOf_mk]
 have : ∀ l : List (List UInt8), Go.Lib.join l [] = l.flatten := by
  intro l
  cases l with
  | nil => rfl
  | cons x r => rw [Go.Lib.join_cons]; simp [Go.Lib.joinTail]
 rw [show (⟨#[]⟩ : ByteArray).data.toList = [] from rfl, this]
 induction xs with
 | nil => rfl
 | cons x xs ih =>
  rw [List.map_cons, List.flatten_cons, List.map_append, ih, List.flatMap_cons]
  rfl
theorem Join_eq {xs : List ByteArray} (h0 : 0 < xs.length) (h1 : xs.length ≤ 1000000000) (h2 : (xs.flatMap bytesOf).length ≤ 1000000000000) : strings_Join xs ⟨#[]⟩ = some (joined xs ⟨#[]⟩) := by
 unfold strings_Join
 have h3 : (Go.Lib.join (xs.map (·.data.toList)) (⟨#[]⟩ : ByteArray).data.toList).length = (xs.flatMap bytesOf).length := by
  rw [← joined_bytes]
  unfold joined
  rw [bytesOf_mk, List.length_map]
 rw [if_pos ⟨h0, by omega, by rw [h3]; omega⟩]
def tx0 (N : Int) (n : Nat) : List Int := [112, 32, 99, 110, 102, 32] ++ numB N ++ [32] ++ numB n ++ [10]
def tcl (c : List Int) : List Int := cb c ++ [48, 10]
def tx (f : Cnf) : List Int := tx0 f.N f.cs.length ++ f.cs.flatMap tcl
theorem tx0_isB (N : Int) (n : Nat) : IsB (tx0 N n) := by
 unfold tx0
 refine ((((IsB.append ?_ (numB_isB _)).append ?_).append (numB_isB _)).append ?_) <;> (intro c hc; simp at hc; omega)
theorem tcl_isB (c : List Int) : IsB (tcl c) := (cb_isB c).append (fun c hc => by simp at hc; omega)
theorem tx_isB (f : Cnf) : IsB (tx f) := (tx0_isB _ _).append (flat_isB fun c _ => tcl_isB c)
theorem right_parts {f : Cnf} (h : rightT f = true) : (0 ≤ f.N ∧ f.N ≤ 100000) ∧ f.cs.length ≤ 20000 ∧ ∀ c ∈ f.cs, c.length ≤ 1000 ∧ ∀ l ∈ c, l ≠ 0 ∧ -f.N ≤ l ∧ l ≤ f.N := by
 unfold rightT at h
 rw [Bool.and_eq_true, decide_eq_true_iff, List.all_eq_true] at h
 refine ⟨⟨h.1.1, h.1.2.1⟩, h.1.2.2, fun c hc => ?_⟩
 have := h.2 c hc
 unfold clR at this
 rw [Bool.and_eq_true, decide_eq_true_iff, List.all_eq_true] at this
 refine ⟨this.1, fun l hl => ?_⟩
 have := this.2 l hl
 unfold litR at this
 rwa [decide_eq_true_iff] at this
theorem tcl_len {c : List Int} (h : c.length ≤ 1000) (hl : ∀ x ∈ c, I64 x) : (tcl c).length ≤ 22002 := by
 have := cb_len hl
 unfold tcl
 rw [List.length_append]
 simp only [List.length_cons, List.length_nil]
 omega
theorem tx0_len {N : Int} {n : Nat} (h : I64 N) (hn : n ≤ 1000000000) : (tx0 N n).length ≤ 100 := by
 have h1 := numB_len h
 have h2 := numB_len (n := (n : Int)) ⟨by omega, by omega⟩
 unfold tx0
 simp only [List.length_append, List.length_cons, List.length_nil]
 omega
theorem tx_len {f : Cnf} (h : rightT f = true) : (tx f).length ≤ 1000000000 := by
 obtain ⟨h1, h2, h3⟩ := right_parts h
 have g1 := tx0_len (N := f.N) (n := f.cs.length) ⟨by omega, by omega⟩ (by omega)
 have g2 := flat_len (g := tcl) (n := 22002) (l := f.cs) fun c hc => tcl_len (h3 c hc).1 fun x hx => by
  have := (h3 c hc).2 x hx
  exact ⟨by omega, by omega⟩
 unfold tx
 rw [List.length_append]
 omega
theorem Clone_eq {c : List Int} (h : c.length ≤ 1000) : slices_Clone c = some c := by unfold slices_Clone; rw [if_pos (by omega)]
theorem cline_eq {c : List Int} (h : c.length ≤ 1000) (hl : ∀ x ∈ c, I64 x) : cnf_line ({ data := #[] }) (c ++ [0]) = some (strOf (tcl c)) := by
 rw [line_eq _ (fun x hx => by
  rcases List.mem_append.1 hx with hx | hx
  ·exact hl x hx
  ·rw [List.mem_singleton] at hx; subst hx; exact ⟨by decide, by decide⟩) (by rw [List.length_append, List.length_singleton]; omega) (by simp), sp_zero]
 simp [tcl, List.append_assoc]
theorem Print_eq (f : Cnf) : cnf_Print f = some (if rightT f = true then (strOf (tx f), 0) else ({ data := #[] }, 1)) := by
 unfold cnf_Print
 rw [Right_eq, Option.bind_some]
 by_cases hr : rightT f = true
 case neg => rw [if_neg hr, if_neg hr]
 rw [if_pos hr, if_pos hr]
 obtain ⟨h1, h2, h3⟩ := right_parts hr
 have hI : ∀ c ∈ f.cs, ∀ x ∈ c, I64 x := fun c hc x hx => by
  have := (h3 c hc).2 x hx
  exact ⟨by omega, by omega⟩
 have hlen := tx_len hr
 have hhead : cnf_line ({ data := #[112, 32, 99, 110, 102, 32] }) ([f.N, lenI f.cs]) = some (strOf (tx0 f.N f.cs.length)) := by
  rw [line_eq _ (fun x hx => by
   simp at hx
   rcases hx with rfl | rfl
   ·exact ⟨by omega, by omega⟩
   ·rw [lenI_eq]; exact ⟨by omega, by omega⟩) (by simp) (by decide), lenI_eq]
  simp [tx0, sp, List.append_assoc]
  rfl
 rw [hhead, Option.bind_some]
 have hb : ∀ cs : List (List Int), (strOf (tx0 f.N f.cs.length) :: cs.map fun c => strOf (tcl c)).flatMap bytesOf = tx0 f.N f.cs.length ++ cs.flatMap tcl := by
  intro cs
  rw [List.flatMap_cons, bytesOf_strOf (tx0_isB _ _)]
  congr 1
  induction cs with
  | nil => rfl
  | cons c cs ih => rw [List.map_cons, List.flatMap_cons, ih, bytesOf_strOf (tcl_isB c), List.flatMap_cons]
 have hj : joined (strOf (tx0 f.N f.cs.length) :: f.cs.map fun c => strOf (tcl c)) ⟨#[]⟩ = strOf (tx f) := by
  apply bytesOf_inj
  rw [joined_bytes, hb, bytesOf_strOf (tx_isB f)]
  rfl
 have hJ : strings_Join (strOf (tx0 f.N f.cs.length) :: f.cs.map fun c => strOf (tcl c)) ⟨#[]⟩ = some (strOf (tx f)) := by
  rw [Join_eq (by simp) (by simp; omega) (by rw [hb]; have : (tx f).length ≤ 1000000000 := hlen; unfold tx at this; omega), hj]
 by_cases h0 : 0 < f.cs.length
 ·rw [if_pos (by rw [ilt_iff, lenI_eq]; omega)]
  have hm0 := List.getElem_mem h0
  rw [show getI f.cs 0 = getI f.cs ((0 : Nat) : Int) from rfl, getI_nat, List.getElem?_eq_getElem h0, Option.bind_some, Clone_eq (h3 _ hm0).1, Option.bind_some, if_pos (by have := (h3 _ hm0).1; rw [capN_iff, lenN_eq, List.length_append, List.length_singleton]; omega), cline_eq (h3 _ hm0).1 (hI _ hm0), Option.bind_some, if_pos (by decide)]
  have hloop := loopF_count (body := cnf_Print_B0 f) (fun k => (strOf (tx0 f.N f.cs.length) :: (f.cs.take (k + 1)).map fun c => strOf (tcl c), ((k + 1 : Nat) : Int))) (f.cs.length - 1) (r := strOf (tx0 f.N f.cs.length) :: f.cs.map fun c => strOf (tcl c)) (fun k hk => by
   have hk1 : k + 1 < f.cs.length := by omega
   have hm := List.getElem_mem hk1
   have hcl := (h3 _ hm).1
   unfold cnf_Print_B0
   simp only
   rw [if_pos (by rw [lt_len]; exact hk1), getI_nat, List.getElem?_eq_getElem hk1, Option.bind_some, Clone_eq hcl, Option.bind_some, if_pos (by rw [capN_iff, lenN_eq, List.length_append, List.length_singleton]; omega), cline_eq hcl (hI _ hm), Option.bind_some, if_pos (by rw [capN_iff, lenN_eq, List.length_append, List.length_cons, List.length_map, List.length_take, List.length_singleton]; omega), inc_ok (by omega), take_snoc hk1, List.map_append]
   simp) (by
   unfold cnf_Print_B0
   simp only
   rw [if_neg (by rw [lt_len]; omega), show f.cs.length - 1 + 1 = f.cs.length by omega, List.take_length])
  have e0 : (strOf (tx0 f.N f.cs.length) :: (f.cs.take (0 + 1)).map (fun c => strOf (tcl c)), ((0 + 1 : Nat) : Int)) = ([strOf (tx0 f.N f.cs.length), strOf (tcl f.cs[0])], iadd IntKind.i64 0 1) := by
   rw [take_snoc h0]
   simp
   decide
  rw [e0] at hloop
  rw [hloop, Option.bind_some, hJ, Option.bind_some]
 ·have hnil : f.cs = [] := List.eq_nil_of_length_eq_zero (by omega)
  rw [if_neg (by rw [ilt_iff, lenI_eq]; omega)]
  have e : [strOf (tx0 f.N f.cs.length)] = strOf (tx0 f.N f.cs.length) :: f.cs.map fun c => strOf (tcl c) := by
   rw [hnil]; rfl
  rw [e, hJ, Option.bind_some]
end Go.Vid
set_option linter.unusedSimpArgs false
set_option linter.unusedVariables false
set_option maxRecDepth 20000
namespace Go.Vid
open Go.Vabs
theorem IsB.one {c : Int} (h : 0 ≤ c ∧ c ≤ 255) : IsB [c] := fun d hd => by rw [List.mem_singleton] at hd; subst hd; exact h
theorem strOf_num {a : List Int} (ha : IsB a) (n : Int) : strOf a ++ numeral n = strOf (a ++ numB n) := by
 apply bytesOf_inj
 rw [bytesOf_append, bytesOf_strOf ha, bytesOf_strOf (ha.append (numB_isB n))]
 rfl
theorem strOf_lit {a b : List Int} {s : ByteArray} (hs : bytesOf s = b) (ha : IsB a) : strOf a ++ s = strOf (a ++ b) := by
 subst hs
 apply bytesOf_inj
 rw [bytesOf_append, bytesOf_strOf ha, bytesOf_strOf (ha.append (bytesOf_isB s))]
theorem cb_snoc (l : List Int) (x : Int) : cb (l ++ [x]) = cb l ++ numB x ++ [32] := by simp [cb, List.append_assoc]
theorem addOk_of {a b : ByteArray} (h1 : (bytesOf a).length ≤ 1000000000000) (h2 : (bytesOf b).length ≤ 1000000000000) : addOk a b = true := by rw [addOk_iff]; omega
theorem small32 : (bytesOf { data := #[32] }).length ≤ 1000000000000 := by decide
theorem num_le {n : Int} (h : I64 n) : (bytesOf (numeral n)).length ≤ 1000000000000 := by
 have := numB_len h
 unfold numB at this
 omega
def modL : Nat → List Bool → List Int
 | _, [] => []
 | k, b :: t => (if b = true then ((k + 1 : Nat) : Int) else -((k + 1 : Nat) : Int)) :: modL (k + 1) t
theorem modL_snoc : ∀ (m : List Bool) (k : Nat) (b : Bool), modL k (m ++ [b]) = modL k m ++ [if b = true then ((k + m.length + 1 : Nat) : Int) else -((k + m.length + 1 : Nat) : Int)]
 | [], k, b => by simp [modL]
 | a :: t, k, b => by
  rw [List.cons_append, modL, modL_snoc t (k + 1) b, modL, List.length_cons, show k + 1 + t.length = k + (t.length + 1) by omega]
  rfl
theorem modL_len : ∀ (m : List Bool) (k : Nat), (modL k m).length = m.length
 | [], _ => rfl
 | a :: t, k => by rw [modL, List.length_cons, modL_len t, List.length_cons]
theorem modL_bd : ∀ (m : List Bool) (k : Nat) (x : Int), x ∈ modL k m → -((k + m.length : Nat) : Int) ≤ x ∧ x ≤ ((k + m.length : Nat) : Int)
 | [], _, x, h => by cases h
 | a :: t, k, x, h => by
  rw [modL, List.mem_cons] at h
  rw [List.length_cons]
  rcases h with rfl | h
  ·split <;> omega
  ·have := modL_bd t (k + 1) x h
   omega
def txm (m : List Bool) : List Int := [118, 32] ++ cb (modL 0 m) ++ [48, 10]
theorem txm_isB (m : List Bool) : IsB (txm m) := by
 unfold txm
 refine (IsB.append ?_ (cb_isB _)).append ?_ <;> (intro c hc; simp at hc; omega)
theorem PrintModel_eq {m : List Bool} (hm : m.length ≤ 1000000) : cnf_PrintModel m = some (strOf (txm m)) := by
 unfold cnf_PrintModel
 have hloop := loopF_count (body := cnf_PrintModel_B0 m) (fun k => (modL 0 (m.take k), (k : Int))) m.length (r := modL 0 m) (fun k hk => by
  have hl : (modL 0 (m.take k)).length = k := by rw [modL_len, List.length_take]; omega
  have hlt : (m.take k).length = k := by rw [List.length_take]; omega
  unfold cnf_PrintModel_B0
  simp only
  rw [if_pos (by rw [lt_len]; exact hk), getI_nat, List.getElem?_eq_getElem hk, Option.bind_some, inc_ok (by omega), take_snoc hk, modL_snoc, hlt]
  generalize m[k] = b
  cases b
  ·rw [if_neg (by simp), if_pos (by rw [capN_iff, lenN_eq, List.length_append, hl, List.length_singleton]; omega), ineg_ok (by omega) (by omega)]
   simp
  ·rw [if_pos rfl, if_pos (by rw [capN_iff, lenN_eq, List.length_append, hl, List.length_singleton]; omega)]
   simp) (by
  unfold cnf_PrintModel_B0
  simp only
  rw [if_neg (by rw [lt_len]; omega), List.take_length])
 have e0 : (modL 0 (m.take 0), ((0 : Nat) : Int)) = ([], 0) := by simp [modL]
 rw [e0] at hloop
 have hbd := modL_bd m 0
 rw [hloop, Option.bind_some, if_pos (by rw [capN_iff, lenN_eq, List.length_append, modL_len, List.length_singleton]; omega), line_eq _ (fun x hx => by
  rcases List.mem_append.1 hx with hx | hx
  ·have := hbd x hx
   exact ⟨by omega, by omega⟩
  ·rw [List.mem_singleton] at hx; subst hx; exact ⟨by decide, by decide⟩) (by rw [List.length_append, modL_len, List.length_singleton]; omega) (by decide), sp_zero, Option.bind_some]
 congr 1
 simp only [txm, List.append_assoc]
 rfl
end Go.Vid
