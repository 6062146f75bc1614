/- Plain laws: which formulas are right, which the same. No condition. -/
import Derived.Test.YthmnnieiibeiaaaP2
set_option linter.unusedSimpArgs false
set_option linter.unusedVariables false
set_option maxRecDepth 20000
namespace Go.Vid
open Go.Vabs
theorem loop_find {ε δ : Type} {b : Int → Option (Int ⊕ (ε ⊕ δ))} (n : Nat) (q : Nat → Bool) (e : Nat → ε) (d : δ) (h1 : ∀ k : Nat, k < n → b (k : Int) = some (if q k = true then .inr (.inl (e k)) else .inl ((k + 1 : Nat) : Int))) (h2 : b (n : Int) = some (.inr (.inr d))) :
  (∃ k, k < n ∧ q k = true ∧ loopF b 0 = some (.inl (e k))) ∨ ((∀ k, k < n → q k = false) ∧ loopF b 0 = some (.inr d)) := by
 have aux : ∀ m k : Nat, n - k = m → k ≤ n → (∀ j, j < k → q j = false) → (∃ k', k' < n ∧ q k' = true ∧ loopF b (k : Int) = some (.inl (e k'))) ∨ ((∀ k, k < n → q k = false) ∧ loopF b (k : Int) = some (.inr d)) := by
  intro m
  induction m with
  | zero =>
   intro k hm hk hj
   obtain rfl : k = n := by omega
   exact .inr ⟨hj, loopF_inr h2⟩
  | succ m ih =>
   intro k hm hk hj
   have h := h1 k (by omega)
   by_cases hq : q k = true
   ·rw [if_pos hq] at h
    exact .inl ⟨k, by omega, hq, loopF_inr h⟩
   ·rw [if_neg hq] at h
    rw [loopF_inl h]
    refine ih (k + 1) (by omega) (by omega) (fun j hjk => ?_)
    by_cases e : j = k
    ·subst e; simpa using hq
    ·exact hj j (by omega)
 exact aux n 0 rfl (Nat.zero_le _) (fun j h => absurd h (Nat.not_lt_zero _))
theorem inc_ok {k : Nat} (h : k ≤ 1000000000000000) : iadd .i64 (k : Int) 1 = ((k + 1 : Nat) : Int) := by rw [iadd_ok (by omega) (by omega)]; rfl
theorem lt_len {α : Type} {s : List α} {k : Nat} : (ilt (k : Int) (lenI s) = true) = (k < s.length) := by rw [ilt_iff, lenI_eq]; exact propext (by omega)
theorem any_ex {α : Type} {s : List α} {p : α → Bool} : s.any p = true ↔ ∃ k, ∃ h : k < s.length, p s[k] = true := by
 rw [List.any_eq_true]
 constructor
 ·rintro ⟨x, hx, hp⟩
  obtain ⟨k, hk, rfl⟩ := List.mem_iff_getElem.1 hx
  exact ⟨k, hk, hp⟩
 ·rintro ⟨k, hk, hp⟩
  exact ⟨_, List.getElem_mem hk, hp⟩
theorem any_no {α : Type} {s : List α} {p : α → Bool} : s.any p = false ↔ ∀ k, ∀ h : k < s.length, p s[k] = false := by
 rw [← Bool.not_eq_true, any_ex]
 constructor
 ·intro h k hk
  rw [← Bool.not_eq_true]
  exact fun hp => h ⟨k, hk, hp⟩
 ·rintro h ⟨k, hk, hp⟩
  rw [h k hk] at hp
  cases hp
def litR (N : Int) (l : Int) : Bool := decide (l ≠ 0 ∧ -N ≤ l ∧ l ≤ N)
def clR (N : Int) (c : List Int) : Bool := decide (c.length ≤ 1000) && c.all (litR N)
def rightT (f : Cnf) : Bool := decide (0 ≤ f.N ∧ f.N ≤ 100000 ∧ f.cs.length ≤ 20000) && f.cs.all (clR f.N)
theorem refRight_eq (f : Cnf) : ref03_Right f = some (rightT f) := by
 unfold ref03_Right rightT
 simp only [ilt_iff, lenI_eq]
 by_cases h0 : 0 ≤ f.N
 case neg => rw [if_pos (by omega), decide_eq_false (by omega)]; rfl
 rw [if_neg (by omega)]
 by_cases h1 : f.N ≤ 100000
 case neg => rw [if_pos (by omega), decide_eq_false (by omega)]; rfl
 rw [if_neg (by omega)]
 by_cases h2 : f.cs.length ≤ 20000
 case neg => rw [if_pos (by omega), decide_eq_false (by omega)]; rfl
 rw [if_neg (by omega), decide_eq_true ⟨h0, h1, h2⟩, Bool.true_and]
 have hq : f.cs.all (clR f.N) = !f.cs.any (fun c => !clR f.N c) := by simp [List.all_eq_not_any_not]
 rw [hq]
 refine Or.elim (loop_find (b := ref03_Right_B1 f) f.cs.length (fun k => if h : k < f.cs.length then !clR f.N f.cs[k] else false) (fun _ => ()) () (fun k hk => ?_) ?_) ?_ ?_
 rotate_left 2
 ·rintro ⟨k, hk, hq, h⟩
  rw [h, any_ex.2 ⟨k, hk, by simpa [hk] using hq⟩]
  rfl
 ·rintro ⟨hq, h⟩
  rw [h, any_no.2 fun k hk => by simpa [hk] using hq k hk]
  rfl
 ·unfold ref03_Right_B1
  simp only
  have hg := List.getElem?_eq_getElem hk
  rw [if_pos (by rw [lt_len]; exact hk), getI_nat, hg, Option.bind_some, inc_ok (by omega)]
  simp only [hk, dif_pos]
  generalize hc : f.cs[k] = c at hg
  unfold clR
  by_cases h3 : c.length ≤ 1000
  case neg => rw [if_pos (by rw [ilt_iff, lenI_eq]; omega), decide_eq_false h3]; rfl
  rw [if_neg (by rw [ilt_iff, lenI_eq]; omega), decide_eq_true h3, Bool.true_and]
  have hq : (!c.all (litR f.N)) = c.any (fun l => !litR f.N l) := by simp [List.all_eq_not_any_not]
  rw [hq]
  refine Or.elim (loop_find (b := ref03_Right_B0 f k) c.length (fun j => if h : j < c.length then !litR f.N c[j] else false) (fun _ => ()) () (fun j hj => ?_) ?_) ?_ ?_
  rotate_left 2
  ·rintro ⟨j, hj, hq, h⟩
   rw [h, any_ex.2 ⟨j, hj, by simpa [hj] using hq⟩]
   rfl
  ·rintro ⟨hq, h⟩
   rw [h, any_no.2 fun j hj => by simpa [hj] using hq j hj]
   rfl
  ·unfold ref03_Right_B0
   simp only
   rw [getI_nat, hg, Option.bind_some, if_pos (by rw [lt_len]; exact hj), getI_nat, List.getElem?_eq_getElem hj, Option.bind_some, inc_ok (by omega), ineg_ok (by omega) (by omega)]
   simp only [hj, dif_pos]
   generalize c[j] = l
   unfold litR
   simp only [ieq_iff, ilt_iff]
   by_cases g1 : l = 0
   ·rw [if_pos g1, decide_eq_false (by simp [g1])]; rfl
   rw [if_neg g1]
   by_cases g2 : f.N < l
   ·rw [if_pos g2, decide_eq_false (by omega)]; rfl
   rw [if_neg g2]
   by_cases g3 : l < -f.N
   ·rw [if_pos g3, decide_eq_false (by omega)]; rfl
   ·rw [if_neg g3, decide_eq_true ⟨g1, by omega, by omega⟩]; rfl
  ·unfold ref03_Right_B0
   simp only
   rw [getI_nat, hg, Option.bind_some, if_neg (by rw [lt_len]; omega)]
 ·unfold ref03_Right_B1
  simp only
  rw [if_neg (by rw [lt_len]; omega)]
def EB {α : Type} (f : α → α → Option Bool) (s1 s2 : List α) (x : Int) : Option (Int ⊕ (Unit ⊕ Unit)) :=
 if (ilt x (lenI s1)) = true then
  Option.bind (getI s1 x) fun v20 =>
  Option.bind (getI s2 x) fun v22 =>
  Option.bind (f v20 v22) fun v28 =>
  if v28 = true then some (.inl (iadd IntKind.i64 x 1)) else some (.inr (.inl ()))
 else some (.inr (.inr ()))
theorem EB_eq {α : Type} {f : α → α → Option Bool} {s1 s2 : List α} (hf : ∀ a ∈ s1, ∀ b, ∃ v, f a b = some v ∧ (v = true ↔ a = b)) (hn : s1.length = s2.length) (hl : s1.length ≤ 1000000000000000) :
  (loopF (EB f s1 s2) 0 = some (.inr ()) ∧ s1 = s2) ∨ (loopF (EB f s1 s2) 0 = some (.inl ()) ∧ s1 ≠ s2) := by
 classical
 refine Or.elim (loop_find (b := EB f s1 s2) s1.length (fun k => !decide (s1[k]? = s2[k]?)) (fun _ => ()) () (fun k hk => ?_) ?_) ?_ ?_
 rotate_left 2
 ·rintro ⟨k, hk, hq, h⟩
  refine .inr ⟨h, fun e => ?_⟩
  rw [e] at hq
  simp at hq
 ·rintro ⟨hq, h⟩
  refine .inl ⟨h, List.ext_getElem? fun k => ?_⟩
  by_cases hk : k < s1.length
  ·simpa using hq k hk
  ·rw [List.getElem?_eq_none (by omega), List.getElem?_eq_none (by omega)]
 ·unfold EB
  obtain ⟨v, h1, h2⟩ := hf s1[k] (List.getElem_mem hk) (s2[k]'(by omega))
  rw [if_pos (by rw [lt_len]; exact hk), getI_nat, List.getElem?_eq_getElem hk, Option.bind_some, getI_nat, List.getElem?_eq_getElem (show k < s2.length by omega), Option.bind_some, h1, Option.bind_some, inc_ok (by omega)]
  simp only [Option.some.injEq]
  by_cases e : s1[k] = s2[k]'(by omega)
  ·rw [if_pos (h2.2 e), if_neg (by simp [e])]
  ·rw [if_neg (fun h => e (h2.1 h)), if_pos (by simp [e])]
 ·unfold EB
  rw [if_neg (by rw [lt_len]; omega)]
theorem refInts_eq {a : List Int} (b : List Int) (hl : a.length ≤ 1000000000000000) : ref03_Ints a b = some (decide (a = b)) := by
 unfold ref03_Ints
 simp only [ieq_iff, lenI_eq]
 by_cases hn : a.length = b.length
 ·rw [if_pos (by omega), show ref03_Ints_B0 a b = EB (fun x y => some (ieq x y)) a b from rfl]
  rcases EB_eq (f := fun x y => some (ieq x y)) (s1 := a) (s2 := b) (fun x _ y => ⟨_, rfl, by rw [ieq_iff]⟩) hn hl with ⟨h, e⟩ | ⟨h, e⟩
  ·rw [h, decide_eq_true e]; rfl
  ·rw [h, decide_eq_false e]; rfl
 ·rw [if_neg (by omega), decide_eq_false (fun e => hn (by rw [e]))]
def FL (f : Cnf) : Prop := f.cs.length ≤ 1000000000000000 ∧ ∀ c ∈ f.cs, c.length ≤ 1000000000000000
theorem refSame_eq {a : Cnf} (b : Cnf) (hf : FL a) : ref03_Same a b = some (decide (a.N = b.N ∧ a.cs = b.cs)) := by
 unfold ref03_Same
 simp only [ieq_iff, lenI_eq]
 by_cases h0 : a.N = b.N
 case neg => rw [if_neg h0, decide_eq_false (fun h => h0 h.1)]
 rw [if_pos h0]
 by_cases hn : a.cs.length = b.cs.length
 ·rw [if_pos (by omega), show ref03_Same_B0 a b = EB ref03_Ints a.cs b.cs from rfl]
  rcases EB_eq (f := ref03_Ints) (s1 := a.cs) (s2 := b.cs) (fun x hx y => ⟨_, refInts_eq y (hf.2 x hx), by rw [decide_eq_true_iff]⟩) hn hf.1 with ⟨h, e⟩ | ⟨h, e⟩
  ·rw [h, decide_eq_true ⟨h0, e⟩]; rfl
  ·rw [h, decide_eq_false (fun h => e h.2)]; rfl
 ·rw [if_neg (by omega), decide_eq_false (fun e => hn (by rw [e.2]))]
theorem enc_Stays_eq {a : Aig} (h : a.Bd) (hg : GatesB a) (hl : LatchesB a) (hc : ∀ x ∈ a.con, 0 ≤ x ∧ x ≤ 200000) (hn : a.con.length ≤ 2000) {inv : Int} (hi : 0 ≤ inv ∧ inv ≤ 200000) : enc_Stays a inv = some { N := 2 * (a.V + 1), cs := a.frame 0 ++ a.frame 1 ++ a.link ++ ((a.con ++ [inv]).map fun x => [a.lt 0 x]) ++ [[a.lt 1 (flip inv)]] } := by
 have hf := flip_bd hi
 have h1 := frame_len h 0
 have h2 := frame_len h 1
 have h3 := lk_len a a.L.length
 have h4 := h.l
 have h5 : a.link.length ≤ 40000 := by unfold Aig.link; omega
 unfold enc_Stays
 rw [bxor_flip (by omega), enc_clause_eq h (by omega) (by simp) (by simp; omega), Option.bind_some, enc_Vars_eq h (by omega), Option.bind_some, enc_Frame_eq h hg (by omega), Option.bind_some, enc_Frame_eq h hg (by omega), Option.bind_some, enc_Link_eq h hl, Option.bind_some, enc_holds_eq h hc hn (by simp; omega) (by simp), Option.bind_some]
 have he : [a.frame 0, a.frame 1, a.link, (a.con ++ [inv]).map fun x => [a.lt 0 x], [List.map (a.lt 1) [flip inv]]].flatten = a.frame 0 ++ a.frame 1 ++ a.link ++ ((a.con ++ [inv]).map fun x => [a.lt 0 x]) ++ [[a.lt 1 (flip inv)]] := by simp
 rw [Concat_eq (by simp) (by rw [he]; simp; omega), he, Option.bind_some]
theorem LitsP.bd {v : Int} {l : List Int} (h : LitsP v l) (hv : v ≤ 20000) : ∀ x ∈ l, 0 ≤ x ∧ x ≤ 200000 := fun x hx => by
 have := h x hx
 omega
end Go.Vid
