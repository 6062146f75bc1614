/- Plain laws about the models of gates: what 'right' says, and that it always says something. No condition. -/
import Derived.Test.YthmnnieiibeiaaaG
import Derived.Test.YthmnnieiibeiaaaR
import Derived.Test.YthmnnieiibeiaaaVX
set_option linter.unusedSimpArgs false
set_option linter.unusedVariables false
set_option maxRecDepth 10000
namespace Go.Vid
open Go.Vabs
def LongB (lim : Int) (s : ByteArray) (at_ : Int) (p : Int × Int) : Option ((Int × Int) ⊕ (Unit ⊕ Int)) := match p with
 | (x24, x25) =>
  if (ilt x25 lim) = true then
   if (ile (isub IntKind.i64 (sizI s) at_) x25) = true then
    some (.inr (.inl ()))
   else
    Option.bind (getB s (iadd IntKind.i64 at_ x25)) fun v28 =>
    if (ilt v28 128) = true then
     some (.inr (.inl ()))
    else
     if (ilt 191 v28) = true then
      some (.inr (.inl ()))
     else
      some (.inl (((isub IntKind.i64 (iadd IntKind.i64 (imul IntKind.i64 x24 64) (iconv IntKind.i64 v28)) 128), (iadd IntKind.i64 x25 1))))
  else
   some (.inr (.inr x24))
theorem LongB_total (lim : Int) (hl : lim ≤ 8) (s : ByteArray) (hs : FitsS s) (at_ : Int) (h0 : 0 ≤ at_) (h1 : at_ < s.size) (c : Int) : ∃ r, loopF (LongB lim s at_) (c, 1) = some r := by
 have hs' : s.size ≤ 140737488351232 := by unfold FitsS at hs; rw [reach_eq] at hs; exact hs
 obtain ⟨r, hr, _⟩ := loopF_total (body := LongB lim s at_) (fun p => 1 ≤ p.2 ∧ p.2 ≤ 9) (fun p => (10 - p.2).toNat) (fun _ => True) (by
  rintro ⟨x, k⟩ ⟨hk1, hk2⟩
  simp only at hk1 hk2
  simp only [LongB]
  by_cases e1 : ilt k lim = true
  ·rw [if_pos e1]
   have e1' := e1
   simp only [ilt_iff] at e1'
   by_cases e2 : ile (isub .i64 (sizI s) at_) k = true
   ·rw [if_pos e2]; exact .inr ⟨_, rfl, trivial⟩
   ·rw [if_neg e2]
    simp only [ile_iff] at e2
    rw [sizI_eq, isub_ok (by omega) (by omega)] at e2
    rw [iadd_ok (by omega) (by omega)]
    obtain ⟨b, hb, hb0, hb1⟩ := getB_lt (s := s) (i := at_ + k) (by omega) (by omega)
    rw [hb, Option.bind_some]
    split
    ·exact .inr ⟨_, rfl, trivial⟩
    ·split
     ·exact .inr ⟨_, rfl, trivial⟩
     ·refine .inl ⟨_, rfl, ?_, ?_⟩
      ·simp only
       rw [iadd_ok (by omega) (by omega)]
       omega
      ·simp only
       rw [iadd_ok (by omega) (by omega)]
       omega
  ·rw [if_neg e1]; exact .inr ⟨_, rfl, trivial⟩) (c, 1) (by simp)
 exact ⟨r, hr⟩
def T4 (x : Option Int) : Prop := ∃ n, x = some n ∧ 0 ≤ n ∧ n ≤ 4
theorem T4_some {n : Int} (h : 0 ≤ n ∧ n ≤ 4) : T4 (some n) := ⟨n, rfl, h⟩
theorem T4_ite {c : Prop} [Decidable c] {x y : Option Int} (h1 : T4 x) (h2 : T4 y) : T4 (if c then x else y) := by split <;> assumption
theorem T4_bind {ρ : Type} {m : Option ρ} {f : ρ → Option Int} (h1 : ∃ r, m = some r) (h2 : ∀ r, T4 (f r)) : T4 (m.bind f) := by
 obtain ⟨r, rfl⟩ := h1
 exact h2 r
theorem Long_total (s : ByteArray) (hs : FitsS s) (at_ : Int) (h0 : 0 ≤ at_) (h1 : at_ < s.size) : T4 (ref01_Long s at_) := by
 have hB : ∀ (lim c : Int), lim ≤ 8 → ∃ r, loopF (LongB lim s at_) (c, 1) = some r := fun lim c hl => LongB_total lim hl s hs at_ h0 h1 c
 obtain ⟨b, hb, _, _⟩ := getB_lt (s := s) h0 h1
 unfold ref01_Long
 rw [hb, Option.bind_some]
 repeat (first
  | exact T4_some (by omega)
  | refine T4_ite ?_ ?_
  | (refine T4_bind (hB 4 _ (by omega)) ?_; rintro (⟨⟩ | y) <;> simp only)
  | (refine T4_bind (hB 3 _ (by omega)) ?_; rintro (⟨⟩ | y) <;> simp only)
  | (refine T4_bind (hB 2 _ (by omega)) ?_; rintro (⟨⟩ | y) <;> simp only)
  | (refine T4_bind (hB 1 _ (by omega)) ?_; rintro (⟨⟩ | y) <;> simp only))
theorem IsName_total (s : ByteArray) (hs : FitsS s) : ∃ b, ref01_IsName s = some b := by
 have hs' : s.size ≤ 140737488351232 := by unfold FitsS at hs; rw [reach_eq] at hs; exact hs
 obtain ⟨r, hr, _⟩ := loopF_total (body := ref01_IsName_B0 s) (fun p => 0 ≤ p.1 ∧ p.1 ≤ p.2 ∧ p.2 ≤ s.size + 4) (fun p => (s.size + 4 - p.2).toNat) (fun _ => True) (by
  rintro ⟨x, k⟩ ⟨hx, hk1, hk2⟩
  simp only at hx hk1 hk2
  simp only [ref01_IsName_B0]
  by_cases e1 : ilt k (sizI s) = true
  ·rw [if_pos e1]
   simp only [ilt_iff, sizI_eq] at e1
   obtain ⟨n, hn, hn0, hn4⟩ := Long_total s hs k (by omega) e1
   rw [hn, Option.bind_some]
   by_cases e2 : ieq n 0 = true
   ·rw [if_pos e2]; exact .inr ⟨_, rfl, trivial⟩
   ·rw [if_neg e2]
    simp only [ieq_iff] at e2
    obtain ⟨b, hb, _, _⟩ := getB_lt (s := s) (i := k) (by omega) e1
    rw [hb, Option.bind_some]
    split
    ·exact .inr ⟨_, rfl, trivial⟩
    ·split
     ·exact .inr ⟨_, rfl, trivial⟩
     ·refine .inl ⟨_, rfl, ?_, ?_⟩
      ·simp only
       rw [iadd_ok (by omega) (by omega), iadd_ok (by omega) (by omega)]
       omega
      ·simp only
       rw [iadd_ok (a := k) (by omega) (by omega)]
       omega
  ·rw [if_neg e1]; exact .inr ⟨_, rfl, trivial⟩) (0, 0) ⟨Int.le_refl _, Int.le_refl _, by simp only; omega⟩
 unfold ref01_IsName
 rw [hr, Option.bind_some]
 rcases r with ⟨⟩ | y
 ·exact ⟨_, rfl⟩
 ·simp only
  split <;> exact ⟨_, rfl⟩
theorem kind_total (c : Int) : ∃ k, ref06_kind c = some k := by
 obtain ⟨r, hr, _⟩ := loopF_ex (body := ref06_kind_B0 c) (fun k => (k : Int)) 5 (fun _ => True) (fun _ => True) (by
  intro k hk _
  simp only [ref06_kind_B0]
  rw [if_pos (by simp; omega), if_pos (by rw [inI_iff]; omega), nthI_nat]
  have : ∃ v, ([105, 108, 111, 98, 99] : List Int)[k]? = some v := ⟨_, List.getElem?_eq_getElem (by simp; omega)⟩
  obtain ⟨v, hv⟩ := this
  rw [hv, Option.bind_some]
  split
  ·exact .inr ⟨_, rfl, trivial⟩
  ·exact .inl ⟨by rw [iadd_ok (by omega) (by omega)]; rfl, trivial⟩) (by
  intro _
  simp only [ref06_kind_B0]
  rw [if_neg (by simp)]
  exact ⟨_, rfl, trivial⟩)
 unfold ref06_kind
 have hr : loopF (ref06_kind_B0 c) 0 = some r := hr
 rw [hr, Option.bind_some]
 rcases r with y | ⟨⟩ <;> exact ⟨_, rfl⟩
theorem many_total (a : Aig) (k : Int) : ∃ n, ref06_many a k = some n := by
 unfold ref06_many
 repeat (first | exact ⟨_, rfl⟩ | split)
theorem Behind_total (x y : Name) : ∃ b, ref06_Behind x y = some b := by
 unfold ref06_Behind
 obtain ⟨k, hk⟩ := kind_total x.kind
 obtain ⟨l, hl⟩ := kind_total y.kind
 rw [hk, Option.bind_some, hl, Option.bind_some]
 repeat (first | exact ⟨_, rfl⟩ | split)
theorem Aig.Wf.len {a : Aig} (h : a.Wf) : a.L.length * 16 ≤ 140737488351232 ∧ a.G.length * 16 ≤ 140737488351232 ∧ a.outs.length * 8 ≤ 140737488351232 ∧ a.bad.length * 8 ≤ 140737488351232 ∧ a.con.length * 8 ≤ 140737488351232 ∧ a.names.length * 32 ≤ 140737488351232 := by
 obtain ⟨_, h1, h2, h3, h4, h5, h6, _⟩ := h
 have e := reach_eq
 exact ⟨by have := h1.1; omega, by have := h2.1; omega, by have := h3.1; omega, by have := h4.1; omega, by have := h5.1; omega, by have := h6.1; omega⟩
def LitsP (v : Int) (l : List Int) : Prop := ∀ x ∈ l, 0 ≤ x ∧ x ≤ 2 * v + 1
theorem lits_total (l : List Int) (hl : l.length * 8 ≤ 140737488351232) (v : Int) (h0 : 0 ≤ v) (h1 : v ≤ 20000) : ∃ b, ref06_lits l v = some b ∧ (b = true → LitsP v l ∧ l.length ≤ 2000) := by
 obtain ⟨r, hr, hq⟩ := loopF_ex (body := ref06_lits_B0 l v) (fun k => (k : Int)) l.length (fun k => ∀ x, l[k]? = some x → 0 ≤ x ∧ x ≤ 2 * v + 1) (fun r => r = .inr () → LitsP v l) (by
  intro k hk _
  simp only [ref06_lits_B0]
  have hx := List.getElem?_eq_getElem hk
  rw [if_pos (by simp [lenI_eq]; omega), getI_nat, hx, Option.bind_some]
  split
  ·exact .inr ⟨_, rfl, fun h => by cases h⟩
  ·rename_i e1
   rw [imul_ok (by omega) (by omega), iadd_ok (by omega) (by omega)]
   split
   ·exact .inr ⟨_, rfl, fun h => by cases h⟩
   ·rename_i e2
    refine .inl ⟨by rw [iadd_ok (by omega) (by omega)]; rfl, fun x h => ?_⟩
    injection h with h
    subst h
    simp only [ilt_iff] at e1 e2
    omega) (by
  intro hA
  simp only [ref06_lits_B0]
  rw [if_neg (by simp [lenI_eq])]
  refine ⟨_, rfl, fun _ x hx => ?_⟩
  obtain ⟨k, hk, rfl⟩ := List.mem_iff_getElem.1 hx
  exact hA k hk _ (List.getElem?_eq_getElem hk))
 unfold ref06_lits
 have hr : loopF (ref06_lits_B0 l v) 0 = some r := hr
 rw [hr, Option.bind_some]
 rcases r with ⟨⟩ | ⟨⟩
 ·exact ⟨_, rfl, fun h => by cases h⟩
 ·refine ⟨_, rfl, fun h => ⟨hq rfl, ?_⟩⟩
  simp only [ile_iff, lenI_eq] at h
  omega
def LatchesP (a : Aig) (v : Int) : Prop := ∀ (k : Nat) (x : Latch), a.L[k]? = some x → 0 ≤ x.next ∧ x.next ≤ 2 * v + 1 ∧ (x.reset = 0 ∨ x.reset = 1 ∨ x.reset = 2 * (a.I + k + 1))
def GatesP (a : Aig) : Prop := ∀ (k : Nat) (x : And), a.G[k]? = some x → 0 ≤ x.b ∧ x.b ≤ x.a ∧ x.a < 2 * (a.I + a.L.length + k + 1)
structure RightP (a : Aig) : Prop where
 i0 : 0 ≤ a.I
 vars : a.I + a.L.length + a.G.length ≤ 20000
 outs : LitsP (a.I + a.L.length + a.G.length) a.outs
 bad : LitsP (a.I + a.L.length + a.G.length) a.bad
 con : LitsP (a.I + a.L.length + a.G.length) a.con
 latches : LatchesP a (a.I + a.L.length + a.G.length)
 gates : GatesP a
theorem Right_total (a : Aig) (ha : a.Wf) : ∃ b, ref06_Right a = some b ∧ (b = true → RightP a) := by
 obtain ⟨l1, l2, l3, l4, l5, l6⟩ := ha.len
 have hI := (ha.1).i64
 unfold ref06_Right
 split
 ·exact ⟨_, rfl, fun h => by cases h⟩
 rename_i e1
 split
 ·exact ⟨_, rfl, fun h => by cases h⟩
 rename_i e2
 split
 ·exact ⟨_, rfl, fun h => by cases h⟩
 rename_i e3
 split
 ·exact ⟨_, rfl, fun h => by cases h⟩
 rename_i e4
 simp only [ilt_iff, lenI_eq] at e1 e2 e3 e4
 obtain ⟨v, hv⟩ : ∃ v, v = a.I + a.L.length + a.G.length := ⟨_, rfl⟩
 have hV : ref06_Vars a = some v := by
  unfold ref06_Vars
  rw [lenI_eq, lenI_eq, iadd_ok (a := a.I) (by omega) (by omega), iadd_ok (by omega) (by omega), hv]
 rw [hV, Option.bind_some]
 split
 ·exact ⟨_, rfl, fun h => by cases h⟩
 rename_i e5
 split
 ·exact ⟨_, rfl, fun h => by cases h⟩
 rename_i e6
 simp only [ilt_iff, lenI_eq] at e5 e6
 obtain ⟨b1, h1, p1⟩ := lits_total a.outs l3 v (by omega) (by omega)
 obtain ⟨b2, h2, p2⟩ := lits_total a.bad l4 v (by omega) (by omega)
 obtain ⟨b3, h3, p3⟩ := lits_total a.con l5 v (by omega) (by omega)
 rw [h1, Option.bind_some, h2, Option.bind_some, h3, Option.bind_some]
 split
 case isFalse => exact ⟨_, rfl, fun h => by cases h⟩
 rename_i f1
 split
 case isFalse => exact ⟨_, rfl, fun h => by cases h⟩
 rename_i f2
 split
 case isFalse => exact ⟨_, rfl, fun h => by cases h⟩
 rename_i f3
 obtain ⟨r, hr, hq⟩ := loopF_ex (body := ref06_Right_B0 a v) (fun k => (k : Int)) a.L.length (fun k => ∀ x, a.L[k]? = some x → 0 ≤ x.next ∧ x.next ≤ 2 * v + 1 ∧ (x.reset = 0 ∨ x.reset = 1 ∨ x.reset = 2 * (a.I + k + 1))) (fun r => r = .inr () → LatchesP a v) (by
  intro k hk _
  simp only [ref06_Right_B0]
  have hx := List.getElem?_eq_getElem hk
  rw [if_pos (by simp [lenI_eq]; omega), getI_nat, hx, Option.bind_some]
  rw [imul_ok (a := 2) (b := v) (by omega) (by omega), iadd_ok (a := 2 * v) (by omega) (by omega), iadd_ok (a := a.I) (by omega) (by omega), iadd_ok (a := a.I + k) (by omega) (by omega), imul_ok (a := 2) (b := a.I + k + 1) (by omega) (by omega), iadd_ok (a := (k : Int)) (by omega) (by omega)]
  have fin : 0 ≤ a.L[k].next → a.L[k].next ≤ 2 * v + 1 → (a.L[k].reset = 0 ∨ a.L[k].reset = 1 ∨ a.L[k].reset = 2 * (a.I + k + 1)) → ∀ x, some a.L[k] = some x → 0 ≤ x.next ∧ x.next ≤ 2 * v + 1 ∧ (x.reset = 0 ∨ x.reset = 1 ∨ x.reset = 2 * (a.I + k + 1)) := fun g1 g2 g3 x h => by
   injection h with h
   subst h
   exact ⟨g1, g2, g3⟩
  split
  ·exact .inr ⟨_, rfl, fun h => by cases h⟩
  rename_i g1
  split
  ·exact .inr ⟨_, rfl, fun h => by cases h⟩
  rename_i g2
  simp only [ilt_iff] at g1 g2
  split
  ·rename_i g3; simp only [ieq_iff] at g3; exact .inl ⟨rfl, fin (by omega) (by omega) (.inl g3)⟩
  split
  ·rename_i g3; simp only [ieq_iff] at g3; exact .inl ⟨rfl, fin (by omega) (by omega) (.inr (.inl g3))⟩
  split
  ·rename_i g3; simp only [ieq_iff] at g3; exact .inl ⟨rfl, fin (by omega) (by omega) (.inr (.inr g3))⟩
  ·exact .inr ⟨_, rfl, fun h => by cases h⟩) (by
  intro hA
  simp only [ref06_Right_B0]
  rw [if_neg (by simp [lenI_eq])]
  exact ⟨_, rfl, fun _ k x hx => hA k (List.getElem?_eq_some_iff.1 hx).1 x hx⟩)
 have hr : loopF (ref06_Right_B0 a v) 0 = some r := hr
 rw [hr, Option.bind_some]
 rcases r with ⟨⟩ | ⟨⟩
 ·exact ⟨_, rfl, fun h => by cases h⟩
 simp only
 have hLat := hq rfl
 obtain ⟨r2, hr2, hq2⟩ := loopF_ex (body := ref06_Right_B1 a) (fun k => (k : Int)) a.G.length (fun k => ∀ x, a.G[k]? = some x → 0 ≤ x.b ∧ x.b ≤ x.a ∧ x.a < 2 * (a.I + a.L.length + k + 1)) (fun r => r = .inr () → GatesP a) (by
  intro k hk _
  simp only [ref06_Right_B1]
  have hx := List.getElem?_eq_getElem hk
  rw [if_pos (by simp [lenI_eq]; omega), getI_nat, hx, Option.bind_some]
  rw [lenI_eq, iadd_ok (a := a.I) (by omega) (by omega), iadd_ok (a := a.I + a.L.length) (by omega) (by omega), iadd_ok (a := a.I + a.L.length + k) (by omega) (by omega), imul_ok (a := 2) (by omega) (by omega), iadd_ok (a := (k : Int)) (by omega) (by omega)]
  split
  ·exact .inr ⟨_, rfl, fun h => by cases h⟩
  rename_i g1
  split
  ·exact .inr ⟨_, rfl, fun h => by cases h⟩
  rename_i g2
  split
  ·exact .inr ⟨_, rfl, fun h => by cases h⟩
  rename_i g3
  refine .inl ⟨rfl, fun x h => ?_⟩
  injection h with h
  subst h
  simp only [ilt_iff, ile_iff] at g1 g2 g3
  omega) (by
  intro hA
  simp only [ref06_Right_B1]
  rw [if_neg (by simp [lenI_eq])]
  exact ⟨_, rfl, fun _ k x hx => hA k (List.getElem?_eq_some_iff.1 hx).1 x hx⟩)
 have hr2 : loopF (ref06_Right_B1 a) 0 = some r2 := hr2
 rw [hr2, Option.bind_some]
 rcases r2 with ⟨⟩ | ⟨⟩
 ·exact ⟨_, rfl, fun h => by cases h⟩
 simp only
 have hGat := hq2 rfl
 obtain ⟨r3, hr3, _⟩ := loopF_ex (body := ref06_Right_B2 a) (fun k => (k : Int)) a.names.length (fun _ => True) (fun _ => True) (by
  intro k hk _
  simp only [ref06_Right_B2]
  have hx := List.getElem?_eq_getElem hk
  rw [if_pos (by simp [lenI_eq]; omega), getI_nat, hx, Option.bind_some]
  obtain ⟨n, hn⟩ := IsName_total a.names[k].s ((ha.2.2.2.2.2.2.1).2 _ (List.getElem_mem hk)).2.2.1
  rw [hn, Option.bind_some]
  split
  case isFalse => exact .inr ⟨_, rfl, trivial⟩
  split
  ·exact .inr ⟨_, rfl, trivial⟩
  obtain ⟨kd, hkd⟩ := kind_total a.names[k].kind
  obtain ⟨mn, hmn⟩ := many_total a kd
  rw [hkd, Option.bind_some, hmn, Option.bind_some]
  rw [iadd_ok (a := (k : Int)) (by omega) (by omega)]
  split
  ·exact .inr ⟨_, rfl, trivial⟩
  split
  ·rename_i g
   simp only [ilt_iff] at g
   rw [isub_ok (by omega) (by omega)]
   have e : (k : Int) - 1 = ((k - 1 : Nat) : Int) := by omega
   have hy := List.getElem?_eq_getElem (show k - 1 < a.names.length by omega)
   rw [e, getI_nat, hy, Option.bind_some]
   obtain ⟨bb, hbb⟩ := Behind_total a.names[k - 1] a.names[k]
   rw [hbb, Option.bind_some]
   split
   ·exact .inl ⟨rfl, trivial⟩
   ·exact .inr ⟨_, rfl, trivial⟩
  ·exact .inl ⟨rfl, trivial⟩) (by
  intro _
  simp only [ref06_Right_B2]
  rw [if_neg (by simp [lenI_eq])]
  exact ⟨_, rfl, trivial⟩)
 have hr3 : loopF (ref06_Right_B2 a) 0 = some r3 := hr3
 rw [hr3, Option.bind_some]
 rcases r3 with ⟨⟩ | ⟨⟩
 ·exact ⟨_, rfl, fun h => by cases h⟩
 ·subst hv
  exact ⟨_, rfl, fun _ => ⟨by omega, by omega, (p1 f1).1, (p2 f2).1, (p3 f3).1, hLat, hGat⟩⟩
structure SmallP (a : Aig) : Prop where
 i : a.I ≤ 40
 l : a.L.length ≤ 40
 g : a.G.length ≤ 40
 outs : a.outs.length ≤ 40
 bad : a.bad.length ≤ 40
 con : a.con.length ≤ 40
 names : a.names.length ≤ 40
theorem Small_total (a : Aig) (ha : a.Wf) : ∃ b, ref06_Small a 40 = some b ∧ (b = true → SmallP a) := by
 obtain ⟨l1, l2, l3, l4, l5, l6⟩ := ha.len
 unfold ref06_Small
 iterate 7 (split; · exact ⟨_, rfl, fun h => by cases h⟩)
 rename_i e1 e2 e3 e4 e5 e6 e7
 simp only [ilt_iff, lenI_eq] at e1 e2 e3 e4 e5 e6 e7
 obtain ⟨r, hr, _⟩ := loopF_ex (body := ref06_Small_B0 a) (fun k => (k : Int)) a.names.length (fun _ => True) (fun _ => True) (by
  intro k hk _
  simp only [ref06_Small_B0]
  have hx := List.getElem?_eq_getElem hk
  rw [if_pos (by simp [lenI_eq]; omega), getI_nat, hx, Option.bind_some]
  split
  ·exact .inr ⟨_, rfl, trivial⟩
  ·exact .inl ⟨by rw [iadd_ok (by omega) (by omega)]; rfl, trivial⟩) (by
  intro _
  simp only [ref06_Small_B0]
  rw [if_neg (by simp [lenI_eq])]
  exact ⟨_, rfl, trivial⟩)
 have hr : loopF (ref06_Small_B0 a) 0 = some r := hr
 rw [hr, Option.bind_some]
 rcases r with ⟨⟩ | ⟨⟩
 ·exact ⟨_, rfl, fun h => by cases h⟩
 ·exact ⟨_, rfl, fun _ => ⟨by omega, by omega, by omega, by omega, by omega, by omega, by omega⟩⟩
theorem May_total (a : Aig) (ha : a.Wf) : ∃ b, ref08_May a = some b ∧ (b = true → SmallP a ∧ RightP a) := by
 obtain ⟨b1, h1, p1⟩ := Small_total a ha
 obtain ⟨b2, h2, p2⟩ := Right_total a ha
 unfold ref08_May
 rw [h1, Option.bind_some, h2, Option.bind_some]
 split
 ·rename_i e; exact ⟨_, rfl, fun h => ⟨p1 e, p2 h⟩⟩
 ·exact ⟨_, rfl, fun h => by cases h⟩
theorem may_total (a : Aig) (ha : a.Wf) (l : Int) (hl : Fits .i64 l) : ∃ b, law19_may a l = some b ∧ (b = true → SmallP a ∧ RightP a ∧ 0 ≤ l ∧ l ≤ 2 * (a.I + a.L.length + a.G.length) + 1) := by
 obtain ⟨b1, h1, p1⟩ := May_total a ha
 unfold law19_may
 rw [h1, Option.bind_some]
 split
 case isFalse => exact ⟨_, rfl, fun h => by cases h⟩
 rename_i e
 obtain ⟨hS, hR⟩ := p1 e
 have q1 := hR.i0
 have q2 := hR.vars
 split
 case isFalse => exact ⟨_, rfl, fun h => by cases h⟩
 rename_i e2
 simp only [ile_iff] at e2
 unfold ref06_Vars
 rw [Option.bind_some, lenI_eq, lenI_eq, iadd_ok (a := a.I) (by omega) (by omega), iadd_ok (a := a.I + a.L.length) (by omega) (by omega), imul_ok (by omega) (by omega), iadd_ok (by omega) (by omega)]
 refine ⟨_, rfl, fun h => ⟨hS, hR, e2, ?_⟩⟩
 simpa using h
end Go.Vid
