/- Plain laws about values of gates, and models of clauses. No condition. -/
import Derived.Test.YtdoapnmbopifjaaP2
set_option linter.unusedSimpArgs false
set_option linter.unusedVariables false
set_option maxRecDepth 10000
namespace Go.Vid
open Go.Vabs

/-- A literal's value. -/
def vl (v : List Bool) (l : Int) : Bool := if l % 2 = 1 then !(v.getD (l / 2).toNat true) else v.getD (l / 2).toNat false
theorem ref08_Lit_eq {v : List Bool} {l : Int} (hl : 0 ≤ l ∧ l ≤ 1000000) : ref08_Lit v l = some (vl v l) := by
  unfold ref08_Lit vl
  rw [if_neg (by simp; omega), iquo2_ok hl.1 (by omega), irem2_ok hl.1]
  by_cases h : (v.length : Int) ≤ l / 2
  · rw [if_pos (by simpa [lenI_eq] using h)]
    have : v.length ≤ (l / 2).toNat := by omega
    split <;> simp [List.getD, List.getElem?_eq_none this]
  · rw [if_neg (by simpa [lenI_eq] using h)]
    have hlt : (l / 2).toNat < v.length := by omega
    rw [getI_lt (by omega) (by omega)]
    simp only [ieq_iff, Option.bind_some, bnot]
    split <;> simp [List.getD, List.getElem?_eq_getElem hlt]
/-- A clause's literal is true in a model. -/
def TrueIn (v : List Bool) (x : Int) : Prop := ∃ (k : Nat) (b : Bool), v[k]? = some b ∧ x = if b = true then (k : Int) + 1 else -(k : Int) - 1
theorem Clause_spec (c : List Int) (hc : c.length ≤ 1000000) (v : List Bool) (hv : v.length ≤ 1000000) : ∃ b, ref03_Clause c v = some b ∧ (b = true ↔ ∃ x ∈ c, TrueIn v x) := by
  obtain ⟨r, hr, hq⟩ := loopF_ex (body := ref03_Clause_B1 c v) (fun j => (j : Int)) c.length (fun j => ∀ x, c[j]? = some x → ¬ TrueIn v x) (fun r => (r = .inl () ∧ ∃ x ∈ c, TrueIn v x) ∨ (r = .inr () ∧ ¬ ∃ x ∈ c, TrueIn v x)) (by
    intro i hi _
    have h1 := List.getElem?_eq_getElem hi
    simp only [ref03_Clause_B1]
    rw [if_pos (by simp [lenI_eq]; omega)]
    obtain ⟨r, hr, hq⟩ := loopF_ex (body := ref03_Clause_B0 c v i) (fun j => (j : Int)) v.length (fun j => ∀ b, v[j]? = some b → c[i] ≠ if b = true then (j : Int) + 1 else -(j : Int) - 1) (fun r => (r = .inl () ∧ TrueIn v c[i]) ∨ (r = .inr () ∧ ¬ TrueIn v c[i])) (by
      intro j hj _
      have g1 := List.getElem?_eq_getElem hj
      simp only [ref03_Clause_B0]
      rw [if_pos (by simp [lenI_eq]; omega), getI_nat, g1, Option.bind_some, getI_nat, h1]
      simp only [Option.bind_some]
      rw [ineg_ok (by omega) (by omega), isub_ok (by omega) (by omega), iadd_ok (by omega) (by omega)]
      cases hb : v[j] with
      | true =>
        rw [if_pos rfl]
        simp only [ieq_iff]
        split
        · rename_i e
          exact .inr ⟨_, rfl, .inl ⟨rfl, j, true, by rw [g1, hb], by simpa using e⟩⟩
        · rename_i e
          refine .inl ⟨rfl, fun b hb' => ?_⟩
          simp only [Option.some.injEq] at hb'
          subst hb'
          simpa using e
      | false =>
        rw [if_neg (by simp)]
        simp only [ieq_iff]
        split
        · rename_i e
          exact .inr ⟨_, rfl, .inl ⟨rfl, j, false, by rw [g1, hb], by simpa using e⟩⟩
        · rename_i e
          refine .inl ⟨rfl, fun b hb' => ?_⟩
          simp only [Option.some.injEq] at hb'
          subst hb'
          simpa using e) (by
      intro hA
      simp only [ref03_Clause_B0]
      rw [if_neg (by simp [lenI_eq])]
      refine ⟨_, rfl, .inr ⟨rfl, ?_⟩⟩
      rintro ⟨k, b, hk, he⟩
      exact hA k (List.getElem?_eq_some_iff.1 hk).1 b hk he)
    have hr : loopF (ref03_Clause_B0 c v i) 0 = some r := hr
    rw [hr, Option.bind_some]
    rcases hq with ⟨rfl, he⟩ | ⟨rfl, he⟩
    · exact .inr ⟨_, rfl, .inl ⟨rfl, c[i], List.getElem_mem hi, he⟩⟩
    · refine .inl ⟨by simp only; rw [iadd_ok (by omega) (by omega)]; rfl, fun x hx => ?_⟩
      rw [h1] at hx
      injection hx with hx
      subst hx
      exact he) (by
    intro hA
    simp only [ref03_Clause_B1]
    rw [if_neg (by simp [lenI_eq])]
    refine ⟨_, rfl, .inr ⟨rfl, ?_⟩⟩
    rintro ⟨x, hx, ht⟩
    obtain ⟨i, hi, rfl⟩ := List.mem_iff_getElem.1 hx
    exact hA i hi _ (List.getElem?_eq_getElem hi) ht)
  unfold ref03_Clause
  have hr : loopF (ref03_Clause_B1 c v) 0 = some r := hr
  rw [hr, Option.bind_some]
  rcases hq with ⟨rfl, he⟩ | ⟨rfl, he⟩
  · exact ⟨true, rfl, by simpa using he⟩
  · exact ⟨false, rfl, by simpa using he⟩
theorem Holds_spec (f : Cnf) (hf : f.cs.length ≤ 1000000) (hc : ∀ c ∈ f.cs, c.length ≤ 1000000) (v : List Bool) (hv : v.length ≤ 1000000) : ∃ b, ref03_Holds f v = some b ∧ (b = true ↔ ∀ c ∈ f.cs, ∃ x ∈ c, TrueIn v x) := by
  obtain ⟨r, hr, hq⟩ := loopF_ex (body := ref03_Holds_B0 f v) (fun j => (j : Int)) f.cs.length (fun j => ∀ c, f.cs[j]? = some c → ∃ x ∈ c, TrueIn v x) (fun r => (r = .inr () ∧ ∀ c ∈ f.cs, ∃ x ∈ c, TrueIn v x) ∨ (r = .inl () ∧ ¬ ∀ c ∈ f.cs, ∃ x ∈ c, TrueIn v x)) (by
    intro i hi _
    have h1 := List.getElem?_eq_getElem hi
    simp only [ref03_Holds_B0]
    rw [if_pos (by simp [lenI_eq]; omega), getI_nat, h1, Option.bind_some]
    obtain ⟨b, hb, hiff⟩ := Clause_spec f.cs[i] (hc _ (List.getElem_mem hi)) v hv
    rw [hb, Option.bind_some]
    split
    · rename_i e
      refine .inl ⟨by rw [iadd_ok (by omega) (by omega)]; rfl, fun c hc' => ?_⟩
      injection hc' with hc'
      subst hc'
      exact hiff.1 e
    · rename_i e
      exact .inr ⟨_, rfl, .inr ⟨rfl, fun h => e (hiff.2 (h _ (List.getElem_mem hi)))⟩⟩) (by
    intro hA
    simp only [ref03_Holds_B0]
    rw [if_neg (by simp [lenI_eq])]
    refine ⟨_, rfl, .inl ⟨rfl, fun c hc' => ?_⟩⟩
    obtain ⟨i, hi, rfl⟩ := List.mem_iff_getElem.1 hc'
    exact hA i hi _ (List.getElem?_eq_getElem hi))
  unfold ref03_Holds
  have hr : loopF (ref03_Holds_B0 f v) 0 = some r := hr
  rw [hr, Option.bind_some]
  rcases hq with ⟨rfl, he⟩ | ⟨rfl, he⟩
  · exact ⟨true, rfl, by simpa using he⟩
  · exact ⟨false, rfl, by simpa using he⟩
theorem Flags_eq {x y : List Bool} (hx : x.length ≤ 1000000000) : ref03_Flags x y = some (decide (x = y)) := by
  unfold ref03_Flags
  by_cases hl : x.length = y.length
  case neg =>
    rw [if_neg (by simp [lenI_eq]; omega)]
    have : x ≠ y := fun h => hl (by rw [h])
    simp [this]
  rw [if_pos (by simp [lenI_eq]; omega)]
  obtain ⟨r, hr, hq⟩ := loopF_ex (body := ref03_Flags_B0 x y) (fun j => (j : Int)) x.length (fun j => x[j]? = y[j]?) (fun r => (r = .inr () ∧ x = y) ∨ (r = .inl () ∧ x ≠ y)) (by
    intro i hi _
    have h1 := List.getElem?_eq_getElem hi
    have h2 := List.getElem?_eq_getElem (show i < y.length by omega)
    simp only [ref03_Flags_B0]
    rw [if_pos (by simp [lenI_eq]; omega), getI_nat, h1, Option.bind_some, getI_nat, h2, Option.bind_some]
    split
    · rename_i e
      simp only [beq2_iff] at e
      exact .inl ⟨by rw [iadd_ok (by omega) (by omega)]; rfl, by rw [e]⟩
    · rename_i e
      simp only [beq2_iff] at e
      refine .inr ⟨_, rfl, .inr ⟨rfl, fun h => e ?_⟩⟩
      subst h
      rfl) (by
    intro hA
    simp only [ref03_Flags_B0]
    rw [if_neg (by simp [lenI_eq])]
    refine ⟨_, rfl, .inl ⟨rfl, List.ext_getElem? fun j => ?_⟩⟩
    by_cases hj : j < x.length
    · exact hA j hj
    · rw [List.getElem?_eq_none (by omega), List.getElem?_eq_none (by omega)])
  have hr : loopF (ref03_Flags_B0 x y) 0 = some r := hr
  rw [hr, Option.bind_some]
  rcases hq with ⟨rfl, he⟩ | ⟨rfl, he⟩ <;> simp [he]

/-! ### Literals of frame 0 -/
theorem lt0_true {a : Aig} {v : List Bool} {l : Int} (hl : 0 ≤ l) (hv : l / 2 < v.length) : TrueIn v (a.lt 0 l) ↔ vl v l = true := by
  obtain ⟨n, hn⟩ : ∃ n : Nat, n = (l / 2).toNat := ⟨_, rfl⟩
  have hnl : (n : Int) = l / 2 := by omega
  have hlt : n < v.length := by omega
  have hg := List.getElem?_eq_getElem hlt
  unfold TrueIn vl Aig.lt
  rw [← hn]
  simp only [List.getD, hg, Option.getD_some, Int.zero_mul, Int.zero_add]
  by_cases e : l % 2 = 1
  · rw [if_pos e, if_pos e]
    constructor
    · rintro ⟨k, b, hk, he⟩
      cases b with
      | true => simp at he; omega
      | false =>
        simp at he
        have : k = n := by omega
        subst this
        rw [hg] at hk
        injection hk with hk
        rw [hk]; rfl
    · intro h
      refine ⟨n, v[n], hg, ?_⟩
      have : v[n] = false := by simpa using h
      rw [this]
      simp
      omega
  · rw [if_neg e, if_neg e]
    constructor
    · rintro ⟨k, b, hk, he⟩
      cases b with
      | true =>
        simp at he
        have : k = n := by omega
        subst this
        rw [hg] at hk
        injection hk with hk
      | false => simp at he; omega
    · intro h
      refine ⟨n, v[n], hg, ?_⟩
      rw [h]
      simp
      omega
theorem vl_flip {v : List Bool} {l : Int} (hl : 0 ≤ l) (hv : l / 2 < v.length) : vl v (flip l) = !vl v l := by
  have hlt : (l / 2).toNat < v.length := by omega
  have hg := List.getElem?_eq_getElem hlt
  unfold vl flip
  by_cases e : l % 2 = 1
  · have e1 : (l - 1) / 2 = l / 2 := by omega
    rw [if_pos e, if_neg (by omega), if_pos e, e1]
    simp [List.getD, hg]
  · have e1 : (l + 1) / 2 = l / 2 := by omega
    rw [if_neg e, if_pos (by omega), if_neg e, e1]
    simp [List.getD, hg]
/-- What stands ahead tells as much. -/
theorem vl_append {v w : List Bool} {l : Int} (hl : 0 ≤ l) (hv : l / 2 < v.length) : vl (v ++ w) l = vl v l := by
  have hlt : (l / 2).toNat < v.length := by omega
  unfold vl
  simp only [List.getD, List.getElem?_append_left hlt]

/-! ### Values -/
/-- w is the values of its own latches and inputs. -/
def IsVals (a : Aig) (w : List Bool) : Prop := w.length = (a.V + 1).toNat ∧ w[0]? = some false ∧ ∀ (j : Nat) (x : And), a.G[j]? = some x → w[(a.I + a.L.length + 1 + j).toNat]? = some (vl w x.a && vl w x.b)
theorem Values_spec {a : Aig} (h : RightP a) (st inn : List Bool) (hs : st.length ≤ 100000) (hi : inn.length ≤ 100000) : ∃ w bad, ref08_Values a st inn = some (w, bad) ∧ (bad = 0 ∨ bad = 7) ∧ (bad = 0 ↔ st.length = a.L.length ∧ (inn.length : Int) = a.I) ∧
    (bad = 0 → IsVals a w ∧ ∃ gs, w = false :: (inn ++ st) ++ gs) := by
  have hB := h.bd
  obtain ⟨b1, b2, b3, b4⟩ := hB
  unfold ref08_Values
  by_cases e1 : ieq (lenI st) (lenI a.L) = true
  case neg =>
    rw [if_neg e1]
    simp only [ieq_iff, lenI_eq] at e1
    exact ⟨_, _, rfl, .inr rfl, by simp; omega, fun h => by simp at h⟩
  rw [if_pos e1]
  by_cases e2 : ieq (lenI inn) a.I = true
  case neg =>
    rw [if_neg e2]
    simp only [ieq_iff, lenI_eq] at e1 e2
    exact ⟨_, _, rfl, .inr rfl, by simp; omega, fun h => by simp at h⟩
  rw [if_pos e2]
  simp only [ieq_iff, lenI_eq] at e1 e2
  rw [if_pos (by rw [capN_iff, lenN_eq]; omega), if_pos (by rw [capN_iff, lenN_eq]; simp; omega)]
  obtain ⟨r, hr, hq⟩ : ∃ r, loopF (ref08_Values_B0 a) (false :: (inn ++ st), 0) = some r ∧ (∃ gs, r = false :: (inn ++ st) ++ gs ∧ gs.length = a.G.length) ∧ ∀ (j : Nat) (x : And), a.G[j]? = some x → r[(a.I + a.L.length + 1 + j).toNat]? = some (vl r x.a && vl r x.b) := by
    refine loopF_total (fun (p : List Bool × Int) => 0 ≤ p.2 ∧ p.2 ≤ (a.G.length : Int) ∧ (∃ gs, p.1 = false :: (inn ++ st) ++ gs ∧ (gs.length : Int) = p.2) ∧ ∀ (j : Nat) (x : And), (j : Int) < p.2 → a.G[j]? = some x → p.1[(a.I + a.L.length + 1 + j).toNat]? = some (vl p.1 x.a && vl p.1 x.b)) (fun (p : List Bool × Int) => ((a.G.length : Int) - p.2).toNat) _ ?_ _ ?_
    · rintro ⟨w, k⟩ ⟨hk0, hk1, ⟨gs, hw, hgs⟩, hA⟩
      simp only at hk0 hk1 hw hgs hA
      simp only [ref08_Values_B0]
      by_cases e : ilt k (lenI a.G) = true
      · rw [if_pos e]
        simp only [ilt_iff, lenI_eq] at e
        obtain ⟨n, rfl⟩ := Int.eq_ofNat_of_zero_le hk0
        have hn : n < a.G.length := by omega
        have hx := List.getElem?_eq_getElem hn
        obtain ⟨g1, g2, g3⟩ := h.gates n a.G[n] hx
        rw [getI_nat, hx, Option.bind_some, ref08_Lit_eq (by omega), Option.bind_some, ref08_Lit_eq (by omega), Option.bind_some]
        have hwl : w.length = 1 + inn.length + st.length + n := by rw [hw]; simp; omega
        have hval : (if vl w a.G[n].a = true then some (Sum.inl (w ++ [vl w a.G[n].b], (n : Int) + 1)) else some (Sum.inl (w ++ [false], (n : Int) + 1)) : Option ((List Bool × Int) ⊕ List Bool)) = some (.inl (w ++ [vl w a.G[n].a && vl w a.G[n].b], (n : Int) + 1)) := by
          cases vl w a.G[n].a <;> rfl
        have hcap : ∀ b : Bool, capN (lenN (w ++ [b])) 1 = true := fun b => by rw [capN_iff, lenN_eq]; simp; omega
        rw [if_pos (hcap (vl w a.G[n].b)), if_pos (hcap false), iadd_ok (by omega) (by omega), hval]
        refine .inl ⟨_, rfl, ⟨by simp only; omega, by simp only; omega, ⟨gs ++ [vl w a.G[n].a && vl w a.G[n].b], ?_, ?_⟩, ?_⟩, by simp only; omega⟩
        · simp only; rw [hw, List.append_assoc]
        · simp only; simp; omega
        · intro j x hj hjx
          simp only at hj ⊢
          have hjn : j ≤ n := by omega
          obtain ⟨q1, q2, q3⟩ := h.gates j x hjx
          rw [vl_append (by omega) (by omega), vl_append (by omega) (by omega)]
          by_cases hje : j = n
          · subst hje
            rw [hx] at hjx
            injection hjx with hjx
            subst hjx
            have : (a.I + a.L.length + 1 + (j : Int)).toNat = w.length := by omega
            rw [this, List.getElem?_append_right (Nat.le_refl _)]
            simp
          · rw [List.getElem?_append_left (by omega)]
            exact hA j x (by omega) hjx
      · rw [if_neg e]
        simp only [ilt_iff, lenI_eq] at e
        refine .inr ⟨_, rfl, ⟨gs, hw, by omega⟩, fun j x hjx => hA j x ?_ hjx⟩
        have := (List.getElem?_eq_some_iff.1 hjx).1
        omega
    · refine ⟨by simp, by simp, ⟨[], by simp, by simp⟩, fun j x hj => ?_⟩
      simp only at hj
      omega
  obtain ⟨⟨gs, hgs, hgl⟩, hv⟩ := hq
  rw [hr, Option.bind_some]
  refine ⟨_, _, rfl, .inl rfl, by simp; omega, fun _ => ⟨⟨?_, ?_, hv⟩, gs, hgs⟩⟩
  · rw [hgs]; simp [Aig.V]; omega
  · rw [hgs]; rfl
theorem Start_spec {a : Aig} (hB : a.Bd) (free : List Bool) (hf : free.length ≤ 100000) : ∃ s bad, ref08_Start a free = some (s, bad) ∧ (bad = 0 ∨ bad = 7) ∧ (bad = 0 ↔ free.length = a.L.length) ∧
    (bad = 0 → s.length = a.L.length ∧ ∀ (i : Nat) (x : Latch) (b : Bool), a.L[i]? = some x → free[i]? = some b → s[i]? = some (if x.reset = 0 then false else if x.reset = 1 then true else b)) ∧ (bad = 7 → s = []) := by
  unfold ref08_Start
  have b3 := hB.l
  by_cases e1 : ieq (lenI free) (lenI a.L) = true
  case neg =>
    rw [if_neg e1]
    simp only [ieq_iff, lenI_eq] at e1
    exact ⟨_, _, rfl, .inr rfl, by simp; omega, fun h => by simp at h, fun _ => rfl⟩
  rw [if_pos e1]
  simp only [ieq_iff, lenI_eq] at e1
  obtain ⟨r, hr, hq⟩ : ∃ r, loopF (ref08_Start_B0 a free) ([], 0) = some r ∧ r.length = a.L.length ∧ ∀ (i : Nat) (x : Latch) (b : Bool), a.L[i]? = some x → free[i]? = some b → r[i]? = some (if x.reset = 0 then false else if x.reset = 1 then true else b) := by
    refine loopF_total (fun (p : List Bool × Int) => 0 ≤ p.2 ∧ p.2 ≤ (a.L.length : Int) ∧ (p.1.length : Int) = p.2 ∧ ∀ (i : Nat) (x : Latch) (b : Bool), (i : Int) < p.2 → a.L[i]? = some x → free[i]? = some b → p.1[i]? = some (if x.reset = 0 then false else if x.reset = 1 then true else b)) (fun (p : List Bool × Int) => ((a.L.length : Int) - p.2).toNat) _ ?_ _ ?_
    · rintro ⟨w, k⟩ ⟨hk0, hk1, hw, hA⟩
      simp only at hk0 hk1 hw hA
      simp only [ref08_Start_B0]
      by_cases e : ilt k (lenI a.L) = true
      · rw [if_pos e]
        simp only [ilt_iff, lenI_eq] at e
        obtain ⟨n, rfl⟩ := Int.eq_ofNat_of_zero_le hk0
        have hn : n < a.L.length := by omega
        have hx := List.getElem?_eq_getElem hn
        have hfx := List.getElem?_eq_getElem (show n < free.length by omega)
        rw [getI_nat, hx, Option.bind_some, getI_nat, hfx, Option.bind_some]
        have hval : (if ieq a.L[n].reset 0 = true then some (Sum.inl (w ++ [false], (n : Int) + 1)) else if ieq a.L[n].reset 1 = true then some (Sum.inl (w ++ [true], (n : Int) + 1)) else some (Sum.inl (w ++ [free[n]'(by omega)], (n : Int) + 1)) : Option ((List Bool × Int) ⊕ List Bool)) = some (.inl (w ++ [if a.L[n].reset = 0 then false else if a.L[n].reset = 1 then true else free[n]'(by omega)], (n : Int) + 1)) := by
          simp only [ieq_iff]
          split
          · rfl
          · split <;> rfl
        have hcap : ∀ b : Bool, capN (lenN (w ++ [b])) 1 = true := fun b => by rw [capN_iff, lenN_eq]; simp; omega
        rw [if_pos (hcap false), if_pos (hcap true), if_pos (hcap _), iadd_ok (by omega) (by omega), hval]
        refine .inl ⟨_, rfl, ⟨by simp only; omega, by simp only; omega, by simp only; simp; omega, ?_⟩, by simp only; omega⟩
        intro j x b hj hjx hjb
        simp only at hj ⊢
        by_cases hje : j = n
        · subst hje
          rw [hx] at hjx
          injection hjx with hjx
          subst hjx
          rw [hfx] at hjb
          injection hjb with hjb
          subst hjb
          have : w.length = j := by omega
          rw [List.getElem?_append_right (by omega), this]
          simp
        · rw [List.getElem?_append_left (by omega)]
          exact hA j x b (by omega) hjx hjb
      · rw [if_neg e]
        simp only [ilt_iff, lenI_eq] at e
        refine .inr ⟨_, rfl, by omega, fun j x b hjx hjb => hA j x b ?_ hjx hjb⟩
        have := (List.getElem?_eq_some_iff.1 hjx).1
        omega
    · refine ⟨by simp, by simp, by simp, fun j x b hj => ?_⟩
      simp only at hj
      omega
  rw [hr, Option.bind_some]
  exact ⟨_, _, rfl, .inl rfl, by simp; omega, fun _ => hq, fun h => by simp at h⟩
end Go.Vid
