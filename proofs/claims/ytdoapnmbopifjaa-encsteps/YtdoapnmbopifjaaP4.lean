/- Plain laws: when values are a model of a frame's clauses, and of the first state's. No condition. -/
import Derived.Test.YtdoapnmbopifjaaP3
set_option linter.unusedSimpArgs false
set_option linter.unusedVariables false
set_option maxRecDepth 10000
namespace Go.Vid
open Go.Vabs
theorem upto_all {α β : Type} {g : α → Nat → List β} {l : List α} {i : Nat} {P : β → Prop} : (∀ y ∈ upto g l i, P y) ↔ ∀ (j : Nat) (x : α), l[j]? = some x → j < i → ∀ y ∈ g x j, P y := by
  constructor
  · intro h j x hx hj y hy
    refine h y ?_
    have gen : ∀ i, j < i → y ∈ upto g l i := by
      intro i
      induction i with
      | zero => intro h; omega
      | succ i ih =>
        intro hji
        by_cases e : j = i
        · subst e
          rw [upto_succ hx]
          exact List.mem_append_right _ hy
        · have hm := ih (by omega)
          cases hxi : l[i]? with
          | none =>
            have : upto g l (i + 1) = upto g l i := by
              unfold upto
              rw [List.take_add_one, List.getElem?_zipIdx, hxi]
              simp
            rw [this]
            exact hm
          | some z =>
            rw [upto_succ hxi]
            exact List.mem_append_left _ hm
    exact gen i hj
  · intro h y hy
    obtain ⟨j, x, hx, hj, hy'⟩ := upto_mem hy
    exact h j x hx hj y hy'
/-- A model of clauses. -/
def ModelOf (cs : List (List Int)) (v : List Bool) : Prop := ∀ c ∈ cs, ∃ x ∈ c, TrueIn v x
theorem ModelOf_append {cs ds : List (List Int)} {v : List Bool} : ModelOf (cs ++ ds) v ↔ ModelOf cs v ∧ ModelOf ds v := by
  unfold ModelOf
  simp only [List.mem_append]
  constructor
  · intro h; exact ⟨fun c hc => h c (.inl hc), fun c hc => h c (.inr hc)⟩
  · rintro ⟨h1, h2⟩ c (hc | hc)
    · exact h1 c hc
    · exact h2 c hc
theorem gl_half (a : Aig) (j : Nat) : a.gl j / 2 = a.I + a.L.length + 1 + j := by unfold Aig.gl; omega
/-- A frame's clauses hold in values just if variable 0 is false, and each gate is its inputs' and. -/
theorem frame_model {a : Aig} (h : RightP a) {v : List Bool} (hv : (v.length : Int) = a.V + 1) : ModelOf (a.frame 0) v ↔ v[0]? = some false ∧ ∀ (j : Nat) (x : And), a.G[j]? = some x → v[(a.I + a.L.length + 1 + j).toNat]? = some (vl v x.a && vl v x.b) := by
  have i0 := h.i0
  have hV : a.V = a.I + a.L.length + a.G.length := rfl
  unfold ModelOf Aig.frame
  rw [List.forall_mem_cons, upto_all]
  have h0 : (∃ x ∈ [a.lt 0 1], TrueIn v x) ↔ v[0]? = some false := by
    rw [show (∃ x ∈ [a.lt 0 1], TrueIn v x) ↔ TrueIn v (a.lt 0 1) by simp, lt0_true (by omega) (by omega)]
    have hg := List.getElem?_eq_getElem (show 0 < v.length by omega)
    rw [hg]
    unfold vl
    simp [List.getD, hg]
  rw [h0]
  refine and_congr_right fun _ => ?_
  refine forall_congr' fun j => forall_congr' fun x => forall_congr' fun hx => ?_
  have hj := (List.getElem?_eq_some_iff.1 hx).1
  obtain ⟨g1, g2, g3⟩ := h.gates j x hx
  have hgl := gl_half a j
  have hg0 : 0 ≤ a.gl j := by unfold Aig.gl; omega
  have hge : a.gl j % 2 = 0 := by unfold Aig.gl; omega
  have hfl : flip (a.gl j) = a.gl j + 1 := by unfold flip; rw [if_neg (by omega)]
  have hlt : (a.I + a.L.length + 1 + (j : Int)).toNat < v.length := by omega
  have hgv := List.getElem?_eq_getElem hlt
  have vg : vl v (a.gl j) = v[(a.I + a.L.length + 1 + (j : Int)).toNat] := by
    unfold vl
    rw [if_neg (by omega), hgl]
    simp [List.getD, hgv]
  have t1 : TrueIn v (a.lt 0 (a.gl j + 1)) ↔ vl v (a.gl j) = false := by
    rw [lt0_true (by omega) (by omega), ← hfl, vl_flip hg0 (by omega)]
    simp
  have t2 : TrueIn v (a.lt 0 (a.gl j)) ↔ vl v (a.gl j) = true := lt0_true hg0 (by omega)
  have t3 : TrueIn v (a.lt 0 x.a) ↔ vl v x.a = true := lt0_true (by omega) (by omega)
  have t4 : TrueIn v (a.lt 0 x.b) ↔ vl v x.b = true := lt0_true (by omega) (by omega)
  have t5 : TrueIn v (a.lt 0 (flip x.a)) ↔ vl v x.a = false := by
    have hf : 0 ≤ flip x.a ∧ flip x.a / 2 = x.a / 2 := by unfold flip; split <;> omega
    rw [lt0_true hf.1 (by omega), vl_flip (by omega) (by omega)]
    simp
  have t6 : TrueIn v (a.lt 0 (flip x.b)) ↔ vl v x.b = false := by
    have hf : 0 ≤ flip x.b ∧ flip x.b / 2 = x.b / 2 := by unfold flip; split <;> omega
    rw [lt0_true hf.1 (by omega), vl_flip (by omega) (by omega)]
    simp
  rw [hgv, ← vg]
  unfold Aig.gF
  simp only [hj, true_implies, List.mem_cons, List.not_mem_nil, or_false, forall_eq_or_imp, forall_eq, exists_eq_or_imp, exists_eq_left, t1, t2, t3, t4, t5, t6, Option.some.injEq]
  cases vl v (a.gl j) <;> cases vl v x.a <;> cases vl v x.b <;> simp
theorem IsVals_model {a : Aig} (h : RightP a) {v : List Bool} (hv : IsVals a v) : ModelOf (a.frame 0) v := by
  have := h.i0
  have hV : a.V = a.I + a.L.length + a.G.length := rfl
  exact (frame_model h (by rw [hv.1]; omega)).2 hv.2
/-- The first state's clauses hold just if latches are as they should be. -/
theorem first_model {a : Aig} (h : RightP a) {inn st gs v : List Bool} (hv : v = false :: (inn ++ st) ++ gs) (hi : (inn.length : Int) = a.I) (hs : st.length = a.L.length) : ModelOf a.first v ↔ ∀ (i : Nat) (x : Latch) (b : Bool), a.L[i]? = some x → st[i]? = some b → (x.reset = 0 → b = false) ∧ (x.reset = 1 → b = true) := by
  have i0 := h.i0
  have hlen : v.length = 1 + inn.length + st.length + gs.length := by rw [hv]; simp; omega
  unfold ModelOf Aig.first
  rw [upto_all]
  refine forall_congr' fun i => forall_congr' fun x => ?_
  constructor
  all_goals
    intro hh
    first
      | (intro b hx hb
         have hi' := (List.getElem?_eq_some_iff.1 hx).1
         have hh := hh hx hi')
      | (intro hx hi' c hc
         have hb := List.getElem?_eq_getElem (show i < st.length by omega)
         have hh := hh _ hx hb)
  · have hget : v[1 + inn.length + i]? = some b := by
      rw [hv, show false :: (inn ++ st) ++ gs = (false :: inn) ++ st ++ gs by simp, List.getElem?_append_left (by simp; omega), List.getElem?_append_right (by simp; omega), ← hb]
      congr 1
      simp
      omega
    obtain ⟨q1, q2, q3⟩ := h.latches i x hx
    unfold Aig.ff at hh
    constructor
    · intro hr
      rw [if_pos (by omega)] at hh
      obtain ⟨y, hy, ht⟩ := hh _ (List.mem_singleton.2 rfl)
      rw [List.mem_singleton] at hy
      subst hy
      rw [lt0_true (by omega) (by omega)] at ht
      unfold vl at ht
      rw [if_pos (by omega)] at ht
      have : ((2 * (a.I + 1 + (i : Int)) + 1 - x.reset) / 2).toNat = 1 + inn.length + i := by omega
      rw [this] at ht
      simpa [List.getD, hget] using ht
    · intro hr
      rw [if_pos (by omega)] at hh
      obtain ⟨y, hy, ht⟩ := hh _ (List.mem_singleton.2 rfl)
      rw [List.mem_singleton] at hy
      subst hy
      rw [lt0_true (by omega) (by omega)] at ht
      unfold vl at ht
      rw [if_neg (by omega)] at ht
      have : ((2 * (a.I + 1 + (i : Int)) + 1 - x.reset) / 2).toNat = 1 + inn.length + i := by omega
      rw [this] at ht
      simpa [List.getD, hget] using ht
  · have hget : v[1 + inn.length + i]? = some st[i] := by
      rw [hv, show false :: (inn ++ st) ++ gs = (false :: inn) ++ st ++ gs by simp, List.getElem?_append_left (by simp; omega), List.getElem?_append_right (by simp; omega), ← hb]
      congr 1
      simp
      omega
    obtain ⟨q1, q2, q3⟩ := h.latches i x hx
    unfold Aig.ff at hc
    split at hc
    case isFalse => cases hc
    rename_i hr
    rw [List.mem_singleton] at hc
    subst hc
    refine ⟨_, List.mem_singleton.2 rfl, ?_⟩
    rw [lt0_true (by omega) (by omega)]
    have : ((2 * (a.I + 1 + (i : Int)) + 1 - x.reset) / 2).toNat = 1 + inn.length + i := by omega
    unfold vl
    rw [this]
    simp only [List.getD, hget, Option.getD_some]
    rcases q3 with q3 | q3 | q3
    · rw [if_pos (by omega), hh.1 q3]; rfl
    · rw [if_neg (by omega), hh.2 q3]
    · omega
/-- .. just if the state may be the first one. -/
theorem start_iff {a : Aig} {st s : List Bool} (hs : st.length = a.L.length) (hl : s.length = a.L.length) (hst : ∀ (i : Nat) (x : Latch) (b : Bool), a.L[i]? = some x → st[i]? = some b → s[i]? = some (if x.reset = 0 then false else if x.reset = 1 then true else b)) :
    (∀ (i : Nat) (x : Latch) (b : Bool), a.L[i]? = some x → st[i]? = some b → (x.reset = 0 → b = false) ∧ (x.reset = 1 → b = true)) ↔ s = st := by
  constructor
  · intro h
    refine List.ext_getElem? fun i => ?_
    by_cases hi : i < a.L.length
    · have hx := List.getElem?_eq_getElem hi
      have hb := List.getElem?_eq_getElem (show i < st.length by omega)
      obtain ⟨h1, h2⟩ := h i _ _ hx hb
      rw [hst i _ _ hx hb, hb]
      congr 1
      split
      · rename_i e; exact (h1 e).symm
      · split
        · rename_i e; exact (h2 e).symm
        · rfl
    · rw [List.getElem?_eq_none (by omega), List.getElem?_eq_none (by omega)]
  · rintro rfl i x b hx hb
    have := hst i x b hx hb
    rw [hb] at this
    injection this with this
    constructor
    · intro e
      rw [if_pos e] at this
      exact this
    · intro e
      rw [if_neg (by omega), if_pos e] at this
      exact this
end Go.Vid
