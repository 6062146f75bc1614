/- The law EncModels, plainly: it answers true. No condition. -/
import Derived.Test.YtdoapnmbopifjaaP4
set_option linter.unusedSimpArgs false
set_option linter.unusedVariables false
namespace Go.Vid
open Go.Vabs
/-- Values are told by their own latches and inputs. -/
theorem vals_unique {a : Aig} (h : RightP a) {v w : List Bool} (hv : IsVals a v) (hw : IsVals a w) (he : ∀ i : Nat, (i : Int) < a.I + a.L.length + 1 → v[i]? = w[i]?) : v = w := by
  have i0 := h.i0
  have hV : a.V = a.I + a.L.length + a.G.length := rfl
  have gen : ∀ n i : Nat, i < n → v[i]? = w[i]? := by
    intro n
    induction n with
    | zero => intro i hi; omega
    | succ n ih =>
      intro i hi
      by_cases hlt : (i : Int) < a.I + a.L.length + 1
      · exact he i hlt
      · by_cases hend : (i : Int) < a.V + 1
        · obtain ⟨j, hj⟩ : ∃ j : Nat, (i : Int) = a.I + a.L.length + 1 + j := ⟨(i - (a.I + a.L.length + 1)).toNat, by omega⟩
          have hjl : j < a.G.length := by omega
          have hx := List.getElem?_eq_getElem hjl
          obtain ⟨g1, g2, g3⟩ := h.gates j _ hx
          have e1 := hv.2.2 j _ hx
          have e2 := hw.2.2 j _ hx
          have hi' : (a.I + a.L.length + 1 + (j : Int)).toNat = i := by omega
          rw [hi'] at e1 e2
          have hvl : ∀ l : Int, 0 ≤ l → l / 2 < i → vl v l = vl w l := fun l h0 h1 => by
            have := ih (l / 2).toNat (by omega)
            unfold vl
            simp only [List.getD, this]
          rw [e1, e2, hvl _ (by omega) (by omega), hvl _ (by omega) (by omega)]
        · have := hv.1
          have := hw.1
          rw [List.getElem?_eq_none (by omega), List.getElem?_eq_none (by omega)]
  exact List.ext_getElem? fun i => gen (i + 1) i (by omega)
theorem cut_get {α : Type} (l : List α) {a b : Int} (h0 : 0 ≤ a) (h1 : a ≤ b) (h2 : b ≤ l.length) : ((cut l a b).length : Int) = b - a ∧ ∀ i : Nat, (i : Int) < b - a → (cut l a b)[i]? = l[a.toNat + i]? := by
  unfold cut
  constructor
  · simp
    omega
  · intro i hi
    rw [List.getElem?_take, if_pos (by omega), List.getElem?_drop]
theorem EncModels_true (a : Aig) (v : List Bool) (l : Int) (ha : a.Wf) (hv : FitsL 1 (fun _ => True) v) (hl : Fits .i64 l) : law19_EncModels a v l = some true := by
  unfold law19_EncModels
  rw [shown_eq, Option.bind_some]
  obtain ⟨b1, h1, p1⟩ := may_total a ha l hl
  rw [h1, Option.bind_some]
  by_cases e1 : b1 = true
  case neg => rw [if_neg e1]
  rw [if_pos e1]
  obtain ⟨hS, hR, l0, l1⟩ := p1 e1
  have hB := hR.bd
  have i0 := hR.i0
  have hV : a.V = a.I + a.L.length + a.G.length := rfl
  have hvr := hR.vars
  rw [← hV] at l1 hvr
  have hV0 := hB.v0
  rw [ref06_Vars_eq hB, Option.bind_some, iadd_ok (a := a.V) (by omega) (by omega)]
  by_cases e2 : ieq (lenI v) (a.V + 1) = true
  case neg => rw [if_neg e2]
  rw [if_pos e2]
  simp only [ieq_iff, lenI_eq] at e2
  rw [iadd_ok (a := 1) (b := a.I) (by omega) (by omega), lenI_eq, iadd_ok (a := 1 + a.I) (by omega) (by omega)]
  rw [if_pos (by unfold cutOk; rw [lenN_eq, decide_eq_true_eq]; omega), if_pos (by unfold cutOk; rw [lenN_eq, decide_eq_true_eq]; omega)]
  obtain ⟨c1, c2⟩ := cut_get v (a := 1 + a.I) (b := 1 + a.I + a.L.length) (by omega) (by omega) (by omega)
  obtain ⟨d1, d2⟩ := cut_get v (a := 1) (b := 1 + a.I) (by omega) (by omega) (by omega)
  obtain ⟨st, hst⟩ : ∃ st, st = cut v (1 + a.I) (1 + a.I + a.L.length) := ⟨_, rfl⟩
  obtain ⟨inn, hinn⟩ : ∃ inn, inn = cut v 1 (1 + a.I) := ⟨_, rfl⟩
  rw [← hst] at c1 c2 ⊢
  rw [← hinn] at d1 d2 ⊢
  obtain ⟨w, bad, hw, hbad, hbi, hgood⟩ := Values_spec hR st inn (by omega) (by omega)
  rw [hw, Option.bind_some]
  dsimp only
  have hb0 : bad = 0 := hbi.2 ⟨by omega, by omega⟩
  obtain ⟨hvals, gs, hgs⟩ := hgood hb0
  have hwl : w.length ≤ 1000000 := by rw [hvals.1]; omega
  have hfr := frame_len hB 0
  rw [if_pos (by simp [hb0]), Flags_eq (by omega), Option.bind_some, enc_Frame_eq hB hR.gb (by omega), Option.bind_some]
  obtain ⟨b, hb, hbiff⟩ := Holds_spec { N := lenI v, cs := a.frame 0 } (by simp only; omega) (frame_rows a 0) v (by omega)
  rw [hb, Option.bind_some, if_pos rfl]
  have key : b = true ↔ w = v := by
    rw [hbiff]
    show ModelOf (a.frame 0) v ↔ _
    rw [frame_model hR (by omega)]
    constructor
    · rintro ⟨h0, h2⟩
      refine vals_unique hR hvals ⟨by omega, h0, h2⟩ fun i hi => ?_
      rw [hgs, show false :: (inn ++ st) ++ gs = (false :: (inn ++ st)) ++ gs from rfl, List.getElem?_append_left (by simp; omega)]
      cases i with
      | zero => rw [h0]; rfl
      | succ i =>
        rw [List.getElem?_cons_succ]
        by_cases hii : (i : Int) < a.I
        · rw [List.getElem?_append_left (by omega), d2 i (by omega)]
          congr 1
          omega
        · rw [List.getElem?_append_right (by omega), c2 (i - inn.length) (by omega)]
          congr 1
          omega
    · rintro rfl
      exact hvals.2
  have : b = decide (w = v) := by
    rw [Bool.eq_iff_iff, key]
    simp
  rw [this]
  rw [if_pos (by simp [beq2]), enc_Lit_eq hB (by omega) (by omega), Option.bind_some]
  obtain ⟨b2, hb2, hb2iff⟩ := Clause_spec [a.lt 0 l] (by simp) v (by omega)
  rw [hb2, Option.bind_some, ref08_Lit_eq (by omega), Option.bind_some]
  have : b2 = vl v l := by
    rw [Bool.eq_iff_iff, hb2iff]
    simp only [List.mem_singleton, exists_eq_left]
    exact lt0_true (by omega) (by omega)
  rw [this]
  simp [beq2]
end Go.Vid
