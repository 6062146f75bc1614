/- The law EncLits, plainly: it answers true. No condition. -/
import Derived.Test.YtdoapnmbopifjaaP1
set_option linter.unusedSimpArgs false
set_option linter.unusedVariables false
namespace Go.Vid
open Go.Vabs
theorem lt_bd {a : Aig} (h : a.Bd) {k l : Int} (hl : 0 ≤ l ∧ l ≤ 2 * a.V + 1) : (l % 2 = 1 → a.lt k l = -(k * (a.V + 1) + l / 2 + 1)) ∧ (l % 2 = 0 → a.lt k l = k * (a.V + 1) + l / 2 + 1) := by
  unfold Aig.lt
  constructor <;> intro h1
  · rw [if_pos h1]
  · rw [if_neg (by omega)]
theorem EncLits_true (a : Aig) (l m : Int) (ha : a.Wf) (hl : Fits .i64 l) (hm : Fits .i64 m) : law19_EncLits a l m = some true := by
  unfold law19_EncLits
  rw [shown_eq, Option.bind_some]
  obtain ⟨b1, h1, p1⟩ := may_total a ha l hl
  rw [h1, Option.bind_some]
  by_cases e1 : b1 = true
  case neg => rw [if_neg e1]
  rw [if_pos e1]
  obtain ⟨b2, h2, p2⟩ := may_total a ha m hm
  rw [h2, Option.bind_some]
  by_cases e2 : b2 = true
  case neg => rw [if_neg e2]
  rw [if_pos e2]
  obtain ⟨hS, hR, l0, l1⟩ := p1 e1
  obtain ⟨_, _, m0, m1⟩ := p2 e2
  have hB := hR.bd
  have hv := hB.v0
  have hV : a.V = a.I + a.L.length + a.G.length := rfl
  rw [← hV] at l1 m1
  have hvr := hR.vars
  rw [← hV] at hvr
  have f1 := lt_bd hB (k := 0) (l := l) ⟨l0, l1⟩
  have f2 := lt_bd hB (k := 1) (l := m) ⟨m0, m1⟩
  have f3 := lt_bd hB (k := 0) (l := m) ⟨m0, m1⟩
  have hfl : 0 ≤ flip l ∧ flip l ≤ 2 * a.V + 1 := by unfold flip; split <;> omega
  have f4 := lt_bd hB (k := 0) (l := flip l) hfl
  have hfe : flip l = if l % 2 = 1 then l - 1 else l + 1 := rfl
  rw [enc_Lit_eq hB (by omega) (by omega), Option.bind_some, enc_Lit_eq hB (by omega) (by omega), Option.bind_some, enc_Vars_eq hB (by omega), Option.bind_some, if_pos rfl]
  obtain ⟨x, hx⟩ : ∃ x, x = a.lt 0 l := ⟨_, rfl⟩
  obtain ⟨y, hy⟩ : ∃ y, y = a.lt 1 m := ⟨_, rfl⟩
  obtain ⟨z, hz⟩ : ∃ z, z = a.lt 0 m := ⟨_, rfl⟩
  obtain ⟨u, hu⟩ : ∃ u, u = a.lt 0 (flip l) := ⟨_, rfl⟩
  rw [← hx] at f1
  rw [← hy] at f2
  rw [← hz] at f3
  rw [← hu] at f4
  rw [bxor_flip (by omega), enc_Lit_eq hB (by omega) (by omega), enc_Vars_eq hB (by omega), enc_Lit_eq hB (by omega) (by omega), ref06_Vars_eq hB]
  unfold ref19_Vars
  rw [ref06_Vars_eq hB]
  rw [← hx, ← hy, ← hz, ← hu]
  simp only [Option.bind_some, Int.one_mul, Int.zero_mul, Int.zero_add] at f1 f2 f3 f4 ⊢
  rw [ineg_ok (a := y) (by omega) (by omega), ineg_ok (a := x) (by omega) (by omega), imax_eq, imax_eq, iadd_ok (by omega) (by omega), imul_ok (by omega) (by omega)]
  simp only [ieq_iff, ile_iff, ilt_iff, beq2_iff]
  rw [if_neg (by omega), if_neg (by omega), if_pos (by split at hfe <;> omega), if_pos (by split <;> omega), if_pos (by split <;> omega), if_pos (by split <;> omega), if_pos (by split <;> omega)]
  have : ieq z x = ieq l m := by
    unfold ieq
    have : z = x ↔ l = m := by omega
    simp only [this]
  rw [if_pos this]
  simp [ieq]
end Go.Vid
