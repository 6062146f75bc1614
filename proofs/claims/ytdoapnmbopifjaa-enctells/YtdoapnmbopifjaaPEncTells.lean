/- The law EncTells, plainly: it answers true. No condition. -/
import Derived.Test.YtdoapnmbopifjaaP2
set_option linter.unusedSimpArgs false
set_option linter.unusedVariables false
namespace Go.Vid
open Go.Vabs
theorem EncTells_true (a : Aig) (l : Int) (ha : a.Wf) (hl : Fits .i64 l) : law19_EncTells a l = some true := by
  unfold law19_EncTells
  rw [shown_eq, Option.bind_some]
  obtain ⟨b1, h1, p1⟩ := may_total a ha l hl
  rw [h1, Option.bind_some]
  by_cases e1 : b1 = true
  case neg => rw [if_neg e1]
  rw [if_pos e1]
  obtain ⟨hS, hR, l0, l1⟩ := p1 e1
  have hB := hR.bd
  have hG := hR.gb
  have hL := hR.lb
  have hv := hB.v0
  have hV : a.V = a.I + a.L.length + a.G.length := rfl
  rw [← hV] at l1
  have hc := loopF_count (body := law19_EncTells_B0 a l) (fun k => (k : Int)) 2 (r := .inr ()) (fun k hk => by
    simp only [law19_EncTells_B0]
    have := frame_len hB (k : Int)
    rw [if_pos (by simp; omega), enc_Lit_eq hB (by omega) (by omega), Option.bind_some, ref19_Lit_eq hB (by omega) (by omega), Option.bind_some, if_pos (by simp), enc_Vars_eq hB (by omega), Option.bind_some, ref19_Vars_eq hB (by omega), Option.bind_some, if_pos (by simp)]
    rw [enc_Frame_eq hB hG (by omega), Option.bind_some, ref19_Frame_eq hB hG (by omega), Option.bind_some, Clauses_eq (by omega) (frame_rows a k), Option.bind_some, if_pos (by simp), iadd_ok (by omega) (by omega)]
    rfl) (by
    simp only [law19_EncTells_B0]
    rw [if_neg (by simp)])
  have hc : loopF (law19_EncTells_B0 a l) 0 = some (.inr ()) := hc
  have := lk_len a a.L.length
  have := hB.l
  have := first_len hB
  rw [hc, Option.bind_some]
  simp only
  rw [if_pos trivial, enc_Link_eq hB hL, Option.bind_some, ref19_Link_eq hB hL, Option.bind_some, Clauses_eq (by unfold Aig.link; omega) (link_rows a), Option.bind_some, if_pos (by simp), enc_First_eq hB hL, Option.bind_some, ref19_First_eq hB hL, Option.bind_some, Clauses_eq (by omega) (first_rows a), Option.bind_some]
  simp
end Go.Vid
