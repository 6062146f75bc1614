/- The law EncSteps: for every input the call returns true, and each argument reads as before. No condition. -/
import Derived.Test.YtdoapnmbopifjaaRows
import Derived.Test.YtdoapnmbopifjaaW4
import Derived.Test.YtdoapnmbopifjaaR
import Derived.Test.YtdoapnmbopifjaaPEncSteps
set_option linter.unusedVariables false
set_option linter.unusedSimpArgs false
namespace Go.Proofs.Ytdoapnmbopifjaa.encSteps
open Go.ChangeShapes Go.WideShapes Go.ChangeAt Go.RowKit Go.Vabs Go.Vid
theorem own : ownKnob Try.prog.godebug = none := by kernel_rfl
theorem laidOut : laidOutB Try.prog = true := by kernel_rfl
set_option maxRecDepth 100000 in
theorem lifted (os : Os) (started : os.Started) (H : Type) (enc : TypeId × Value → H) :
    ReturnsInHanded {} Try.checked os 8 .any (Rows.encStepsSpec.pre6 enc Try.prog Try.f8 Rows.encStepsRow.domain false) (Rows.encStepsSpec.post enc Try.prog Try.f8 false true false false) := by
  refine returnsInHanded_of_change_sized (C := Try.checked) own started (by kernel_rfl) Try.func8
    (ChangeSpec.witness6 (enc := enc) (C := Try.checked) false ⟨#[], #[.agg #[.int .i64 0, .slice none 0 0, .slice none 0 0, .slice none 0 0, .slice none 0 0, .slice none 0 0, .slice none 0 0, .slice none 0 0, .slice none 0 0, .slice none 0 0, .slice none 0 0]], []⟩ 8 (by kernel_rfl) (by kernel_rfl) (by kernel_rfl) (by kernel_rfl)) ?_
  intro W base args ds gs before hval0 hW hcnd hsz0 _
  have hsz : (DataW.weightsEach Try.prog (Try.f8.params.toList ++ Rows.encStepsSpec.plain.varTypes Try.prog) (ds ++ gs)).all (· ≤ reachBytes) = true := hsz0
  have hval : ∀ (j : Nat) t v, Try.f8.params[j]? = some t → args[j]? = some v → Value.okWide Try.prog W .any base t v := hval0
  have hW' := hW
  obtain ⟨p, q, hA0, hV, rfl, hfz, hnd⟩ := hW
  have hA : DataW.TrodAll enc Try.prog W 0 (fun _ => true) true Try.f8.params.toList args.toList ds p := hA0
  rw [Try.params8] at hA hval hsz
  obtain ⟨v0, vs0, d0, ds0, p0, q0, hargs, rfl, rfl, h0, r0⟩ := trodAll_cons hA
  obtain ⟨rfl, rfl, rfl⟩ := trodAll_nil r0
  obtain rfl : args = #[v0] := by cases args; simp_all
  obtain ⟨rfl, rfl⟩ := trodVars_none hV
  have lt0 : ∀ x ∈ p0, x.block < W.heap.size := by obtain ⟨m, hm⟩ := h0; exact DataW.trod_lt m _ _ _ hm
  obtain ⟨cs0, hcs0, _⟩ := okWide_struct Try.underlying57 (hval 0 57 v0 rfl rfl)
  obtain ⟨x0, wx0, rep0⟩ := (rd57 (enc := enc) (W := W)).argA ⟨cs0, hcs0⟩ h0 lt0 (weights_each hsz (j := 0) (t := 57) rfl rfl)
  have hcall := calls_true (P := Try.prog) (ty := tyTab) (K := kt) tyOk kOk (f := 8) (ts := [T.agg (EncStepsIn_law19.cells x0)]) (vs := #[v0]) (W := W) rfl (by
    intro i t ht
    rcases i with _ | i
    · simp at ht; subst ht; exact ⟨v0, rfl, rep0⟩
    · simp at ht) (w_law19_EncSteps x0 (EncSteps_true x0 wx0))
  clear hA0 hval0 hsz0 hsz
  refine hcall.mono fun e W' ⟨he, bel⟩ => ?_
  subst he
  exact ⟨_, rfl, _, _, _, [], _, [], hW', trodAll_mk1 (shut_bool (by kernel_rfl) _), (trodAll_cons_mk (Below.trod laidOut (by kernel_rfl) (of_decide_eq_true (by kernel_rfl)) h0 bel lt0) trodAll_mk0), rfl, bel.frame _, fun h => by cases h⟩
theorem over : Rows.encStepsRow.holds Try.pinned (OpenSpec.ofChange Rows.encStepsSpec) :=
  OpenClaim.holds_of_wide 8 Try.f8 rfl rfl rfl rfl rfl rfl rfl ⟨rfl, rfl, rfl, rfl, rfl⟩ rfl rfl rfl rfl rfl (by kernel_rfl) Try.func8 (by kernel_rfl)
    (of_decide_eq_true (by kernel_rfl)) (by unfold Func.isWrapper; first | (rw [if_pos (by decide +kernel)]; kernel_rfl) | (rw [if_neg (by decide +kernel)]; exact ⟨rfl, rfl⟩))
    (fun os started H enc _ => lifted os started H enc)
end Go.Proofs.Ytdoapnmbopifjaa.encSteps
namespace Go.Proofs.Ytdoapnmbopifjaa
/-- The law. -/
theorem encSteps_holds : Rows.EncStepsSaid := encSteps.over
#print axioms encSteps_holds
end Go.Proofs.Ytdoapnmbopifjaa
