/- The law EncTells: for every input the call returns true, and each argument reads as before. No condition. -/
import Derived.Test.YtdoapnmbopifjaaRows
import Derived.Test.YtdoapnmbopifjaaW4
import Derived.Test.YtdoapnmbopifjaaR
import Derived.Test.YtdoapnmbopifjaaPEncTells
set_option linter.unusedVariables false
set_option linter.unusedSimpArgs false
namespace Go.Proofs.Ytdoapnmbopifjaa.encTells
open Go.ChangeShapes Go.WideShapes Go.ChangeAt Go.RowKit Go.Vabs Go.Vid
theorem own : ownKnob Try.prog.godebug = none := by kernel_rfl
theorem laidOut : laidOutB Try.prog = true := by kernel_rfl
set_option maxRecDepth 100000 in
theorem lifted (os : Os) (started : os.Started) (H : Type) (enc : TypeId × Value → H) :
    ReturnsInHanded {} Try.checked os 7 .any (Rows.encTellsSpec.pre6 enc Try.prog Try.f7 Rows.encTellsRow.domain false) (Rows.encTellsSpec.post enc Try.prog Try.f7 false true false false) := by
  refine returnsInHanded_of_change_sized (C := Try.checked) own started (by kernel_rfl) Try.func7
    (ChangeSpec.witness6 (enc := enc) (C := Try.checked) false ⟨#[], #[.agg #[.int .i64 0, .slice none 0 0, .slice none 0 0, .slice none 0 0, .slice none 0 0, .slice none 0 0, .slice none 0 0], .int .i64 0], []⟩ 8 (by kernel_rfl) (by kernel_rfl) (by kernel_rfl) (by kernel_rfl)) ?_
  intro W base args ds gs before hval0 hW hcnd hsz0 _
  have hsz : (DataW.weightsEach Try.prog (Try.f7.params.toList ++ Rows.encTellsSpec.plain.varTypes Try.prog) (ds ++ gs)).all (· ≤ reachBytes) = true := hsz0
  have hval : ∀ (j : Nat) t v, Try.f7.params[j]? = some t → args[j]? = some v → Value.okWide Try.prog W .any base t v := hval0
  have hW' := hW
  obtain ⟨p, q, hA0, hV, rfl, hfz, hnd⟩ := hW
  have hA : DataW.TrodAll enc Try.prog W 0 (fun _ => true) true Try.f7.params.toList args.toList ds p := hA0
  rw [Try.params7] at hA hval hsz
  obtain ⟨v0, vs0, d0, ds0, p0, q0, hargs, rfl, rfl, h0, r0⟩ := trodAll_cons hA
  obtain ⟨v1, vs1, d1, ds1, p1, q1, rfl, rfl, rfl, h1, r1⟩ := trodAll_cons r0
  obtain ⟨rfl, rfl, rfl⟩ := trodAll_nil r1
  obtain rfl : args = #[v0, v1] := by cases args; simp_all
  obtain ⟨rfl, rfl⟩ := trodVars_none hV
  have lt0 : ∀ x ∈ p0, x.block < W.heap.size := by obtain ⟨m, hm⟩ := h0; exact DataW.trod_lt m _ _ _ hm
  obtain ⟨cs0, hcs0, _⟩ := okWide_struct Try.underlying27 (hval 0 27 v0 rfl rfl)
  obtain ⟨x0, wx0, rep0⟩ := (rd27 (enc := enc) (W := W)).argA ⟨cs0, hcs0⟩ h0 lt0 (weights_each hsz (j := 0) (t := 27) rfl rfl)
  have lt1 : ∀ x ∈ p1, x.block < W.heap.size := by obtain ⟨m, hm⟩ := h1; exact DataW.trod_lt m _ _ _ hm
  have cell1 : isCell v1 := by obtain ⟨_, hv1⟩ := okWide_int (k := .i64) Try.underlying3 (hval 1 3 v1 rfl rfl); rw [hv1]; trivial
  obtain ⟨x1, wx1, rep1⟩ := Reads.argC (cell := fun x => C.lit (.int .i64 x)) (rd3 (enc := enc) (W := W)) cell1 h1 lt1 (weights_each hsz (j := 1) (t := 3) rfl rfl)
  have hcall := calls_true (P := Try.prog) (ty := tyTab) (K := kt) tyOk kOk (f := 7) (ts := [T.agg (Aig.cells x0), T.c (C.lit (.int .i64 x1))]) (vs := #[v0, v1]) (W := W) rfl (by
    intro i t ht
    rcases i with _ | _ | i
    · simp at ht; subst ht; exact ⟨v0, rfl, rep0⟩
    · simp at ht; subst ht; exact ⟨v1, rfl, rep1⟩
    · simp at ht) (w_law19_EncTells x0 x1 (EncTells_true x0 x1 wx0 wx1))
  clear hA0 hval0 hsz0 hsz
  refine hcall.mono fun e W' ⟨he, bel⟩ => ?_
  subst he
  exact ⟨_, rfl, _, _, _, [], _, [], hW', trodAll_mk1 (shut_bool (by kernel_rfl) _), (trodAll_cons_mk (Below.trod laidOut (by kernel_rfl) (of_decide_eq_true (by kernel_rfl)) h0 bel lt0) (trodAll_cons_mk (Below.trod laidOut (by kernel_rfl) (of_decide_eq_true (by kernel_rfl)) h1 bel lt1) trodAll_mk0)), rfl, bel.frame _, fun h => by cases h⟩
theorem over : Rows.encTellsRow.holds Try.pinned (OpenSpec.ofChange Rows.encTellsSpec) :=
  OpenClaim.holds_of_wide 7 Try.f7 rfl rfl rfl rfl rfl rfl rfl ⟨rfl, rfl, rfl, rfl, rfl⟩ rfl rfl rfl rfl rfl (by kernel_rfl) Try.func7 (by kernel_rfl)
    (of_decide_eq_true (by kernel_rfl)) (by unfold Func.isWrapper; first | (rw [if_pos (by decide +kernel)]; kernel_rfl) | (rw [if_neg (by decide +kernel)]; exact ⟨rfl, rfl⟩))
    (fun os started H enc _ => lifted os started H enc)
end Go.Proofs.Ytdoapnmbopifjaa.encTells
namespace Go.Proofs.Ytdoapnmbopifjaa
/-- The law. -/
theorem encTells_holds : Rows.EncTellsSaid := encTells.over
#print axioms encTells_holds
end Go.Proofs.Ytdoapnmbopifjaa
