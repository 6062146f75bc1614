/- The law EncAsks: for every input the call returns true, and each argument reads as before. No condition. -/
import Derived.Test.YthmnnieiibeiaaaRows
import Derived.Test.YthmnnieiibeiaaaW2
import Derived.Test.YthmnnieiibeiaaaR
import Derived.Test.YthmnnieiibeiaaaPEncAsks
import Derived.Test.YthmnnieiibeiaaaM
set_option linter.unusedVariables false
set_option linter.unusedSimpArgs false
namespace Go.Proofs.Ythmnnieiibeiaaa.encAsks
open Go.ChangeShapes Go.WideShapes Go.ChangeAt Go.RowKit Go.Vabs Go.Vid
theorem own : ownKnob Try.prog.godebug = none := by kernel_rfl
theorem laidOut : laidOutB Try.prog = true := by kernel_rfl
set_option maxRecDepth 100000 in
theorem lifted (os : Os) (started : os.Started) (H : Type) (enc : TypeId × Value → H) :
  ReturnsInHanded {} Try.checked os 3 .any (Rows.encAsksSpec.pre6 enc Try.prog Try.f3 Rows.encAsksRow.domain false) (Rows.encAsksSpec.post enc Try.prog Try.f3 false true false false) := by
 refine returnsInHanded_of_change_sized (C := Try.checked) own started (by kernel_rfl) Try.func3
  (ChangeSpec.witness6 (enc := enc) (C := Try.checked) false ⟨#[], #[.agg #[.int .i64 0, .slice none 0 0, .slice none 0 0, .slice none 0 0, .slice none 0 0, .slice none 0 0, .slice none 0 0], .int .i64 0, .int .i64 0], []⟩ 8 (by kernel_rfl) (by kernel_rfl) (by kernel_rfl) (by kernel_rfl)) ?_
 intro W base args ds gs before hval0 hW hcnd hsz0 _
 have hsz : (DataW.weightsEach Try.prog (Try.f3.params.toList ++ Rows.encAsksSpec.plain.varTypes Try.prog) (ds ++ gs)).all (· ≤ reachBytes) = true := hsz0
 have hval : ∀ (j : Nat) t v, Try.f3.params[j]? = some t → args[j]? = some v → Value.okWide Try.prog W .any base t v := hval0
 have hW' := hW
 obtain ⟨p, q, hA0, hV, rfl, hfz, hnd⟩ := hW
 have hA : DataW.TrodAll enc Try.prog W 0 (fun _ => true) true Try.f3.params.toList args.toList ds p := hA0
 rw [Try.params3] at hA hval hsz
 obtain ⟨v0, vs0, d0, ds0, p0, q0, hargs, rfl, rfl, h0, r0⟩ := trodAll_cons hA
 obtain ⟨v1, vs1, d1, ds1, p1, q1, rfl, rfl, rfl, h1, r1⟩ := trodAll_cons r0
 obtain ⟨v2, vs2, d2, ds2, p2, q2, rfl, rfl, rfl, h2, r2⟩ := trodAll_cons r1
 obtain ⟨rfl, rfl, rfl⟩ := trodAll_nil r2
 obtain rfl : args = #[v0, v1, v2] := by cases args; simp_all
 obtain ⟨rfl, rfl⟩ := trodVars_none hV
 have lt0 : ∀ x ∈ p0, x.block < W.heap.size := by obtain ⟨m, hm⟩ := h0; exact DataW.trod_lt m _ _ _ hm
 obtain ⟨cs0, hcs0, _⟩ := okWide_struct Try.underlying27 (hval 0 27 v0 rfl rfl)
 obtain ⟨x0, wx0, rep0⟩ := (rd27 (enc := enc) (W := W)).argA ⟨cs0, hcs0⟩ h0 lt0 (weights_each hsz (j := 0) (t := 27) rfl rfl)
 have lt1 : ∀ x ∈ p1, x.block < W.heap.size := by obtain ⟨m, hm⟩ := h1; exact DataW.trod_lt m _ _ _ hm
 have cell1 : isCell v1 := by obtain ⟨_, hv1⟩ := okWide_int (k := .i64) Try.underlying3 (hval 1 3 v1 rfl rfl); rw [hv1]; trivial
 obtain ⟨x1, wx1, rep1⟩ := Reads.argC (cell := fun x => C.lit (.int .i64 x)) (rd3 (enc := enc) (W := W)) cell1 h1 lt1 (weights_each hsz (j := 1) (t := 3) rfl rfl)
 have lt2 : ∀ x ∈ p2, x.block < W.heap.size := by obtain ⟨m, hm⟩ := h2; exact DataW.trod_lt m _ _ _ hm
 have cell2 : isCell v2 := by obtain ⟨_, hv2⟩ := okWide_int (k := .i64) Try.underlying3 (hval 2 3 v2 rfl rfl); rw [hv2]; trivial
 obtain ⟨x2, wx2, rep2⟩ := Reads.argC (cell := fun x => C.lit (.int .i64 x)) (rd3 (enc := enc) (W := W)) cell2 h2 lt2 (weights_each hsz (j := 2) (t := 3) rfl rfl)
 have hcall := calls_true (P := Try.prog) (ty := tyTab) (K := kt) envOk tyOk kOk (f := 3) (ts := [T.agg (Aig.cells x0), T.c (C.lit (.int .i64 x1)), T.c (C.lit (.int .i64 x2))]) (vs := #[v0, v1, v2]) (W := W) rfl rfl rfl (by
  intro i t ht
  rcases i with _ | _ | _ | i
  ·simp at ht; subst ht; exact ⟨v0, rfl, rep0⟩
  ·simp at ht; subst ht; exact ⟨v1, rfl, rep1⟩
  ·simp at ht; subst ht; exact ⟨v2, rfl, rep2⟩
  ·simp at ht) rfl glob_cells glob_at (w_law19_EncAsks x0 x1 x2 (EncAsks_true x0 x1 x2 wx0 wx1 wx2))
 clear hA0 hval0 hsz0 hsz
 refine hcall.mono fun e W' ⟨he, bel⟩ => ?_
 subst he
 exact ⟨_, rfl, _, _, _, [], _, [], hW', trodAll_mk1 (shut_bool (by kernel_rfl) _), (trodAll_cons_mk (Below.trod laidOut (by kernel_rfl) (of_decide_eq_true (by kernel_rfl)) h0 bel lt0) (trodAll_cons_mk (Below.trod laidOut (by kernel_rfl) (of_decide_eq_true (by kernel_rfl)) h1 bel lt1) (trodAll_cons_mk (Below.trod laidOut (by kernel_rfl) (of_decide_eq_true (by kernel_rfl)) h2 bel lt2) trodAll_mk0))), rfl, bel.frame _, fun h => by cases h⟩
theorem over : Rows.encAsksRow.holds Try.pinned (OpenSpec.ofChange Rows.encAsksSpec) :=
 OpenClaim.holds_of_wide 3 Try.f3 rfl rfl rfl rfl rfl rfl rfl ⟨rfl, rfl, rfl, rfl, rfl⟩ rfl rfl rfl rfl rfl (by kernel_rfl) Try.func3 (by kernel_rfl)
  (of_decide_eq_true (by kernel_rfl)) (by unfold Func.isWrapper; first | (rw [if_pos (by decide +kernel)]; kernel_rfl) | (rw [if_neg (by decide +kernel)]; exact ⟨rfl, rfl⟩))
  (fun os started H enc _ => lifted os started H enc)
end Go.Proofs.Ythmnnieiibeiaaa.encAsks
namespace Go.Proofs.Ythmnnieiibeiaaa
theorem encAsks_holds : Rows.EncAsksSaid := encAsks.over
#print axioms encAsks_holds
end Go.Proofs.Ythmnnieiibeiaaa
