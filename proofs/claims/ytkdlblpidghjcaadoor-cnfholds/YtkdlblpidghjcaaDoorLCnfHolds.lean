/- The law CnfHolds: for every input the call returns true, and each argument reads as before. No condition. -/
import Derived.Test.YtkdlblpidghjcaaDoorRows
import Derived.Test.YtkdlblpidghjcaaDoorW2
import Derived.Test.YtkdlblpidghjcaaDoorR
import Derived.Test.YtkdlblpidghjcaaDoorPCnfHolds
import Derived.Test.YtkdlblpidghjcaaDoorM
import Derived.Test.YtkdlblpidghjcaaDoorCards
import Derived.Test.YtkdlblpidghjcaaDoorTie
import Derived.Lay
import Derived.LaidOnce
import Derived.SevenTiedAt
set_option linter.unusedVariables false
set_option linter.unusedSimpArgs false
namespace Go.Proofs.YtkdlblpidghjcaaDoor.cnfHolds
open Go.ChangeShapes Go.WideShapes Go.ChangeAt Go.RowKit Go.Vabs Go.Vid
theorem own : ownKnob Tryd.prog.godebug = none := by kernel_rfl
theorem laidOut : laidOutB Tryd.prog = true := by kernel_rfl
set_option maxRecDepth 100000 in
theorem lifted (os : Os) (started : os.Started) (H : Type) (enc : TypeId × Value → H) :
  ReturnsInHanded {} Tryd.checked os 6 .any (fun w args => (Rows.cnfHoldsSpec.pre enc Tryd.prog Tryd.f6 [] false w args ∧ laidMetH Tryd.prog laidL w) ∧ sizedMet enc Tryd.prog Tryd.f6 (OpenSpec.ofChange Rows.cnfHoldsSpec) false w args) (Rows.cnfHoldsSpec.post enc Tryd.prog Tryd.f6 false true false false) := by
 refine returnsInHanded_of_change_and (C := Tryd.checked) (X := fun w _ => laidMetH Tryd.prog laidL w) (fun _ _ _ hh h => h.of_heap hh) own started (by kernel_rfl) Tryd.func6
  (ChangeSpec.witness_shaped (enc := enc) (C := Tryd.checked) (os := os) (X := fun w _ => laidMetH Tryd.prog laidL w) false (World.laidAll Tryd.prog os laidL) #[.agg #[.int .i64 0, .slice none 0 0, .slice none 0 0, .slice none 0 0, .int .i64 0]] 8 (World.laidAll_os _ _ _)
   (World.shaped_of_ZipB (by kernel_rfl) (by kernel_rfl)) (by kernel_rfl) (by kernel_rfl) (by kernel_rfl)
   (by rw [MakeChecks.laidMetH_plain _ _ _ (by kernel_rfl)]; exact laidMet_laidAll _ (by kernel_rfl) (by kernel_rfl))) ?_
 intro W base args ds gs before hval0 hW hcnd hsz0 hL0 _
 have hL := hL0
 rw [MakeChecks.laidMetH_plain _ _ _ (by kernel_rfl)] at hL
 have hsz : (DataW.weightsEach Tryd.prog (Tryd.f6.params.toList ++ Rows.cnfHoldsSpec.plain.varTypes Tryd.prog) (ds ++ gs)).all (· ≤ reachBytes) = true := hsz0
 have hval : ∀ (j : Nat) t v, Tryd.f6.params[j]? = some t → args[j]? = some v → Value.okWide Tryd.prog W .any base t v := hval0
 have hW' := hW
 obtain ⟨p, q, hA0, hV, rfl, hfz, hnd⟩ := hW
 have hA : DataW.TrodAll enc Tryd.prog W 0 (fun _ => true) true Tryd.f6.params.toList args.toList ds p := hA0
 rw [Tryd.params6] at hA hval hsz
 obtain ⟨v0, vs0, d0, ds0, p0, q0, hargs, rfl, rfl, h0, r0⟩ := trodAll_cons hA
 obtain ⟨rfl, rfl, rfl⟩ := trodAll_nil r0
 obtain rfl : args = #[v0] := by cases args; simp_all
 obtain ⟨rfl, rfl⟩ := trodVars_none hV
 have lt0 : ∀ x ∈ p0, x.block < W.heap.size := by obtain ⟨m, hm⟩ := h0; exact DataW.trod_lt m _ _ _ hm
 obtain ⟨cs0, hcs0, _⟩ := okWide_struct Tryd.underlying55 (hval 0 55 v0 rfl rfl)
 obtain ⟨x0, wx0, rep0⟩ := (rd55 (enc := enc) (W := W)).argA ⟨cs0, hcs0⟩ h0 lt0 (weights_each hsz (j := 0) (t := 55) rfl rfl)
 have hcall := calls_true (P := Tryd.prog) (ty := tyTab) (K := kt) envOk tyOk kOk (f := 6) (ts := [T.agg (CnfHoldsIn_law03.cells x0)]) (vs := #[v0]) (W := W) rfl rfl (by
  intro i t ht
  rcases i with _ | i
  ·simp at ht; subst ht; exact ⟨v0, rfl, rep0⟩
  ·simp at ht) rfl (glob_cells hL) (glob_at hL) (w_law03_CnfHolds x0 (CnfHolds_true x0 wx0))
 clear hA0 hval0 hsz0 hsz
 refine hcall.mono fun e W' ⟨he, bel⟩ => ?_
 subst he
 exact ⟨_, rfl, _, _, _, [], _, [], hW', trodAll_mk1 (shut_bool (by kernel_rfl) _), (trodAll_cons_mk (Below.trod laidOut (by kernel_rfl) (of_decide_eq_true (by kernel_rfl)) h0 bel lt0) trodAll_mk0), rfl, bel.frame _, fun h => by cases h⟩
theorem over : Rows.cnfHoldsRow.holds Tryd.pinned (OpenSpec.ofChange Rows.cnfHoldsSpec) :=
 OpenClaim.holds_of_wide 6 Tryd.f6 rfl rfl rfl rfl rfl rfl rfl ⟨rfl, rfl, rfl, rfl, rfl⟩ rfl rfl rfl rfl rfl (by kernel_rfl) Tryd.func6 (by kernel_rfl)
  (of_decide_eq_true (by kernel_rfl)) (by unfold Func.isWrapper; first | (rw [if_pos (by decide +kernel)]; kernel_rfl) | (rw [if_neg (by decide +kernel)]; exact ⟨rfl, rfl⟩))
  (fun os started H enc _ => lifted os started H enc)
end Go.Proofs.YtkdlblpidghjcaaDoor.cnfHolds
namespace Go.Proofs.YtkdlblpidghjcaaDoor
theorem cnfHolds_holds : Rows.CnfHoldsCardSaid :=
 Claim7.holds_tied_plain_at .later [] [.data, .data, .data, .data, .pinned] true (true, "17a65114815c9ad81725a68bd58de8c361170cc0624d6a18b2dc2d7cba7975e7") false cnfHolds.over (fun _ h => by cases h) (by kernel_rfl) (fun _ h => by cases h) cnfHolds_row_tie rfl ⟨rfl, rfl⟩ (by kernel_rfl) rfl
  (fun f fn hf hfn => by
   obtain rfl : f = 6 := Option.some.inj ((show Tryd.prog.funcNamed "vidimus/vidimuslaw03.CnfHolds" = some 6 by kernel_rfl).symm.trans hf) |>.symm
   obtain rfl : fn = Tryd.f6 := (Option.some.inj (Tryd.func6.symm.trans hfn)).symm
   exact ⟨by kernel_rfl, fun j t ht => by
    rw [Tryd.params6] at ht
    have hm : t ∈ [55] := by simpa using Array.mem_of_getElem? ht
    have hall : ([55].all fun u => !Tryd.prog.wantsStandIn u) = true := by kernel_rfl
    exact (show Tryd.prog.wantsStandIn t = false by simpa using List.all_eq_true.1 hall t hm)⟩)
  (by kernel_rfl)
#print axioms cnfHolds_holds
end Go.Proofs.YtkdlblpidghjcaaDoor
