/- The law CnfTurned: for every input the call returns true, and each argument reads as before. No condition. -/
import Derived.Test.YtkdlblpidghjcaaDoorRows
import Derived.Test.YtkdlblpidghjcaaDoorW2
import Derived.Test.YtkdlblpidghjcaaDoorR
import Derived.Test.YtkdlblpidghjcaaDoorPCnfTurned
import Derived.Test.YtkdlblpidghjcaaDoorM
import Derived.Test.YtkdlblpidghjcaaDoorCards
import Derived.Test.YtkdlblpidghjcaaDoorTie
import Derived.Lay
import Derived.LaidOnce
import Derived.SevenTiedAt
set_option linter.unusedVariables false
set_option linter.unusedSimpArgs false
namespace Go.Proofs.YtkdlblpidghjcaaDoor.cnfTurned
open Go.ChangeShapes Go.WideShapes Go.ChangeAt Go.RowKit Go.Vabs Go.Vid
theorem own : ownKnob Tryd.prog.godebug = none := by kernel_rfl
theorem laidOut : laidOutB Tryd.prog = true := by kernel_rfl
set_option maxRecDepth 100000 in
theorem lifted (os : Os) (started : os.Started) (H : Type) (enc : TypeId × Value → H) :
  ReturnsInHanded {} Tryd.checked os 9 .any (fun w args => (Rows.cnfTurnedSpec.pre enc Tryd.prog Tryd.f9 [] false w args ∧ laidMetH Tryd.prog laidL w) ∧ sizedMet enc Tryd.prog Tryd.f9 (OpenSpec.ofChange Rows.cnfTurnedSpec) false w args) (Rows.cnfTurnedSpec.post enc Tryd.prog Tryd.f9 false true false false) := by
 refine returnsInHanded_of_change_and (C := Tryd.checked) (X := fun w _ => laidMetH Tryd.prog laidL w) (fun _ _ _ hh h => h.of_heap hh) own started (by kernel_rfl) Tryd.func9
  (ChangeSpec.witness_shaped (enc := enc) (C := Tryd.checked) (os := os) (X := fun w _ => laidMetH Tryd.prog laidL w) false (World.laidAll Tryd.prog os laidL) #[.agg #[.int .i64 0, .slice none 0 0], .slice none 0 0] 8 (World.laidAll_os _ _ _)
   (World.shaped_of_ZipB (by kernel_rfl) (by kernel_rfl)) (by kernel_rfl) (by kernel_rfl) (by kernel_rfl)
   (by rw [MakeChecks.laidMetH_plain _ _ _ (by kernel_rfl)]; exact laidMet_laidAll _ (by kernel_rfl) (by kernel_rfl))) ?_
 intro W base args ds gs before hval0 hW hcnd hsz0 hL0 _
 have hL := hL0
 rw [MakeChecks.laidMetH_plain _ _ _ (by kernel_rfl)] at hL
 have hsz : (DataW.weightsEach Tryd.prog (Tryd.f9.params.toList ++ Rows.cnfTurnedSpec.plain.varTypes Tryd.prog) (ds ++ gs)).all (· ≤ reachBytes) = true := hsz0
 have hval : ∀ (j : Nat) t v, Tryd.f9.params[j]? = some t → args[j]? = some v → Value.okWide Tryd.prog W .any base t v := hval0
 have hW' := hW
 obtain ⟨p, q, hA0, hV, rfl, hfz, hnd⟩ := hW
 have hA : DataW.TrodAll enc Tryd.prog W 0 (fun _ => true) true Tryd.f9.params.toList args.toList ds p := hA0
 rw [Tryd.params9] at hA hval hsz
 obtain ⟨v0, vs0, d0, ds0, p0, q0, hargs, rfl, rfl, h0, r0⟩ := trodAll_cons hA
 obtain ⟨v1, vs1, d1, ds1, p1, q1, rfl, rfl, rfl, h1, r1⟩ := trodAll_cons r0
 obtain ⟨rfl, rfl, rfl⟩ := trodAll_nil r1
 obtain rfl : args = #[v0, v1] := by cases args; simp_all
 obtain ⟨rfl, rfl⟩ := trodVars_none hV
 have lt0 : ∀ x ∈ p0, x.block < W.heap.size := by obtain ⟨m, hm⟩ := h0; exact DataW.trod_lt m _ _ _ hm
 obtain ⟨cs0, hcs0, _⟩ := okWide_struct Tryd.underlying24 (hval 0 24 v0 rfl rfl)
 obtain ⟨x0, wx0, rep0⟩ := (rd24 (enc := enc) (W := W)).argA ⟨cs0, hcs0⟩ h0 lt0 (weights_each hsz (j := 0) (t := 24) rfl rfl)
 have lt1 : ∀ x ∈ p1, x.block < W.heap.size := by obtain ⟨m, hm⟩ := h1; exact DataW.trod_lt m _ _ _ hm
 have cell1 : isCell v1 := by obtain ⟨_, _, _, hv1⟩ := okWide_slice (e := 4) Tryd.underlying40 (hval 1 40 v1 rfl rfl); rw [hv1]; trivial
 obtain ⟨x1, wx1, rep1⟩ := Reads.argC (cell := fun x => sls 1 boolF x) (rd40 (enc := enc) (W := W)) cell1 h1 lt1 (weights_each hsz (j := 1) (t := 40) rfl rfl)
 have hcall := calls_true (P := Tryd.prog) (ty := tyTab) (K := kt) envOk tyOk kOk (f := 9) (ts := [T.agg (Cnf.cells x0), T.c (sls 1 boolF x1)]) (vs := #[v0, v1]) (W := W) rfl rfl (by
  intro i t ht
  rcases i with _ | _ | i
  ·simp at ht; subst ht; exact ⟨v0, rfl, rep0⟩
  ·simp at ht; subst ht; exact ⟨v1, rfl, rep1⟩
  ·simp at ht) rfl (glob_cells hL) (glob_at hL) (w_law03_CnfTurned x0 x1 (CnfTurned_true x0 x1 wx0 wx1))
 clear hA0 hval0 hsz0 hsz
 refine hcall.mono fun e W' ⟨he, bel⟩ => ?_
 subst he
 exact ⟨_, rfl, _, _, _, [], _, [], hW', trodAll_mk1 (shut_bool (by kernel_rfl) _), (trodAll_cons_mk (Below.trod laidOut (by kernel_rfl) (of_decide_eq_true (by kernel_rfl)) h0 bel lt0) (trodAll_cons_mk (Below.trod laidOut (by kernel_rfl) (of_decide_eq_true (by kernel_rfl)) h1 bel lt1) trodAll_mk0)), rfl, bel.frame _, fun h => by cases h⟩
theorem over : Rows.cnfTurnedRow.holds Tryd.pinned (OpenSpec.ofChange Rows.cnfTurnedSpec) :=
 OpenClaim.holds_of_wide 9 Tryd.f9 rfl rfl rfl rfl rfl rfl rfl ⟨rfl, rfl, rfl, rfl, rfl⟩ rfl rfl rfl rfl rfl (by kernel_rfl) Tryd.func9 (by kernel_rfl)
  (of_decide_eq_true (by kernel_rfl)) (by unfold Func.isWrapper; first | (rw [if_pos (by decide +kernel)]; kernel_rfl) | (rw [if_neg (by decide +kernel)]; exact ⟨rfl, rfl⟩))
  (fun os started H enc _ => lifted os started H enc)
end Go.Proofs.YtkdlblpidghjcaaDoor.cnfTurned
namespace Go.Proofs.YtkdlblpidghjcaaDoor
theorem cnfTurned_holds : Rows.CnfTurnedCardSaid :=
 Claim7.holds_tied_plain_at .later [] [.data, .data, .data, .data, .pinned] true (true, "17a65114815c9ad81725a68bd58de8c361170cc0624d6a18b2dc2d7cba7975e7") false cnfTurned.over (fun _ h => by cases h) (by kernel_rfl) (fun _ h => by cases h) cnfTurned_row_tie rfl ⟨rfl, rfl⟩ (by kernel_rfl) rfl
  (fun f fn hf hfn => by
   obtain rfl : f = 9 := Option.some.inj ((show Tryd.prog.funcNamed "vidimus/vidimuslaw03.CnfTurned" = some 9 by kernel_rfl).symm.trans hf) |>.symm
   obtain rfl : fn = Tryd.f9 := (Option.some.inj (Tryd.func9.symm.trans hfn)).symm
   exact ⟨by kernel_rfl, fun j t ht => by
    rw [Tryd.params9] at ht
    have hm : t ∈ [24, 40] := by simpa using Array.mem_of_getElem? ht
    have hall : ([24, 40].all fun u => !Tryd.prog.wantsStandIn u) = true := by kernel_rfl
    exact (show Tryd.prog.wantsStandIn t = false by simpa using List.all_eq_true.1 hall t hm)⟩)
  (by kernel_rfl)
#print axioms cnfTurned_holds
end Go.Proofs.YtkdlblpidghjcaaDoor
