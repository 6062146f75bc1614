/- The law AigForth: for every input the call returns true, and each argument reads as before. No condition. -/
import Derived.Test.YtadllpehekphmaaDoorN
import Derived.Test.YtadllpehekphmaaDoorPAigForth
import Derived.Test.YtadllpehekphmaaDoorCards
import Derived.Test.YtadllpehekphmaaDoorTie
import Derived.Lay
import Derived.LaidOnce
import Derived.SevenTiedAt
set_option linter.unusedVariables false
set_option linter.unusedSimpArgs false
namespace Go.Proofs.YtadllpehekphmaaDoor.aigForth
open Go.ChangeShapes Go.WideShapes Go.ChangeAt Go.RowKit Go.Vabs Go.Vid
theorem own:ownKnob Tryd.prog.godebug=none:=by kernel_rfl
theorem laidOut:laidOutB Tryd.prog=true:=by kernel_rfl
set_option maxRecDepth 100000 in
theorem lifted (os:Os)(started:os.Started)(H:Type)(enc:TypeId × Value→H):
  ReturnsInHanded {} Tryd.checked os 5 .any (fun w args=>(Rows.aigForthSpec.pre enc Tryd.prog Tryd.f5 [] false w args∧laidMetH Tryd.prog laidL w)∧sizedMet enc Tryd.prog Tryd.f5 (OpenSpec.ofChange Rows.aigForthSpec) false w args) (Rows.aigForthSpec.post enc Tryd.prog Tryd.f5 false true false false):=by
 refine returnsInHanded_of_change_and (C:=Tryd.checked) (X:=fun w _=>laidMetH Tryd.prog laidL w) (fun _ _ _ hh h=>h.of_heap hh) own started (by kernel_rfl) Tryd.func5
  (ChangeSpec.witness_shaped (enc:=enc) (C:=Tryd.checked) (os:=os) (X:=fun w _=>laidMetH Tryd.prog laidL w) false (World.laidAll Tryd.prog os laidL) #[.slice none 0 0] 8 (World.laidAll_os _ _ _)
   (World.shaped_of_ZipB (by kernel_rfl) (by kernel_rfl)) (by kernel_rfl) (by kernel_rfl) (by kernel_rfl)
   (by rw[MakeChecks.laidMetH_plain _ _ _ (by kernel_rfl)]; exact laidMet_laidAll _ (by kernel_rfl) (by kernel_rfl))) ?_
 intro W base args ds gs before hval0 hW hcnd hsz0 hL0 _;have hL:=hL0;rw[MakeChecks.laidMetH_plain _ _ _ (by kernel_rfl)] at hL;have hsz:(DataW.weightsEach Tryd.prog (Tryd.f5.params.toList++Rows.aigForthSpec.plain.varTypes Tryd.prog) (ds++gs)).all (·≤reachBytes)=true:=hsz0;have hval:∀ (j:Nat) t v,Tryd.f5.params[j]?=some t→args[j]?=some v→Value.okWide Tryd.prog W .any base t v:=hval0;have hW':=hW;obtain⟨p,q,hA0,hV,rfl,hfz,hnd⟩:=hW;have hA:DataW.TrodAll enc Tryd.prog W 0 (fun _=>true) true Tryd.f5.params.toList args.toList ds p:=hA0;rw[Tryd.params5] at hA hval hsz;obtain⟨v0,vs0,d0,ds0,p0,q0,hargs,rfl,rfl,h0,r0⟩:=trodAll_cons hA
 obtain⟨rfl,rfl,rfl⟩:=trodAll_nil r0;obtain rfl:args=#[v0]:=by cases args; simp_all
 obtain⟨rfl,rfl⟩:=trodVars_none hV;have lt0:∀ x∈p0,x.block<W.heap.size:=by obtain⟨m,hm⟩:=h0; exact DataW.trod_lt m _ _ _ hm
 have cell0:isCell v0:=by obtain⟨_,_,_,hv0⟩:=okWide_slice (e:=5) Tryd.underlying42 (hval 0 42 v0 rfl rfl); rw[hv0]; trivial
 obtain⟨x0,wx0,rep0⟩:=Reads.argC (cell:=fun x=>sls 1 byteF x) (rd42 (enc:=enc) (W:=W)) cell0 h0 lt0 (weights_each hsz (j:=0) (t:=42) rfl rfl);have hcall:=calls_true (P:=Tryd.prog) (ty:=tyTab) (K:=kt) envOk tyOk kOk (f:=5) (ts:=[T.c (sls 1 byteF x0)]) (vs:=#[v0]) (W:=W) rfl rfl rfl (by
  intro i t ht
  rcases i with _ | i
  ·simp at ht; subst ht; exact⟨v0,rfl,rep0⟩
  ·simp at ht) rfl (glob_cells hL) (glob_at hL) (w_law06_AigForth x0 (AigForth_true x0 wx0))
 clear hA0 hval0 hsz0 hsz;refine hcall.mono fun e W' ⟨he,bel⟩=>?_;subst he;exact⟨_,rfl,_,_,_,[],_,[],hW',trodAll_mk1 (shut_bool (by kernel_rfl) _),(trodAll_cons_mk (Below.trod laidOut (by kernel_rfl) (of_decide_eq_true (by kernel_rfl)) h0 bel lt0) trodAll_mk0),rfl,bel.frame _,fun h=>by cases h⟩
theorem over:Rows.aigForthRow.holds Tryd.pinned (OpenSpec.ofChange Rows.aigForthSpec):=
 OpenClaim.holds_of_wide 5 Tryd.f5 rfl rfl rfl rfl rfl rfl rfl ⟨rfl,rfl,rfl,rfl,rfl⟩ rfl rfl rfl rfl rfl (by kernel_rfl) Tryd.func5 (by kernel_rfl)
  (of_decide_eq_true (by kernel_rfl)) (by unfold Func.isWrapper; first | (rw[if_pos (by decide +kernel)]; kernel_rfl) | (rw[if_neg (by decide +kernel)]; exact⟨rfl,rfl⟩))
  (fun os started H enc _=>lifted os started H enc)
end Go.Proofs.YtadllpehekphmaaDoor.aigForth
namespace Go.Proofs.YtadllpehekphmaaDoor
theorem aigForth_holds:Rows.AigForthCardSaid:=
 Claim7.holds_tied_plain_at .later [] [.data, .data, .data, .data, .pinned] true (true, "fe2839bd10aeb5d670c4b00319b19ce28f52a1623cd98603f8387457699509d5") true aigForth.over (fun _ h => by cases h) (by kernel_rfl) (fun _ h => by cases h) aigForth_row_tie rfl ⟨rfl, rfl⟩ (by kernel_rfl) rfl
  (fun f fn hf hfn=>by
   obtain rfl : f = 5 := Option.some.inj ((show Tryd.prog.funcNamed "vidimus/vidimuslaw06.AigForth" = some 5 by kernel_rfl).symm.trans hf) |>.symm
   obtain rfl:fn=Tryd.f5:=(Option.some.inj (Tryd.func5.symm.trans hfn)).symm;exact⟨by kernel_rfl,fun j t ht=>by
    rw[Tryd.params5] at ht;have hm:t∈[42]:=by simpa using Array.mem_of_getElem? ht
    have hall:([42].all fun u=>!Tryd.prog.wantsStandIn u)=true:=by kernel_rfl
    exact (show Tryd.prog.wantsStandIn t=false by simpa using List.all_eq_true.1 hall t hm)⟩)
  (by kernel_rfl)
#print axioms aigForth_holds
end Go.Proofs.YtadllpehekphmaaDoor
