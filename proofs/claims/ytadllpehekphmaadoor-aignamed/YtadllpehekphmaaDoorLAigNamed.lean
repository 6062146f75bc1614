/- The law AigNamed: for every input the call returns true, and each argument reads as before. No condition. -/
import Derived.Test.YtadllpehekphmaaDoorN
import Derived.Test.YtadllpehekphmaaDoorPAigNamed
import Derived.Test.YtadllpehekphmaaDoorCards
import Derived.Test.YtadllpehekphmaaDoorTie
import Derived.Lay
import Derived.LaidOnce
import Derived.SevenTiedAt
set_option linter.unusedVariables false
set_option linter.unusedSimpArgs false
namespace Go.Proofs.YtadllpehekphmaaDoor.aigNamed
open Go.ChangeShapes Go.WideShapes Go.ChangeAt Go.RowKit Go.Vabs Go.Vid
theorem own:ownKnob Tryd.prog.godebug=none:=by kernel_rfl
theorem laidOut:laidOutB Tryd.prog=true:=by kernel_rfl
set_option maxRecDepth 100000 in
theorem lifted (os:Os)(started:os.Started)(H:Type)(enc:TypeId × Value→H):
  ReturnsInHanded {} Tryd.checked os 8 .any (fun w args=>(Rows.aigNamedSpec.pre enc Tryd.prog Tryd.f8 [] false w args∧laidMetH Tryd.prog laidL w)∧sizedMet enc Tryd.prog Tryd.f8 (OpenSpec.ofChange Rows.aigNamedSpec) false w args) (Rows.aigNamedSpec.post enc Tryd.prog Tryd.f8 false true false false):=by
 refine returnsInHanded_of_change_and (C:=Tryd.checked) (X:=fun w _=>laidMetH Tryd.prog laidL w) (fun _ _ _ hh h=>h.of_heap hh) own started (by kernel_rfl) Tryd.func8
  (ChangeSpec.witness_shaped (enc:=enc) (C:=Tryd.checked) (os:=os) (X:=fun w _=>laidMetH Tryd.prog laidL w) false (World.laidAll Tryd.prog os laidL) #[.agg #[.int .i64 0,.slice none 0 0,.slice none 0 0,.slice none 0 0,.slice none 0 0,.slice none 0 0,.slice none 0 0],.agg #[.int .u8 0,.int .i64 0,.string ByteArray.empty],.string ByteArray.empty] 8 (World.laidAll_os _ _ _)
   (World.shaped_of_ZipB (by kernel_rfl) (by kernel_rfl)) (by kernel_rfl) (by kernel_rfl) (by kernel_rfl)
   (by rw[MakeChecks.laidMetH_plain _ _ _ (by kernel_rfl)]; exact laidMet_laidAll _ (by kernel_rfl) (by kernel_rfl))) ?_
 intro W base args ds gs before hval0 hW hcnd hsz0 hL0 _;have hL:=hL0;rw[MakeChecks.laidMetH_plain _ _ _ (by kernel_rfl)] at hL;have hsz:(DataW.weightsEach Tryd.prog (Tryd.f8.params.toList++Rows.aigNamedSpec.plain.varTypes Tryd.prog) (ds++gs)).all (·≤reachBytes)=true:=hsz0;have hval:∀ (j:Nat) t v,Tryd.f8.params[j]?=some t→args[j]?=some v→Value.okWide Tryd.prog W .any base t v:=hval0;have hW':=hW;obtain⟨p,q,hA0,hV,rfl,hfz,hnd⟩:=hW;have hA:DataW.TrodAll enc Tryd.prog W 0 (fun _=>true) true Tryd.f8.params.toList args.toList ds p:=hA0;rw[Tryd.params8] at hA hval hsz;obtain⟨v0,vs0,d0,ds0,p0,q0,hargs,rfl,rfl,h0,r0⟩:=trodAll_cons hA
 obtain⟨v1,vs1,d1,ds1,p1,q1,rfl,rfl,rfl,h1,r1⟩:=trodAll_cons r0;obtain⟨v2,vs2,d2,ds2,p2,q2,rfl,rfl,rfl,h2,r2⟩:=trodAll_cons r1;obtain⟨rfl,rfl,rfl⟩:=trodAll_nil r2;obtain rfl:args=#[v0,v1,v2]:=by cases args; simp_all
 obtain⟨rfl,rfl⟩:=trodVars_none hV;have lt0:∀ x∈p0,x.block<W.heap.size:=by obtain⟨m,hm⟩:=h0; exact DataW.trod_lt m _ _ _ hm
 obtain⟨cs0,hcs0,_⟩:=okWide_struct Tryd.underlying27 (hval 0 27 v0 rfl rfl);obtain⟨x0,wx0,rep0⟩:=(rd27 (enc:=enc) (W:=W)).argA ⟨cs0,hcs0⟩ h0 lt0 (weights_each hsz (j:=0) (t:=27) rfl rfl);have lt1:∀ x∈p1,x.block<W.heap.size:=by obtain⟨m,hm⟩:=h1; exact DataW.trod_lt m _ _ _ hm
 obtain⟨cs1,hcs1,_⟩:=okWide_struct Tryd.underlying49 (hval 1 49 v1 rfl rfl);obtain⟨x1,wx1,rep1⟩:=(rd49 (enc:=enc) (W:=W)).argA ⟨cs1,hcs1⟩ h1 lt1 (weights_each hsz (j:=1) (t:=49) rfl rfl);have lt2:∀ x∈p2,x.block<W.heap.size:=by obtain⟨m,hm⟩:=h2; exact DataW.trod_lt m _ _ _ hm
 have cell2:isCell v2:=by obtain⟨_,hv2⟩:=okWide_string Tryd.underlying9 (hval 2 9 v2 rfl rfl); rw[hv2]; trivial
 obtain⟨x2,wx2,rep2⟩:=Reads.argC (cell:=fun x=>C.lit (.string x)) (rd9 (enc:=enc) (W:=W)) cell2 h2 lt2 (weights_each hsz (j:=2) (t:=9) rfl rfl);have hcall:=calls_true (P:=Tryd.prog) (ty:=tyTab) (K:=kt) envOk tyOk kOk (f:=8) (ts:=[T.agg (Aig.cells x0),T.agg (Name.cells x1),T.c (C.lit (.string x2))]) (vs:=#[v0,v1,v2]) (W:=W) rfl rfl rfl (by
  intro i t ht
  rcases i with _ | _ | _ | i
  ·simp at ht; subst ht; exact⟨v0,rfl,rep0⟩
  ·simp at ht; subst ht; exact⟨v1,rfl,rep1⟩
  ·simp at ht; subst ht; exact⟨v2,rfl,rep2⟩
  ·simp at ht) rfl (glob_cells hL) (glob_at hL) (w_law06_AigNamed x0 x1 x2 (AigNamed_true x0 x1 x2 wx0 wx1 wx2))
 clear hA0 hval0 hsz0 hsz;refine hcall.mono fun e W' ⟨he,bel⟩=>?_;subst he;exact⟨_,rfl,_,_,_,[],_,[],hW',trodAll_mk1 (shut_bool (by kernel_rfl) _),(trodAll_cons_mk (Below.trod laidOut (by kernel_rfl) (of_decide_eq_true (by kernel_rfl)) h0 bel lt0) (trodAll_cons_mk (Below.trod laidOut (by kernel_rfl) (of_decide_eq_true (by kernel_rfl)) h1 bel lt1) (trodAll_cons_mk (Below.trod laidOut (by kernel_rfl) (of_decide_eq_true (by kernel_rfl)) h2 bel lt2) trodAll_mk0))),rfl,bel.frame _,fun h=>by cases h⟩
theorem over:Rows.aigNamedRow.holds Tryd.pinned (OpenSpec.ofChange Rows.aigNamedSpec):=
 OpenClaim.holds_of_wide 8 Tryd.f8 rfl rfl rfl rfl rfl rfl rfl ⟨rfl,rfl,rfl,rfl,rfl⟩ rfl rfl rfl rfl rfl (by kernel_rfl) Tryd.func8 (by kernel_rfl)
  (of_decide_eq_true (by kernel_rfl)) (by unfold Func.isWrapper; first | (rw[if_pos (by decide +kernel)]; kernel_rfl) | (rw[if_neg (by decide +kernel)]; exact⟨rfl,rfl⟩))
  (fun os started H enc _=>lifted os started H enc)
end Go.Proofs.YtadllpehekphmaaDoor.aigNamed
namespace Go.Proofs.YtadllpehekphmaaDoor
theorem aigNamed_holds:Rows.AigNamedCardSaid:=
 Claim7.holds_tied_plain_at .later [] [.data, .data, .data, .data, .pinned] true (true, "fe2839bd10aeb5d670c4b00319b19ce28f52a1623cd98603f8387457699509d5") true aigNamed.over (fun _ h => by cases h) (by kernel_rfl) (fun _ h => by cases h) aigNamed_row_tie rfl ⟨rfl, rfl⟩ (by kernel_rfl) rfl
  (fun f fn hf hfn=>by
   obtain rfl : f = 8 := Option.some.inj ((show Tryd.prog.funcNamed "vidimus/vidimuslaw06.AigNamed" = some 8 by kernel_rfl).symm.trans hf) |>.symm
   obtain rfl:fn=Tryd.f8:=(Option.some.inj (Tryd.func8.symm.trans hfn)).symm;exact⟨by kernel_rfl,fun j t ht=>by
    rw[Tryd.params8] at ht;have hm:t∈[27,49,9]:=by simpa using Array.mem_of_getElem? ht
    have hall:([27,49,9].all fun u=>!Tryd.prog.wantsStandIn u)=true:=by kernel_rfl
    exact (show Tryd.prog.wantsStandIn t=false by simpa using List.all_eq_true.1 hall t hm)⟩)
  (by kernel_rfl)
#print axioms aigNamed_holds
end Go.Proofs.YtadllpehekphmaaDoor
