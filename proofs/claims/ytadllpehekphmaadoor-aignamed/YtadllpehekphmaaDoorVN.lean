/- A library: the abstract interpreter's calls are told by one equation. No condition. -/
import Derived.Test.YtadllpehekphmaaDoorVM
set_option linter.unusedSimpArgs false
set_option linter.unusedVariables false
namespace Go.Vabs
open Go.RowKit
def CallF.le (c c':CallF):Prop:=∀ f args r,c f args=some r→c' f args=some r
section
variable {P:Program} {ty:Tys} {kp:Nat→Option (List Nat)} {K:Nat→Option (Nat→Option (List Nat))} {call call':CallF}
theorem evL2_mono [Globals] (hle:call.le call'){o:Oper}{f:FuncId}{d:Nat}{ts:List T}{hs:List Nat}{s s':St}(h:evL2 call ty o f d ts hs s=some s'):evL2 call' ty o f d ts hs s=some s':=by
 unfold evL2 at h ⊢
 split at h
 ·cases h
 ·split at h
  ·cases h
  ·split at h
   ·rename_i hc;rw[if_pos hc]
    split at h
    ·cases h
    ·rename_i r hr;simp only[hle _ _ _ hr];exact h
   ·cases h
theorem evL1_mono [Globals] (hle:call.le call'){o:Oper}{f:FuncId}{all:Bool}{ts:List T}{s s':St}(h:evL1 call ty o f all ts s=some s'):evL1 call' ty o f all ts s=some s':=by
 unfold evL1 at h ⊢
 split at h
 ·exact evL2_mono hle h
 ·cases h
theorem evOp_mono [Globals] (hle:call.le call'){o:Oper}{s s':St}(h:evOp call ty o s=some s'):evOp call' ty o s=some s':=by
 unfold evOp at h ⊢
 split at h
 ·exact h
 ·exact h
 ·exact h
 ·exact h
 ·exact h
 ·split at h
  ·exact evL1_mono hle h
  split at h
  ·split at h
   ·cases h
   ·rename_i f caps hf
    split at h
    ·rename_i hi;simp only[if_pos hi];exact h
    ·rename_i hi;simp only[if_neg hi]
     split at h
     ·cases h
     ·rename_i args ha
      split at h
      ·cases h
      ·rename_i r hr;simp only[hle _ _ _ hr];exact h
  ·exact h
  ·exact h
 ·exact h
theorem evLP_mono [Globals] (hle:call.le call'){o:Oper}{f:FuncId}{d:Nat}{ts:List T}{hs:List Nat}{s:St}{r:(Nat × List C) ⊕ St}(h:evLP call ty o f d ts hs s=some r):evLP call' ty o f d ts hs s=some r:=by
 unfold evLP at h ⊢
 split at h
 ·cases h
 ·split at h
  ·cases h
  ·split at h
   ·rename_i hc;rw[if_pos hc]
    split at h
    ·cases h
    all_goals
     rename_i hr;rw[Option.bind_eq_some_iff] at hr;obtain⟨r1,h1,h2⟩:=hr;simp only[hle _ _ _ h1,Option.bind_some,h2];exact h
   ·cases h
theorem evOpsP_mono [Globals] (hle:call.le call'){ops:Array Oper}:∀ {l:List Oper} {s:St} {r:Ex × St},evOpsP call ty ops l s=some r→evOpsP call' ty ops l s=some r
 | [],s,r,h=>h
 | o::l,s,r,h=>by
  simp only[evOpsP] at h ⊢
  split at h
  ·cases h
  ·exact evOpsP_mono hle h
  ·split at h
   ·rw[Option.bind_eq_some_iff] at h ⊢;obtain⟨s1,h1,h2⟩:=h;exact⟨s1,evOp_mono hle h1,evOpsP_mono hle h2⟩
   ·exact h
   ·split at h
    ·cases h
    ·rw[Option.bind_eq_some_iff] at h ⊢;obtain⟨q,h1,h2⟩:=h;refine⟨q,evLP_mono hle h1,?_⟩
     split at h2
     ·exact h2
     ·exact evOpsP_mono hle h2
theorem evOps_mono [Globals] (hle:call.le call'){ops:Array Oper}:∀ {l:List Oper} {s s':St},evOps call ty ops l s=some s'→evOps call' ty ops l s=some s'
 | [],s,s',h=>h
 | o::l,s,s',h=>by
  simp only[evOps] at h ⊢
  split at h
  ·cases h
  ·exact evOps_mono hle h
  ·split at h
   ·cases h
   ·rename_i s1 hs1;rw[evOp_mono hle hs1];exact evOps_mono hle h
theorem evOpsU_mono [Globals] (hle:call.le call'){U:List Nat}:∀ {l:List Oper} {s s':St},evOpsU call ty U l s=some s'→evOpsU call' ty U l s=some s'
 | [],s,s',h=>h
 | o::l,s,s',h=>by
  simp only[evOpsU] at h ⊢
  split at h
  ·rename_i hc;rw[if_pos hc];rw[Option.bind_eq_some_iff] at h ⊢;obtain⟨s1,h1,h2⟩:=h;exact⟨s1,evOp_mono hle h1,evOpsU_mono hle h2⟩
  ·cases h
theorem evRg_mono [Globals] (hle:call.le call'){u:Option (List Nat)}{ops:Array Oper}{s:St}{r:Ex × St}(h:evRg call ty u ops s=some r):evRg call' ty u ops s=some r:=by
 unfold evRg at h ⊢
 split at h
 ·simp only[Option.map_eq_some_iff] at h ⊢;obtain⟨s1,h1,h2⟩:=h;exact⟨s1,evOps_mono hle h1,h2⟩
 ·split at h
  ·rename_i hm;rw[if_pos hm];exact evOpsP_mono hle h
  ·rename_i hm;rw[if_neg hm];simp only[Option.map_eq_some_iff] at h ⊢;obtain⟨s1,h1,h2⟩:=h;exact⟨s1,evOpsU_mono hle h1,h2⟩
theorem evCode_mono [Globals] (hle:call.le call'):(∀ c s r,evCode call ty kp c s=some r→evCode call' ty kp c s=some r)∧(∀ c s r,evLoop call ty kp c s=some r→evLoop call' ty kp c s=some r):=by
 apply evCode.mutual_partial_correctness call ty kp (fun c s r=>evCode call' ty kp c s=some r) (fun c s r=>evLoop call' ty kp c s=some r)
 ·intro ec el hc hl c s r h
  cases c with
  | skip=>rw[evCode]; exact h
  | label=>rw[evCode]; exact h
  | region id ops d=>
   rw[evCode];exact evRg_mono hle h
  | seq a b=>
   rw[evCode];simp only[Option.bind_eq_bind,Option.bind_eq_some_iff] at h ⊢;obtain⟨r1,h1,h2⟩:=h;refine⟨r1,hc _ _ _ h1,?_⟩
   split at h2<;>rename_i hr
   ·exact hc _ _ _ h2
   ·exact h2
  | cond c x y=>
   rw[evCode];simp only at h
   split at h
   ·rename_i b hb
    split at h
    ·rename_i hb'; simp only[hb',if_true]; exact hc _ _ _ h
    ·rename_i hb'; simp only[hb',if_false,Bool.false_eq_true]; exact hc _ _ _ h
   ·cases h
  | block id c=>
   rw[evCode];simp only[Option.bind_eq_bind,Option.bind_eq_some_iff] at h ⊢;obtain⟨r1,h1,h2⟩:=h;exact⟨r1,hc _ _ _ h1,h2⟩
  | loop c=>rw[evCode]; exact hl _ _ _ h
  | exit id=>rw[evCode]; exact h
  | ret=>rw[evCode]; exact h
  | rangeFunc _ _ _ _=>cases h
  | scope _=>cases h
  | goto _=>cases h
  | refuse _=>cases h
 ·intro ec el hc hl c s r h;rw[evLoop];simp only[Option.bind_eq_bind,Option.bind_eq_some_iff] at h ⊢;obtain⟨r1,h1,h2⟩:=h;refine⟨r1,hc _ _ _ h1,?_⟩
  split at h2<;>rename_i hr
  ·exact hl _ _ _ h2
  ·exact h2
theorem evFn0_up [Globals] {p q:Prims}(hpq:∀ f args r,p.pr f args=some r→q.pr f args=some r)(hle:call.le call'):CallF.le (@evFn0 _ p P ty K call) (@evFn0 _ q P ty K call'):=by
 intro f args r h;unfold evFn0 at h ⊢
 split at h
 ·exact hpq _ _ _ h
 split at h
 ·cases h
 ·split at h
  ·cases h
  ·split at h
   ·cases h
   ·rename_i hnm;rw[if_neg hnm]
    split at h
    ·rename_i hlo;rw[if_pos hlo]
     split at h
     ·cases h
     ·rename_i x hx;simp only[evCode_mono hle |>.1 _ _ _ hx];exact h
    ·rename_i hlo;rw[if_neg hlo]
     split at h
     ·cases h
     ·rename_i x hx;simp only[evCode_mono hle |>.1 _ _ _ hx];exact h
theorem evFn0_mono [Globals] [Prims] (hle:call.le call'):CallF.le (evFn0 P ty K call) (evFn0 P ty K call'):=evFn0_up (fun _ _ _ h=>h) hle
theorem evFnP_mono [Globals] (hle:call.le call'):CallF.le (evFnP P ty K call) (evFnP P ty K call'):=by
 intro f args r h;unfold evFnP at h ⊢
 split at h
 ·cases h
 split at h
 ·cases h
 ·split at h
  ·cases h
  ·split at h
   ·cases h
   ·rename_i hnm;rw[if_neg hnm]
    split at h
    ·cases h
    ·rename_i x hx;simp only[evCode_mono hle |>.1 _ _ _ hx];exact h
theorem evFn_mono [Globals] [Prims] (hle:call.le call'):CallF.le (evFn P ty K call) (evFn P ty K call'):=by
 intro f args r h;unfold evFn at h ⊢
 split at h
 ·rename_i hm;rw[if_pos hm];exact evFnP_mono hle _ _ _ h
 ·rename_i hm;rw[if_neg hm];exact evFn0_mono hle _ _ _ h
theorem evCallN_succ [Globals] [Prims]:∀ n,CallF.le (evCallN P ty K n) (evCallN P ty K (n+1))
 | 0=>fun f args r h=>by cases h
 | n+1=>evFn_mono (evCallN_succ n)
theorem evCallN_le [Globals] [Prims] {n m:Nat}(h:n≤m):CallF.le (evCallN P ty K n) (evCallN P ty K m):=by
 induction h with
 | refl=>exact fun _ _ _ h=>h
 | step _ ih=>exact fun f args r h=>evCallN_succ _ _ _ _ (ih _ _ _ h)
theorem evCall_iff [Globals] [Prims] {f:FuncId}{args:List T}{r:T × List Ob}:evCall P ty K f args=some r↔∃ n,evCallN P ty K n f args=some r:=by
 unfold evCall
 constructor
 ·intro h
  split at h
  ·exact⟨_,h⟩
  ·cases h
 ·rintro⟨n,hn⟩;have hex:∃ n r,evCallN P ty K n f args=some r:=⟨n,r,hn⟩;rw[dif_pos hex];obtain⟨r',hr'⟩:=hex.choose_spec;have h1:=evCallN_le (Nat.le_max_left n hex.choose) _ _ _ hn;have h2:=evCallN_le (Nat.le_max_right n hex.choose) _ _ _ hr';rw[h1] at h2;rw[hr',← h2]
theorem evL2_cont [Globals] [Prims] {o:Oper}{f:FuncId}{d:Nat}{ts:List T}{hs:List Nat}{s s':St}(h:evL2 (evCall P ty K) ty o f d ts hs s=some s'):∃ n,evL2 (evCallN P ty K n) ty o f d ts hs s=some s':=by
 unfold evL2 at h ⊢
 split at h
 ·cases h
 ·split at h
  ·cases h
  ·split at h
   ·rename_i hc;simp only[if_pos hc]
    split at h
    ·cases h
    ·rename_i r hr;obtain⟨n,hn⟩:=evCall_iff.1 hr;refine⟨n,?_⟩;simp only[hn];exact h
   ·cases h
theorem evOp_cont [Globals] [Prims] {o:Oper}{s s':St}(h:evOp (evCall P ty K) ty o s=some s'):∃ n,evOp (evCallN P ty K n) ty o s=some s':=by
 unfold evOp at h ⊢
 split at h
 ·exact⟨0,h⟩
 ·exact⟨0,h⟩
 ·exact⟨0,h⟩
 ·exact⟨0,h⟩
 ·exact⟨0,h⟩
 ·split at h
  ·unfold evL1 at h ⊢
   split at h
   ·exact evL2_cont h
   ·cases h
  split at h
  ·split at h
   ·cases h
   ·rename_i f caps hf
    split at h
    ·rename_i hi;simp only[if_pos hi];exact⟨0,h⟩
    ·rename_i hi;simp only[if_neg hi]
     split at h
     ·cases h
     ·rename_i args ha
      split at h
      ·cases h
      ·rename_i r hr;obtain⟨n,hn⟩:=evCall_iff.1 hr;refine⟨n,?_⟩;simp only[hn];exact h
  ·exact⟨0,h⟩
  ·exact⟨0,h⟩
 ·exact⟨0,h⟩
theorem evOps_cont [Globals] [Prims] {ops:Array Oper}:∀ {l:List Oper} {s s':St},evOps (evCall P ty K) ty ops l s=some s'→∃ n,evOps (evCallN P ty K n) ty ops l s=some s'
 | [],s,s',h=>⟨0,h⟩
 | o::l,s,s',h=>by
  simp only[evOps] at h ⊢
  split at h
  ·cases h
  ·exact evOps_cont h
  ·split at h
   ·cases h
   ·rename_i s1 hs1;obtain⟨n,hn⟩:=evOp_cont hs1;obtain⟨m,hm⟩:=evOps_cont h;refine⟨max n m,?_⟩;rw[evOp_mono (evCallN_le (Nat.le_max_left n m)) hn];exact evOps_mono (evCallN_le (Nat.le_max_right n m)) hm
theorem evOpsU_cont [Globals] [Prims] {U:List Nat}:∀ {l:List Oper} {s s':St},evOpsU (evCall P ty K) ty U l s=some s'→∃ n,evOpsU (evCallN P ty K n) ty U l s=some s'
 | [],s,s',h=>⟨0,h⟩
 | o::l,s,s',h=>by
  simp only[evOpsU] at h ⊢
  split at h
  ·rename_i hc;rw[Option.bind_eq_some_iff] at h;obtain⟨s1,h1,h2⟩:=h;obtain⟨n,hn⟩:=evOp_cont h1;obtain⟨m,hm⟩:=evOpsU_cont h2;refine⟨max n m,?_⟩;rw[if_pos hc,evOp_mono (evCallN_le (Nat.le_max_left n m)) hn,Option.bind_some];exact evOpsU_mono (evCallN_le (Nat.le_max_right n m)) hm
  ·cases h
theorem evLP_cont [Globals] [Prims] {o:Oper}{f:FuncId}{d:Nat}{ts:List T}{hs:List Nat}{s:St}{r:(Nat × List C) ⊕ St}(h:evLP (evCall P ty K) ty o f d ts hs s=some r):∃ n,evLP (evCallN P ty K n) ty o f d ts hs s=some r:=by
 unfold evLP at h ⊢
 split at h
 ·cases h
 ·split at h
  ·cases h
  ·split at h
   ·rename_i hc;simp only[if_pos hc]
    split at h
    ·cases h
    all_goals
     rename_i hr;rw[Option.bind_eq_some_iff] at hr;obtain⟨r1,h1,h2⟩:=hr;obtain⟨n,hn⟩:=evCall_iff.1 h1;refine⟨n,?_⟩;simp only[hn,Option.bind_some,h2];exact h
   ·cases h
theorem evOpsP_cont [Globals] [Prims] {ops:Array Oper}:∀ {l:List Oper} {s:St} {r:Ex × St},evOpsP (evCall P ty K) ty ops l s=some r→∃ n,evOpsP (evCallN P ty K n) ty ops l s=some r
 | [],s,r,h=>⟨0,h⟩
 | o::l,s,r,h=>by
  simp only[evOpsP] at h ⊢
  split at h
  ·cases h
  ·exact evOpsP_cont h
  ·split at h
   ·rw[Option.bind_eq_some_iff] at h;obtain⟨s1,h1,h2⟩:=h;obtain⟨n,hn⟩:=evOp_cont h1;obtain⟨m,hm⟩:=evOpsP_cont h2;refine⟨max n m,?_⟩;rw[evOp_mono (evCallN_le (Nat.le_max_left n m)) hn,Option.bind_some];exact evOpsP_mono (evCallN_le (Nat.le_max_right n m)) hm
   ·exact⟨0,h⟩
   ·split at h
    ·cases h
    ·rw[Option.bind_eq_some_iff] at h;obtain⟨q,h1,h2⟩:=h;obtain⟨n,hn⟩:=evLP_cont h1
     split at h2
     ·refine⟨n,?_⟩;simp only[hn,Option.bind_some];exact h2
     ·obtain⟨m,hm⟩:=evOpsP_cont h2;refine⟨max n m,?_⟩;simp only[evLP_mono (evCallN_le (Nat.le_max_left n m)) hn,Option.bind_some];exact evOpsP_mono (evCallN_le (Nat.le_max_right n m)) hm
theorem evRg_cont [Globals] [Prims] {u:Option (List Nat)}{ops:Array Oper}{s:St}{r:Ex × St}(h:evRg (evCall P ty K) ty u ops s=some r):∃ n,evRg (evCallN P ty K n) ty u ops s=some r:=by
 unfold evRg at h ⊢
 split at h
 ·simp only[Option.map_eq_some_iff] at h ⊢;obtain⟨s1,h1,h2⟩:=h;obtain⟨n,hn⟩:=evOps_cont h1;exact⟨n,s1,hn,h2⟩
 ·split at h
  ·rename_i hm;simp only[if_pos hm];exact evOpsP_cont h
  ·rename_i hm;simp only[if_neg hm,Option.map_eq_some_iff] at h ⊢;obtain⟨s1,h1,h2⟩:=h;obtain⟨n,hn⟩:=evOpsU_cont h1;exact⟨n,s1,hn,h2⟩
theorem evCode_cont [Globals] [Prims]:(∀ c s r,evCode (evCall P ty K) ty kp c s=some r→∃ n,evCode (evCallN P ty K n) ty kp c s=some r)∧(∀ c s r,evLoop (evCall P ty K) ty kp c s=some r→∃ n,evLoop (evCallN P ty K n) ty kp c s=some r):=by
 have up:∀ {n m:Nat} {c s r},n≤m→evCode (evCallN P ty K n) ty kp c s=some r→evCode (evCallN P ty K m) ty kp c s=some r:=fun h h1=>(evCode_mono (evCallN_le h)).1 _ _ _ h1;have upL:∀ {n m:Nat} {c s r},n≤m→evLoop (evCallN P ty K n) ty kp c s=some r→evLoop (evCallN P ty K m) ty kp c s=some r:=fun h h1=>(evCode_mono (evCallN_le h)).2 _ _ _ h1;apply evCode.mutual_partial_correctness (evCall P ty K) ty kp (fun c s r=>∃ n,evCode (evCallN P ty K n) ty kp c s=some r) (fun c s r=>∃ n,evLoop (evCallN P ty K n) ty kp c s=some r)
 ·intro ec el hc hl c s r h
  cases c with
  | skip=>exact⟨0,by rw[evCode]; exact h⟩
  | label=>exact⟨0,by rw[evCode]; exact h⟩
  | region id ops d=>
   obtain⟨n,hn⟩:=evRg_cont h;exact⟨n,by rw[evCode]; exact hn⟩
  | seq a b=>
   simp only[Option.bind_eq_bind,Option.bind_eq_some_iff] at h;obtain⟨r1,h1,h2⟩:=h;obtain⟨n,hn⟩:=hc _ _ _ h1
   split at h2<;>rename_i hr
   ·obtain⟨m,hm⟩:=hc _ _ _ h2;refine⟨max n m,?_⟩;rw[evCode];simp only[Option.bind_eq_bind,Option.bind_eq_some_iff];refine⟨r1,up (Nat.le_max_left n m) hn,?_⟩;simp only[hr];exact up (Nat.le_max_right n m) hm
   ·refine⟨n,?_⟩;rw[evCode];simp only[Option.bind_eq_bind,Option.bind_eq_some_iff];refine⟨r1,hn,?_⟩;simp only[hr];exact h2
  | cond c x y=>
   simp only at h
   split at h
   ·rename_i b hb
    split at h
    ·rename_i hb';obtain⟨n,hn⟩:=hc _ _ _ h;exact⟨n,by rw[evCode]; simp only[hb,hb',if_true]; exact hn⟩
    ·rename_i hb';obtain⟨n,hn⟩:=hc _ _ _ h;exact⟨n,by rw[evCode]; simp only[hb,hb',if_false,Bool.false_eq_true]; exact hn⟩
   ·cases h
  | block id c=>
   simp only[Option.bind_eq_bind,Option.bind_eq_some_iff] at h;obtain⟨r1,h1,h2⟩:=h;obtain⟨n,hn⟩:=hc _ _ _ h1;refine⟨n,?_⟩;rw[evCode];simp only[Option.bind_eq_bind,Option.bind_eq_some_iff];exact⟨r1,hn,h2⟩
  | loop c=>
   obtain⟨n,hn⟩:=hl _ _ _ h;exact⟨n,by rw[evCode]; exact hn⟩
  | exit id=>exact⟨0,by rw[evCode]; exact h⟩
  | ret=>exact⟨0,by rw[evCode]; exact h⟩
  | rangeFunc _ _ _ _=>cases h
  | scope _=>cases h
  | goto _=>cases h
  | refuse _=>cases h
 ·intro ec el hc hl c s r h;simp only[Option.bind_eq_bind,Option.bind_eq_some_iff] at h;obtain⟨r1,h1,h2⟩:=h;obtain⟨n,hn⟩:=hc _ _ _ h1
  split at h2<;>rename_i hr
  ·obtain⟨m,hm⟩:=hl _ _ _ h2;refine⟨max n m,?_⟩;rw[evLoop];simp only[Option.bind_eq_bind,Option.bind_eq_some_iff];refine⟨r1,up (Nat.le_max_left n m) hn,?_⟩;simp only[hr];exact upL (Nat.le_max_right n m) hm
  ·refine⟨n,?_⟩;rw[evLoop];simp only[Option.bind_eq_bind,Option.bind_eq_some_iff];refine⟨r1,hn,?_⟩;simp only[hr];exact h2
theorem evFn0_cont [Globals] [Prims] {f:FuncId}{args:List T}{r:T × List Ob}(h:evFn0 P ty K (evCall P ty K) f args=some r):∃ n,evFn0 P ty K (evCallN P ty K n) f args=some r:=by
 unfold evFn0 at h
 split at h
 ·rename_i hkp;refine⟨0,?_⟩;unfold evFn0;rw[hkp];exact h
 rename_i kp hkp
 split at h
 ·cases h
 ·rename_i fn hf
  split at h
  ·cases h
  ·rename_i c hb
   split at h
   ·cases h
   ·rename_i hnm
    split at h
    ·rename_i hlo
     split at h
     ·cases h
     ·rename_i x hx;obtain⟨n,hn⟩:=evCode_cont.1 _ _ _ hx;refine⟨n,?_⟩;unfold evFn0;rw[hkp,hf];simp only[hb];rw[if_neg hnm,if_pos hlo];simp only[hn];exact h
    ·rename_i hlo
     split at h
     ·cases h
     ·rename_i x hx;obtain⟨n,hn⟩:=evCode_cont.1 _ _ _ hx;refine⟨n,?_⟩;unfold evFn0;rw[hkp,hf];simp only[hb];rw[if_neg hnm,if_neg hlo];simp only[hn];exact h
theorem evFnP_cont [Globals] [Prims] {f:FuncId}{args:List T}{r:T × List Ob}(h:evFnP P ty K (evCall P ty K) f args=some r):∃ n,evFnP P ty K (evCallN P ty K n) f args=some r:=by
 unfold evFnP at h
 split at h
 ·cases h
 rename_i kp hkp
 split at h
 ·cases h
 ·rename_i fn hf
  split at h
  ·cases h
  ·rename_i c hb
   split at h
   ·cases h
   ·rename_i hnm
    split at h
    ·cases h
    ·rename_i x hx;obtain⟨n,hn⟩:=evCode_cont.1 _ _ _ hx;refine⟨n,?_⟩;unfold evFnP;rw[hkp,hf];simp only[hb];rw[if_neg hnm];simp only[hn];exact h
theorem evCall_of [Globals] [Prims] {f:FuncId}{args:List T}{r:T × List Ob}(h:evFn P ty K (evCall P ty K) f args=some r):evCall P ty K f args=some r:=by
 have:∃ n,evFn P ty K (evCallN P ty K n) f args=some r:=by
  unfold evFn at h ⊢
  split at h
  ·rename_i hm;simp only[if_pos hm];exact evFnP_cont h
  ·rename_i hm;simp only[if_neg hm];exact evFn0_cont h
 obtain⟨n,hn⟩:=this;exact evCall_iff.2 ⟨n+1,hn⟩
theorem evCall_up [Globals] {p q:Prims}(hpq:∀ f args r,p.pr f args=some r→q.pr f args=some r){f:FuncId}{args:List T}{r:T × List Ob}(h:@evCall _ p P ty K f args=some r):@evCall _ q P ty K f args=some r:=by
 have hN:∀ n,CallF.le (@evCallN _ p P ty K n) (@evCallN _ q P ty K n):=by
  intro n
  induction n with
  | zero=>intro f args r h; cases h
  | succ n ih=>
   intro f args r h;have h:@evFn _ p P ty K (@evCallN _ p P ty K n) f args=some r:=h;show @evFn _ q P ty K (@evCallN _ q P ty K n) f args=some r;unfold evFn at h ⊢
   split at h
   ·rename_i hm;rw[if_pos hm];exact evFnP_mono ih _ _ _ h
   ·rename_i hm;rw[if_neg hm];exact evFn0_up hpq ih _ _ _ h
 obtain⟨n,hn⟩:=(@evCall_iff P ty K _ p f args r).1 h;exact (@evCall_iff P ty K _ q f args r).2 ⟨n,hN n _ _ _ hn⟩
theorem ev_start [Globals] [Prims] {f : FuncId} {args : List T} {r : T × List Ob} {fn : Func} {c : Code} {x : Ex × St} (hK : K f = some kp) (hf : P.funcs[f]? = some fn) (hb : fn.body = some c) (hn : (fn.name == "runtime.NumGoroutine") = false) (hlo : lentOf args = []) (hm : marked args = false)
  (h:evCode (evCall P ty K) ty kp c { tm:=args++List.replicate (fn.ntmps-args.length) .junk,hp:=[],fr:=[] }=some x) (he:∀ id,x.1≠.exit id) (hp:∀ t cs,x.1≠.pan t cs) (ho:outT ty fn x.2=some r):evCall P ty K f args=some r:=by
 refine evCall_of ?_;unfold evFn evFn0;obtain⟨e,s'⟩:=x;simp only[hK,hf,hb,hn,Bool.false_eq_true,if_false,hlo,List.isEmpty_nil,if_true,h,hm]
 cases e with
 | exit id=>exact absurd rfl (he id)
 | pan t cs=>exact absurd rfl (hp t cs)
 | norm=>exact ho
 | ret=>exact ho
theorem ev_startL [Globals] [Prims] {f : FuncId} {args as : List T} {obs : List Ob} {r : T × List Ob} {fn : Func} {c : Code} {x : Ex × St} (hK : K f = some kp) (hf : P.funcs[f]? = some fn) (hb : fn.body = some c) (hn : (fn.name == "runtime.NumGoroutine") = false) (hlo : lentOf args = obs) (hne : obs.isEmpty = false) (hre : realOf args = as) (hm : marked args = false)
  (h:evCode (evCall P ty K) ty kp c { tm:=as++List.replicate (fn.ntmps-as.length) .junk,hp:=lentHp 0 obs,fr:=[] }=some x) (he:∀ id,x.1≠.exit id) (hp:∀ t cs,x.1≠.pan t cs) (ho:outL ty fn obs x.2=some r):evCall P ty K f args=some r:=by
 refine evCall_of ?_;unfold evFn evFn0;obtain⟨e,s'⟩:=x;simp only[hK,hf,hb,hn,Bool.false_eq_true,if_false,hlo,hne,hre,h,hm]
 cases e with
 | exit id=>exact absurd rfl (he id)
 | pan t cs=>exact absurd rfl (hp t cs)
 | norm=>exact ho
 | ret=>exact ho
def retP [Globals] (ty:Tys)(fn:Func)(obs:List Ob):Ex × St→Option (T × List Ob)
 | (.exit _,_)=>none
 | (.pan t cs,_)=>some (panR t cs)
 | (_,s)=>(outL ty fn obs s).map okR
theorem ev_startP [Globals] [Prims] {f : FuncId} {args as : List T} {obs : List Ob} {r : T × List Ob} {fn : Func} {c : Code} (hK : K f = some kp) (hf : P.funcs[f]? = some fn) (hb : fn.body = some c) (hn : (fn.name == "runtime.NumGoroutine") = false) (hlo : lentOf args = obs) (hne : obs.isEmpty = false) (hre : realOf args = as)
  (h:(evCode (evCall P ty K) ty kp c { tm:=as++List.replicate (fn.ntmps-as.length) .junk,hp:=lentHp 0 obs,fr:=[] }).bind (retP ty fn obs)=some r):evCall P ty K f (.tup []::args)=some r:=by
 refine evCall_of ?_;rw[Option.bind_eq_some_iff] at h;obtain⟨⟨e,s'⟩,h,ho⟩:=h;unfold evFn evFnP;simp only[marked,List.tail_cons,hK,hf,hb,hn,Bool.false_eq_true,if_false,if_true,hlo,hne,hre,h,Bool.or_false]
 cases e with
 | exit id=>cases ho
 | pan t cs=>exact ho
 | norm=>exact ho
 | ret=>exact ho
end
end Go.Vabs
