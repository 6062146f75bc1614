/- A library: every order of a region with appends comes to the same. No condition. -/
import Derived.Test.YtadllpehekphmaaDoorVSG
set_option linter.unusedSimpArgs false
set_option linter.unusedVariables false
namespace Go.Vabs
open Go.RowKit
def junkAt (s:St)(d:Nat):Prop:=∀ t,s.tm[d]?=some t→t=.junk
theorem junkAt_opd [Globals] {s:St}{d:Nat}(h:junkAt s d):opd s.tm (.tmp d)=.junk:=by
 simp only[opd]
 cases ht:s.tm[d]? with
 | none=>rfl
 | some t=>simp[h t ht,T.noI]
theorem junkAt_map {s s':St}{d:Nat}{f:T→T}(hf:f .junk=.junk)(hs:s'.tm=s.tm.map f)(h:junkAt s d):junkAt s' d:=by
 intro t ht;rw[hs,List.getElem?_map,Option.map_eq_some_iff] at ht;obtain⟨t0,h0,rfl⟩:=ht;rw[h t0 h0,hf]
theorem junkAt_evict {s:St}{d k:Nat}(h:junkAt s d):junkAt (evict k s) d:=by
 unfold evict
 split
 ·exact h
 unfold evict0
 split
 ·exact h
 ·split
  ·exact junkAt_map (s:=s) (f:=T.frz k _) rfl rfl h
  ·exact junkAt_map (s:=s) (f:=T.kill k) rfl rfl h
theorem junkAt_evicts {d:Nat}:∀ {l:List Nat} {s:St},junkAt s d→junkAt (evicts l s) d
 | [],_,h=>h
 | k::l,s,h=>junkAt_evicts (l:=l) (junkAt_evict h)
theorem junkAt_freezes {d:Nat}:∀ {l:List Nat} {s:St},junkAt s d→junkAt (freezes l s) d
 | [],_,h=>h
 | k::l,s,h=>by
  refine junkAt_freezes (l:=l) ?_;unfold freeze
  split
  ·exact h
  ·split
   ·exact junkAt_map (s:=s) (f:=T.frz k _) rfl rfl h
   ·exact h
theorem junkAt_loose {s:St}{d:Nat}{c:Bool}{cs:Option (List C)}(h:junkAt s d):junkAt (loose c cs s) d:=by
 unfold loose
 split
 ·split
  ·exact junkAt_evicts h
  ·exact h
 ·exact h
theorem junkAt_set {s s':St}{d d':Nat}{t:T}(hne:d'≠d)(hs:s'.tm=s.tm.set d' t)(h:junkAt s d):junkAt s' d:=by
 intro t' ht;rw[hs,List.getElem?_set_ne hne] at ht;exact h t' ht
theorem evA2_junk [Globals] {ty:Tys}{d d':Nat}{b x:Operand}{t u:TypeId}{s s1:St}(hd:d'≠d)(hj:junkAt s d)(h:evA2 ty d' b x t u s=some s1):junkAt s1 d:=by
 unfold evA2 at h
 split at h
 ·split at h
  ·split at h
   ·split at h
    ·split at h
     ·split at h
      ·injection h with h; subst h;exact junkAt_set hd rfl hj
      ·cases h
     ·cases h
    ·split at h
     ·split at h
      ·injection h with h; subst h;rename_i k off len _ _ _ _ _;exact junkAt_set (s:=⟨s.tm.map (T.kill k),s.hp,s.fr⟩) hd rfl (junkAt_map (s:=s) (f:=T.kill k) rfl rfl hj)
      ·cases h
     ·cases h
    ·cases h
   ·cases h
  ·cases h
 ·cases h
theorem evZ_junk [Globals] {ty:Tys}{d d':Nat}{b x:Operand}{t:TypeId}{s s1:St}(hd:d'≠d)(hj:junkAt s d)(h:evZ ty d' b x t s=some s1):junkAt s1 d:=by
 unfold evZ at h
 split at h
 ·split at h
  ·split at h
   ·split at h
    ·split at h
     ·split at h
      ·injection h with h; subst h;exact junkAt_set hd rfl hj
      ·cases h
     ·cases h
    ·cases h
   ·cases h
  ·cases h
 ·cases h
theorem putP_junk {s s1:St}{dst:Option Nat}{r:T × Option Ob}{d:Nat}(hd:dst≠some d)(hj:junkAt s d)(h:putP s dst r=some s1):junkAt s1 d:=by
 unfold putP at h
 split at h
 ·injection h with h; subst h;exact junkAt_set (fun e=>hd (by rw[e])) rfl hj
 ·injection h with h; subst h; exact hj
 ·split at h
  ·injection h with h; subst h;exact junkAt_set (fun e=>hd (by rw[e])) rfl hj
  ·cases h
 ·cases h
theorem junkAt_killS {d:Nat}:∀ {l:List Nat} {s:St},junkAt s d→junkAt (killS l s) d
 | [],_,h=>h
 | k::l,s,h=>junkAt_killS (l:=l) (junkAt_map (s:=s) (f:=T.kill k) rfl rfl h)
theorem evOp_junk [Globals] {call:CallF}{ty:Tys}{o:Oper}{s s1:St}{d:Nat}(hd:o.dst≠some d)(hj:junkAt s d)(h:evOp call ty o s=some s1):junkAt s1 d:=by
 unfold evOp at h
 split at h
 ·split at h
  ·unfold evS evS1 at h
   split at h
   ·split at h
    ·split at h
     ·rw[Option.map_eq_some_iff] at h;obtain⟨o',_,rfl⟩:=h;exact junkAt_loose hj
     ·cases h
    ·cases h
   ·cases h
  ·cases h
 ·unfold evR0 at h
  split at h
  ·rename_i q d' _ _ hd';injection h with h; subst h;exact junkAt_set (fun e=>hd (by rw[hd',e])) rfl hj
  ·cases h
 ·rename_i ho;unfold evI at h
  split at h
  ·clear ho;rename_i k
   split at h
   ·rename_i q pos d' hk hd';have hkd:k≠d:=fun e=>by subst e; have:=hj _ hk; cases this
    split at h
    ·injection h with h; subst h;refine junkAt_set (s:=⟨(s.tm.map T.noI).set k (.itr q (pos+decW q pos)),s.hp,s.fr⟩) (fun e=>hd (by rw[hd',e])) rfl ?_;exact junkAt_set (s:=⟨s.tm.map T.noI,s.hp,s.fr⟩) hkd rfl (junkAt_map (s:=s) (f:=T.noI) rfl rfl hj)
    ·injection h with h; subst h;exact junkAt_set (fun e=>hd (by rw[hd',e])) rfl hj
   ·cases h
  ·cases h
 ·split at h
  ·unfold evW at h
   split at h
   ·split at h
    ·rename_i hd'
     split at h
     ·split at h
      ·injection h with h; subst h;exact junkAt_set (fun e=>hd (by rw[hd',e])) rfl hj
      ·cases h
     ·cases h
    ·cases h
   ·rw[Option.bind_eq_some_iff] at h;obtain⟨r,_,h⟩:=h;exact putP_junk hd hj h
  ·rw[Option.bind_eq_some_iff] at h;obtain⟨r,_,h⟩:=h;exact putP_junk hd hj h
 ·rw[Option.bind_eq_some_iff] at h;obtain⟨r,_,h⟩:=h;exact putP_junk hd (junkAt_freezes hj) h
 ·split at h
  ·unfold evL1 at h
   split at h
   ·rename_i d' hd';unfold evL2 at h
    split at h
    ·cases h
    ·split at h
     ·cases h
     ·split at h
      ·split at h
       ·cases h
       ·unfold takeL at h
        split at h
        ·injection h with h; subst h;exact junkAt_set (s:=killS _ s) (fun e=>hd (by rw[hd',e])) rfl (junkAt_killS hj)
        ·cases h
      ·cases h
   ·cases h
  split at h
  ·split at h
   ·cases h
   ·split at h
    ·rw[Option.bind_eq_some_iff] at h;obtain⟨r,_,h⟩:=h;exact putP_junk hd hj h
    ·split at h
     ·cases h
     ·split at h
      ·cases h
      ·unfold takeIn at h
       split at h
       ·cases h
       ·rename_i d' hd'
        split at h
        ·injection h with h; subst h;exact junkAt_set (fun e=>hd (by rw[hd',e])) rfl hj
        ·cases h
  ·unfold evA at h
   split at h
   ·rename_i b x t u d' _ _ hd';simp only at h;have hne:d'≠d:=fun e=>hd (by rw[hd',e]);unfold evA1 at h
    split at h
    ·refine evZ_junk hne (junkAt_loose ?_) h
     split
     ·exact junkAt_evict hj
     ·exact hj
    ·refine evA2_junk hne (junkAt_loose ?_) h
     split
     ·exact junkAt_evict hj
     ·exact hj
   ·cases h
  ·rw[Option.bind_eq_some_iff] at h;obtain⟨r,_,h⟩:=h;exact putP_junk hd hj h
 ·rw[Option.bind_eq_some_iff] at h;obtain⟨r,_,h⟩:=h;exact putP_junk hd hj h
theorem apArgs_classC [Globals] {o:Oper}(h:classC o=true):apArgs o=none:=by
 unfold apArgs;unfold classC at h
 split
 ·rename_i c hop;rw[hop] at h;simp only at h
  split
  ·rename_i hcal _ _ _;rw[hcal] at h
   cases h
  ·rfl
 ·rfl
theorem chk_classC [Globals] {ty:Tys}{U:List Nat}{o:Oper}{s:St}(h:classC o=true):chk ty U o s=true:=by
 unfold chk;rw[apArgs_classC h];have:stOf o=none:=by
  unfold stOf
  split
  ·rename_i h1 _;rw[classC,h1] at h
   cases h
  ·rfl
 rw[this];have:lnd o=none:=by
  unfold lnd
  split
  ·rename_i c h1;simp only[classC,h1] at h
   cases hc:c.callee with
   | value x=>simp only[hc] at h; simpa using h
   | invoke _ _=>simp[lendOf,hc]
   | builtin b=>simp[lendOf,hc]
  ·rfl
 simp only[chkL,this]
section
variable {P:Program} {ty:Tys} {call:CallF} {w0:World} {B:Bs} {f0:Nat→Prop} {ops:Array Oper} {U:List Nat}
theorem evOpsU_cons [Globals] {o:Oper}{l:List Oper}{s s':St}:evOpsU call ty U (o::l) s=some s'↔o.guard=none∧chk ty U o s=true∧∃ s1,step call ty ops o s=some s1∧evOpsU call ty U l s1=some s':=by
 simp only[evOpsU]
 constructor
 ·intro h
  split at h
  ·rename_i hc;simp only[Bool.and_eq_true,Option.isNone_iff_eq_none] at hc;rw[Option.bind_eq_some_iff] at h;obtain⟨s1,h1,h2⟩:=h;exact⟨hc.1,hc.2,s1,by rw[step_none hc.1]; exact h1,h2⟩
  ·cases h
 ·rintro⟨h1,h2,s1,h3,h4⟩;rw[h1,h2];rw[step_none h1] at h3;simp only[Option.isNone_none,Bool.and_self,if_true,h3,Option.bind_some,h4]
structure Todo (U:List Nat) (l:List Oper) (s:St):Prop where
 junk:∀ o∈l,∀ d,o.dst=some d→d∈U∨d+100000∈U→junkAt s d
 nodup:(l.filterMap (·.dst)).Nodup
theorem Todo.step [Globals] {o:Oper}{l:List Oper}{s s1:St}(h:Todo U (o::l) s)(hg:o.guard=none)(h1:step call ty ops o s=some s1):Todo U l s1:=by
 have hn:=h.nodup;refine⟨fun o' ho' d hd hU=>?_,?_⟩
 ·rw[step_none hg] at h1;refine evOp_junk (fun e=>?_) (h.junk o' (List.mem_cons_of_mem _ ho') d hd hU) h1;rw[List.filterMap_cons,e] at hn;simp only[List.nodup_cons] at hn;exact hn.1 (List.mem_filterMap.2 ⟨o',ho',hd⟩)
 ·rw[List.filterMap_cons] at hn
  split at hn
  ·exact hn
  ·exact (List.nodup_cons.1 hn).2
theorem Todo.perm {l l':List Oper}{s:St}(h:Todo U l s)(hp:l.Perm l'):Todo U l' s:=
 ⟨fun o ho=>h.junk o (hp.mem_iff.2 ho),(hp.filterMap _).nodup_iff.1 h.nodup⟩
def pairU [Globals] (ops:Array Oper)(U:List Nat)(x y:Oper):Bool:=indep ops x y||indepU ops U x y||indepU ops U y x||indepS ops U x y||indepS ops U y x||indepL ops U x y||indepL ops U y x||indepT ops U x y||indepT ops U y x
theorem chk_L [Globals] {x y:Oper}{s:St}(h:indepL ops U x y=true):chk ty U x s=chkL U x s:=by
 obtain⟨f,all,_,_,_,_,hx,_⟩:=indepL_facts h;obtain⟨c,ho,hl,_⟩:=lnd_op hx;have hc:∃ g,c.callee=.value g:=by
  unfold lendOf at hl
  split at hl
  ·exact⟨_,by assumption⟩
  ·cases hl
 obtain⟨g,hc⟩:=hc;have h1:apArgs x=none:=by unfold apArgs; simp only[ho,hc]
 have h2:stOf x=none:=by unfold stOf; simp only[ho]
 unfold chk;rw[h1,h2]
theorem chk_L' [Globals] {x y:Oper}{s:St}(h:indepL ops U x y=true):chk ty U y s=true:=by
 obtain⟨_,_,_,_,_,_,_,_,_,hy,_⟩:=indepL_facts h;obtain⟨h1,h2,h3,_⟩:=ld_none hy;unfold chk chkL;rw[h1,h2,h3]
theorem moveFrontU [Globals] (hty:∀ t y,ty t=some y→Ty.of P t=some y)(hcall:call.ok P)(hB:B.n≤w0.heap.size){i:Oper}{R:List Oper}{s':St}:∀ {A:List Oper} {s:St},Good w0 B f0 s→Todo U (A++i::R) s→(∀ x∈A,pairU ops U x i=true) →
  evOpsU call ty U (A++i::R) s=some s'→evOpsU call ty U (i::(A++R)) s=some s'
 | [],s,_,_,_,h=>h
 | x::A,s,hg,ht,hi,h=>by
  rw[List.cons_append] at h ht;obtain⟨hgx,hcx,s1,h1,h2⟩:=(evOpsU_cons (ops:=ops)).1 h;have h3:=moveFrontU hty hcall hB (step_good hty hcall hB hg h1) (ht.step hgx h1) (fun y hy=>hi y (List.mem_cons_of_mem _ hy)) h2;obtain⟨hgi,hci,s2,h4,h5⟩:=(evOpsU_cons (ops:=ops)).1 h3;have hp:=hi x List.mem_cons_self;simp only[pairU,Bool.or_eq_true] at hp;have key:chk ty U i s=true∧∃ s1',step call ty ops i s=some s1'∧chk ty U x s1'=true∧step call ty ops x s1'=some s2:=by
   rcases hp with (((((((hp | hp) | hp) | hp) | hp) | hp) | hp) | hp) | hp
   ·obtain⟨s1',h6,h7⟩:=swap hg.closed hp h1 h4;simp only[indep,Bool.and_eq_true] at hp;exact⟨chk_classC hp.1.1.1.1.2,s1',h6,chk_classC hp.1.1.1.1.1,h7⟩
   ·obtain⟨s1',h6,h7,h8⟩:=swapA hty hcall hB hg hp hcx h1 h4;simp only[indepU,Bool.and_eq_true] at hp;exact⟨chk_classC hp.2.1.1.1.1.2,s1',h6,h7,h8⟩
   ·obtain⟨h6,s1',h7,h8⟩:=swapB hty hcall hB hg hp (fun d hd hU=>junkAt_opd (ht.junk x List.mem_cons_self d hd (.inl hU))) h1 hci h4;simp only[indepU,Bool.and_eq_true] at hp;exact⟨h6,s1',h7,chk_classC hp.2.1.1.1.1.2,h8⟩
   ·obtain⟨s1',h6,h7,h8⟩:=swapSA hty hcall hB hg hp hcx h1 h4;simp only[indepS,Bool.and_eq_true] at hp;exact⟨chk_classC hp.1.1.1.1.2,s1',h6,h7,h8⟩
   ·obtain⟨h6,s1',h7,h8⟩:=swapSB hty hcall hB hg hp (fun d hd hU=>junkAt_opd (ht.junk x List.mem_cons_self d hd (.inr hU))) h1 hci h4;simp only[indepS,Bool.and_eq_true] at hp;exact⟨h6,s1',h7,chk_classC hp.1.1.1.1.2,h8⟩
   ·obtain⟨s1',h6,h7,h8⟩:=swapLA hg hp (chk_L (ty:=ty) (s:=s) hp▸hcx) h1 h4;exact⟨chk_L' hp,s1',h6,(chk_L (ty:=ty) (s:=s1') hp).symm▸h7,h8⟩
   ·obtain⟨h6,s1',h7,h8⟩:=swapLB hg hp h1 (chk_L (ty:=ty) (s:=s1) hp▸hci) h4;exact⟨(chk_L (ty:=ty) (s:=s) hp).symm▸h6,s1',h7,chk_L' hp,h8⟩
   ·obtain⟨s1',h6,h7,h8⟩:=swapTA hg hp hcx h1 h4;exact⟨chk_T hp,s1',h6,h7,h8⟩
   ·obtain⟨h6,s1',h7,h8⟩:=swapTB hg hp h1 hci h4;exact⟨h6,s1',h7,chk_T hp,h8⟩
  obtain⟨k1,s1',k2,k3,k4⟩:=key;refine (evOpsU_cons (ops:=ops)).2 ⟨hgi,k1,s1',k2,?_⟩;rw[List.cons_append];exact (evOpsU_cons (ops:=ops)).2 ⟨hgx,k3,s2,k4,h5⟩
end
end Go.Vabs
namespace Go.Vabs
open Go.RowKit
def bitsOf (acc:List Nat)(o:Oper):Nat:=(o.after.toList.filter (Region.binds .any)).foldl (fun s e=>s ||| 2 ^ e.on ||| acc.getD e.on 0) 0
def befs:List Oper→List Nat→List Nat
 | [],acc=>acc
 | o::l,acc=>befs l (acc++[bitsOf acc o])
def inOrder (m:Region.Mode)(ops:Array Oper):List Nat→List Nat→Bool
 | _,[]=>true
 | seen,i::l=>(match ops[i]? with
  | some o=>o.after.toList.all fun e=>!Region.binds m e||seen.contains e.on
  | none=>false)&&inOrder m ops (i::seen) l
def topoOk (m:Region.Mode)(ops:Array Oper):Bool:=inOrder m ops [] (Region.linearise m ops 0)&&(List.range ops.size).all fun i=>(Region.linearise m ops 0).contains i
def goodBy (pr:Oper→Oper→Bool)(ops:Array Oper):Bool:=
 (topoOk .any ops&&topoOk .text ops&&topoOk .gc ops&&ops.toList.zipIdx.all fun p=>p.1.after.toList.all fun e=>!Region.binds .any e||decide (e.on<p.2)) &&
 (List.range ops.size).all fun j=>(List.range j).all fun i=>((befs ops.toList []).getD j 0).testBit i||(match ops[i]?,ops[j]? with
  | some x,some y=>pr x y
  | _,_=>false)
def goodRegion [Globals] (ops:Array Oper):Bool:=goodBy (indep ops) ops
theorem befs_prefix:∀ (l:List Oper) (acc:List Nat),∃ t,befs l acc=acc++t∧t.length=l.length
 | [],acc=>⟨[],by simp[befs],rfl⟩
 | o::l,acc=>by
  obtain⟨t,h1,h2⟩:=befs_prefix l (acc++[bitsOf acc o]);exact⟨bitsOf acc o::t,by simp only[befs]; rw[h1]; simp,by simp[h2]⟩
theorem befs_get:∀ (l:List Oper) (acc:List Nat) (j:Nat) (o:Oper),l[j]?=some o→(befs l acc).getD (acc.length+j) 0=bitsOf ((befs l acc).take (acc.length+j)) o
 | [],_,_,_,h=>by simp at h
 | o'::l,acc,0,o,h=>by
  simp only[List.getElem?_cons_zero,Option.some.injEq] at h;subst h;obtain⟨t,h1,_⟩:=befs_prefix l (acc++[bitsOf acc o']);simp only[befs];rw[h1,Nat.add_zero,List.append_assoc,List.take_left,List.getD_eq_getElem?_getD,List.getElem?_append_right (Nat.le_refl _)];simp
 | o'::l,acc,j+1,o,h=>by
  simp only[List.getElem?_cons_succ] at h;have:=befs_get l (acc++[bitsOf acc o']) j o h;simp only[befs];rw[List.length_append,List.length_singleton,show acc.length+1+j=acc.length+(j+1) by omega] at this;exact this
theorem bitsOf_bit {acc:List Nat}{o:Oper}{x:Nat}(h:(bitsOf acc o).testBit x=true):∃ e∈o.after.toList.filter (Region.binds .any),x=e.on∨(acc.getD e.on 0).testBit x=true:=by
 unfold bitsOf at h;have gen:∀ (l:List Edge) (s:Nat),(l.foldl (fun s e=>s ||| 2 ^ e.on ||| acc.getD e.on 0) s).testBit x=true→s.testBit x=true∨∃ e∈l,x=e.on∨(acc.getD e.on 0).testBit x=true:=by
  intro l
  induction l with
  | nil=>intro s h; exact .inl h
  | cons e l ih=>
   intro s h
   rcases ih _ h with h | ⟨e',he',h⟩
   ·rw[Nat.testBit_or,Nat.testBit_or,Bool.or_eq_true,Bool.or_eq_true] at h
    rcases h with (h | h) | h
    ·exact .inl h
    ·rw[Nat.testBit_two_pow] at h;exact .inr ⟨e,List.mem_cons_self,.inl (by have:=of_decide_eq_true h; omega)⟩
    ·exact .inr ⟨e,List.mem_cons_self,.inr h⟩
   ·exact .inr ⟨e',List.mem_cons_of_mem _ he',h⟩
 rcases gen _ _ h with h | h
 ·simp at h
 ·exact h
section
variable {ops:Array Oper} {pr:Oper→Oper→Bool}
theorem good_edge (hg:goodBy pr ops=true){i:Nat}{o:Oper}(ho:ops[i]?=some o):∀ e∈o.after.toList,Region.binds .any e=true→e.on<i:=by
 intro e he hb;simp only[goodBy,Bool.and_eq_true] at hg;have h1:=List.all_eq_true.1 hg.1.2 (o,i) (by
  rw[List.mem_iff_getElem?];exact⟨i,by rw[List.getElem?_zipIdx,Array.getElem?_toList,ho]; simp⟩)
 have h2:=List.all_eq_true.1 h1 e he;rw[hb] at h2;simpa using h2
theorem good_topo (hg:goodBy pr ops=true)(m:Region.Mode):topoOk m ops=true:=by
 simp only[goodBy,Bool.and_eq_true] at hg
 cases m with
 | any=>exact hg.1.1.1.1
 | text=>exact hg.1.1.1.2
 | gc=>exact hg.1.1.2
theorem first_ready {m:Region.Mode}{q:Nat→Bool}:∀ (l seen:List Nat),inOrder m ops seen l=true→(∀ k∈seen,q k=true)→(∃ k∈l,q k=false)→∃ i o,i∈l∧q i=false∧ops[i]?=some o∧∀ e∈o.after.toList,Region.binds m e=true→q e.on=true
 | [],_,_,_,h=>by obtain⟨k,hk,_⟩:=h; cases hk
 | i::l,seen,h,hs,hex=>by
  simp only[inOrder,Bool.and_eq_true] at h;obtain⟨h1,h2⟩:=h
  cases hq:q i with
  | false=>
   split at h1
   ·rename_i o ho;refine⟨i,o,List.mem_cons_self,hq,ho,fun e he hb=>?_⟩;have:=List.all_eq_true.1 h1 e he;rw[hb] at this;simp only[Bool.not_true,Bool.false_or,List.contains_iff_mem] at this;exact hs _ this
   ·cases h1
  | true=>
   obtain⟨i',o,hi,hr⟩:=first_ready l (i::seen) h2 (fun k hk=>by
    rcases List.mem_cons.1 hk with rfl | hk
    ·exact hq
    ·exact hs k hk) (by
    obtain⟨k,hk,hkq⟩:=hex
    rcases List.mem_cons.1 hk with rfl | hk
    ·rw[hq] at hkq; cases hkq
    ·exact⟨k,hk,hkq⟩)
   exact⟨i',o,List.mem_cons_of_mem _ hi,hr⟩
theorem binds_any {e:Edge}(h:Region.binds .any e=true)(m:Region.Mode):Region.binds m e=true:=by
 unfold Region.binds at h ⊢
 split at h
 ·cases h
 ·cases h
 ·rfl
theorem good_pair (hg:goodBy pr ops=true){i j:Nat}{x y:Oper}(hij:i<j)(hx:ops[i]?=some x)(hy:ops[j]?=some y):((befs ops.toList []).getD j 0).testBit i=true∨pr x y=true:=by
 simp only[goodBy,Bool.and_eq_true] at hg;have hj:=(Array.getElem?_eq_some_iff.1 hy).1;have h1:=List.all_eq_true.1 (List.all_eq_true.1 hg.2 j (List.mem_range.2 hj)) i (List.mem_range.2 hij);rw[hx,hy,Bool.or_eq_true] at h1;exact h1
def ClosedL (ops:Array Oper)(listed:Array Bool):Prop:=∀ k o,ops[k]?=some o→listed.getD k false=true→∀ e∈o.after.toList.filter (Region.binds .any),listed.getD e.on false=true
theorem listed_of_bit (hg:goodBy pr ops=true){listed:Array Bool}(hcl:ClosedL ops listed){x:Nat}:∀ (j:Nat) (o:Oper),ops[j]?=some o→(∀ e∈o.after.toList.filter (Region.binds .any),listed.getD e.on false=true)→((befs ops.toList []).getD j 0).testBit x=true→listed.getD x false=true:=by
 intro j
 induction j using Nat.strongRecOn with
 | _ j ih=>
  intro o ho hall hbit;have hb:=befs_get ops.toList [] j o (by rw[Array.getElem?_toList]; exact ho);simp only[List.length_nil,Nat.zero_add] at hb;rw[hb] at hbit;obtain⟨e,he,h⟩:=bitsOf_bit hbit;have hlt:=good_edge hg ho e (List.mem_filter.1 he).1 (List.mem_filter.1 he).2
  rcases h with rfl | h
  ·exact hall e he
  ·have hj:=(Array.getElem?_eq_some_iff.1 ho).1;have hoe:ops[e.on]?=some (ops[e.on]'(by omega)):=Array.getElem?_eq_getElem _;refine ih e.on hlt _ hoe (hcl e.on _ hoe (hall e he)) ?_;rw[List.getD_eq_getElem?_getD] at h ⊢;rw[List.getElem?_take,if_pos hlt] at h;exact h
end
section
variable {P:Program} {ty:Tys} {kp:Nat→Option (List Nat)} {K:Nat→Option (Nat→Option (List Nat))} {call:CallF} {w0:World} {B:Bs} {f0:Nat→Prop} {ops:Array Oper}
def unl (ops:Array Oper)(listed:Array Bool):List Nat:=(List.range ops.size).filter fun i=>!listed.getD i true
theorem mem_unl {listed:Array Bool}(hs:listed.size=ops.size){i:Nat}:i∈unl ops listed↔i<ops.size∧listed.getD i false=false:=by
 unfold unl;rw[List.mem_filter,List.mem_range]
 constructor
 ·rintro⟨h1,h2⟩;refine⟨h1,?_⟩;simp only[Array.getD_eq_getD_getElem?,Array.getElem?_eq_getElem (show i<listed.size by omega),Option.getD_some,Bool.not_eq_true'] at h2 ⊢;exact h2
 ·rintro⟨h1,h2⟩;refine⟨h1,?_⟩;simp only[Array.getD_eq_getD_getElem?,Array.getElem?_eq_getElem (show i<listed.size by omega),Option.getD_some,Bool.not_eq_true'] at h2 ⊢;exact h2
theorem unl_set {listed:Array Bool}(hs:listed.size=ops.size){i:Nat}(hi:i<ops.size):unl ops (listed.setIfInBounds i true)=(unl ops listed).filter (· != i):=by
 unfold unl;rw[List.filter_filter];refine List.filter_congr (fun k hk=>?_);have hkl:k<ops.size:=List.mem_range.1 hk;simp only[Array.getD_eq_getD_getElem?,Array.getElem?_setIfInBounds]
 by_cases e:i=k
 ·subst e;simp[hs,hi]
 ·simp[e,Ne.symm e]
theorem map_some_of {l:List Nat}(h:∀ i∈l,i<ops.size):l.map (ops[·]?)=(l.filterMap (ops[·]?)).map some:=by
 induction l with
 | nil=>rfl
 | cons i l ih=>
  have hi:ops[i]?=some (ops[i]'(h i List.mem_cons_self)):=Array.getElem?_eq_getElem _;simp only[List.map_cons,List.filterMap_cons,hi];rw[ih (fun k hk=>h k (List.mem_cons_of_mem _ hk))]
structure RunsBy {X:Type} (pr:Oper→Oper→Bool) (E Run:List Oper→X→Option X) (G:List Oper→X→Prop):Prop where
 nil:∀ s s',Run [] s=some s'→E [] s=some s'
 cons:∀ o l s s',Run (o::l) s=some s'→G (o::l) s→∃ s1,(∀ l' r,E l' s1=some r→E (o::l') s=some r)∧Run l s1=some s'∧G l s1
 front:∀ i R s' A s,G (A++i::R) s→(∀ x∈A,pr x i=true)→Run (A++i::R) s=some s'→Run (i::(A++R)) s=some s'∧G (i::(A++R)) s
theorem go_order {X:Type}(m:Region.Mode){pr:Oper→Oper→Bool}{E Run:List Oper→X→Option X}{G:List Oper→X→Prop}(hrun:RunsBy pr E Run G)(hg:goodBy pr ops=true){s':X}:∀ (fuel t:Nat) (listed:Array Bool) (acc:List Nat) (s:X),listed.size=ops.size→ClosedL ops listed→(unl ops listed).length≤fuel→G ((unl ops listed).filterMap (ops[·]?)) s →
  Run ((unl ops listed).filterMap (ops[·]?)) s=some s'→∃ l:List Nat,Region.linearise.go m ops fuel t listed acc=acc.reverse++l∧∃ os:List Oper,l.map (ops[·]?)=os.map some∧E os s=some s'
 | 0,t,listed,acc,s,hs,hcl,hlen,hgood,h=>by
  have:unl ops listed=[]:=List.eq_nil_of_length_eq_zero (by omega);rw[this] at h;exact⟨[],by simp[Region.linearise.go],[],rfl,hrun.nil _ _ h⟩
 | fuel+1,t,listed,acc,s,hs,hcl,hlen,hgood,h=>by
  simp only[Region.linearise.go];generalize hrs:((List.range ops.size).filter fun i=>!listed.getD i true&&((ops[i]?).map (·.after.all fun e=>!Region.binds m e||listed.getD e.on false)).getD false)=rs
  by_cases hemp:unl ops listed=[]
  ·-- all is listed
   have hrs0:rs=[]:=by
    rw[← hrs];refine List.eq_nil_iff_forall_not_mem.2 (fun i hi=>?_);have h1:=List.mem_filter.1 hi;simp only[Bool.and_eq_true] at h1;have:i∈unl ops listed:=List.mem_filter.2 ⟨h1.1,h1.2.1⟩;rw[hemp] at this
    cases this
   rw[hrs0];rw[hemp] at h;simp only[List.length_nil,Nat.mod_zero,List.getElem?_nil];exact⟨[],by simp,[],rfl,hrun.nil _ _ h⟩
  ·-- the first that isn't listed is ready
   have hne:rs≠[]:=by
    obtain⟨q,hm⟩:∃ q,q∈unl ops listed:=List.exists_mem_of_ne_nil _ hemp;obtain⟨hql,hqf⟩:=(mem_unl hs).1 hm;have htop:=good_topo hg m;simp only[topoOk,Bool.and_eq_true] at htop;obtain⟨hto,hta⟩:=htop;obtain⟨x,o,_,hxf,hxo,hxe⟩:=first_ready (q:=fun k=>listed.getD k false) _ [] hto (by simp) ⟨q,by
     have:=List.all_eq_true.1 hta q (List.mem_range.2 hql);simpa using this,hqf⟩
    have hxl:=(Array.getElem?_eq_some_iff.1 hxo).1;intro e;have:x∈rs:=by
     rw[← hrs];refine List.mem_filter.2 ⟨List.mem_range.2 hxl,?_⟩;rw[Bool.and_eq_true];refine⟨(List.mem_filter.1 ((mem_unl hs).2 ⟨hxl,hxf⟩)).2,?_⟩;rw[hxo];simp only[Option.map_some,Option.getD_some];rw[← Array.all_toList];refine List.all_eq_true.2 (fun ed hed=>?_)
     cases hb:Region.binds m ed with
     | false=>rfl
     | true=>
      have:=hxe ed hed hb;rw[this];rfl
    rw[e] at this
    cases this
   have hpos:0<rs.length:=List.length_pos_iff.2 hne;obtain⟨i,hi⟩:∃ i,rs[t % rs.length]?=some i:=⟨rs[t % rs.length]'(Nat.mod_lt _ hpos),List.getElem?_eq_getElem _⟩;rw[hi];simp only;have hir:i∈rs:=List.mem_of_getElem? hi;rw[← hrs] at hir;obtain⟨hil,hic⟩:=List.mem_filter.1 hir;have hil:=List.mem_range.1 hil;rw[Bool.and_eq_true] at hic;have hiu:i∈unl ops listed:=List.mem_filter.2 ⟨List.mem_range.2 hil,hic.1⟩;have hoi:ops[i]?=some ops[i]:=Array.getElem?_eq_getElem hil;have hedges:∀ e∈(ops[i]).after.toList.filter (Region.binds .any),listed.getD e.on false=true:=fun e he=>by
    obtain⟨he,hbe⟩:=List.mem_filter.1 he;have h2:=hic.2;rw[hoi] at h2;simp only[Option.map_some,Option.getD_some] at h2;rw[← Array.all_toList] at h2;have h3:=List.all_eq_true.1 h2 e he;rw[binds_any hbe m] at h3;simpa using h3
   obtain⟨A,R,hAR⟩:=List.append_of_mem hiu;have hpw:(unl ops listed).Pairwise (·<·):=List.Pairwise.filter _ List.pairwise_lt_range;rw[hAR] at hpw;have hA:∀ k∈A,k<i:=fun k hk=>(List.pairwise_append.1 hpw).2.2 k hk i List.mem_cons_self;have hnd:i∉A∧i∉R:=by
    refine⟨fun hq=>Nat.lt_irrefl _ (hA i hq),fun hq=>?_⟩;have:=(List.pairwise_cons.1 (List.pairwise_append.1 hpw).2.1).1 i hq;omega
   have hset:unl ops (listed.setIfInBounds i true)=A++R:=by
    rw[unl_set hs hil,hAR,List.filter_append,List.filter_cons];simp only[bne_self_eq_false,Bool.false_eq_true,if_false];rw[List.filter_eq_self.2 (fun k hk=>by simp; intro e; exact hnd.1 (e▸hk)),List.filter_eq_self.2 (fun k hk=>by simp; intro e; exact hnd.2 (e▸hk))]
   rw[hAR,List.filterMap_append,List.filterMap_cons,hoi] at h hgood;simp only at h hgood;have hfront:=hrun.front _ _ _ _ _ hgood (fun x hx=>by
    obtain⟨k,hk,hxk⟩:=List.mem_filterMap.1 hx;have hku:k∈unl ops listed:=by rw[hAR]; exact List.mem_append_left _ hk
    rcases good_pair hg (hA k hk) hxk hoi with hb | hb
    ·have:=listed_of_bit hg hcl i _ hoi hedges hb;rw[((mem_unl hs).1 hku).2] at this
     cases this
    ·exact hb) h
   obtain⟨s1,h1,h2,hG1⟩:=hrun.cons _ _ _ _ hfront.1 hfront.2;have hcl':ClosedL ops (listed.setIfInBounds i true):=fun k o hk hkl e he=>by
    have mono:∀ j,listed.getD j false=true→(listed.setIfInBounds i true).getD j false=true:=fun j hj=>by
     simp only[Array.getD_eq_getD_getElem?,Array.getElem?_setIfInBounds] at hj ⊢
     split
     ·split<;>simp_all
     ·exact hj
    by_cases e':i=k
    ·subst e';rw[hoi] at hk;injection hk with hk;subst hk;exact mono _ (hedges e he)
    ·refine mono _ (hcl k o hk ?_ e he);simp only[Array.getD_eq_getD_getElem?,Array.getElem?_setIfInBounds,if_neg e'] at hkl ⊢;exact hkl
   have hlen':(unl ops (listed.setIfInBounds i true)).length≤fuel:=by
    rw[hset];rw[hAR] at hlen;simp at hlen ⊢;omega
   obtain⟨l,hl1,os,hl2,hl3⟩:=go_order m hrun hg fuel (t / rs.length) (listed.setIfInBounds i true) (i::acc) s1 (by simpa using hs) hcl' hlen' (by rw[hset,List.filterMap_append]; exact hG1) (by rw[hset,List.filterMap_append]; exact h2);exact⟨i::l,by rw[hl1]; simp,ops[i]::os,by simp only[List.map_cons,hoi,hl2],h1 _ _ hl3⟩
theorem anyhowBy {X:Type}{pr:Oper→Oper→Bool}{E Run:List Oper→X→Option X}{G:List Oper→X→Prop}(hrun:RunsBy pr E Run G)(hg:goodBy pr ops=true){s s':X}(t:Nat)(hG:G ops.toList s)(h:Run ops.toList s=some s'):
  ∃ l:List Oper,(Region.schedule (P.follows .mixedOrders) ops t).map (ops[·]?)=l.map some∧E l s=some s':=by
 obtain⟨m,t',hsch⟩:∃ m t',Region.schedule (P.follows .mixedOrders) ops t=Region.linearise m ops t':=by
  unfold Region.schedule
  split
  ·exact⟨_,_,rfl⟩
  ·split
   ·exact⟨_,_,rfl⟩
   ·exact⟨_,_,rfl⟩
 rw[hsch];unfold Region.linearise;have hunl:unl ops (Array.replicate ops.size false)=List.range ops.size:=by
  unfold unl;refine List.filter_eq_self.2 (fun i hi=>?_);have:=List.mem_range.1 hi;simp[Array.getD_eq_getD_getElem?,Array.getElem?_replicate,this]
 have hall:(List.range ops.size).filterMap (ops[·]?)=ops.toList:=by
  have h1:=map_some_of (ops:=ops) (l:=List.range ops.size) (fun i hi=>List.mem_range.1 hi);rw[map_get_range] at h1;exact (List.map_inj_right (fun a b hab=>by injection hab)).1 h1.symm
 obtain⟨l,h1,os,h2,h3⟩:=go_order m hrun hg ops.size t' (Array.replicate ops.size false) [] s (by simp) (fun k o hk hkl=>by
   simp only[Array.getD_eq_getD_getElem?,Array.getElem?_replicate] at hkl
   split at hkl<;>simp at hkl) (by rw[hunl]; simp) (by rw[hunl,hall]; exact hG) (s':=s') (by rw[hunl,hall]; exact h)
 refine⟨os,?_,h3⟩;rw[h1];simpa using h2
theorem runs_plain [Globals] (hty:∀ t y,ty t=some y→Ty.of P t=some y)(hcall:call.ok P)(hB:B.n≤w0.heap.size):RunsBy (indep ops) (evOps call ty ops) (evOps call ty ops) (fun _ s=>Good w0 B f0 s) where
 nil:=fun s s' h=>h
 cons:=fun o l s s' h hg=>by
  rw[evOps_step,Option.bind_eq_some_iff] at h;obtain⟨s1,h1,h2⟩:=h;exact⟨s1,fun l' r h3=>by rw[evOps_step,h1]; exact h3,h2,step_good hty hcall hB hg h1⟩
 front:=fun i R s' A s hg hi h=>⟨moveFront hty hcall hB hg hi h,hg⟩
theorem runs_strict [Globals] {U:List Nat}(hty:∀ t y,ty t=some y→Ty.of P t=some y)(hcall:call.ok P)(hB:B.n≤w0.heap.size):RunsBy (pairU ops U) (evOps call ty ops) (evOpsU call ty U) (fun l s=>Good w0 B f0 s∧Todo U l s) where
 nil:=fun s s' h=>h
 cons:=fun o l s s' h hg=>by
  obtain⟨h1,_,s1,h2,h3⟩:=(evOpsU_cons (ops:=ops)).1 h;exact⟨s1,fun l' r h4=>by rw[evOps_step,h2]; exact h4,h3,step_good hty hcall hB hg.1 h2,hg.2.step h1 h2⟩
 front:=fun i R s' A s hg hi h=>⟨moveFrontU hty hcall hB hg.1 hg.2 hi h,hg.1,hg.2.perm List.perm_middle⟩
def pairP [Globals] (ops:Array Oper)(x y:Oper):Bool:=!(pkOf x).may&&!(pkOf y).may&&indep ops x y
def evX [Globals] (call:CallF)(ty:Tys)(ops:Array Oper)(l:List Oper)(x:Ex × St):Option (Ex × St):=match x.1 with
 | .norm=>evOpsP call ty ops l x.2
 | _=>some x
theorem evOpsP_plain [Globals] {o:Oper}{l:List Oper}{s:St}(ho:(pkOf o).may=false):evOpsP call ty ops (o::l) s=(step call ty ops o s).bind (evOpsP call ty ops l):=by
 have hp:pkOf o=.no:=by cases h:pkOf o<;>rw[h] at ho<;>first | rfl | cases ho
 rw[evOpsP];unfold step
 cases guardOf ops s.tm o with
 | none=>rfl
 | some b=>
  cases b with
  | false=>rfl
  | true=>simp only[hp]
theorem evOpsP_pre [Globals]:∀ {A:List Oper} {R:List Oper} {s:St},(∀ x∈A,(pkOf x).may=false)→evOpsP call ty ops (A++R) s=(evOps call ty ops A s).bind (evOpsP call ty ops R)
 | [],R,s,_=>rfl
 | o::A,R,s,h=>by
  rw[List.cons_append,evOpsP_plain (h o List.mem_cons_self),evOps_step,Option.bind_assoc];congr 1;funext s1;exact evOpsP_pre fun x hx=>h x (List.mem_cons_of_mem _ hx)
theorem lp_good [Globals] (hcall:call.ok P)(hB:B.n≤w0.heap.size){o:Oper}{f:FuncId}{all:Bool}{d:Nat}{s s':St}(hpk:pkOf o=.call f all)(hd:o.dst=some d)(hg:Good w0 B f0 s)(h:evLP call ty o f d ((opArgs o).map (opd s.tm)) (lentHs s.hp all ((opArgs o).map (opd s.tm))) s=some (.inr s')):Good w0 B f0 s':=by
 obtain⟨fz,ρ,tm,w,hrel⟩:=hg;obtain⟨c,ho,hc⟩:=pkOf_call hpk;have ha:opArgs o=c.args.toList:=by unfold opArgs; rw[ho]
 rw[ha] at h;have:=evLP_sound (P:=P) (a:=⟨tm,[]⟩) (next:=fun a' w'=>∃ fz' ρ',Rel w0 B f0 fz' ρ' s' a'.tmps w') (Q:=fun _ _ _=>False) hcall hB hrel ho hc hd (lentHs_nodup _ _ _) h (fun s1 fz' ρ' tm' w' e hr=>by injection e with e; rw[e]; exact⟨_,_,hr⟩) (fun p w' e _=>by cases e);obtain⟨a',w',fz',ρ',hr⟩:=exists_of_wp this;exact⟨fz',ρ',a'.tmps,w',hr⟩
theorem runs_pan [Globals] (hty:∀ t y,ty t=some y→Ty.of P t=some y)(hcall:call.ok P)(hB:B.n≤w0.heap.size):RunsBy (pairP ops) (evX call ty ops) (evX call ty ops) (fun _ x=>x.1=.norm→Good w0 B f0 x.2) where
 nil:=fun s s' h=>h
 cons:=fun o l x r h hg=>by
  obtain⟨e,s⟩:=x
  cases e with
  | norm=>
   have hg:Good w0 B f0 s:=hg rfl;have h:evOpsP call ty ops (o::l) s=some r:=h
   by_cases hm:(pkOf o).may=false
   ·rw[evOpsP_plain hm,Option.bind_eq_some_iff] at h;obtain⟨s1,h1,h2⟩:=h;refine⟨(.norm,s1),fun l' r h3=>?_,h2,fun _=>step_good hty hcall hB hg h1⟩;show evOpsP call ty ops (o::l') s=some r;rw[evOpsP_plain hm,h1];exact h3
   ·rw[evOpsP] at h;have go:∀ l' r,evX call ty ops (o::l') (.norm,s)=some r↔evOpsP call ty ops (o::l') s=some r:=fun _ _=>Iff.rfl;simp only[go,evOpsP]
    cases hgd:guardOf ops s.tm o with
    | none=>rw[hgd] at h; cases h
    | some b=>
     rw[hgd] at h
     cases b with
     | false=>
      refine⟨(.norm,putT s o.dst (.tup [])),fun l' r h3=>h3,h,fun _=>step_good hty hcall hB hg (o:=o) (call:=call) (ty:=ty) (ops:=ops) ?_⟩;unfold step;rw[hgd]
     | true=>
      simp only at h ⊢
      cases hpk:pkOf o with
      | no=>rw[hpk] at hm; exact absurd rfl hm
      | pan x=>
       rw[hpk] at h;simp only at h ⊢;refine⟨r,fun l' r' h3=>?_,?_,fun e=>?_⟩<;>(cases hpo:panOf (opd s.tm x)<;>rw[hpo] at h<;>first | (cases h; done) | (injection h with h; subst h))
       ·exact h3
       ·rfl
       ·cases e
      | call f all=>
       rw[hpk] at h;simp only at h ⊢
       cases hd:o.dst with
       | none=>rw[hd] at h; cases h
       | some d=>
        rw[hd] at h;simp only at h ⊢;rw[Option.bind_eq_some_iff] at h;obtain⟨q,h1,h2⟩:=h
        cases q with
        | inl p=>
         refine⟨r,fun l' r' h3=>?_,?_,fun e=>?_⟩<;>(injection h2 with h2; subst h2)
         ·rw[h1]; exact h3
         ·rfl
         ·cases e
        | inr s1=>exact⟨(.norm,s1),fun l' r' h3=>by rw[h1]; exact h3,h2,fun _=>lp_good hcall hB hpk hd hg h1⟩
  | exit id=>exact⟨(.exit id,s),fun l' r' h3=>h3,h,fun e=>by cases e⟩
  | ret=>exact⟨(.ret,s),fun l' r' h3=>h3,h,fun e=>by cases e⟩
  | pan t cs=>exact⟨(.pan t cs,s),fun l' r' h3=>h3,h,fun e=>by cases e⟩
 front:=fun i R r A x hg hi h=>by
  refine⟨?_,hg⟩;obtain⟨e,s⟩:=x
  cases e with
  | norm=>
   cases A with
   | nil=>exact h
   | cons y A=>
    have hA:∀ x∈y::A,(pkOf x).may=false∧(pkOf i).may=false∧indep ops x i=true:=fun x hx=>by
     have:=hi x hx;unfold pairP at this;simp only[Bool.and_eq_true,Bool.not_eq_true'] at this;exact⟨this.1.1,this.1.2,this.2⟩
    have hii:=(hA y List.mem_cons_self).2.1;have h:evOpsP call ty ops ((y::A)++i::R) s=some r:=h;show evOpsP call ty ops (i::((y::A)++R)) s=some r;have e1:(y::A)++i::R=((y::A)++i::[])++R:=by simp
    rw[e1,evOpsP_pre (fun x hx=>by
     rcases List.mem_append.1 hx with hx | hx
     ·exact (hA x hx).1
     ·rw[List.mem_singleton.1 hx]; exact hii),Option.bind_eq_some_iff] at h
    obtain⟨s1,h1,h2⟩:=h;have h3:=moveFront hty hcall hB (hg rfl) (fun x hx=>(hA x hx).2.2) h1;have e2:i::((y::A)++R)=(i::((y::A)++[]))++R:=by simp
    rw[e2,evOpsP_pre (fun x hx=>by
     rcases List.mem_cons.1 hx with hx | hx
     ·rw[hx]; exact hii
     ·rw[List.append_nil] at hx; exact (hA x hx).1),h3]
    exact h2
  | _=>exact h
def freshU (ops:Array Oper)(U:List Nat)(ks:Option (List Nat)):Bool:=(ops.toList.filterMap (·.dst)).Nodup&&(match ks with
 | some ks=>ops.toList.all fun o=>match o.dst with
  | some d=>(!U.contains d&&!U.contains (d+100000))||!ks.contains d
  | none=>true
 | none=>false)
def goodK [Globals] (kp:Nat→Option (List Nat))(id:Nat)(ops:Array Oper):Bool:=match kp (30000+id) with
 | none=>goodRegion ops
 | some U=>if isP U then goodBy (pairP ops) ops else goodBy (pairU ops U) ops&&freshU ops U (kp id)
theorem nils_tm:∀ (ks:List Nat) (s:St),(nils ks s).tm=s.tm
 | m::h::j::e::sz::ks,s=>by
  have:(nil1 h j e sz s).tm=s.tm:=by
   unfold nil1
   split
   ·split
    ·split<;>rfl
    ·rfl
   ·rfl
  simp only[nils]
  split
  ·rw[nils_tm ks,this]
  ·rfl
 | [],_=>rfl
 | [_],_=>rfl
 | [_,_],_=>rfl
 | [_,_,_],_=>rfl
 | [_,_,_,_],_=>rfl
theorem unNil_sub:∀ (ks:List Nat) (d:Nat),d∈unNil ks→d∈ks
 | m::h::j::e::sz::ks,d,hd=>by
  simp only[unNil] at hd
  split at hd
  ·have:=unNil_sub ks d hd;simp[this]
  ·exact hd
 | [],_,hd=>hd
 | [_],_,hd=>hd
 | [_,_],_,hd=>hd
 | [_,_,_],_,hd=>hd
 | [_,_,_,_],_,hd=>hd
theorem tidy_junk {ks:List Nat}{s:St}{d:Nat}(h:ks.contains d=false):junkAt (tidy (some ks) s) d:=by
 unfold tidy tidy.settleR settle;refine junkAt_evicts (s:=tidy.tidyK (unNil ks) (nils ks s)) ?_;have:(tidy.tidyK (unNil ks) (nils ks s)).tm=keepAt (unNil ks) s.tm:=by
  unfold tidy.tidyK tidy1;rw[nils_tm]
  split<;>rfl
 intro t ht;rw[this,keepAt,List.getElem?_mapIdx,Option.map_eq_some_iff] at ht;obtain⟨t',_,rfl⟩:=ht;have h2:(unNil ks).contains d=false:=by
  cases hc:(unNil ks).contains d with
  | false=>rfl
  | true=>rw[List.contains_iff_mem.2 (unNil_sub ks d (List.contains_iff_mem.1 hc))] at h; cases h
 rw[h2];rfl
theorem anyhow [Globals] (hty:∀ t y,ty t=some y→Ty.of P t=some y)(call:CallF)(hcall:call.ok P)(kp:Nat→Option (List Nat)):Anyhow P ty call kp (goodK kp):=by
 intro w0 B f0 fz ρ s r tm w id ops t hB hg hrel h;unfold goodK at hg
 cases hu:kp (30000+id) with
 | none=>
  rw[hu] at hg h;simp only[evRg,Option.map_eq_some_iff] at h;obtain⟨s',h,rfl⟩:=h;obtain⟨l,hl,h1⟩:=anyhowBy (runs_plain (w0:=w0) (B:=B) (f0:=f0) hty hcall hB) hg t ⟨fz,ρ,tm,w,hrel⟩ h;exact⟨l,hl,by simp only[evLs,h1,Option.map_some]⟩
 | some U=>
  rw[hu] at hg h;simp only at hg
  by_cases hP:isP U=true
  ·rw[if_pos hP] at hg;simp only[evRg,if_pos hP] at h;obtain⟨l,hl,h1⟩:=anyhowBy (runs_pan (w0:=w0) (B:=B) (f0:=f0) hty hcall hB) hg t (s:=(.norm,_)) (fun _=>⟨fz,ρ,tm,w,hrel⟩) h;exact⟨l,hl,by simp only[evLs,if_pos hP]; exact h1⟩
  rw[if_neg hP] at hg;simp only[evRg,if_neg hP,Option.map_eq_some_iff] at h;obtain⟨s',h,rfl⟩:=h;simp only[Bool.and_eq_true] at hg;obtain⟨hg,hf⟩:=hg;unfold freshU at hf;simp only[Bool.and_eq_true,decide_eq_true_eq] at hf;have hfin:∃ l:List Oper,(Region.schedule (P.follows .mixedOrders) ops t).map (ops[·]?)=l.map some∧evOps call ty ops l (enter ops.toList (tidy (kp id) s))=some s':=by
   refine anyhowBy (runs_strict (w0:=w0) (B:=B) (f0:=f0) (U:=U) hty hcall hB) hg t ⟨⟨fz,ρ,tm,w,hrel⟩,fun o ho d hd hU=>?_,hf.1⟩ h
   cases hk:kp id with
   | none=>rw[hk] at hf; cases hf.2
   | some ks=>
    rw[hk] at hf;have h1:=List.all_eq_true.1 hf.2 o ho;rw[hd] at h1;refine junkAt_evicts (tidy_junk ?_);simp only[Bool.or_eq_true,Bool.and_eq_true,Bool.not_eq_true'] at h1
    rcases h1 with ⟨h1,h2⟩ | h1
    ·rcases hU with hU | hU
     ·rw[List.contains_iff_mem.2 hU] at h1; cases h1
     ·rw[List.contains_iff_mem.2 hU] at h2; cases h2
    ·exact h1
  obtain⟨l,hl,h1⟩:=hfin;exact⟨l,hl,by simp only[evLs,if_neg hP,h1,Option.map_some]⟩
theorem calls_of_ev [Globals] [Prims] (hix:EnvOK P)(hty:∀ t y,ty t=some y→Ty.of P t=some y)(hok:okProgram goodK P K){f:FuncId}{args:List T}{r:T × List Ob}(hm:marked args=false)(h:evCall P ty K f args=some r):CallOK P f args r:=
 ((evCall_sound hix hty hok (fun call hc kp=>anyhow hty call hc kp)).2 f args r h).1.plain hm
theorem calls_of_evP [Globals] [Prims] (hix:EnvOK P)(hty:∀ t y,ty t=some y→Ty.of P t=some y)(hok:okProgram goodK P K){f:FuncId}{args:List T}{r:T × List Ob}(h:evCall P ty K f (.tup []::args)=some r):CallPn P f args r:=
 ((evCall_sound hix hty hok (fun call hc kp=>anyhow hty call hc kp)).2 f _ r h).1
end
#print axioms calls_of_ev
end Go.Vabs
