/- A library: the abstract interpreter's appends, II. No condition. -/
import Derived.Test.YtadllpehekphmaaDoorVI
set_option linter.unusedSimpArgs false
set_option linter.unusedVariables false
namespace Go.Vabs
open Go.RowKit
theorem RepF.free {w:World}{fz:Nat→Prop}{v:Value}{c:C}(h:RepF w fz v c):c.free=true:=by cases h<;>rfl
section
variable {P:Program} {ty:Tys} {w0:World} {B:Bs} {f0 fz:Nat→Prop} {ρ:Nat→Option Loc} {s:St} {tm:Array Value} {w:World}
theorem src_free [Globals] (hrel:Rel w0 B f0 fz ρ s tm w){v:Value}{X:T}{new:List (List C)}(hv:RepT w fz ρ v X)(hs:srcOf s.hp X=some new)(hf:freeSrc s.hp X=true):∀ e∈new,∀ x∈e,C.free x=true:=by
 unfold srcOf at hs
 split at hs
 ·injection hs with hs; subst hs; simp
 ·injection hs with hs;subst hs;intro e he x hx;obtain⟨b,_,rfl⟩:=List.mem_map.1 he;simp at hx;subst hx;rfl
 ·rename_i sz es;injection hs with hs;subst hs;have hv:RepC w fz ρ v (.sl sz es):=hv
  cases hv with
  | frz hq=>
   cases hq with
   | sl ad len cap _ _ cv hl hs hc hcells hrep=>
    intro e he x hx;obtain⟨i,hi⟩:=List.mem_iff_getElem?.1 he;obtain⟨j,hj⟩:=List.mem_iff_getElem?.1 hx;exact (hrep i j e x hi hj).free
 ·rename_i k off len
  split at hs
  ·rename_i ob hob
   split at hs
   ·injection hs with hs;subst hs;simp only[freeSrc,hob] at hf;obtain⟨l,hl,hO⟩:=hrel.obj k ob hob;intro e he x hx;exact hO.2.1 hf e (List.mem_of_mem_drop (List.mem_of_mem_take he)) x hx
   ·cases hs
  ·cases hs
 ·cases hs
theorem Rel.moved [Globals] (hrel:Rel w0 B f0 fz ρ s tm w){h:Nat}{ob ob':Ob}{l l':Loc}{w':World}(hh:hget s.hp h=some ob)(hnb:ob.box=false)(hl:ρ h=some l)(hfr:h∉s.fr)(hfzw:∀ b,fz b→w'.heap[b]?=w.heap[b]?)
  (hoth:∀ k b base cap sz,k≠h→ρ k=some (.at b base cap sz)→w'.heap[b]?=w.heap[b]?)
  (hown:∀ b base cap sz,l'=.at b base cap sz→B.owns b∧b<w'.heap.size∧¬ fz b∧∀ k base' cap' sz',k≠h→k∉s.fr→ρ k≠some (.at b base' cap' sz'))
  (hsz:w.heap.size≤w'.heap.size) (hbelow:Past B w0 w') (hob:∀ ρ',RepO w' fz ρ' l' ob')
  (hit:(∀ b,b<w.heap.size→(∀ k b' base cap sz,ρ k=some (.at b' base cap sz)→b'≠b)→w'.heap[b]?=w.heap[b]?)∧∀ b base cap sz,l'=.at b base cap sz→w.heap.size≤b∨∃ base' cap' sz',ρ h=some (.at b base' cap' sz')):
  ∃ ρ',ρ' h=some l'∧Rel w0 B f0 fz ρ' { tm:=s.tm.map (T.kill h),hp:=hput (s.hp.map fun p=>(p.1,p.2.killF h)) h ob',fr:=s.fr } tm w':=by
 let ρ':Nat→Option Loc:=fun k=>if k=h then some l' else ρ k
 have hne:∀ k,k≠h→ρ' k=ρ k:=fun k hk=>by simp[ρ',hk]
 have hhh:ρ' h=some l':=by simp[ρ']
 have hr:∀ k l,k≠h→ρ k=some l→ρ' k=some l:=fun k l hk hq=>(hne k hk).trans hq;refine⟨ρ',hhh,?_⟩;exact {
  size:=by simp[hrel.size]
  tmp:=fun i t ht=>by
   rw[List.getElem?_map,Option.map_eq_some_iff] at ht;obtain⟨t0,h0,rfl⟩:=ht;obtain⟨u,hu,h1⟩:=hrel.tmp i t0 h0;exact⟨u,hu,h1.kill h hfzw (fun _ hb=>hb) hr⟩
  dom1:=fun k l hk=>by
   by_cases e:k=h
   ·subst e; exact⟨ob',hget_hput _ _ _⟩
   ·rw[hne k e] at hk;obtain⟨o,ho⟩:=hrel.dom1 k l hk;exact⟨o.killF h,by rw[hgN _ _ _ _ e,hget_map (fun x=>x.killF h),ho]; rfl⟩
  obj:=fun k o hk=>by
   by_cases e:k=h
   ·subst e;simp only[hget_hput,Option.some.injEq] at hk;subst hk;exact⟨l',hhh,hob ρ'⟩
   ·simp only[hgN _ _ _ _ e,hget_map (fun x=>x.killF h),Option.map_eq_some_iff] at hk;obtain⟨x,hx,rfl⟩:=hk;obtain⟨lk,hlk,hxo⟩:=hrel.obj k x hx;refine⟨lk,hr _ _ e hlk,?_⟩;have hlw:∀ b base cap sz,lk=.at b base cap sz→w'.heap[b]?=w.heap[b]?:=fun b base cap sz hb=>hoth k b base cap sz e (hb▸hlk);unfold Ob.killF
    split
    ·rename_i hxf;exact hxo.free_any hxf hlw hfzw (fun _ hb=>hb)
    ·exact hxo.kill h hlw hfzw (fun _ hb=>hb) hr
  inj:=fun k k' b base cap sz base' cap' sz' h1 h2 h3 h4=>by
   by_cases e:k=h<;>by_cases e':k'=h
   ·rw[e,e']
   ·subst e;rw[hhh] at h3;injection h3 with h3;rw[hne k' e'] at h4;exact absurd h4 ((hown _ _ _ _ h3).2.2.2 k' _ _ _ e' h2)
   ·subst e';rw[hhh] at h4;injection h4 with h4;rw[hne k e] at h3;exact absurd h3 ((hown _ _ _ _ h4).2.2.2 k _ _ _ e h1)
   ·rw[hne k e] at h3;rw[hne k' e'] at h4;exact hrel.inj k k' b base cap sz base' cap' sz' h1 h2 h3 h4
  own:=fun k b base cap sz hk=>by
   by_cases e:k=h
   ·subst e;rw[hhh] at hk;injection hk with hk;obtain⟨h1,h2,h3,_⟩:=hown _ _ _ _ hk;exact⟨h2,fun _=>⟨h1,h3⟩,fun hq=>absurd hq hfr⟩
   ·rw[hne k e] at hk;obtain⟨h1,h2⟩:=hrel.own k b base cap sz hk;exact⟨by omega,h2⟩
  fzl:=fun b hb=>Nat.lt_of_lt_of_le (hrel.fzl b hb) hsz
  fz0:=hrel.fz0
  fz1:=hrel.fz1
  below:=hbelow
  frd:=fun k hk=>by
   by_cases e:k=h
   ·subst e; exact⟨ob',hget_hput _ _ _⟩
   ·obtain⟨o,ho⟩:=hrel.frd k hk;exact⟨o.killF h,by rw[hgN _ _ _ _ e,hget_map (fun x=>x.killF h),ho]; rfl⟩
  glz:=hrel.glz.mono hfzw (fun _ h=>h)
  boxes:=fun k l hk=>by
   obtain⟨h1,h2,o,h3,h4⟩:=hrel.boxes k l hk;have e:k≠h:=fun e=>by rw[e,hh] at h3; injection h3 with h3; rw[← h3,hnb] at h4; cases h4
   refine⟨h1,hr _ _ e h2,o.killF h,by rw[hgN _ _ _ _ e,hget_map (fun x=>x.killF h),h3]; rfl,?_⟩;unfold Ob.killF
   split<;>exact h4
  itr:=fun i q pos ht=>by
   rw[List.getElem?_map,Option.map_eq_some_iff] at ht;obtain⟨t0,h0,ht⟩:=ht;rw[kill_itr ht] at h0;obtain⟨u,hu,hI⟩:=hrel.itr i q pos h0;refine⟨u,hu,hI.mono hit.1 (fun _ _ _ hz _=>hz) (fun b hb hq k b' base cap sz hk=>?_)⟩
   by_cases e:k=h
   ·subst e;rw[hhh] at hk;injection hk with hk
    rcases hit.2 _ _ _ _ hk with h2 | ⟨base',cap',sz',h2⟩
    ·omega
    ·exact hq _ _ _ _ _ h2
   ·rw[hne k e] at hk;exact hq _ _ _ _ _ hk }
theorem i64_max:IntKind.i64.max=9223372036854775807:=by decide
theorem le_grownCap (w:World)(need old:Nat)(e:TypeId):need≤grownCap w need old e:=by simp[grownCap,Question.cut]
theorem zeroCells_size (z:Array Value)(n:Nat):(Builtin.zeroCells z n).size=n*z.size:=by simp[Builtin.zeroCells]
theorem run_grow {P:Program}{w:World}{t u e:TypeId}{ud:TypeDesc}{i:TypeInfo}{z:Value}{tt:TypeId}(ht:P.underlying t=some (.slice e))(hu:P.underlying u=some ud)(hud:∀ k,ud≠.int k)(hi:P.info? e=some i)(hz:i.zero=some z)
  {base:Option Addr} {sLen sCap n:Nat} {x:Value} {old new:List Value} (hlen:(Builtin.lenOf x).run P w=.ok n w) (hg:sCap<sLen+n) (hby:0<i.bytes) (hfit:(sLen+n)*i.bytes≤140737488355328)
  (ho:(Builtin.firstCells i.size sLen (.slice base sLen sCap)).run P w.drew=.ok old.toArray w.drew) (hn:(Builtin.firstCells i.size n x).run P w.drew=.ok new.toArray w.drew):
  (Builtin.append_ #[t,u] tt #[.slice base sLen sCap,x]).run P w=.ok (.slice (some ⟨w.heap.size,0,none⟩) (sLen+n) (grownCap w (sLen+n) sCap e))
   (w.drew.alloc (.cells (old.toArray++new.toArray++Builtin.zeroCells z.cells (grownCap w (sLen+n) sCap e-(sLen+n))) e)):=by
 have hng:¬ (sLen+n≤sCap):=by omega
 have hbz:i.bytes≠0:=by omega
 have h48:¬ (Builtin.nextslicecap (sLen+n) sCap*i.bytes > 2 ^ 48):=by have:=growslice_fits (need:=sLen+n) (old:=sCap) hg hfit; omega
 have hcond:¬ ((((sLen+n:Nat):Int) > IntKind.i64.max)∧(false=true∨i.bytes=0)):=fun hq=>by
  rcases hq.2 with h | h
  ·exact absurd h (by decide)
  ·exact hbz h
 have hchoose:(choose (.appendCap (sLen+n) sCap e)).run P w=.ok (grownCap w (sLen+n) sCap e) w.drew:=by
  rw[run_choose];simp only[Question.forced,Bool.false_eq_true,if_false];rfl
 have hnew:∀ (W:World) (cs:Array Value),(newRow e cs).run P W=.ok ⟨W.heap.size,0,none⟩ (W.alloc (.cells cs e)):=fun W cs=>by
  simp only[newRow,Sem.run_bind,run_newObj,Result.andThen_ok,Sem.run_pure];rfl
 simp only[Builtin.append_];simp only[show (#[t,u]:Array TypeId)[0]?=some t from rfl,show (#[t,u]:Array TypeId)[1]?=some u from rfl,show ∀ (p q:Value),(#[p,q]:Array Value)[0]?=some p from fun _ _=>rfl,show ∀ (p q:Value),(#[p,q]:Array Value)[1]?=some q from fun _ _=>rfl]
 cases ud
 case int k=>exact absurd rfl (hud k)
 all_goals
  simp only[Sem.run_bind,run_underlying ht,run_underlying hu,Result.andThen_ok,run_sizeOf' hi,Sem.run_pure,hlen,run_typeInfo' hi,Sem.run_ite,Bool.false_eq_true,if_false,if_neg hng,Bool.not_false,if_true];rw[if_neg (by simpa using hcond)];simp only[if_neg h48,hchoose,Result.andThen_ok,run_askRoom,ho,hn,run_zeroValue hi hz,hnew];rfl
end
end Go.Vabs
