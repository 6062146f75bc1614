/- A library: what functions need that catch what panics in them. No condition. -/
import Derived.Test.YtadllpehekphmaaDoorVSD
import Derived.Defers
import Derived.Recover
set_option linter.unusedSimpArgs false
set_option linter.unusedVariables false
namespace Go.Vabs
open Go.RowKit
section
variable {P:Program} {w0 w0' w w':World} {B B':Bs} {f0 fz:Nat→Prop} {ρ:Nat→Option Loc} {s s':St} {tm tm':Array Value}
theorem Rel.patch [Globals] (h:Rel w0 B f0 fz ρ s tm w)(hs:tm'.size=tm.size)(ht:∀ (i:Nat) (t:T),s.tm[i]?=some t→t≠T.junk→tm'[i]?=tm[i]?):Rel w0 B f0 fz ρ s tm' w where
 size:=hs.trans h.size
 tmp:=fun i t hi=>by
  by_cases hj:t=T.junk
  ·subst hj;have hl:=(List.getElem?_eq_some_iff.1 hi).1;have hl:i<tm'.size:=by rw[hs,h.size]; exact hl
   exact⟨tm'[i],Array.getElem?_eq_getElem hl,trivial⟩
  ·obtain⟨v,hv,hr⟩:=h.tmp i t hi;exact⟨v,(ht i t hi hj).trans hv,hr⟩
 dom1:=h.dom1
 obj:=h.obj
 inj:=h.inj
 own:=h.own
 fzl:=h.fzl
 fz0:=h.fz0
 fz1:=h.fz1
 below:=h.below
 frd:=h.frd
 glz:=h.glz
 itr:=fun i q pos hi=>by
  obtain⟨v,hv,hr⟩:=h.itr i q pos hi;exact⟨v,(ht i _ hi (fun e=>by cases e)).trans hv,hr⟩
 boxes:=h.boxes
theorem Rel.rebase [Globals] (h:Rel w0' B' f0 fz ρ s tm w)(hB:∀ b,B'.owns b→B.owns b)(hx:∀ k,B.box k=none)(hp:Past B w0 w)(h1:s'.hp=s.hp)(h2:s'.fr=s.fr)
  (hs:tm'.size=s'.tm.length) (ht:∀ (i:Nat) (t:T),s'.tm[i]?=some t→∃ v,tm'[i]?=some v∧RepT w fz ρ v t) (hi:∀ (i:Nat) (q:ByteArray) (pos:Nat),s'.tm[i]?≠some (.itr q pos)):Rel w0 B f0 fz ρ s' tm' w where
 size:=hs
 tmp:=ht
 dom1:=fun k l hk=>by rw[h1]; exact h.dom1 k l hk
 obj:=fun k o hk=>h.obj k o (by rw[← h1]; exact hk)
 inj:=fun k k' b base cap sz base' cap' sz' e e'=>h.inj k k' b base cap sz base' cap' sz' (by rw[← h2]; exact e) (by rw[← h2]; exact e')
 own:=fun k b base cap sz hk=>by
  obtain⟨a,b1,c⟩:=h.own k b base cap sz hk;rw[h2];exact⟨a,fun e=>⟨hB _ (b1 e).1,(b1 e).2⟩,c⟩
 fzl:=h.fzl
 fz0:=h.fz0
 fz1:=fun b hb=>(h.fz1 b hb).imp id (hB b)
 below:=hp
 frd:=fun k hk=>by rw[h1]; exact h.frd k (by rw[← h2]; exact hk)
 glz:=h.glz
 itr:=fun i q pos ht=>absurd ht (hi i q pos)
 boxes:=fun k l hk=>by rw[hx k] at hk; cases hk
theorem reps_of {vs:List Value}{ts:List T}(hl:vs.length=ts.length)(hz:∀ p∈vs.zip ts,RepT w fz ρ p.1 p.2):∀ (i:Nat) (t:T),ts[i]?=some t→∃ v,vs.toArray[i]?=some v∧RepT w fz ρ v t:=by
 intro i t hi;have hi':=(List.getElem?_eq_some_iff.1 hi).1;have hv:i<vs.length:=by omega
 refine⟨vs[i],by simp[hv],hz (vs[i],t) ?_⟩;refine List.mem_iff_getElem?.2 ⟨i,?_⟩;rw[List.getElem?_zip_eq_some];exact⟨List.getElem?_eq_getElem hv,hi⟩
theorem RepO.plain {b:Nat}{t:TypeId}{sz:Nat}{cs:List Value}(h:w.heap[b]?=some (.cells cs.toArray t))(hl:cs.length=sz)(hc:∀ v∈cs,∀ fz,RepC w fz ρ v (.lit v)):RepO w fz ρ (.at b 0 1 sz) ⟨true,true,t,sz,[cs.map .lit]⟩:=by
 refine⟨?_,?_,rfl,Nat.le_refl _,cs.toArray,_,h,?_,?_,?_⟩
 ·intro e he;obtain rfl:=List.mem_singleton.1 he;simpa using hl
 ·intro _ e he x hx;obtain rfl:=List.mem_singleton.1 he;obtain⟨v,_,rfl⟩:=List.mem_map.1 hx;rfl
 ·simp[hl]
 ·exact⟨.inl rfl,fun _=>⟨rfl,by simpa using hl⟩⟩
 ·intro i j e x he hx
  cases i with
  | succ i=>simp at he
  | zero=>
   simp only[List.getElem?_cons_zero,Option.some.injEq] at he;subst he;rw[List.getElem?_map,Option.map_eq_some_iff] at hx;obtain⟨v,hv,rfl⟩:=hx;exact⟨v,by simpa using hv,hc v (List.mem_of_getElem? hv) fz⟩
end
end Go.Vabs
