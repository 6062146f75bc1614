/- A library: values of an abstract interpreter of the model's code, and what they say of a world. No condition. -/
import Derived.Calls
import Derived.Below
import Derived.Laws.Cells
import Derived.Laws.Append
import Derived.Deep.Draws
set_option linter.unusedSimpArgs false
set_option linter.unusedVariables false
namespace Go.Vabs
open Go.RowKit
inductive Loc where
 | nil
 | at (b base cap sz:Nat)
def lentNm (k:Nat):Bool:=k % 10000==9000
structure Bs where
 n:Nat
 L:Nat→Prop
 box:Nat→Option Loc
def Bs.owns (B:Bs)(b:Nat):Prop:=B.n≤b∨B.L b
def Bs.bare (n:Nat):Bs:=⟨n,fun _=>False,fun _=>none⟩
theorem Bs.bare_owns {n b:Nat}(h:(Bs.bare n).owns b):n≤b:=h.elim id False.elim
structure Past (B:Bs) (w w':World):Prop where
 os:w'.os=w.os
 tape:w'.tape=w.tape
 output:w'.output=w.output
 size:w.heap.size≤w'.heap.size
 block:∀ k,¬ B.owns k→w'.heap[k]?=w.heap[k]?
theorem Past.refl (B:Bs)(w:World):Past B w w:=⟨rfl,rfl,rfl,Nat.le_refl _,fun _ _=>rfl⟩
theorem Past.trans {B:Bs}{a b c:World}(h:Past B a b)(k:Past B b c):Past B a c:=
 ⟨k.os.trans h.os,k.tape.trans h.tape,k.output.trans h.output,Nat.le_trans h.size k.size,fun i hi=>(k.block i hi).trans (h.block i hi)⟩
theorem Past.drew {B:Bs}{a w:World}(h:Past B a w):Past B a w.drew:=⟨h.os,h.tape,h.output,h.size,h.block⟩
theorem Bs.notOwns {B:Bs}{k:Nat}(h:¬ B.owns k):k<B.n:=Nat.lt_of_not_le fun e=>h (.inl e)
theorem Past.alloc {B:Bs}{a w:World}(h:Past B a w)(hB:B.n≤w.heap.size)(o:Obj):Past B a (w.alloc o):=
 h.trans ⟨rfl,rfl,rfl,by simp,fun k hk=>Below.heap_alloc w o k (Nat.lt_of_lt_of_le (Bs.notOwns hk) hB)⟩
theorem Past.of_below {B:Bs}{w w':World}(h:Below B.n w w'):Past B w w':=⟨h.os,h.tape,h.output,h.size,fun k hk=>h.block k (Bs.notOwns hk)⟩
theorem Past.to_below {n:Nat}{L:Nat→Prop}{bx:Nat→Option Loc}{w w':World}(h:Past ⟨n,L,bx⟩ w w')(hL:∀ b,¬ L b):Below n w w':=⟨h.os,h.tape,h.output,h.size,fun k hk=>h.block k (fun e=>e.elim (fun e=>Nat.not_le_of_lt hk e) (hL k))⟩
inductive C where
 | lit (v:Value)
 | sl (sz:Nat) (es:List (List C))
 | ref (h off len:Nat)
 | ptr (h i off:Nat)
 | fptr (cs:List C) (off:Nat)
 | fn (f:FuncId) (caps:List C)
 | junk
instance:Inhabited C:=⟨.junk⟩
inductive T where
 | c (x:C)
 | agg (cs:List C)
 | tup (vs:List T)
 | itr (q:ByteArray) (pos:Nat)
 | junk
instance:Inhabited T:=⟨.junk⟩
structure Ob where
 box:Bool
 free:Bool
 elem:TypeId
 sz:Nat
 es:List (List C)
class Globals where
 gl:Nat→Option (List Value)
 ix:Nat→Bool
 ld:Nat→Option Bool
 pn:Nat→Bool
 eq:Nat→Bool
class Prims where
 pr:Nat→List T→Option (T × List Ob)
abbrev Heap:=List (Nat × Ob)
def hget:Heap→Nat→Option Ob
 | [],_=>none
 | (k',o)::l,k=>if k'=k then some o else hget l k
def hput:Heap→Nat→Ob→Heap
 | [],k,o=>[(k,o)]
 | (k',o')::l,k,o=>if k=k' then (k,o)::l else if k<k' then (k,o)::(k',o')::l else (k',o')::hput l k o
def hdel:Heap→Nat→Heap
 | [],_=>[]
 | (k',o)::l,k=>if k'=k then hdel l k else (k',o)::hdel l k
theorem hget_hput (l:Heap)(k:Nat)(o:Ob):hget (hput l k o) k=some o:=by
 induction l with
 | nil=>simp[hput,hget]
 | cons a l ih=>
  obtain⟨k',o'⟩:=a;simp only[hput]
  split
  ·simp[hget]
  ·split
   ·simp[hget]
   ·rename_i h1 h2;simp only[hget];rw[if_neg (fun e=>h1 e.symm)];exact ih
theorem hgN (l:Heap)(k k2:Nat)(o:Ob)(h:k2≠k):hget (hput l k o) k2=hget l k2:=by
 induction l with
 | nil=>simp[hput,hget,Ne.symm h]
 | cons a l ih=>
  obtain⟨k',o'⟩:=a;simp only[hput]
  split
  ·rename_i e;subst e;simp[hget,Ne.symm h]
  ·split
   ·simp[hget,Ne.symm h]
   ·simp only[hget]
    split
    ·rfl
    ·exact ih
theorem hget_hdel (l:Heap)(k:Nat):hget (hdel l k) k=none:=by
 induction l with
 | nil=>simp[hdel,hget]
 | cons a l ih=>
  obtain⟨k',o'⟩:=a;simp only[hdel]
  split
  ·exact ih
  ·rename_i h;simp[hget,h,ih]
theorem hget_hdel_ne (l:Heap)(k k2:Nat)(h:k2≠k):hget (hdel l k) k2=hget l k2:=by
 induction l with
 | nil=>simp[hdel,hget]
 | cons a l ih=>
  obtain⟨k',o'⟩:=a;simp only[hdel]
  split
  ·rename_i e;subst e;simp[hget,Ne.symm h,ih]
  ·simp only[hget]
   split
   ·rfl
   ·exact ih
theorem hput_comm (l:Heap)(k1 k2:Nat)(o1 o2:Ob)(h:k1≠k2):hput (hput l k1 o1) k2 o2=hput (hput l k2 o2) k1 o1:=by
 induction l with
 | nil=>
  simp only[hput]
  rcases Nat.lt_or_gt_of_ne h with h' | h'
  ·simp[h,Ne.symm h,h',Nat.lt_asymm h']
  ·simp[h,Ne.symm h,h',Nat.lt_asymm h']
 | cons a l ih=>
  obtain⟨k',o'⟩:=a;simp only[hput]
  by_cases e1:k1=k'
  ·subst e1;simp only[if_true,hput,if_neg (Ne.symm h)]
   by_cases l2:k2<k1
   ·simp[l2,hput,h,Nat.lt_asymm l2]
   ·simp[l2,hput]
  ·by_cases e2:k2=k'
   ·subst e2;simp only[if_neg e1,if_true,hput]
    by_cases l1:k1<k2
    ·simp[l1,hput,Ne.symm h,Nat.lt_asymm l1]
    ·simp[l1,hput,e1]
   ·simp only[if_neg e1,if_neg e2]
    by_cases l1:k1<k'<;>by_cases l2:k2<k'
    ·simp only[if_pos l1,if_pos l2,hput,if_neg h,if_neg (Ne.symm h)]
     rcases Nat.lt_or_gt_of_ne h with h' | h'
     ·simp[h',Nat.lt_asymm h',l1,l2,e1,e2]
     ·simp[h',Nat.lt_asymm h',l1,l2,e1,e2]
    ·have h3:k1<k2:=by omega
     simp[l1,l2,hput,h,Ne.symm h,h3,Nat.lt_asymm h3,e1,e2]
    ·have h3:k2<k1:=by omega
     simp[l1,l2,hput,h,Ne.symm h,h3,Nat.lt_asymm h3,e1,e2]
    ·simp[l1,l2,hput,e1,e2,ih]
def isCell:Value→Prop
 | .agg _ | .tuple _=>False
 | _=>True
theorem isCell.cells {v:Value}(h:isCell v):v.cells=#[v]:=by cases v<;>first | exact h.elim | rfl
inductive RepF (w:World) (fz:Nat→Prop):Value→C→Prop where
 | lit (v:Value) (h:isCell v):RepF w fz v (.lit v)
 | sl (a:Option Addr) (len cap:Nat) (es:List (List C)) (sz:Nat) (cv:Nat→Nat→Value) (hl:es.length=len) (hs:∀ e∈es,e.length=sz) (hc:len≤cap)
   (hcells:0<len→∃ b o,a=some ⟨b,o,none⟩∧fz b∧∀ i j,i<len→j<sz→w.cell? ⟨b,o+i*sz+j,none⟩=some (cv i j))
   (hrep:∀ i j e c,es[i]?=some e→e[j]?=some c→RepF w fz (cv i j) c):RepF w fz (.slice a len cap) (.sl sz es)
 | fptr (b o off:Nat) (cs:List C) (cv:Nat→Value) (hb:fz b) (hcells:∀ j,j<cs.length→w.cell? ⟨b,o+j,none⟩=some (cv j))
   (hrep:∀ j c,cs[j]?=some c→RepF w fz (cv j) c):RepF w fz (.pointer (some ⟨b,o+off,none⟩)) (.fptr cs off)
 | fn (f:FuncId) (vs:Array Value) (caps:List C) (hn:vs.size=caps.length) (hrep:∀ (j:Nat) (v:Value) (c:C),vs[j]?=some v→caps[j]?=some c→RepF w fz v c):RepF w fz (.func (.func f) #[] vs) (.fn f caps)
 | junk (v:Value) (h:isCell v):RepF w fz v .junk
inductive RepC (w:World) (fz:Nat→Prop) (ρ:Nat→Option Loc):Value→C→Prop where
 | frz {v:Value} {c:C} (h:RepF w fz v c):RepC w fz ρ v c
 | nil (h:Nat) (hr:ρ h=some .nil):RepC w fz ρ (.slice none 0 0) (.ref h 0 0)
 | ref (h off len b base cap sz:Nat) (a:Option Addr) (hr:ρ h=some (.at b base cap sz)) (hc:off+len≤cap) (ha:off<cap→a=some ⟨b,base+off*sz,none⟩) (hs:∃ o,a=some ⟨b,o,none⟩):RepC w fz ρ (.slice a len (cap-off)) (.ref h off len)
 | ptr (h i off b base cap sz:Nat) (hr:ρ h=some (.at b base cap sz)):RepC w fz ρ (.pointer (some ⟨b,base+i*sz+off,none⟩)) (.ptr h i off)
theorem RepF.cell {w:World}{fz:Nat→Prop}{v:Value}{c:C}(h:RepF w fz v c):isCell v:=by
 cases h with
 | lit _ h=>exact h
 | sl=>trivial
 | fptr=>trivial
 | fn=>trivial
 | junk _ h=>exact h
theorem RepC.cell {w:World}{fz:Nat→Prop}{ρ:Nat→Option Loc}{v:Value}{c:C}(h:RepC w fz ρ v c):isCell v:=by
 cases h with
 | frz h=>exact h.cell
 | nil=>trivial
 | ref=>trivial
 | ptr=>trivial
theorem cell?_of_heap {w w':World}{b o:Nat}(h:w'.heap[b]?=w.heap[b]?):w'.cell? ⟨b,o,none⟩=w.cell? ⟨b,o,none⟩:=by
 simp[World.cell?,h]
theorem RepF.mono {w w':World}{fz fz':Nat→Prop}{v:Value}{c:C}(h:RepF w fz v c)(hw:∀ b,fz b→w'.heap[b]?=w.heap[b]?)(hf:∀ b,fz b→fz' b):RepF w' fz' v c:=by
 induction h with
 | lit v h=>exact .lit v h
 | sl a len cap es sz cv hl hs hc hcells _ ih=>
  refine .sl a len cap es sz cv hl hs hc (fun hp=>?_) ih;obtain⟨b,o,ha,hb,hcc⟩:=hcells hp;exact⟨b,o,ha,hf b hb,fun i j hi hj=>(cell?_of_heap (hw b hb)).trans (hcc i j hi hj)⟩
 | fptr b o off cs cv hb hcells _ ih=>exact .fptr b o off cs cv (hf b hb) (fun j hj=>(cell?_of_heap (hw b hb)).trans (hcells j hj)) ih
 | fn f vs caps hn _ ih=>exact .fn f vs caps hn ih
 | junk v h=>exact .junk v h
theorem RepC.mono {w w':World}{fz fz':Nat→Prop}{ρ ρ':Nat→Option Loc}{v:Value}{c:C}(h:RepC w fz ρ v c)(hw:∀ b,fz b→w'.heap[b]?=w.heap[b]?)(hf:∀ b,fz b→fz' b)
  (hr:∀ k l,ρ k=some l→ρ' k=some l):RepC w' fz' ρ' v c:=by
 cases h with
 | frz h=>exact .frz (h.mono hw hf)
 | nil h e=>exact .nil h (hr _ _ e)
 | ref h off len b base cap sz a e hc ha hs=>exact .ref h off len b base cap sz a (hr _ _ e) hc ha hs
 | ptr h i off b base cap sz e=>exact .ptr h i off b base cap sz (hr _ _ e)
def C.free:C→Bool
 | .ref _ _ _=>false
 | .ptr _ _ _=>false
 | _=>true
theorem RepC.of_free {w:World}{fz:Nat→Prop}{ρ:Nat→Option Loc}{v:Value}{c:C}(h:RepC w fz ρ v c)(hf:c.free=true):RepF w fz v c:=by
 cases h with
 | frz h=>exact h
 | nil=>cases hf
 | ref=>cases hf
 | ptr=>cases hf
def C.has (h:Nat):C→Bool
 | .ref k _ _=>k==h
 | .ptr k _ _=>k==h
 | _=>false
def C.kill (h:Nat)(c:C):C:=if c.has h then .junk else c
theorem RepC.kill {w w':World}{fz fz':Nat→Prop}{ρ ρ':Nat→Option Loc}{v:Value}{c:C}(h:Nat)(hh:RepC w fz ρ v c)(hw:∀ b,fz b→w'.heap[b]?=w.heap[b]?)(hf:∀ b,fz b→fz' b)
  (hr:∀ k l,k≠h→ρ k=some l→ρ' k=some l):RepC w' fz' ρ' v (c.kill h):=by
 unfold C.kill
 split
 ·exact .frz (.junk _ hh.cell)
 ·rename_i hn
  cases hh with
  | frz h=>exact .frz (h.mono hw hf)
  | nil k e=>exact .nil k (hr _ _ (fun he=>hn (by simp[C.has,he])) e)
  | ref k off len b base cap sz a e hc ha hs=>exact .ref k off len b base cap sz a (hr _ _ (fun he=>hn (by simp[C.has,he])) e) hc ha hs
  | ptr k i off b base cap sz e=>exact .ptr k i off b base cap sz (hr _ _ (fun he=>hn (by simp[C.has,he])) e)
def RepL (w:World)(fz:Nat→Prop)(ρ:Nat→Option Loc)(vs:List Value)(cs:List C):Prop:=vs.length=cs.length∧∀ (i:Nat) (v:Value) (c:C),vs[i]?=some v→cs[i]?=some c→RepC w fz ρ v c
def Rep1 (w:World)(fz:Nat→Prop)(ρ:Nat→Option Loc)(v:Value):T→Prop
 | .c x=>RepC w fz ρ v x
 | .agg cs=>∃ vs:Array Value,v=.agg vs∧RepL w fz ρ vs.toList cs
 | .tup _=>False
 | .itr _ _=>False
 | .junk=>True
def RepT (w:World)(fz:Nat→Prop)(ρ:Nat→Option Loc)(v:Value):T→Prop
 | .c x=>RepC w fz ρ v x
 | .agg cs=>∃ vs:Array Value,v=.agg vs∧RepL w fz ρ vs.toList cs
 | .tup ts=>∃ vs:Array Value,v=.tuple vs∧vs.size=ts.length∧∀ (i:Nat) (t:T),ts[i]?=some t→∃ v',vs[i]?=some v'∧Rep1 w fz ρ v' t
 | .itr _ _=>True
 | .junk=>True
def T.cells:T→Option (List C)
 | .c x=>some [x]
 | .agg cs=>some cs
 | _=>none
section
variable {w w':World} {fz fz':Nat→Prop} {ρ ρ':Nat→Option Loc} {v:Value}
theorem RepL.mono {vs:List Value}{cs:List C}(h:RepL w fz ρ vs cs)(hw:∀ b,fz b→w'.heap[b]?=w.heap[b]?)(hf:∀ b,fz b→fz' b)
  (hr:∀ k l,ρ k=some l→ρ' k=some l):RepL w' fz' ρ' vs cs:=⟨h.1,fun i v c hv hc=>(h.2 i v c hv hc).mono hw hf hr⟩
theorem RepL.kill {vs:List Value}{cs:List C}(h:Nat)(hh:RepL w fz ρ vs cs)(hw:∀ b,fz b→w'.heap[b]?=w.heap[b]?)(hf:∀ b,fz b→fz' b)
  (hr:∀ k l,k≠h→ρ k=some l→ρ' k=some l):RepL w' fz' ρ' vs (cs.map (C.kill h)):=by
 refine⟨by simpa using hh.1,fun i v c hv hc=>?_⟩;rw[List.getElem?_map,Option.map_eq_some_iff] at hc;obtain⟨c0,h0,rfl⟩:=hc;exact (hh.2 i v c0 hv h0).kill h hw hf hr
theorem Rep1.mono {t:T}(h:Rep1 w fz ρ v t)(hw:∀ b,fz b→w'.heap[b]?=w.heap[b]?)(hf:∀ b,fz b→fz' b)
  (hr:∀ k l,ρ k=some l→ρ' k=some l):Rep1 w' fz' ρ' v t:=by
 cases t with
 | c x=>exact RepC.mono h hw hf hr
 | agg cs=>obtain⟨vs,e,h⟩:=h; exact⟨vs,e,h.mono hw hf hr⟩
 | tup _=>exact h.elim
 | itr _ _=>exact h.elim
 | junk=>trivial
theorem RepT.mono {t:T}(h:RepT w fz ρ v t)(hw:∀ b,fz b→w'.heap[b]?=w.heap[b]?)(hf:∀ b,fz b→fz' b)
  (hr:∀ k l,ρ k=some l→ρ' k=some l):RepT w' fz' ρ' v t:=by
 cases t with
 | c x=>exact RepC.mono h hw hf hr
 | agg cs=>obtain⟨vs,e,h⟩:=h; exact⟨vs,e,h.mono hw hf hr⟩
 | tup ts=>
  obtain⟨vs,e,hs,h⟩:=h;refine⟨vs,e,hs,fun i t ht=>?_⟩;obtain⟨v',hv,h1⟩:=h i t ht;exact⟨v',hv,h1.mono hw hf hr⟩
 | itr _ _=>trivial
 | junk=>trivial
def T.kill1 (h:Nat):T→T
 | .c x=>.c (x.kill h)
 | .agg cs=>.agg (cs.map (C.kill h))
 | _=>.junk
def T.kill (h:Nat):T→T
 | .c x=>.c (x.kill h)
 | .agg cs=>.agg (cs.map (C.kill h))
 | .tup ts=>.tup (ts.map (T.kill1 h))
 | .itr q pos=>.itr q pos
 | .junk=>.junk
theorem Rep1.kill {t:T}(h:Nat)(hh:Rep1 w fz ρ v t)(hw:∀ b,fz b→w'.heap[b]?=w.heap[b]?)(hf:∀ b,fz b→fz' b)
  (hr:∀ k l,k≠h→ρ k=some l→ρ' k=some l):Rep1 w' fz' ρ' v (t.kill1 h):=by
 cases t with
 | c x=>exact RepC.kill h hh hw hf hr
 | agg cs=>obtain⟨vs,e,hh⟩:=hh; exact⟨vs,e,hh.kill h hw hf hr⟩
 | tup _=>exact hh.elim
 | itr _ _=>exact hh.elim
 | junk=>trivial
theorem RepT.kill {t:T}(h:Nat)(hh:RepT w fz ρ v t)(hw:∀ b,fz b→w'.heap[b]?=w.heap[b]?)(hf:∀ b,fz b→fz' b)
  (hr:∀ k l,k≠h→ρ k=some l→ρ' k=some l):RepT w' fz' ρ' v (t.kill h):=by
 cases t with
 | c x=>exact RepC.kill h hh hw hf hr
 | agg cs=>obtain⟨vs,e,hh⟩:=hh; exact⟨vs,e,hh.kill h hw hf hr⟩
 | tup ts=>
  obtain⟨vs,e,hs,hh⟩:=hh;refine⟨vs,e,by simpa using hs,fun i t ht=>?_⟩;rw[List.getElem?_map,Option.map_eq_some_iff] at ht;obtain⟨t0,h0,rfl⟩:=ht;obtain⟨v',hv,h1⟩:=hh i t0 h0;exact⟨v',hv,h1.kill h hw hf hr⟩
 | itr _ _=>trivial
 | junk=>trivial
theorem RepT.cells {t:T}{cs:List C}(h:RepT w fz ρ v t)(hc:t.cells=some cs):RepL w fz ρ v.cells.toList cs:=by
 cases t with
 | c x=>
  injection hc with hc;subst hc;have h:RepC w fz ρ v x:=h;rw[h.cell.cells];refine⟨rfl,fun i v' c hv hc=>?_⟩
  cases i with
  | zero=>simp at hv hc; subst hv; subst hc; exact h
  | succ i=>simp at hv
 | agg cs'=>
  injection hc with hc;subst hc;obtain⟨vs,rfl,h⟩:=h;exact h
 | tup _=>cases hc
 | itr _ _=>cases hc
 | junk=>cases hc
end
def Marks (box:Bool)(base sz n:Nat)(fr:Nat × Nat):Prop:=(fr.1=fr.2∨n≤fr.1)∧(box=true→base=0∧n=sz)
theorem thaw {n:Nat}{fr:Nat × Nat}(h:fr.1=fr.2∨n≤fr.1):∀ off,off<n→¬ (fr.1≤off∧off<fr.2):=fun off h1 h2=>by omega
def RepO (w:World)(fz:Nat→Prop)(ρ:Nat→Option Loc)(l:Loc)(o:Ob):Prop:=
 (∀ e∈o.es,e.length=o.sz)∧(o.free=true→∀ e∈o.es,∀ x∈e,C.free x=true) ∧
 match l with
 | .nil=>o.es=[]∧o.box=false
 | .at b base cap sz=>sz=o.sz∧o.es.length≤cap∧∃ c fr,w.heap[b]?=some (.cells c o.elem fr)∧base+cap*sz≤c.size∧Marks o.box base sz c.size fr ∧
   ∀ i j e x,o.es[i]?=some e→e[j]?=some x→∃ v,c[base+i*sz+j]?=some v∧RepC w fz ρ v x
structure St where
 tm:List T
 hp:Heap
 fr:List Nat
def GlobF [Globals] (w:World)(fz:Nat→Prop):Prop:=∀ g cs,Globals.gl g=some cs→fz g∧(∀ j v,cs[j]?=some v→w.cell? ⟨g,j,none⟩=some v)∧∃ c t fr,w.heap[g]?=some (.cells c t fr)∧c.size=cs.length
theorem GlobF.mono [Globals] {w w':World}{fz fz':Nat→Prop}(h:GlobF w fz)(hw:∀ b,fz b→w'.heap[b]?=w.heap[b]?)(hf:∀ b,fz b→fz' b):GlobF w' fz':=fun g cs hg=>by
 obtain⟨h1,h2,c,t,fr,h3,h4⟩:=h g cs hg;exact⟨hf g h1,fun j v hj=>(cell?_of_heap (hw g h1)).trans (h2 j v hj),c,t,fr,(hw g h1).trans h3,h4⟩
def ItrAt (w:World)(B:Bs)(fz:Nat→Prop)(ρ:Nat→Option Loc)(v:Value)(q:ByteArray)(pos:Nat):Prop:=
 ∃ b,v=.pointer (some ⟨b,0,none⟩)∧B.owns b∧w.heap[b]?=some (.stringIter q pos)∧¬ fz b∧∀ k b' base cap sz,ρ k=some (.at b' base cap sz)→b'≠b
structure Rel [Globals] (w0:World) (B:Bs) (f0:Nat→Prop) (fz:Nat→Prop) (ρ:Nat→Option Loc) (s:St) (tm:Array Value) (w:World):Prop where
 size:tm.size=s.tm.length
 tmp:∀ (i:Nat) (t:T),s.tm[i]?=some t→∃ v,tm[i]?=some v∧RepT w fz ρ v t
 dom1:∀ k l,ρ k=some l→∃ o,hget s.hp k=some o
 obj:∀ k o,hget s.hp k=some o→∃ l,ρ k=some l∧RepO w fz ρ l o
 inj:∀ k k' b base cap sz base' cap' sz',k∉s.fr→k'∉s.fr→ρ k=some (.at b base cap sz)→ρ k'=some (.at b base' cap' sz')→k=k'
 own:∀ k b base cap sz,ρ k=some (.at b base cap sz)→b<w.heap.size∧(k∉s.fr→B.owns b∧¬ fz b)∧(k∈s.fr→fz b)
 fzl:∀ b,fz b→b<w.heap.size
 fz0:∀ b,f0 b→fz b
 fz1:∀ b,fz b→f0 b∨B.owns b
 below:Past B w0 w
 frd:∀ k,k∈s.fr→∃ o,hget s.hp k=some o
 glz:GlobF w fz
 itr:∀ (i:Nat) (q:ByteArray) (pos:Nat),s.tm[i]?=some (.itr q pos)→∃ v,tm[i]?=some v∧ItrAt w B fz ρ v q pos
 boxes:∀ k l,B.box k=some l→lentNm k=true∧ρ k=some l∧∃ o,hget s.hp k=some o∧o.box=true
theorem RepO.mono {w w':World}{fz fz':Nat→Prop}{ρ ρ':Nat→Option Loc}{l:Loc}{o:Ob}(h:RepO w fz ρ l o)(hl:∀ b base cap sz,l=.at b base cap sz→w'.heap[b]?=w.heap[b]?)
  (hw:∀ b,fz b→w'.heap[b]?=w.heap[b]?) (hf:∀ b,fz b→fz' b) (hr:∀ k l,ρ k=some l→ρ' k=some l):RepO w' fz' ρ' l o:=by
 obtain⟨h1,h0,h⟩:=h;refine⟨h1,h0,?_⟩
 cases l with
 | nil=>exact h
 | «at» b base cap sz=>
  obtain⟨h1,h2,c,fr,h3,h4,h5,h6⟩:=h;refine⟨h1,h2,c,fr,(hl _ _ _ _ rfl).trans h3,h4,h5,fun i j e x he hx=>?_⟩;obtain⟨v,hv,hrep⟩:=h6 i j e x he hx;exact⟨v,hv,hrep.mono hw hf hr⟩
def Ob.kill (h:Nat)(o:Ob):Ob:={ o with es:=o.es.map fun e=>e.map (C.kill h) }
theorem C.kill_free {h:Nat}{c:C}(hc:c.free=true):(c.kill h).free=true:=by
 unfold C.kill
 split
 ·rfl
 ·exact hc
theorem RepO.kill {w w':World}{fz fz':Nat→Prop}{ρ ρ':Nat→Option Loc}{l:Loc}{o:Ob}(h:Nat)(hh:RepO w fz ρ l o)(hl:∀ b base cap sz,l=.at b base cap sz→w'.heap[b]?=w.heap[b]?)
  (hw:∀ b,fz b→w'.heap[b]?=w.heap[b]?) (hf:∀ b,fz b→fz' b) (hr:∀ k l,k≠h→ρ k=some l→ρ' k=some l):RepO w' fz' ρ' l (o.kill h):=by
 obtain⟨h1,h0,hh⟩:=hh;refine⟨fun e he=>?_,fun hfr e he x hx=>?_,?_⟩
 ·simp only[Ob.kill,List.mem_map] at he ⊢;obtain⟨e0,h0,rfl⟩:=he;rw[List.length_map];exact h1 e0 h0
 ·simp only[Ob.kill,List.mem_map] at he;obtain⟨e0,he0,rfl⟩:=he;obtain⟨x0,hx0,rfl⟩:=List.mem_map.1 hx;exact C.kill_free (h0 hfr e0 he0 x0 hx0)
 cases l with
 | nil=>exact⟨by simp[Ob.kill,hh.1],hh.2⟩
 | «at» b base cap sz=>
  obtain⟨h1,h2,c,fr,h3,h4,h5,h6⟩:=hh;refine⟨h1,by simpa[Ob.kill] using h2,c,fr,(hl _ _ _ _ rfl).trans h3,h4,h5,fun i j e x he hx=>?_⟩;simp only[Ob.kill,List.getElem?_map,Option.map_eq_some_iff] at he;obtain⟨e0,he0,rfl⟩:=he;rw[List.getElem?_map,Option.map_eq_some_iff] at hx;obtain⟨x0,hx0,rfl⟩:=hx;obtain⟨v,hv,hrep⟩:=h6 i j e0 x0 he0 hx0;exact⟨v,hv,hrep.kill h hw hf hr⟩
end Go.Vabs
