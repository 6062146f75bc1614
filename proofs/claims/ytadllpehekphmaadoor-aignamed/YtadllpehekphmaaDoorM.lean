/- What the listed variables hold is what the interpreter takes them to hold. No condition. -/
import Derived.Test.YtadllpehekphmaaDoorRows
import Derived.Test.YtadllpehekphmaaDoorK
import Derived.Lib.LaidU8
import Derived.Test.YtadllpehekphmaaDoorSh
import Derived.Test.YtadllpehekphmaaDoorVidC
import Derived.Lib.AppendIntMem
namespace Go.Proofs.YtadllpehekphmaaDoor
open Go.Vabs Go.Vid Go.Lib
def laidL : List (String × DataW Unit) := [("math/bits.deBruijn32tab", Rows.laid_math_bits_deBruijn32tab), ("math/bits.deBruijn64tab", Rows.laid_math_bits_deBruijn64tab), ("internal/strconv.uint64pow10", Rows.laid_internal_strconv_uint64pow10), ("unicode/utf8.acceptRanges", Rows.laid_unicode_utf8_acceptRanges), ("unicode/utf8.first", Rows.laid_unicode_utf8_first)]
theorem gPow : Tryd.prog.globalNamed "internal/strconv.uint64pow10" = some 2 := by kernel_rfl
theorem gFirst : Tryd.prog.globalNamed "unicode/utf8.first" = some 0 := by kernel_rfl
theorem gRanges : Tryd.prog.globalNamed "unicode/utf8.acceptRanges" = some 1 := by kernel_rfl
theorem tPow:(Tryd.prog.globals[2]?).map (·.type)=some 131:=by kernel_rfl
theorem tFirst:(Tryd.prog.globals[0]?).map (·.type)=some 125:=by kernel_rfl
theorem tRanges:(Tryd.prog.globals[1]?).map (·.type)=some 129:=by kernel_rfl
theorem c5:Tryd.prog.cellsOf 5=1:=by kernel_rfl
theorem c117:Tryd.prog.cellsOf 113=1:=by kernel_rfl
theorem c126:Tryd.prog.cellsOf 131=20:=by kernel_rfl
theorem c132:Tryd.prog.cellsOf 125=256:=by kernel_rfl
theorem c134:Tryd.prog.cellsOf 128=2:=by kernel_rfl
theorem c135:Tryd.prog.cellsOf 129=32:=by kernel_rfl
theorem pow_data:(Rows.laid_internal_strconv_uint64pow10:DataW Unit)=tabData .u64 pow10Tab:=rfl
theorem first_data:(Rows.laid_unicode_utf8_first:DataW Unit)=tabData .u8 first:=by
 show DataW.agg (Go.Pinned.numbers .u8 Go.Pinned.utf8FirstZ)=_;unfold Go.Pinned.numbers tabData first
 rw[List.map_map];rfl
theorem ranges_data:(Rows.laid_unicode_utf8_acceptRanges:DataW Unit)=.agg (ranges.map fun p=>.agg ([p.1,p.2].map fun z=>.lit (.int .u8 z))):=rfl
theorem arr_len {H:Type}{enc:TypeId × Value→H}{P:Program}{w:World}{base:Nat}{sp:Nat→Bool}{held:Bool}{fuel:Nat}{t e:TypeId}{n:Nat}{cs:List Value}{d:DataW H}{p:List MemPlace}(ht:P.underlying t=some (.array n e))
  (h:DataW.trod enc P w base sp held fuel t cs=some (d,p)):cs.length=P.cellsOf t:=by
 cases fuel with
 | zero=>simp[DataW.trod] at h
 | succ fuel=>
  simp only[DataW.trod,ht] at h
  split at h
  ·rename_i hl
   first
    | exact hl
    | exact hl.1
    | exact hl.2
    | omega
  ·cases h
theorem tab_at {W:World}{n:String}{g t e m:Nat}{k:IntKind}{zs:List Int}(hv:VarReads Tryd.prog W n (tabData k zs))(hg:Tryd.prog.globalNamed n=some g)(hty:(Tryd.prog.globals[g]?).map (·.type)=some t)(ht:Tryd.prog.underlying t=some (.array m e))(he:Tryd.prog.underlying e=some (.int k))(hce:Tryd.prog.cellsOf e=1)(hct:Tryd.prog.cellsOf t=m):
  ∃ c,W.var? Tryd.prog n=some c∧c.toList=zs.map (Value.int k):=by
 obtain⟨g',t',cs,fuel,p,hg',hty',hvar,hd⟩:=hv;obtain rfl:=Option.some.inj (hg.symm.trans hg');obtain rfl:=Option.some.inj (hty.symm.trans hty');exact⟨cs,hvar,cells_of_tab ht he hce hct hd⟩
theorem var_at {P:Program}{W:World}{n:String}{g:Nat}{c:Array Value}(hg:P.globalNamed n=some g)(h:W.var? P n=some c):∃ t fr,W.heap[g]?=some (.cells c t fr):=by
 simp only[World.var?,hg,Option.bind_some] at h
 split at h
 ·rename_i cs t fr heq;injection h with h;subst h;exact⟨_,_,heq⟩
 ·cases h
theorem glob_all {W:World}(h:laidMet Tryd.prog laidL W):∀ g cs,Globals.gl g=some cs→(∀ j v,cs[j]?=some v→W.cell? ⟨g,j,none⟩=some v)∧∃ c t fr,W.heap[g]?=some (.cells c t fr)∧c.size=cs.length:=by
 have h1 : VarReads Tryd.prog W "internal/strconv.uint64pow10" (tabData .u64 pow10Tab) := pow_data ▸ laidMet.reads h (.tail _ (.tail _ (.head _)))
 have h3 : VarReads Tryd.prog W "unicode/utf8.first" (tabData .u8 first) := first_data ▸ laidMet.reads h (.tail _ (.tail _ (.tail _ (.tail _ (.head _)))))
 have h4 : VarReads Tryd.prog W "unicode/utf8.acceptRanges" (.agg (ranges.map fun p => .agg ([p.1, p.2].map fun z => .lit (.int .u8 z)))) := ranges_data ▸ laidMet.reads h (.tail _ (.tail _ (.tail _ (.head _))))
 intro g cs hg
 match g,hg with
 | 2,hg=>
  obtain rfl:pow10Tab.map (Value.int .u64)=cs:=Option.some.inj hg;obtain⟨c,hvar,hc⟩:=tab_at h1 gPow tPow Tryd.underlying131 Tryd.underlying113 c117 c126;obtain⟨t,fr,hh⟩:=var_at gPow hvar;refine⟨fun j v hj=>?_,c,t,fr,hh,by rw[← Array.length_toList,hc]⟩;rw[World.var?_cell gPow hvar j,← Array.getElem?_toList,hc];exact hj
 | 0,hg=>
  obtain rfl:tabBV first=cs:=Option.some.inj hg
  obtain⟨c,hvar,hc⟩:=tab_at h3 gFirst tFirst Tryd.underlying125 Tryd.underlying5 c5 c132;obtain⟨t,fr,hh⟩:=var_at gFirst hvar;refine⟨fun j v hj=>?_,c,t,fr,hh,by rw[← Array.length_toList,hc]; rfl⟩;rw[World.var?_cell gFirst hvar j,← Array.getElem?_toList,hc];exact hj
 | 1,hg=>
  obtain rfl:tabPV ranges=cs:=Option.some.inj hg;obtain⟨g,t,cs,fuel,p,hg,hty,hvar,hd⟩:=h4;obtain rfl:=Option.some.inj (gRanges.symm.trans hg);obtain rfl:=Option.some.inj (tRanges.symm.trans hty);obtain⟨t,fr,hh⟩:=var_at hg hvar;refine⟨fun j v hj=>?_,cs,t,fr,hh,by rw[← Array.length_toList,arr_len Tryd.underlying129 hd,c135]; rfl⟩;have hlen:ranges.length=16:=rfl;have hjl:j<32:=by
   have:=(List.getElem?_eq_some_iff.1 hj).1;have:(tabPV ranges).length=32:=rfl;omega
  have hi:j / 2<16:=by omega
  obtain⟨fuel',d,q,hdi,he⟩:=array_elem Tryd.underlying129 hd (j / 2) hi;rw[List.getElem?_map,List.getElem?_eq_getElem (by omega),Option.map_some,Option.some.injEq] at hdi;subst hdi;rw[c134] at he;have hcs:=ints_of_struct Tryd.underlying128 (fun j f hj=>by
   match j,hj with
   | 0,hj=>simp at hj; subst hj; exact⟨Tryd.underlying5,rfl,c5⟩
   | 1,hj=>simp at hj; subst hj; exact⟨Tryd.underlying5,rfl,c5⟩
   | j+2,hj=>simp at hj) (by rw[c134]; rfl) he
  have key:∀ l:List (Int × Int),∀ i k:Nat,k<2→(hil:i<l.length)→(tabPV l)[i*2+k]?=([l[i].1,l[i].2].map fun z=>Value.int .u8 z)[k]?:=by
   intro l
   induction l with
   | nil=>intro i k _ hil; simp at hil
   | cons p l ih=>
    intro i k hk hil;have hc:tabPV (p::l)=.int .u8 p.1::.int .u8 p.2::tabPV l:=rfl
    cases i with
    | zero=>
     rw[hc]
     match k,hk with
     | 0,_=>rfl
     | 1,_=>rfl
    | succ i=>
     rw[hc,show (i+1)*2+k=(i*2+k)+1+1 by omega,List.getElem?_cons_succ,List.getElem?_cons_succ];exact ih i k hk (by simpa using hil)
  have hk:=key ranges (j / 2) (j % 2) (by omega) (by omega);rw[show j / 2*2+j % 2=j by omega,hj,← hcs] at hk;rw[World.var?_cell hg hvar j,← Array.getElem?_toList];rw[List.getElem?_take,if_pos (by omega),List.getElem?_drop,show j / 2*2+j % 2=j by omega] at hk;exact hk.symm
theorem glob_cells {W:World}(h:laidMet Tryd.prog laidL W):∀ g cs,Globals.gl g=some cs→∀ j v,cs[j]?=some v→W.cell? ⟨g,j,none⟩=some v:=fun g cs hg=>(glob_all h g cs hg).1
theorem glob_at {W:World}(h:laidMet Tryd.prog laidL W):∀ g cs,Globals.gl g=some cs→∃ c t fr,W.heap[g]?=some (.cells c t fr)∧c.size=cs.length:=fun g cs hg=>(glob_all h g cs hg).2
theorem pow_is {w : World} {fz : Nat → Prop} (h : GlobF w fz) : TabIs Tryd.prog w "internal/strconv.uint64pow10" .u64 pow10Tab := by
 obtain⟨_,hcell,c,t,fr,hh,hsz⟩:=h 2 _ rfl;unfold TabIs World.var?;rw[gPow,Option.bind_some,hh];simp only;congr 1;apply Array.ext';rw[List.toList_toArray];apply List.ext_getElem?;intro j;rw[Array.getElem?_toList]
 by_cases hj:j<c.size
 ·have hj':j<(pow10Tab.map (Value.int .u64)).length:=by rw[← hsz]; exact hj
  have:=hcell j _ (List.getElem?_eq_getElem hj');simp only[World.cell?,hh] at this;rw[List.getElem?_eq_getElem hj'];exact this
 ·rw[Array.getElem?_eq_none (by omega),List.getElem?_eq_none (by rw[← hsz]; omega)]
theorem primOk:PrimOK Tryd.prog:=by
 intro f args r h;have h':(match (generalizing:=false) f with
  | 42=>prItoa args
  | 46=>prJoin args
  | 45=>prCheck 56 5 args
  | 26=>prStr 56 5 args
  | _=>none)=some r:=h
 split at h'
 ·refine⟨okItoa (fun n h0 h1 w fz hgl=>?_) h',Tryd.f42,_,Tryd.func42,by kernel_rfl,rfl⟩;exact (Any.strconv_Itoa Tryd.laysM171 n h0 h1 w (pow_is hgl)).mono fun e w' ⟨he,k,os,hw⟩=>⟨he,hw▸below_grow _ w (Nat.le_refl _) k os⟩
 ·exact⟨okJoin (fun bk o c xs sep w hcells hbk hN hcap hlen=>Any.strings_Join_48 Tryd.lays156 Tryd.x156 bk o c xs sep w hcells hbk hN hcap hlen) h',Tryd.f46,_,Tryd.func46,by kernel_rfl,rfl⟩
 ·exact⟨okCheck (fun b w=>Any.Builder_copyCheck_fresh Tryd.lays240 Tryd.x156.toX72 b w) (fun b w=>Any.Builder_copyCheck_used Tryd.lays240 Tryd.x156.toX72 b w) h',Tryd.f45,_,Tryd.func45,by kernel_rfl,rfl⟩
 ·exact⟨okStr (fun b g off n cap cells zs w=>Any.Builder_String_at Tryd.lays169 Tryd.x169 b g off n cap cells zs w) (fun b cap a w h0 h1 h2=>Any.Builder_String_void Tryd.lays169 Tryd.x169 b cap a w h0 h1 h2) h',Tryd.f26,_,Tryd.func26,by kernel_rfl,rfl⟩
 ·cases h'
theorem eqOk:EqOK Tryd.prog:=fun t ht=>by
 have h:t=47∨t=49∨t=53:=by
  have ht:eqT t=true:=ht;unfold eqT at ht
  split at ht
  ·exact .inl rfl
  ·exact .inr (.inl rfl)
  ·exact .inr (.inr rfl)
  ·cases ht
 rcases h with rfl | rfl | rfl
 ·exact⟨by kernel_rfl,by kernel_rfl,by kernel_rfl⟩
 ·exact⟨by kernel_rfl,by kernel_rfl,by kernel_rfl⟩
 ·exact⟨by kernel_rfl,by kernel_rfl,by kernel_rfl⟩
theorem ixOk:IxOK Tryd.prog:=⟨eqOk,fun f hf=>by
 have:f=81:=by simpa using hf
 subst this;exact⟨Tryd.f81,Tryd.func81,by kernel_rfl,by kernel_rfl,by kernel_rfl,by kernel_rfl⟩⟩
theorem envOk0:EnvOK Tryd.prog:=⟨ixOk,primOk⟩
end Go.Proofs.YtadllpehekphmaaDoor
