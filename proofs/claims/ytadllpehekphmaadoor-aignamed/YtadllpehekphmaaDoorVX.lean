/- A library: what a law's row asks: what comes in is data that fit. No condition. -/
import Derived.Test.YtadllpehekphmaaDoorVV
import Derived.WalkKit
import Derived.OpenShut
import Derived.Carry
import Derived.Laws.Strings
set_option linter.unusedSimpArgs false
set_option linter.unusedVariables false
namespace Go.Vabs
open Go.RowKit Go.Vid
def I64 (x:Int):Prop:=-9223372036854775808≤x∧x≤9223372036854775807
def U8 (x:Int):Prop:=0≤x∧x≤255
def Fits (k:IntKind)(x:Int):Prop:=k.min≤x∧x≤k.max
theorem fits_of {k:IntKind}{x:Int}(h:(Lit.int k x).wf=true):Fits k x:=by
 simpa[Lit.wf,Fits] using h
theorem Fits.i64 {x:Int}(h:Fits .i64 x):I64 x:=by
 obtain⟨h1,h2⟩:=h;rw[show IntKind.i64.min=-9223372036854775808 from by decide] at h1;rw[show IntKind.i64.max=9223372036854775807 from by decide] at h2;exact⟨h1,h2⟩
theorem Fits.u8 {x:Int}(h:Fits .u8 x):U8 x:=by
 obtain⟨h1,h2⟩:=h;rw[show IntKind.u8.min=0 from by decide] at h1;rw[show IntKind.u8.max=255 from by decide] at h2;exact⟨h1,h2⟩
def FitsL {α:Type}(by0:Nat)(wf:α→Prop)(l:List α):Prop:=l.length*by0≤reachBytes∧∀ x∈l,wf x
def FitsS (s:ByteArray):Prop:=s.size≤reachBytes
section
variable {H:Type} {enc:TypeId × Value→H} {P:Program} {W:World}
theorem rd_int {t:TypeId}{k:IntKind}(hu:P.underlying t=some (.int k)):Reads enc P W t Int (fun x=>[.lit (.int k x)]) (Fits k):=(reads_int hu).as id (fun _=>rfl) fun _ h=>fits_of h
theorem rd_str {t:TypeId}(hu:P.underlying t=some .string):Reads enc P W t ByteArray (fun x=>[.lit (.string x)]) FitsS:=reads_str hu
theorem rd_slice {t e:TypeId}{y z:Ty}{α:Type}{cells:α→List C}{wf:α→Prop}(ht:Ty.of P t=some y)(hk:y.k=.slice e)(he:Ty.of P e=some z)(hz:0<z.size)(hr:Reads enc P W e α cells wf)(hc:∀ x,(cells x).length=z.size):
  Reads enc P W t (List α) (fun l=>[sls z.size cells l]) (FitsL z.bytes wf):=reads_slice ht hk he hz hr hc
theorem weights_each {ts:List TypeId}{ds:List (DataW H)}(h:(DataW.weightsEach P ts ds).all (·≤reachBytes)=true){j:Nat}{t:TypeId}{d:DataW H}(ht:ts[j]?=some t)(hd:ds[j]?=some d):∀ n∈d.weights P t,n≤reachBytes:=fun n hn=>by
 have:=List.all_eq_true.1 h n (DataW.weights_mem_each ht hd n hn);simpa using this
end
end Go.Vabs
namespace Go.Vabs
section
variable {a b:Int}
theorem iadd_ok (h1:-9223372036854775808≤a+b)(h2:a+b≤9223372036854775807):iadd .i64 a b=a+b:=wrap_ok h1 h2
theorem isub_ok (h1:-9223372036854775808≤a-b)(h2:a-b≤9223372036854775807):isub .i64 a b=a-b:=wrap_ok h1 h2
theorem imul_ok (h1:-9223372036854775808≤a*b)(h2:a*b≤9223372036854775807):imul .i64 a b=a*b:=wrap_ok h1 h2
theorem ineg_ok (h1:-9223372036854775808≤-a)(h2:-a≤9223372036854775807):ineg .i64 a=-a:=by
 unfold ineg;rw[Int.zero_sub];exact wrap_ok h1 h2
theorem iconv_ok (h1:-9223372036854775808≤a)(h2:a≤9223372036854775807):iconv .i64 a=a:=wrap_ok h1 h2
@[simp] theorem ilt_iff:(ilt a b=true)=(a<b):=by simp[ilt]
@[simp] theorem ile_iff:(ile a b=true)=(a≤b):=by simp[ile]
@[simp] theorem ieq_iff:(ieq a b=true)=(a=b):=by simp[ieq]
@[simp] theorem beq2_iff {x y:Bool}:(beq2 x y=true)=(x=y):=by simp[beq2]
theorem inI_iff {n:Nat}{i:Int}:(inI n i=true)=(0≤i∧i.toNat<n):=by simp[inI]
theorem capN_iff {n b:Nat}:(capN n b=true)=(n*b≤140737488355328):=by simp[capN]
end
theorem lenI_eq {α:Type}(l:List α):lenI l=(l.length:Int):=rfl
theorem lenN_eq {α:Type}(l:List α):lenN l=l.length:=rfl
theorem sizI_eq (s:ByteArray):sizI s=(s.size:Int):=rfl
theorem getI_nat {α:Type}(l:List α)(i:Nat):getI l (i:Int)=l[i]?:=by
 unfold getI;rw[if_pos (by omega)];simp
theorem nthI_nat {α:Type}(l:List α)(i:Nat):nthI l (i:Int)=l[i]?:=by simp[nthI]
section
variable {ι ρ:Type} {body:ι→Option (ι ⊕ ρ)}
theorem loopF_inl {i j:ι}(h:body i=some (.inl j)):loopF body i=loopF body j:=by rw[loopF_eq,h]; rfl
theorem loopF_inr {i:ι}{r:ρ}(h:body i=some (.inr r)):loopF body i=some r:=by rw[loopF_eq,h]; rfl
theorem loopF_count (I:Nat→ι)(n:Nat){r:ρ}(step:∀ k,k<n→body (I k)=some (.inl (I (k+1))))(fin:body (I n)=some (.inr r)):loopF body (I 0)=some r:=by
 have gen:∀ m k,n-k=m→k≤n→loopF body (I k)=some r:=by
  intro m
  induction m with
  | zero=>
   intro k h1 h2;have:k=n:=by omega
   subst this;exact loopF_inr fin
  | succ m ih=>
   intro k h1 h2;rw[loopF_inl (step k (by omega))];exact ih (k+1) (by omega) (by omega)
 exact gen n 0 (by omega) (by omega)
end
end Go.Vabs
namespace Go.Vabs
def IsB (l:List Int):Prop:=∀ c∈l,0≤c∧c≤255
theorem IsB.drop {l:List Int}(h:IsB l)(n:Nat):IsB (l.drop n):=fun c hc=>h c (List.mem_of_mem_drop hc)
theorem IsB.take {l:List Int}(h:IsB l)(n:Nat):IsB (l.take n):=fun c hc=>h c (List.mem_of_mem_take hc)
theorem IsB.append {l m:List Int}(h:IsB l)(g:IsB m):IsB (l++m):=fun c hc=>(List.mem_append.1 hc).elim (h c) (g c)
theorem IsB.cut {l:List Int}(h:IsB l)(i j:Int):IsB (cut l i j):=(h.drop _).take _
theorem IsB.nth {l:List Int}(h:IsB l){i:Nat}{c:Int}(hc:l[i]?=some c):0≤c∧c≤255:=h c (List.mem_of_getElem? hc)
theorem bytesOf_isB (s:ByteArray):IsB (bytesOf s):=by
 intro c hc;unfold bytesOf at hc;obtain⟨b,_,rfl⟩:=List.mem_map.1 hc;have:=UInt8.toNat_lt b;omega
theorem size_eq (s:ByteArray):s.size=(bytesOf s).length:=by
 rw[← bytesOf_len,lenN_eq]
theorem sizI_eq' (s:ByteArray):sizI s=((bytesOf s).length:Int):=by rw[sizI_eq,size_eq]
theorem inj_bytes:∀ l m:List UInt8,(l.map fun b=>(b.toNat:Int))=(m.map fun b=>(b.toNat:Int))→l=m
 | [],[],_=>rfl
 | [],_::_,h=>by cases h
 | _::_,[],h=>by cases h
 | x::l,y::m,h=>by
  rw[List.map_cons,List.map_cons] at h;obtain⟨h1,h2⟩:=List.cons.inj h;rw[inj_bytes l m h2,show x=y from UInt8.toNat_inj.1 (by omega)]
theorem bytesOf_inj {a b:ByteArray}(h:bytesOf a=bytesOf b):a=b:=by
 have hd:a.data.toList=b.data.toList:=by
  unfold bytesOf at h;exact inj_bytes _ _ h
 cases a; cases b
 congr 1;exact Array.toList_inj.1 hd
@[simp] theorem seq_iff {a b:ByteArray}:(seq a b=true)=(a=b):=by
 unfold seq;rw[ByteArray.toList_eq,ByteArray.toList_eq];refine propext ⟨fun h=>?_,fun h=>by subst h; simp⟩;have:a.data.toList=b.data.toList:=by simpa using h
 cases a; cases b
 congr 1;exact Array.toList_inj.1 this
theorem bytesOf_append (a b:ByteArray):bytesOf (a++b)=bytesOf a++bytesOf b:=by
 unfold bytesOf;rw[ByteArray.toList_data_append,List.map_append]
theorem bytesOf_mk (l:List UInt8):bytesOf ⟨l.toArray⟩=l.map fun b=>(b.toNat:Int):=by
 unfold bytesOf;simp
@[simp] theorem bytesOf_nil:bytesOf ⟨#[]⟩=[]:=rfl
@[simp] theorem bytesOf_empty:bytesOf ByteArray.empty=[]:=rfl
theorem foldl_push (l:List Int)(r:ByteArray):bytesOf (l.foldl (fun r n=>r.push (UInt8.ofNat n.toNat)) r)=bytesOf r++l.map fun n=>((UInt8.ofNat n.toNat).toNat:Int):=by
 induction l generalizing r with
 | nil=>simp
 | cons x l ih=>
  rw[List.foldl_cons,ih,List.map_cons];unfold bytesOf;rw[ByteArray.data_push];simp
theorem bytesOf_strOf {l:List Int}(h:IsB l):bytesOf (strOf l)=l:=by
 unfold strOf;rw[foldl_push,bytesOf_empty,List.nil_append];have:∀ l:List Int,IsB l→(l.map fun n=>((UInt8.ofNat n.toNat).toNat:Int))=l:=by
  intro l
  induction l with
  | nil=>intro _; rfl
  | cons x l ih=>
   intro h;have hx:=h x List.mem_cons_self;rw[List.map_cons,ih (fun c hc=>h c (List.mem_cons_of_mem _ hc))];congr 1;rw[UInt8.toNat_ofNat'];omega
 exact this l h
theorem strOf_bytesOf (s:ByteArray):strOf (bytesOf s)=s:=bytesOf_inj (bytesOf_strOf (bytesOf_isB s))
theorem strOf_inj {l m:List Int}(hl:IsB l)(hm:IsB m)(h:strOf l=strOf m):l=m:=by
 rw[← bytesOf_strOf hl,← bytesOf_strOf hm,h]
theorem strOf_append {l m:List Int}(hl:IsB l)(hm:IsB m):strOf l++strOf m=strOf (l++m):=by
 apply bytesOf_inj;rw[bytesOf_append,bytesOf_strOf hl,bytesOf_strOf hm,bytesOf_strOf (hl.append hm)]
theorem strOf_size {l:List Int}(hl:IsB l):(strOf l).size=l.length:=by rw[size_eq,bytesOf_strOf hl]
theorem bytesOf_cutB (s:ByteArray)(a b:Int):bytesOf (cutB s a b)=((bytesOf s).take b.toNat).drop a.toNat:=by
 unfold cutB bytesOf;rw[ByteArray.data_extract,Array.toList_extract,List.extract_eq_take_drop,List.map_take,List.map_drop,List.drop_take]
theorem cutB_all (s:ByteArray){a:Int}:bytesOf (cutB s a (sizI s))=(bytesOf s).drop a.toNat:=by
 rw[bytesOf_cutB,sizI_eq',List.take_of_length_le (by omega)]
theorem cut_take {α:Type}(l:List α){a b:Int}(h0:0≤a):cut l a b=(l.take b.toNat).drop a.toNat:=by
 unfold cut;rw[List.drop_take]
theorem cut_drop {α:Type}{b:List α}{at_:Int}(h0:0≤at_)(h1:at_≤b.length):cut b at_ (lenI b)=b.drop at_.toNat:=by
 unfold cut;rw[lenI_eq];refine List.take_of_length_le ?_;rw[List.length_drop];omega
theorem getB_eq (s:ByteArray)(i:Int):getB s i=getI (bytesOf s) i:=by
 unfold getB getI bytesOf
 split
 ·rw[List.getElem?_map];have:s[i.toNat]?=s.data.toList[i.toNat]?:=by
   by_cases h:i.toNat<s.size
   ·rw[getElem?_pos s i.toNat h,List.getElem?_eq_getElem (by simpa using h)];rfl
   ·rw[getElem?_neg s i.toNat h,List.getElem?_eq_none (by simpa using h)]
  rw[this]
 ·rfl
theorem addOk_iff {a b:ByteArray}:(addOk a b=true)=((bytesOf a).length+(bytesOf b).length≤9223372036854775807):=by
 rw[← size_eq,← size_eq];simp[addOk]
theorem cutOk_iff {n:Nat}{lo hi:Int}:(cutOk n lo hi=true)=(0≤lo∧lo≤hi∧hi≤n):=by simp[cutOk]
end Go.Vabs
