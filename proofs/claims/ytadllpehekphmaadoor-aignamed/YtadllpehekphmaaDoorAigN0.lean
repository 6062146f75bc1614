/- Plain laws: bytes, runes, names (picked from what the other layers' statements were proved with). No condition. -/
import Derived.Test.YtadllpehekphmaaDoorG
import Derived.Test.YtadllpehekphmaaDoorR
set_option linter.unusedSimpArgs false
set_option linter.unusedVariables false
set_option maxRecDepth 20000
namespace Go.Vid
open Go.Vabs
theorem iconv_i32 {a:Int}(h0:-2147483648≤a)(h1:a≤2147483647):iconv .i32 a=a:=by
 unfold iconv IntKind.wrap;simp[IntKind.signed,IntKind.bits,IntKind.max];omega
theorem iconv_u8 {a:Int}(h0:0≤a)(h1:a≤255):iconv .u8 a=a:=by
 unfold iconv IntKind.wrap;simp[IntKind.signed,IntKind.bits];omega
theorem decode_one {c:Int}{l:List Int}(h0:0≤c)(h1:c<128):unicode_utf8_DecodeRune (c::l)=some (c,1):=by
 unfold unicode_utf8_DecodeRune;have hb:unicode_utf8_DecodeRune_B0 (c::l) ()=some (.inr (.inl c)):=by
  simp only[unicode_utf8_DecodeRune_B0];rw[if_pos (by rw[ilt_iff,lenI_eq,List.length_cons]; omega),show getI (c::l) 0=some c from rfl,Option.bind_some,if_pos (by rw[ilt_iff]; exact h1),iconv_i32 (by omega) (by omega)]
 rw[loopF_inr hb];rfl
theorem cut_drop {α:Type}{b:List α}{at_:Int}(h0:0≤at_)(h1:at_≤b.length):cut b at_ (lenI b)=b.drop at_.toNat:=by
 unfold cut;rw[lenI_eq];refine List.take_of_length_le ?_;rw[List.length_drop];omega
theorem isPlace_eq (b:List Int)(at_:Int):lex_isPlace b at_=some (decide (0≤at_∧at_≤b.length)):=by
 unfold lex_isPlace;simp only[ile_iff,lenI_eq]
 by_cases h:0≤at_
 ·rw[if_pos h];congr 1;unfold ile;simp[h]
 ·rw[if_neg h];simp[h]
def Pre (p l:List Int):Prop:=l.take p.length=p
instance (p l:List Int):Decidable (Pre p l):=inferInstanceAs (Decidable (_=_))
theorem Pre.len {p l:List Int}(h:Pre p l):p.length≤l.length:=by
 have:=congrArg List.length h;rw[List.length_take] at this;omega
theorem HasPrefix_eq (s p:ByteArray):strings_HasPrefix s p=some (decide (Pre (bytesOf p) (bytesOf s))):=by
 unfold strings_HasPrefix internal_stringslite_HasPrefix;rw[sizI_eq',sizI_eq']
 by_cases h:(bytesOf p).length≤(bytesOf s).length
 ·rw[if_pos (by rw[ile_iff]; omega),if_pos (by rw[cutOk_iff,size_eq]; omega),Option.bind_some];congr 1;rw[Bool.eq_iff_iff,seq_iff,decide_eq_true_eq]
  constructor
  ·intro e;have:=congrArg bytesOf e;rw[bytesOf_cutB] at this;simpa[Pre] using this
  ·intro e;apply bytesOf_inj;rw[bytesOf_cutB];simpa[Pre] using e
 ·rw[if_neg (by rw[ile_iff]; omega),Option.bind_some];congr 1;symm;rw[decide_eq_false_iff_not];exact fun e=>h e.len
theorem Is_eq {b:List Int}(hb:IsB b)(hl:b.length≤1000000000)(at_:Int)(s:ByteArray):
  lex_Is b at_ s=some (if 0≤at_∧at_≤b.length then (if Pre (bytesOf s) (b.drop at_.toNat) then (at_+(bytesOf s).length,true) else (at_,false)) else (0,false)):=by
 unfold lex_Is;rw[isPlace_eq,Option.bind_some]
 by_cases h:0≤at_∧at_≤b.length
 case neg=>rw[if_neg (by simpa using h),if_neg h]
 rw[if_pos (by simpa using h),if_pos h,if_pos (by rw[cutOk_iff,lenI_eq,lenN_eq]; omega),cut_drop h.1 h.2,HasPrefix_eq,bytesOf_strOf (hb.drop _),Option.bind_some]
 by_cases e:Pre (bytesOf s) (b.drop at_.toNat)
 ·have:=e.len;rw[List.length_drop] at this;rw[if_pos (by simpa using e),if_pos e,sizI_eq',iadd_ok (by omega) (by omega)]
 ·rw[if_neg (by simpa using e),if_neg e]
def acc:Nat→Int→List Int→Option Int
 | 0,x,_=>some x
 | _+1,_,[]=>none
 | n+1,x,c::l=>if 128≤c∧c≤191 then acc n (x*64+c-128) l else none
def wid:List Int→Nat
 | []=>0
 | a::t=>
  if a<128 then 1 else if a<192 then 0
  else if a<224 then (match acc 1 (a-192) t with | some v=>if 128≤v then 2 else 0 | none=>0)
  else if a<240 then (match acc 2 (a-224) t with | some v=>if 2048≤v∧(v<55296∨57344≤v) then 3 else 0 | none=>0)
  else if a<248 then (match acc 3 (a-240) t with | some v=>if 65536≤v∧v≤1114111 then 4 else 0 | none=>0)
  else 0
def LB (N:Int)(s:ByteArray)(at_:Int)(p:Int × Int):Option ((Int × Int) ⊕ (Unit ⊕ Int)):=match p with
 | (x,k)=>
  if (ilt k N)=true then
   if (ile (isub IntKind.i64 (sizI s) at_) k)=true then some (.inr (.inl ()))
   else
    Option.bind (getB s (iadd IntKind.i64 at_ k)) fun v=>
    if (ilt v 128)=true then some (.inr (.inl ()))
    else
     if (ilt 191 v)=true then some (.inr (.inl ()))
     else some (.inl (((isub IntKind.i64 (iadd IntKind.i64 (imul IntKind.i64 x 64) (iconv IntKind.i64 v)) 128),(iadd IntKind.i64 k 1))))
  else some (.inr (.inr x))
def bdx:Nat→Int
 | 0=>100000000
 | 1=>1000000
 | 2=>10000
 | _=>100
theorem LB_loop {s:ByteArray}{a:Nat}(ha:a<s.size)(hs:s.size≤1000000000){N:Nat}(hN:N≤4):∀ (n k:Nat) (x:Int),k+n=N→n≤3→0≤x→x≤bdx n →
  loopF (LB N s a) (x,(k:Int))=some (match acc n x ((bytesOf s).drop (a+k)) with | none=>.inl () | some v=>.inr v):=by
 have hsz:=size_eq s;intro n
 induction n with
 | zero=>
  intro k x hk _ h0 h1;rw[loopF_inr (r:=.inr x)]
  ·rfl
  ·simp only[LB];rw[if_neg (by rw[ilt_iff]; omega)]
 | succ n ih=>
  intro k x hk hn h0 h1;have hx:x≤1000000∧x*64+63≤bdx n:=by
   rcases n with _ | _ | _ | n
   ·simp only[bdx] at h1 ⊢; omega
   ·simp only[bdx] at h1 ⊢; omega
   ·simp only[bdx] at h1 ⊢; omega
   ·omega
  cases hd:(bytesOf s).drop (a+k) with
  | nil=>
   have hl:=congrArg List.length hd;rw[List.length_drop,List.length_nil] at hl;rw[loopF_inr (r:=.inl ())]
   ·rfl
   ·simp only[LB];rw[if_pos (by rw[ilt_iff]; omega),if_pos (by rw[ile_iff,sizI_eq,isub_ok (by omega) (by omega)]; omega)]
  | cons c t=>
   have hl:=congrArg List.length hd;rw[List.length_drop,List.length_cons] at hl;have hc:(bytesOf s)[a+k]?=some c:=by
    have:=congrArg (·[0]?) hd;simpa using this
   have hcb:=(bytesOf_isB s).nth hc;have hstep:LB N s a (x,(k:Int))=if 128≤c∧c≤191 then some (.inl (x*64+c-128,(k:Int)+1)) else some (.inr (.inl ())):=by
    simp only[LB];rw[if_pos (by rw[ilt_iff]; omega),if_neg (by rw[ile_iff,sizI_eq,isub_ok (by omega) (by omega)]; omega),iadd_ok (a:=(a:Int)) (by omega) (by omega),getB_eq,show (a:Int)+(k:Int)=((a+k:Nat):Int) by omega,getI_nat,hc,Option.bind_some,imul_ok (by omega) (by omega),iconv_ok (by omega) (by omega),iadd_ok (by omega) (by omega),isub_ok (by omega) (by omega),iadd_ok (a:=(k:Int)) (by omega) (by omega)];simp only[ilt_iff]
    by_cases e1:c<128
    ·rw[if_pos e1,if_neg (by omega)]
    ·rw[if_neg e1]
     by_cases e2:191<c
     ·rw[if_pos e2,if_neg (by omega)]
     ·rw[if_neg e2,if_pos (by omega)]
   rw[acc]
   by_cases e:128≤c∧c≤191
   ·rw[if_pos e] at hstep;rw[loopF_inl hstep,if_pos e];have:=ih (k+1) (x*64+c-128) (by omega) (by omega) (by omega) (by omega);rw[show ((k+1:Nat):Int)=(k:Int)+1 by omega,show a+(k+1)=(a+k)+1 by omega,← List.drop_drop,hd] at this;exact this
   ·rw[if_neg e] at hstep;rw[loopF_inr hstep,if_neg e]
theorem acc_bd {x v:Int}:∀ {n:Nat} {l:List Int},acc n x l=some v→x*64 ^ n≤v∧v<(x+1)*64 ^ n:=by
 intro n
 induction n generalizing x with
 | zero=>
  intro l h;simp only[acc,Option.some.injEq] at h;subst h;simp;omega
 | succ n ih=>
  intro l h
  match l,h with
  | c::l,h=>
   rw[acc] at h
   by_cases e:128≤c∧c≤191
   ·rw[if_pos e] at h;obtain⟨h1,h2⟩:=ih h;have hp:(0:Int)<64 ^ n:=Int.pow_pos (by decide);have e1:x*64 ^ (n+1)=x*64*64 ^ n:=by rw[Int.pow_succ,Int.mul_comm (64 ^ n) 64,← Int.mul_assoc]
    have e2:(x+1)*64 ^ (n+1)=(x*64+64)*64 ^ n:=by rw[Int.pow_succ,Int.mul_comm (64 ^ n) 64,← Int.mul_assoc,Int.add_mul x 1 64,Int.one_mul]
    have e3:x*64*64 ^ n≤(x*64+c-128)*64 ^ n:=Int.mul_le_mul_of_nonneg_right (by omega) (by omega);have e4:(x*64+c-128+1)*64 ^ n≤(x*64+64)*64 ^ n:=Int.mul_le_mul_of_nonneg_right (by omega) (by omega);omega
   ·rw[if_neg e] at h
    cases h
set_option maxHeartbeats 1000000 in
theorem Long_eq {s:ByteArray}{a:Nat}(ha:a<s.size)(hs:s.size≤1000000000):ref01_Long s a=some ((wid ((bytesOf s).drop a):Nat):Int):=by
 have hsz:=size_eq s;have hlt:a<(bytesOf s).length:=by omega
 have hd:=List.drop_eq_getElem_cons hlt;have hg:=List.getElem?_eq_getElem hlt;generalize (bytesOf s)[a]=c at hd hg;have hcb:=(bytesOf_isB s).nth hg;unfold ref01_Long;rw[getB_eq,getI_nat,hg,Option.bind_some,iconv_ok (by omega) (by omega),isub_ok (by omega) (by omega),isub_ok (by omega) (by omega),isub_ok (by omega) (by omega)];have L4:=LB_loop ha hs (N:=4) (by omega) 3 1 (c-240) rfl (by omega);have L3:=LB_loop ha hs (N:=3) (by omega) 2 1 (c-224) rfl (by omega);have L2:=LB_loop ha hs (N:=2) (by omega) 1 1 (c-192) rfl (by omega);have L1:=LB_loop ha hs (N:=1) (by omega) 0 1 c rfl (by omega);rw[show ((4:Nat):Int)=4 from rfl,show ((1:Nat):Int)=1 from rfl] at L4
 rw[show ((3:Nat):Int)=3 from rfl,show ((1:Nat):Int)=1 from rfl] at L3;rw[show ((2:Nat):Int)=2 from rfl,show ((1:Nat):Int)=1 from rfl] at L2;rw[show ((1:Nat):Int)=1 from rfl] at L1;simp only[ile_iff,ilt_iff,bdx] at L1 L2 L3 L4 ⊢;rw[hd]
 by_cases e1:c<128
 ·rw[show wid (c::(bytesOf s).drop (a+1))=1 by rw[wid,if_pos e1],if_neg (by omega),if_neg (by omega),if_neg (by omega),if_neg (by omega)];rw[show loopF (ref01_Long_B14 s a) (c,1)=_ from L1 (by omega) (by omega),acc,Option.bind_some];simp only;rw[if_neg (by omega),if_neg (by omega),if_neg (by omega)];rfl
 by_cases e2:c<192
 ·rw[show wid (c::(bytesOf s).drop (a+1))=0 by rw[wid,if_neg e1,if_pos e2],if_neg (by omega),if_neg (by omega),if_neg (by omega),if_pos (by omega)];rfl
 by_cases e3:c<224
 ·rw[show wid (c::(bytesOf s).drop (a+1))=(match acc 1 (c-192) ((bytesOf s).drop (a+1)) with | some v=>if 128≤v then 2 else 0 | none=>0) by rw[wid,if_neg e1,if_neg e2,if_pos e3],if_neg (by omega),if_neg (by omega),if_pos (by omega),if_pos e3];rw[show loopF (ref01_Long_B12 s a) (c-192,1)=_ from L2 (by omega) (by omega),Option.bind_some]
  cases hv:acc 1 (c-192) ((bytesOf s).drop (a+1)) with
  | none=>rfl
  | some v=>
   obtain⟨b1,b2⟩:=acc_bd hv;simp only
   by_cases e:v<128
   ·rw[if_pos e,if_neg (by omega)]; rfl
   ·rw[if_neg e,if_neg (by omega),if_neg (by omega),if_pos (by omega)]; try rfl
 by_cases e4:c<240
 ·rw[show wid (c::(bytesOf s).drop (a+1))=(match acc 2 (c-224) ((bytesOf s).drop (a+1)) with | some v=>if 2048≤v∧(v<55296∨57344≤v) then 3 else 0 | none=>0) by rw[wid,if_neg e1,if_neg e2,if_neg e3,if_pos e4],if_neg (by omega),if_pos (by omega),if_pos e4];rw[show loopF (ref01_Long_B8 s a) (c-224,1)=_ from L3 (by omega) (by omega),Option.bind_some]
  cases hv:acc 2 (c-224) ((bytesOf s).drop (a+1)) with
  | none=>rfl
  | some v=>
   obtain⟨b1,b2⟩:=acc_bd hv;simp only
   by_cases e:v<2048
   ·rw[if_pos e,if_neg (c:=2048≤v∧_) (by omega)]; rfl
   rw[if_neg e,if_neg (by omega)]
   by_cases e5:55296≤v
   ·rw[if_pos e5]
    by_cases e6:v<57344
    ·rw[if_pos e6,if_neg (c:=2048≤v∧_) (by omega)]; rfl
    ·rw[if_neg e6,if_pos (c:=2048≤v∧_) (by omega)]; rfl
   ·rw[if_neg e5,if_pos (c:=2048≤v∧_) (by omega)]; rfl
 by_cases e5:c<248
 ·rw[show wid (c::(bytesOf s).drop (a+1))=(match acc 3 (c-240) ((bytesOf s).drop (a+1)) with | some v=>if 65536≤v∧v≤1114111 then 4 else 0 | none=>0) by rw[wid,if_neg e1,if_neg e2,if_neg e3,if_neg e4,if_pos e5],if_pos (by omega),if_pos e5];rw[show loopF (ref01_Long_B0 s a) (c-240,1)=_ from L4 (by omega) (by omega),Option.bind_some]
  cases hv:acc 3 (c-240) ((bytesOf s).drop (a+1)) with
  | none=>rfl
  | some v=>
   obtain⟨b1,b2⟩:=acc_bd hv;simp only
   by_cases e:v<65536
   ·rw[if_pos e,if_neg (c:=65536≤v∧_) (by omega)]; rfl
   rw[if_neg e]
   by_cases e6:1114111<v
   ·rw[if_pos e6,if_neg (c:=65536≤v∧_) (by omega)]; rfl
   ·rw[if_neg e6,if_pos (c:=65536≤v∧_) (by omega),if_pos (by omega),if_neg (by omega)]; rfl
 ·rw[show wid (c::(bytesOf s).drop (a+1))=0 by rw[wid,if_neg e1,if_neg e2,if_neg e3,if_neg e4,if_neg e5],if_pos (by omega),if_neg e5,if_pos (by omega),if_neg e4,if_pos (by omega),if_neg e3,if_pos (by omega)];rfl
theorem get_drop (s:ByteArray)(i k:Nat):((bytesOf s).drop i)[k]?=if i+k<s.size then some (((s.get! (i+k)).toNat:Nat):Int) else none:=by
 rw[List.getElem?_drop]
 split
 ·rename_i h;have hlt:i+k<(bytesOf s).length:=by rw[← size_eq]; exact h
  unfold bytesOf;rw[List.getElem?_map,List.getElem?_eq_getElem (show i+k<s.data.toList.length from h),Option.map_some,Array.getElem_toList];congr 3;exact (getElem!_pos s.data (i+k) h).symm
 ·rename_i h;exact List.getElem?_eq_none (by rw[← size_eq]; omega)
def mdl (p1 p2 p3:Bool)(g0 g1 g2 g3:Nat):Nat × Nat:=
 if g0<0x80 then (g0,1)
 else if g0 / 32==6&&(p1&&g1 / 64==2) then
  let c:=(g0 % 32)*64+g1 % 64
  if c≥0x80 then (c,2) else (Utf8.runeError,1)
 else if g0 / 16==14&&(p1&&g1 / 64==2)&&(p2&&g2 / 64==2) then
  let c:=(g0 % 16)*4096+(g1 % 64)*64+g2 % 64
  if c≥0x800&&Utf8.valid c then (c,3) else (Utf8.runeError,1)
 else if g0 / 8==30&&(p1&&g1 / 64==2)&&(p2&&g2 / 64==2)&&(p3&&g3 / 64==2) then
  let c:=(g0 % 8)*262144+(g1 % 64)*4096+(g2 % 64)*64+g3 % 64
  if c≥0x10000&&Utf8.valid c then (c,4) else (Utf8.runeError,1)
 else (Utf8.runeError,1)
theorem decode_mdl (s:ByteArray)(i:Nat):Utf8.decode s i=mdl (decide (i+1<s.size)) (decide (i+2<s.size)) (decide (i+3<s.size)) (s.get! (i+0)).toNat (s.get! (i+1)).toNat (s.get! (i+2)).toNat (s.get! (i+3)).toNat:=rfl
theorem beq_eq (a b:Nat):(a==b)=decide (a=b):=by
 by_cases h:a=b<;>simp[h]
theorem valid_eq (c:Nat):Utf8.valid (c:Int)=decide (c<55296∨(57344≤c∧c≤1114111)):=by
 unfold Utf8.valid;rw[Bool.eq_iff_iff];simp;omega
def Mdl (L:List Int)(p:Nat × Nat):Prop:=∃ w r,wid L=w∧p=(r,if w=0 then 1 else w)∧(w=0→r=65533)∧(w=1→L[0]?=some (r:Int))∧(2≤w→128≤r)
theorem Mdl.bad {L:List Int}{p:Nat × Nat}(h:wid L=0)(g:p=(65533,1)):Mdl L p:=⟨0,65533,h,g,fun _=>rfl,fun h=>absurd h (by decide),fun h=>by omega⟩
theorem Mdl.good {L:List Int}{p:Nat × Nat}{w r:Nat}(hw:2≤w)(h:wid L=w)(g:p=(r,w))(hr:128≤r):Mdl L p:=⟨w,r,h,by rw[if_neg (by omega),g],fun h=>by omega,fun h=>by omega,fun _=>hr⟩
theorem mdl_eq (p1 p2 p3:Bool)(g0 g1 g2 g3:Nat):mdl p1 p2 p3 g0 g1 g2 g3 =
  if g0<128 then (g0,1)
  else if g0 / 32=6∧p1=true∧g1 / 64=2 then (if 128≤g0 % 32*64+g1 % 64 then (g0 % 32*64+g1 % 64,2) else (65533,1))
  else if (g0 / 16=14∧p1=true∧g1 / 64=2)∧p2=true∧g2 / 64=2 then (if 2048≤g0 % 16*4096+g1 % 64*64+g2 % 64∧(g0 % 16*4096+g1 % 64*64+g2 % 64<55296∨57344≤g0 % 16*4096+g1 % 64*64+g2 % 64∧g0 % 16*4096+g1 % 64*64+g2 % 64≤1114111) then (g0 % 16*4096+g1 % 64*64+g2 % 64,3) else (65533,1))
  else if ((g0 / 8=30∧p1=true∧g1 / 64=2)∧p2=true∧g2 / 64=2)∧p3=true∧g3 / 64=2 then (if 65536≤g0 % 8*262144+g1 % 64*4096+g2 % 64*64+g3 % 64∧(g0 % 8*262144+g1 % 64*4096+g2 % 64*64+g3 % 64<55296∨57344≤g0 % 8*262144+g1 % 64*4096+g2 % 64*64+g3 % 64∧g0 % 8*262144+g1 % 64*4096+g2 % 64*64+g3 % 64≤1114111) then (g0 % 8*262144+g1 % 64*4096+g2 % 64*64+g3 % 64,4) else (65533,1))
  else (65533,1):=by
 unfold mdl;simp only[beq_eq,valid_eq,Utf8.runeError,ge_iff_le,Bool.and_eq_true,decide_eq_true_eq]
set_option maxHeartbeats 4000000 in
theorem mdl_spec {L:List Int}{p1 p2 p3:Bool}{g0 g1 g2 g3:Nat}(b0:g0<256)(b1:g1<256)(b2:g2<256)(b3:g3<256)
  (hL:∃ t,L=(g0:Int)::(if p1=true then (g1:Int)::(if p2=true then (g2:Int)::(if p3=true then (g3:Int)::t else []) else []) else [])):Mdl L (mdl p1 p2 p3 g0 g1 g2 g3):=by
 obtain⟨t,rfl⟩:=hL;rw[mdl_eq]
 by_cases e1:g0<128
 ·exact⟨1,g0,by rw[wid,if_pos (by omega)],by rw[if_pos e1]; rfl,fun h=>absurd h (by decide),fun _=>rfl,fun h=>by omega⟩
 by_cases e2:g0<192
 ·exact .bad (by rw[wid,if_neg (by omega),if_pos (by omega)]) (by rw[if_neg e1,if_neg (by omega),if_neg (by omega),if_neg (by omega)])
 by_cases e3:g0<224
 ·have hw:∀ t,wid ((g0:Int)::t)=(match acc 1 ((g0:Int)-192) t with | some v=>if 128≤v then 2 else 0 | none=>0):=fun t=>by rw[wid,if_neg (by omega),if_neg (by omega),if_pos (by omega)]; try rfl
  by_cases h1:p1=true∧128≤g1∧g1≤191
  ·have hw2:wid ((g0:Int)::(if p1=true then (g1:Int)::(if p2=true then (g2:Int)::(if p3=true then (g3:Int)::t else []) else []) else []))=if 128≤((g0:Int)-192)*64+g1-128 then 2 else 0:=by
    rw[hw,if_pos h1.1,acc,if_pos (by omega)]; try rfl
   by_cases h3:128≤g0 % 32*64+g1 % 64
   ·exact .good (w:=2) (by omega) (by rw[hw2,if_pos (by omega)]) (by rw[if_neg e1,if_pos ⟨by omega,h1.1,by omega⟩,if_pos h3]) h3
   ·exact .bad (by rw[hw2,if_neg (by omega)]) (by rw[if_neg e1,if_pos ⟨by omega,h1.1,by omega⟩,if_neg h3])
  ·refine .bad ?_ (by rw[if_neg e1,if_neg (fun h=>h1 ⟨h.2.1,by omega⟩),if_neg (by omega),if_neg (by omega)]);rw[hw]
   by_cases h2:p1=true
   ·rw[if_pos h2,acc,if_neg (fun h=>h1 ⟨h2,by omega⟩)]
   ·rw[if_neg h2,acc]
 by_cases e4:g0<240
 ·have hw:∀ t,wid ((g0:Int)::t)=(match acc 2 ((g0:Int)-224) t with | some v=>if 2048≤v∧(v<55296∨57344≤v) then 3 else 0 | none=>0):=fun t=>by rw[wid,if_neg (by omega),if_neg (by omega),if_neg (by omega),if_pos (by omega)]; try rfl
  by_cases h1:(p1=true∧128≤g1∧g1≤191)∧(p2=true∧128≤g2∧g2≤191)
  ·have hw2:wid ((g0:Int)::(if p1=true then (g1:Int)::(if p2=true then (g2:Int)::(if p3=true then (g3:Int)::t else []) else []) else []))=if 2048≤(((g0:Int)-224)*64+g1-128)*64+g2-128∧((((g0:Int)-224)*64+g1-128)*64+g2-128<55296∨57344≤(((g0:Int)-224)*64+g1-128)*64+g2-128) then 3 else 0:=by
    rw[hw,if_pos h1.1.1,acc,if_pos (by omega),if_pos h1.2.1,acc,if_pos (by omega)]; try rfl
   have hc:(g0 / 16=14∧p1=true∧g1 / 64=2)∧p2=true∧g2 / 64=2:=⟨⟨by omega,h1.1.1,by omega⟩,h1.2.1,by omega⟩
   by_cases h3:2048≤g0 % 16*4096+g1 % 64*64+g2 % 64∧(g0 % 16*4096+g1 % 64*64+g2 % 64<55296∨57344≤g0 % 16*4096+g1 % 64*64+g2 % 64∧g0 % 16*4096+g1 % 64*64+g2 % 64≤1114111)
   ·exact .good (w:=3) (by omega) (by rw[hw2,if_pos (by omega)]) (by rw[if_neg e1,if_neg (by omega),if_pos hc,if_pos h3]) (by omega)
   ·exact .bad (by rw[hw2,if_neg (by omega)]) (by rw[if_neg e1,if_neg (by omega),if_pos hc,if_neg h3])
  ·refine .bad ?_ (by rw[if_neg e1,if_neg (by omega),if_neg (fun h=>h1 ⟨⟨h.1.2.1,by omega⟩,h.2.1,by omega⟩),if_neg (by omega)]);rw[hw]
   by_cases h2:p1=true
   ·rw[if_pos h2,acc]
    by_cases h4:128≤g1∧g1≤191
    ·rw[if_pos (by omega)]
     by_cases h5:p2=true
     ·rw[if_pos h5,acc,if_neg (fun h=>h1 ⟨⟨h2,h4⟩,h5,by omega⟩)]
     ·rw[if_neg h5,acc]
    ·rw[if_neg (by omega)]
   ·rw[if_neg h2,acc]
 by_cases e5:g0<248
 ·have hw:∀ t,wid ((g0:Int)::t)=(match acc 3 ((g0:Int)-240) t with | some v=>if 65536≤v∧v≤1114111 then 4 else 0 | none=>0):=fun t=>by rw[wid,if_neg (by omega),if_neg (by omega),if_neg (by omega),if_neg (by omega),if_pos (by omega)]; try rfl
  by_cases h1:((p1=true∧128≤g1∧g1≤191)∧(p2=true∧128≤g2∧g2≤191))∧(p3=true∧128≤g3∧g3≤191)
  ·have hw2:wid ((g0:Int)::(if p1=true then (g1:Int)::(if p2=true then (g2:Int)::(if p3=true then (g3:Int)::t else []) else []) else []))=if 65536≤((((g0:Int)-240)*64+g1-128)*64+g2-128)*64+g3-128∧((((g0:Int)-240)*64+g1-128)*64+g2-128)*64+g3-128≤1114111 then 4 else 0:=by
    rw[hw,if_pos h1.1.1.1,acc,if_pos (by omega),if_pos h1.1.2.1,acc,if_pos (by omega),if_pos h1.2.1,acc,if_pos (by omega)]; try rfl
   have hc:((g0 / 8=30∧p1=true∧g1 / 64=2)∧p2=true∧g2 / 64=2)∧p3=true∧g3 / 64=2:=⟨⟨⟨by omega,h1.1.1.1,by omega⟩,h1.1.2.1,by omega⟩,h1.2.1,by omega⟩
   by_cases h3:65536≤g0 % 8*262144+g1 % 64*4096+g2 % 64*64+g3 % 64∧(g0 % 8*262144+g1 % 64*4096+g2 % 64*64+g3 % 64<55296∨57344≤g0 % 8*262144+g1 % 64*4096+g2 % 64*64+g3 % 64∧g0 % 8*262144+g1 % 64*4096+g2 % 64*64+g3 % 64≤1114111)
   ·exact .good (w:=4) (by omega) (by rw[hw2,if_pos (by omega)]) (by rw[if_neg e1,if_neg (by omega),if_neg (by omega),if_pos hc,if_pos h3]) (by omega)
   ·exact .bad (by rw[hw2,if_neg (by omega)]) (by rw[if_neg e1,if_neg (by omega),if_neg (by omega),if_pos hc,if_neg h3])
  ·refine .bad ?_ (by rw[if_neg e1,if_neg (by omega),if_neg (by omega),if_neg (fun h=>h1 ⟨⟨⟨h.1.1.2.1,by omega⟩,h.1.2.1,by omega⟩,h.2.1,by omega⟩)]);rw[hw]
   by_cases h2:p1=true
   ·rw[if_pos h2,acc]
    by_cases h4:128≤g1∧g1≤191
    ·rw[if_pos (by omega)]
     by_cases h5:p2=true
     ·rw[if_pos h5,acc]
      by_cases h6:128≤g2∧g2≤191
      ·rw[if_pos (by omega)]
       by_cases h7:p3=true
       ·rw[if_pos h7,acc,if_neg (fun h=>h1 ⟨⟨⟨h2,h4⟩,h5,h6⟩,h7,by omega⟩)]
       ·rw[if_neg h7,acc]
      ·rw[if_neg (by omega)]
     ·rw[if_neg h5,acc]
    ·rw[if_neg (by omega)]
   ·rw[if_neg h2,acc]
 ·exact .bad (by rw[wid,if_neg (by omega),if_neg (by omega),if_neg (by omega),if_neg (by omega),if_neg (by omega)]) (by rw[if_neg e1,if_neg (by omega),if_neg (by omega),if_neg (by omega)])
theorem drop_form {L:List Int}{p:Bool}{g:Nat}{k:Nat}(h:L[k]?=if p=true then some (g:Int) else none):∃ t,L.drop k=if p=true then (g:Int)::t else []:=by
 cases p
 ·refine⟨[],?_⟩;rw[if_neg (by decide)] at h ⊢;exact List.drop_eq_nil_of_le (by have:=List.getElem?_eq_none_iff.1 h; omega)
 ·rw[if_pos rfl] at h;obtain⟨hlt,he⟩:=List.getElem?_eq_some_iff.1 h;exact⟨L.drop (k+1),by rw[if_pos rfl,← he]; exact List.drop_eq_getElem_cons hlt⟩
theorem decode_spec {s:ByteArray}{i:Nat}(hi:i<s.size):Mdl ((bytesOf s).drop i) (Utf8.decode s i):=by
 rw[decode_mdl];have bd:∀ k,(s.get! k).toNat<256:=fun k=>UInt8.toNat_lt _;refine mdl_spec (bd _) (bd _) (bd _) (bd _) ?_;have G:∀ k,((bytesOf s).drop i)[k]?=if decide (i+k<s.size)=true then some (((s.get! (i+k)).toNat:Nat):Int) else none:=fun k=>by rw[get_drop]; simp
 obtain⟨t3,h3⟩:=drop_form (G 3);obtain⟨t2,h2⟩:=drop_form (G 2);obtain⟨t1,h1⟩:=drop_form (G 1);obtain⟨t0,h0⟩:=drop_form (G 0);rw[if_pos (by simpa using hi),List.drop_zero] at h0;have k1:((bytesOf s).drop i).drop 1=t0:=by rw[h0]; rfl
 refine⟨t3,?_⟩;rw[h0];congr 1;rw[← k1,h1]
 by_cases q1:decide (i+1<s.size)=true
 ·rw[if_pos q1] at h1 ⊢;rw[if_pos q1];congr 1;have k2:((bytesOf s).drop i).drop 2=t1:=by rw[show 2=1+1 from rfl,← List.drop_drop,h1]; rfl
  rw[← k2,h2]
  by_cases q2:decide (i+2<s.size)=true
  ·rw[if_pos q2] at h2 ⊢;rw[if_pos q2];congr 1;have k3:((bytesOf s).drop i).drop 3=t2:=by rw[show 3=2+1 from rfl,← List.drop_drop,h2]; rfl
   rw[← k3,h3]
  ·rw[if_neg q2,if_neg q2]
 ·rw[if_neg q1,if_neg q1]
def fstN (a:Nat):Int:=if a<128 then 240 else if a<194 then 241 else if a<224 then 2 else if a=224 then 19 else if a=237 then 35 else if a<240 then 3 else if a=240 then 52 else if a<244 then 4 else if a=244 then 68 else 241
theorem first_eq:∀ a:Nat,a<256→tabI first (a:Int)=some (fstN a):=by decide +kernel
def fo (a:Int):Int × Int × Nat:=if a=224 then (160,191,3) else if a=237 then (128,159,3) else if a<224 then (128,191,2) else if a<240 then (128,191,3) else if a=240 then (144,191,4) else if a=244 then (128,143,4) else (128,191,4)
theorem first_bad {a:Int}(h0:128≤a)(h1:a≤255)(h2:a<194∨244<a):tabI first a=some 241:=by
 rw[show a=((a.toNat:Nat):Int) by omega,first_eq _ (by omega)];unfold fstN;rw[if_neg (by omega)]
 by_cases e:a.toNat<194
 ·rw[if_pos e]
 ·rw[if_neg e,if_neg (by omega),if_neg (by omega),if_neg (by omega),if_neg (by omega),if_neg (by omega),if_neg (by omega),if_neg (by omega)]
theorem first_good {a:Int}(h0:194≤a)(h1:a≤244):∃ v,tabI first a=some v∧ile 240 v=false∧inI 16 (ishr .u8 v 4)=true∧tabI ranges (ishr .u8 v 4)=some ((fo a).1,(fo a).2.1)∧iconv .i64 (band .u8 v 7)=((fo a).2.2:Nat):=by
 rw[show a=((a.toNat:Nat):Int) by omega,first_eq _ (by omega)];refine⟨_,rfl,?_⟩;unfold fstN fo;rw[if_neg (by omega),if_neg (by omega)]
 by_cases e1:a.toNat<224
 ·rw[if_pos e1,if_neg (by omega),if_neg (by omega),if_pos (by omega)]; decide +kernel
 by_cases e2:a.toNat=224
 ·rw[if_neg e1,if_pos e2,if_pos (by omega)]; decide +kernel
 by_cases e3:a.toNat=237
 ·rw[if_neg e1,if_neg e2,if_pos e3,if_neg (by omega),if_pos (by omega)]; decide +kernel
 by_cases e4:a.toNat<240
 ·rw[if_neg e1,if_neg e2,if_neg e3,if_pos e4,if_neg (by omega),if_neg (by omega),if_neg (by omega),if_pos (by omega)]; decide +kernel
 by_cases e5:a.toNat=240
 ·rw[if_neg e1,if_neg e2,if_neg e3,if_neg e4,if_pos e5,if_neg (by omega),if_neg (by omega),if_neg (by omega),if_neg (by omega),if_pos (by omega)]; decide +kernel
 by_cases e6:a.toNat<244
 ·rw[if_neg e1,if_neg e2,if_neg e3,if_neg e4,if_neg e5,if_pos e6,if_neg (by omega),if_neg (by omega),if_neg (by omega),if_neg (by omega),if_neg (by omega),if_neg (by omega)]; decide +kernel
 ·rw[if_neg e1,if_neg e2,if_neg e3,if_neg e4,if_neg e5,if_neg e6,if_pos (by omega),if_neg (by omega),if_neg (by omega),if_neg (by omega),if_neg (by omega),if_neg (by omega),if_pos (by omega)]; decide +kernel
def lw4:List Int→Nat
 | []=>1
 | d::_=>if 128≤d∧d≤191 then 4 else 1
def lw3 (n:Nat):List Int→Nat
 | []=>1
 | c::t=>if 128≤c∧c≤191 then (if n≤3 then 3 else lw4 t) else 1
def lw2 (lo hi:Int)(n:Nat):List Int→Nat
 | []=>1
 | b::t=>if lo≤b∧b≤hi then (if n≤2 then 2 else lw3 n t) else 1
def lw:List Int→Nat
 | []=>0
 | a::t=>if 194≤a∧a≤244 then lw2 (fo a).1 (fo a).2.1 (fo a).2.2 t else 1
theorem wid_bad {a:Int}{t:List Int}(h:128≤a)(h2:a<194∨244<a):wid (a::t)=0:=by
 have hm:∀ {α:Type} {o:Option α} {f:α→Nat},(∀ v,o=some v→f v=0)→(match o with | some v=>f v | none=>0)=0:=by
  intro α o f h
  cases o with
  | none=>rfl
  | some v=>exact h v rfl
 rw[wid,if_neg (by omega)]
 by_cases e1:a<192
 ·rw[if_pos e1]
 rw[if_neg e1]
 by_cases e2:a<224
 ·rw[if_pos e2]
  cases hv:acc 1 (a-192) t with
  | none=>rfl
  | some v=>
   have:=acc_bd hv;simp only;rw[if_neg (by omega)]
 rw[if_neg e2,if_neg (by omega)]
 by_cases e3:a<248
 ·rw[if_pos e3]
  cases hv:acc 3 (a-240) t with
  | none=>rfl
  | some v=>
   have:=acc_bd hv;simp only;rw[if_neg (by omega)]
 ·rw[if_neg e3]
theorem wrap_i32 {a:Int}(h0:-2147483648≤a)(h1:a≤2147483647):IntKind.i32.wrap a=a:=iconv_i32 h0 h1
theorem bor_ge {x y:Int}(hx:0≤x∧x<2147483648)(hy:0≤y∧y<2147483648):0≤bor .i32 x y∧bor .i32 x y<2147483648∧x≤bor .i32 x y∧y≤bor .i32 x y:=by
 obtain⟨n,rfl⟩:=Int.eq_ofNat_of_zero_le hx.1;obtain⟨m,rfl⟩:=Int.eq_ofNat_of_zero_le hy.1;have h1:(BitVec.ofInt 32 (n:Int)).toNat=n:=by simp only[BitVec.toNat_ofInt]; omega
 have h2:(BitVec.ofInt 32 (m:Int)).toNat=m:=by simp only[BitVec.toNat_ofInt]; omega
 have h3:n ||| m<2 ^ 31:=Nat.or_lt_two_pow (by omega) (by omega);have h4:bor .i32 (n:Int) (m:Int)=((n ||| m:Nat):Int):=by
  show IntKind.i32.wrap ((BitVec.ofInt 32 (n:Int) ||| BitVec.ofInt 32 (m:Int)).toNat:Nat)=_;rw[BitVec.toNat_or,h1,h2];exact wrap_i32 (by omega) (by omega)
 rw[h4];have:=@Nat.left_le_or n m;have:=@Nat.right_le_or n m;omega
theorem band_lo:∀ a:Nat,a<256→band .u8 (a:Int) 31=(a % 32:Nat)∧band .u8 (a:Int) 15=(a % 16:Nat)∧band .u8 (a:Int) 7=(a % 8:Nat)∧band .u8 (a:Int) 63=(a % 64:Nat):=by decide +kernel
theorem band_lo' {a:Int}(h0:0≤a)(h1:a≤255):iconv .i32 (band .u8 a 31)=a % 32∧iconv .i32 (band .u8 a 15)=a % 16∧iconv .i32 (band .u8 a 7)=a % 8∧iconv .i32 (band .u8 a 63)=a % 64:=by
 obtain⟨n,rfl⟩:=Int.eq_ofNat_of_zero_le h0;obtain⟨e1,e2,e3,e4⟩:=band_lo n (by omega);rw[e1,e2,e3,e4,iconv_i32 (by omega) (by omega),iconv_i32 (by omega) (by omega),iconv_i32 (by omega) (by omega),iconv_i32 (by omega) (by omega)];omega
theorem ishl_i32 {x:Int}(h0:0≤x)(h1:x≤255):ishl .i32 x 6=x*64∧ishl .i32 x 12=x*4096∧(x≤7→ishl .i32 x 18=x*262144):=by
 unfold ishl;refine⟨?_,?_,fun h=>?_⟩
 ·rw[show (2:Int) ^ (min (6:Int).toNat IntKind.i32.bits)=64 from rfl]; exact wrap_i32 (by omega) (by omega)
 ·rw[show (2:Int) ^ (min (12:Int).toNat IntKind.i32.bits)=4096 from rfl]; exact wrap_i32 (by omega) (by omega)
 ·rw[show (2:Int) ^ (min (18:Int).toNat IntKind.i32.bits)=262144 from rfl]; exact wrap_i32 (by omega) (by omega)
theorem bad_rune:∀ a:Nat,a<256→bor .i32 (iandn .i32 (iconv .i32 (a:Int)) (ishr .i32 (ishl .i32 (iconv .i32 241) 31) 31)) (band .i32 65533 (ishr .i32 (ishl .i32 (iconv .i32 241) 31) 31))=65533:=by decide +kernel
set_option maxHeartbeats 2000000 in
theorem slow_eq {a:Int}{t:List Int}(hb:IsB (a::t))(ha:128≤a)(hl:t.length≤1000000000):∃ r:Int,unicode_utf8_decodeRuneSlow (a::t)=some (r,((lw (a::t):Nat):Int))∧128≤r:=by
 have ha2:=(hb a List.mem_cons_self).2;unfold unicode_utf8_decodeRuneSlow;rw[if_neg (by rw[ilt_iff,lenI_eq,List.length_cons]; omega),show getI (a::t) 0=some a from rfl,Option.bind_some,if_pos (by rw[inI_iff]; omega)]
 by_cases e:a<194∨244<a
 ·rw[first_bad ha ha2 e,Option.bind_some,if_pos (show ile 240 241=true from rfl),if_neg (by decide)];have:=bad_rune a.toNat (by omega);rw[show ((a.toNat:Nat):Int)=a by omega] at this;rw[this];refine⟨65533,?_,by omega⟩;have:lw (a::t)=1:=by
   rw[lw,if_neg (by omega)]
  rw[this];rfl
 obtain⟨v,f1,f2,f3,f4,f5⟩:=first_good (a:=a) (by omega) (by omega);rw[f1,Option.bind_some,if_neg (by rw[f2]; decide),if_neg (by decide),if_pos f3,f4,Option.bind_some,f5];simp only[lenI_eq,List.length_cons,ilt_iff,ile_iff];have hfo:(fo a).1≥128∧(fo a).2.1≤191∧(a=224→(fo a).1=160)∧(a=240→(fo a).1=144)∧(((fo a).2.2=2∧a<224)∨((fo a).2.2=3∧224≤a∧a<240)∨((fo a).2.2=4∧240≤a)):=by
  unfold fo
  by_cases e1:a=224
  ·rw[if_pos e1]; simp; omega
  by_cases e2:a=237
  ·rw[if_neg e1,if_pos e2]; simp; omega
  by_cases e3:a<224
  ·rw[if_neg e1,if_neg e2,if_pos e3]; simp; omega
  by_cases e4:a<240
  ·rw[if_neg e1,if_neg e2,if_neg e3,if_pos e4]; simp; omega
  by_cases e5:a=240
  ·rw[if_neg e1,if_neg e2,if_neg e3,if_neg e4,if_pos e5]; simp; omega
  by_cases e6:a=244
  ·rw[if_neg e1,if_neg e2,if_neg e3,if_neg e4,if_neg e5,if_pos e6]; simp; omega
  ·rw[if_neg e1,if_neg e2,if_neg e3,if_neg e4,if_neg e5,if_neg e6]; simp; omega
 rw[show lw (a::t)=lw2 (fo a).1 (fo a).2.1 (fo a).2.2 t by rw[lw,if_pos (by omega)]];generalize fo a=q at hfo;obtain⟨lo,hi,n⟩:=q;simp only at hfo ⊢;obtain⟨g1,g2,g3,g4,g5⟩:=hfo;have R:∀ {c:Int},c∈a::t→0≤c∧c≤255:=fun {c} hc=>hb c hc
 cases t with
 | nil=>
  rw[if_pos (by simp; omega)];exact⟨_,rfl,by decide⟩
 | cons b t=>
  have hb1:=R (c:=b) (by simp);rw[show getI (a::b::t) 1=some b from rfl,Option.bind_some,lw2]
  by_cases hlen:(((b::t).length+1:Nat):Int)<(n:Int)
  ·rw[if_pos hlen];refine⟨65533,?_,by decide⟩;rw[List.length_cons] at hlen
   by_cases k:lo≤b∧b≤hi
   ·rw[if_pos k,if_neg (by omega)]
    cases t with
    | nil=>rfl
    | cons c t=>
     rw[lw3]
     by_cases k2:128≤c∧c≤191
     ·rw[List.length_cons] at hlen;rw[if_pos k2,if_neg (by omega)]
      cases t with
      | nil=>rfl
      | cons d t=>rw[List.length_cons] at hlen; omega
     ·rw[if_neg k2]; rfl
   ·rw[if_neg k]; rfl
  rw[if_neg hlen];rw[List.length_cons] at hlen
  by_cases k:lo≤b∧b≤hi
  case neg=>
   rw[if_neg k]
   by_cases k1:b<lo
   ·rw[if_pos k1]; exact⟨_,rfl,by decide⟩
   ·rw[if_neg k1,if_pos (by omega)]; exact⟨_,rfl,by decide⟩
  rw[if_neg (by omega),if_neg (by omega),if_pos k];obtain⟨m1,m2,m3,-⟩:=band_lo' (a:=a) (by omega) (by omega);obtain⟨-,-,-,n4⟩:=band_lo' (a:=b) (by omega) (by omega);obtain⟨s1,-,-⟩:=ishl_i32 (x:=a % 32) (by omega) (by omega);obtain⟨-,s2,-⟩:=ishl_i32 (x:=a % 16) (by omega) (by omega);obtain⟨-,-,s3⟩:=ishl_i32 (x:=a % 8) (by omega) (by omega);obtain⟨s4,s5,-⟩:=ishl_i32 (x:=b % 64) (by omega) (by omega);rw[m1,m2,m3,n4,s1,s2,s3 (by omega),s4,s5]
  by_cases hn2:n≤2
  ·rw[if_pos (by omega),if_pos hn2,if_neg (by omega)];refine⟨_,rfl,?_⟩;have:=bor_ge (x:=a % 32*64) (y:=b % 64) (by omega) (by omega);omega
  rw[if_neg (by omega),if_neg hn2]
  cases t with
  | nil=>rw[List.length_nil] at hlen; omega
  | cons c t=>
   have hc1:=R (c:=c) (by simp);rw[show getI (a::b::c::t) 2=some c from rfl,Option.bind_some,lw3]
   by_cases k2:128≤c∧c≤191
   case neg=>
    rw[if_neg k2]
    by_cases k1:c<128
    ·rw[if_pos k1]; exact⟨_,rfl,by decide⟩
    ·rw[if_neg k1,if_pos (by omega)]; exact⟨_,rfl,by decide⟩
   rw[if_neg (by omega),if_neg (by omega),if_pos k2];obtain⟨-,-,-,c4⟩:=band_lo' (a:=c) (by omega) (by omega);obtain⟨s6,-,-⟩:=ishl_i32 (x:=c % 64) (by omega) (by omega);rw[c4,s6]
   by_cases hn3:n≤3
   ·rw[if_pos (by omega),if_pos hn3,if_neg (by omega),if_neg (by omega)];refine⟨_,rfl,?_⟩;have p1:=bor_ge (x:=a % 16*4096) (y:=b % 64*64) (by omega) (by omega);have p2:=bor_ge (x:=bor .i32 (a % 16*4096) (b % 64*64)) (y:=c % 64) (by omega) (by omega);omega
   rw[if_neg (by omega),if_neg hn3];rw[List.length_cons] at hlen
   cases t with
   | nil=>rw[List.length_nil] at hlen; omega
   | cons d t=>
    have hd1:=R (c:=d) (by simp);rw[show getI (a::b::c::d::t) 3=some d from rfl,Option.bind_some,lw4]
    by_cases k3:128≤d∧d≤191
    case neg=>
     rw[if_neg k3]
     by_cases k1:d<128
     ·rw[if_pos k1]; exact⟨_,rfl,by decide⟩
     ·rw[if_neg k1,if_pos (by omega)]; exact⟨_,rfl,by decide⟩
    rw[if_neg (by omega),if_neg (by omega),if_pos k3,if_neg (by omega),if_neg (by omega),if_neg (by omega)];obtain⟨-,-,-,d4⟩:=band_lo' (a:=d) (by omega) (by omega);rw[d4];refine⟨_,rfl,?_⟩;have p1:=bor_ge (x:=a % 8*262144) (y:=b % 64*4096) (by omega) (by omega);have p2:=bor_ge (x:=bor .i32 (a % 8*262144) (b % 64*4096)) (y:=c % 64*64) (by omega) (by omega);have p3:=bor_ge (x:=bor .i32 (bor .i32 (a % 8*262144) (b % 64*4096)) (c % 64*64)) (y:=d % 64) (by omega) (by omega);omega
theorem slowS_eq (s:ByteArray):unicode_utf8_decodeRuneInStringSlow s=unicode_utf8_decodeRuneSlow (bytesOf s):=by
 unfold unicode_utf8_decodeRuneInStringSlow unicode_utf8_decodeRuneSlow;simp only[getB_eq,sizI_eq',lenI_eq];rfl
theorem lw_of {L:List Int}{w:Nat}(h:wid L=w)(h1:lw L=if w=0 then 1 else w):lw L=if wid L=0 then 1 else wid L:=by rw[h]; exact h1
theorem lw_wid {a:Int}{t:List Int}(ha:128≤a):lw (a::t)=if wid (a::t)=0 then 1 else wid (a::t):=by
 by_cases e:a<194∨244<a
 ·exact lw_of (wid_bad ha e) (by rw[lw,if_neg (by omega)]; rfl)
 have hl0:∀ t,lw (a::t)=lw2 (fo a).1 (fo a).2.1 (fo a).2.2 t:=fun t=>by rw[lw,if_pos (by omega)]
 by_cases e1:a<224
 ·have hw:∀ t,wid (a::t)=(match acc 1 (a-192) t with | some v=>if 128≤v then 2 else 0 | none=>0):=fun t=>by rw[wid,if_neg (by omega),if_neg (by omega),if_pos (by omega)]; try rfl
  have hf:fo a=(128,191,2):=by unfold fo; rw[if_neg (by omega),if_neg (by omega),if_pos e1]
  rw[hf] at hl0
  cases t with
  | nil=>exact lw_of (w:=0) (by rw[hw,acc]) (by rw[hl0]; rfl)
  | cons b t=>
   by_cases k:128≤b∧b≤191
   ·exact lw_of (w:=2) (by rw[hw,acc,if_pos k,acc]; exact if_pos (by omega)) (by rw[hl0,lw2,if_pos k,if_pos (by decide)]; rfl)
   ·exact lw_of (w:=0) (by rw[hw,acc,if_neg k]) (by rw[hl0,lw2,if_neg k]; rfl)
 by_cases e2:a<240
 ·have hw:∀ t,wid (a::t)=(match acc 2 (a-224) t with | some v=>if 2048≤v∧(v<55296∨57344≤v) then 3 else 0 | none=>0):=fun t=>by rw[wid,if_neg (by omega),if_neg (by omega),if_neg (by omega),if_pos (by omega)]; try rfl
  have hf:∃ lo hi,fo a=(lo,hi,3)∧lo=(if a=224 then 160 else 128)∧hi=(if a=237 then 159 else 191):=by
   unfold fo
   by_cases h1:a=224
   ·rw[if_pos h1,if_pos h1,if_neg (by omega)]; exact⟨_,_,rfl,rfl,rfl⟩
   by_cases h2:a=237
   ·rw[if_neg h1,if_pos h2,if_neg h1,if_pos h2]; exact⟨_,_,rfl,rfl,rfl⟩
   ·rw[if_neg h1,if_neg h2,if_neg e1,if_pos e2,if_neg h1,if_neg h2]; exact⟨_,_,rfl,rfl,rfl⟩
  obtain⟨lo,hi,hf,hlo,hhi⟩:=hf;have hlo2:(a=224∧lo=160)∨(a≠224∧lo=128):=by rw[hlo]; split<;>simp[*]
  have hhi2:(a=237∧hi=159)∨(a≠237∧hi=191):=by rw[hhi]; split<;>simp[*]
  clear hlo hhi;rw[hf] at hl0;simp only at hl0
  cases t with
  | nil=>exact lw_of (w:=0) (by rw[hw,acc]) (by rw[hl0]; rfl)
  | cons b t=>
   by_cases k:128≤b∧b≤191
   case neg=>exact lw_of (w:=0) (by rw[hw,acc,if_neg k]) (by rw[hl0,lw2,if_neg (by omega)]; rfl)
   cases t with
   | nil=>
    refine lw_of (w:=0) (by rw[hw,acc,if_pos k,acc]) ?_;rw[hl0,lw2]
    split
    ·rw[if_neg (by decide),lw3]; rfl
    ·rfl
   | cons c t=>
    by_cases k2:128≤c∧c≤191
    case neg=>
     refine lw_of (w:=0) (by rw[hw,acc,if_pos k,acc,if_neg k2]) ?_;rw[hl0,lw2]
     split
     ·rw[if_neg (by decide),lw3,if_neg k2]; rfl
     ·rfl
    by_cases k3:2048≤((a-224)*64+b-128)*64+c-128∧(((a-224)*64+b-128)*64+c-128<55296∨57344≤((a-224)*64+b-128)*64+c-128)
    ·exact lw_of (w:=3) (by rw[hw,acc,if_pos k,acc,if_pos k2,acc]; exact if_pos k3) (by rw[hl0,lw2,if_pos (by omega),if_neg (by decide),lw3,if_pos k2,if_pos (by decide)]; rfl)
    ·exact lw_of (w:=0) (by rw[hw,acc,if_pos k,acc,if_pos k2,acc]; exact if_neg k3) (by rw[hl0,lw2,if_neg (by omega)]; rfl)
 ·have hw:∀ t,wid (a::t)=(match acc 3 (a-240) t with | some v=>if 65536≤v∧v≤1114111 then 4 else 0 | none=>0):=fun t=>by rw[wid,if_neg (by omega),if_neg (by omega),if_neg (by omega),if_neg (by omega),if_pos (by omega)]; try rfl
  have hf:∃ lo hi,fo a=(lo,hi,4)∧lo=(if a=240 then 144 else 128)∧hi=(if a=244 then 143 else 191):=by
   unfold fo;rw[if_neg (by omega),if_neg (by omega),if_neg e1,if_neg e2]
   by_cases h1:a=240
   ·rw[if_pos h1,if_pos h1,if_neg (by omega)]; exact⟨_,_,rfl,rfl,rfl⟩
   by_cases h2:a=244
   ·rw[if_neg h1,if_pos h2,if_neg h1,if_pos h2]; exact⟨_,_,rfl,rfl,rfl⟩
   ·rw[if_neg h1,if_neg h2,if_neg h1,if_neg h2]; exact⟨_,_,rfl,rfl,rfl⟩
  obtain⟨lo,hi,hf,hlo,hhi⟩:=hf;have hlo2:(a=240∧lo=144)∨(a≠240∧lo=128):=by rw[hlo]; split<;>simp[*]
  have hhi2:(a=244∧hi=143)∨(a≠244∧hi=191):=by rw[hhi]; split<;>simp[*]
  clear hlo hhi;rw[hf] at hl0;simp only at hl0
  cases t with
  | nil=>exact lw_of (w:=0) (by rw[hw,acc]) (by rw[hl0]; rfl)
  | cons b t=>
   by_cases k:128≤b∧b≤191
   case neg=>exact lw_of (w:=0) (by rw[hw,acc,if_neg k]) (by rw[hl0,lw2,if_neg (by omega)]; rfl)
   cases t with
   | nil=>
    refine lw_of (w:=0) (by rw[hw,acc,if_pos k,acc]) ?_;rw[hl0,lw2]
    split
    ·rw[if_neg (by decide),lw3]; rfl
    ·rfl
   | cons c t=>
    by_cases k2:128≤c∧c≤191
    case neg=>
     refine lw_of (w:=0) (by rw[hw,acc,if_pos k,acc,if_neg k2]) ?_;rw[hl0,lw2]
     split
     ·rw[if_neg (by decide),lw3,if_neg k2]; rfl
     ·rfl
    cases t with
    | nil=>
     refine lw_of (w:=0) (by rw[hw,acc,if_pos k,acc,if_pos k2,acc]) ?_;rw[hl0,lw2]
     split
     ·rw[if_neg (by decide),lw3,if_pos k2,if_neg (by decide),lw4]; rfl
     ·rfl
    | cons d t=>
     by_cases k4:128≤d∧d≤191
     case neg=>
      refine lw_of (w:=0) (by rw[hw,acc,if_pos k,acc,if_pos k2,acc,if_neg k4]) ?_;rw[hl0,lw2]
      split
      ·rw[if_neg (by decide),lw3,if_pos k2,if_neg (by decide),lw4,if_neg k4]; rfl
      ·rfl
     by_cases k3:65536≤(((a-240)*64+b-128)*64+c-128)*64+d-128∧(((a-240)*64+b-128)*64+c-128)*64+d-128≤1114111
     ·exact lw_of (w:=4) (by rw[hw,acc,if_pos k,acc,if_pos k2,acc,if_pos k4,acc]; exact if_pos k3) (by rw[hl0,lw2,if_pos (by omega),if_neg (by decide),lw3,if_pos k2,if_neg (by decide),lw4,if_pos k4]; rfl)
     ·exact lw_of (w:=0) (by rw[hw,acc,if_pos k,acc,if_pos k2,acc,if_pos k4,acc]; exact if_neg k3) (by rw[hl0,lw2,if_neg (by omega)]; rfl)
theorem wid_le (L:List Int):wid L≤4:=by
 cases L with
 | nil=>simp[wid]
 | cons a t=>
  rw[wid]
  repeat' split
  all_goals omega
theorem wid_one {a:Int}{t:List Int}(h:a<128):wid (a::t)=1:=by rw[wid,if_pos h]
theorem wid_ge {a:Int}{t:List Int}(h:128≤a):wid (a::t)≠1:=by
 rw[wid,if_neg (by omega)]
 repeat' split
 all_goals decide
def chars (L:List Int):Option Nat:=match L with
 | []=>some 0
 | a::t=>if a<32∨a=127∨wid (a::t)=0 then none else (chars (t.drop (wid (a::t)-1))).map (·+1)
termination_by L.length
decreasing_by simp only[List.length_drop,List.length_cons]; omega
theorem chars_nil:chars []=some 0:=by rw[chars]
theorem chars_cons (a:Int)(t:List Int):chars (a::t)=if a<32∨a=127∨wid (a::t)=0 then none else (chars ((a::t).drop (wid (a::t)))).map (·+1):=by
 rw[chars]
 split
 ·rfl
 ·rename_i h;rw[show (a::t).drop (wid (a::t))=t.drop (wid (a::t)-1) by
   obtain⟨w,hw⟩:∃ w,wid (a::t)=w+1:=⟨wid (a::t)-1,by omega⟩;rw[hw]; rfl]
theorem decStr_eq {s:ByteArray}{a:Int}{t:List Int}(h:bytesOf s=a::t)(hl:t.length≤1000000000):∃ r,unicode_utf8_DecodeRuneInString s=some (r,((if wid (a::t)=0 then 1 else wid (a::t):Nat):Int)):=by
 have hb:=bytesOf_isB s;rw[h] at hb;unfold unicode_utf8_DecodeRuneInString;rw[if_neg (by rw[seq_iff]; intro e; rw[e] at h; cases h),getB_eq,h,show getI (a::t) 0=some a from rfl,Option.bind_some]
 by_cases e:a<128
 ·rw[if_pos (by rw[ilt_iff]; exact e),wid_one e];exact⟨_,rfl⟩
 ·rw[if_neg (by rw[ilt_iff]; exact e),slowS_eq,h];obtain⟨r,hr,_⟩:=slow_eq hb (by omega) hl;rw[hr,lw_wid (by omega)];exact⟨r,rfl⟩
theorem IsName_loop {s:ByteArray}(hs:s.size≤1000000000):∀ (n pos:Nat) (x:Int),s.size-pos=n→0≤x→x+n≤10000000000 →
  loopF (lex_IsName_B0 s) (x,pos)=some (match chars ((bytesOf s).drop pos) with | none=>.inl () | some k=>.inr (x+k)):=by
 have hsz:=size_eq s;intro n
 induction n using Nat.strongRecOn with
 | _ n ih=>
  intro pos x hn h0 h1
  cases hd:(bytesOf s).drop pos with
  | nil=>
   have hl:=congrArg List.length hd;rw[List.length_drop,List.length_nil] at hl;rw[chars_nil,loopF_inr (r:=.inr x)]
   ·simp
   ·simp only[lex_IsName_B0];rw[if_neg (by simp[isAt]; omega)]
  | cons a t=>
   have hl:=congrArg List.length hd;rw[List.length_drop,List.length_cons] at hl;have hi:pos<s.size:=by omega
   have hc:bytesOf (cutB s (ofN pos) (sizI s))=a::t:=by rw[cutB_all]; exact hd
   obtain⟨v28,hv⟩:=decStr_eq hc (by omega);have hm:=decode_spec hi;rw[hd] at hm;obtain⟨w,r,m1,m2,m3,m4,m5⟩:=hm;have hr:decR s pos=(r:Int):=by unfold decR; rw[m2]
   have hw:decW s pos=if w=0 then 1 else w:=by unfold decW; rw[m2]
   have hw4:=wid_le (a::t);rw[m1] at hw4;have hstep:lex_IsName_B0 s (x,pos)=if a<32∨a=127∨w=0 then some (.inr (.inl ())) else some (.inl (x+1,pos+w)):=by
    simp only[lex_IsName_B0];rw[if_pos (by simp[isAt]; omega),if_pos (by rw[cutOk_iff,sizI_eq]; unfold ofN; omega),hv,Option.bind_some,hr,hw,m1,iadd_ok (by omega) (by omega)];simp only[ilt_iff,ieq_iff]
    rcases Nat.lt_trichotomy w 1 with h | h | h
    ·have hw0:w=0:=by omega
     have:=m3 hw0;subst hw0;rw[if_neg (by omega),if_neg (by omega),if_pos (by omega),if_pos (by rfl),if_pos (.inr (.inr rfl))]
    ·have:=m4 h;have har:a=(r:Int):=by simpa using this
     subst h;have ha:a<128:=by
      by_cases ha:a<128
      ·exact ha
      ·exact absurd m1 (wid_ge (by omega))
     by_cases e1:a<32
     ·rw[if_pos (by omega),if_pos (.inl e1)]
     ·rw[if_neg (by omega)]
      by_cases e2:a=127
      ·rw[if_pos (by omega),if_pos (.inr (.inl e2))]
      ·rw[if_neg (by omega),if_neg (by omega),if_neg (by omega),if_neg (by omega)]
    ·have hr:=m5 (by omega);have ha:128≤a:=by
      by_cases ha:a<128
      ·have:=wid_one (t:=t) ha; omega
      ·omega
     rw[if_neg (by omega),if_neg (by omega),if_neg (c:=a<32∨_) (by omega),if_neg (show ¬ w=0 by omega)]
     by_cases e:(r:Int)=65533
     ·rw[if_pos e,if_neg (by omega)]
     ·rw[if_neg e]
   rw[chars_cons,m1]
   by_cases e:a<32∨a=127∨w=0
   ·rw[if_pos e] at hstep ⊢;exact loopF_inr hstep
   ·rw[if_neg e] at hstep ⊢;rw[loopF_inl hstep,ih (s.size-(pos+w)) (by omega) (pos+w) (x+1) rfl (by omega) (by omega),← List.drop_drop,hd]
    cases chars ((a::t).drop w) with
    | none=>rfl
    | some k=>
     simp only[Option.map_some];congr 2;omega
def nameB (L:List Int):Bool:=match chars L with
 | none=>false
 | some k=>decide (1≤k∧k≤40)
theorem IsName_eq {s:ByteArray}(hs:s.size≤1000000000):lex_IsName s=some (nameB (bytesOf s)):=by
 unfold lex_IsName nameB;rw[show ((0:Int),(0:Nat))=(0,0) from rfl,IsName_loop hs s.size 0 0 rfl (by omega) (by omega),List.drop_zero,Option.bind_some]
 cases chars (bytesOf s) with
 | none=>rfl
 | some k=>
  simp only[ilt_iff,Int.zero_add]
  by_cases h:1≤k
  ·rw[if_pos (by omega)];congr 1;rw[Bool.eq_iff_iff,ile_iff,decide_eq_true_eq];omega
  ·rw[if_neg (by omega)];congr 1;symm;rw[decide_eq_false_iff_not];omega
theorem refName_loop {s:ByteArray}(hs:s.size≤1000000000):∀ (n pos:Nat) (x:Int),s.size-pos=n→0≤x→x+n≤10000000000→pos≤2000000000 →
  loopF (ref01_IsName_B0 s) (x,(pos:Int))=some (match chars ((bytesOf s).drop pos) with | none=>.inl () | some k=>.inr (x+k)):=by
 have hsz:=size_eq s;intro n
 induction n using Nat.strongRecOn with
 | _ n ih=>
  intro pos x hn h0 h1 h2
  cases hd:(bytesOf s).drop pos with
  | nil=>
   have hl:=congrArg List.length hd;rw[List.length_drop,List.length_nil] at hl;rw[chars_nil,loopF_inr (r:=.inr x)]
   ·simp
   ·simp only[ref01_IsName_B0];rw[if_neg (by rw[ilt_iff,sizI_eq]; omega)]
  | cons a t=>
   have hl:=congrArg List.length hd;rw[List.length_drop,List.length_cons] at hl;have hi:pos<s.size:=by omega
   have hc:(bytesOf s)[pos]?=some a:=by
    have:=congrArg (·[0]?) hd;simpa using this
   have hw4:=wid_le (a::t);have hstep:ref01_IsName_B0 s (x,(pos:Int))=if a<32∨a=127∨wid (a::t)=0 then some (.inr (.inl ())) else some (.inl (x+1,((pos+wid (a::t):Nat):Int))):=by
    simp only[ref01_IsName_B0];rw[if_pos (by rw[ilt_iff,sizI_eq]; omega),Long_eq hi hs,hd,Option.bind_some,getB_eq,getI_nat,hc,Option.bind_some,iadd_ok (by omega) (by omega),iadd_ok (by omega) (by omega)];simp only[ilt_iff,ieq_iff]
    by_cases e0:wid (a::t)=0
    ·rw[if_pos (by omega),if_pos (.inr (.inr e0))]
    rw[if_neg (by omega)]
    by_cases e1:a<32
    ·rw[if_pos e1,if_pos (.inl e1)]
    rw[if_neg e1]
    by_cases e2:a=127
    ·rw[if_pos e2,if_pos (.inr (.inl e2))]
    rw[if_neg e2,if_neg (by omega)];congr 3
   rw[chars_cons]
   by_cases e:a<32∨a=127∨wid (a::t)=0
   ·rw[if_pos e] at hstep ⊢;exact loopF_inr hstep
   ·rw[if_neg e] at hstep ⊢;rw[loopF_inl hstep,ih (s.size-(pos+wid (a::t))) (by omega) (pos+wid (a::t)) (x+1) rfl (by omega) (by omega) (by omega),← List.drop_drop,hd]
    cases chars ((a::t).drop (wid (a::t))) with
    | none=>rfl
    | some k=>
     simp only[Option.map_some];congr 2;omega
theorem refIsName_eq {s:ByteArray}(hs:s.size≤1000000000):ref01_IsName s=some (nameB (bytesOf s)):=by
 unfold ref01_IsName nameB;rw[show ((0:Int),(0:Int))=(0,((0:Nat):Int)) from rfl,refName_loop hs s.size 0 0 rfl (by omega) (by omega) (by omega),List.drop_zero,Option.bind_some]
 cases chars (bytesOf s) with
 | none=>rfl
 | some k=>
  simp only[ile_iff,Int.zero_add]
  by_cases h:1≤k
  ·rw[if_pos (by omega)];congr 1;rw[Bool.eq_iff_iff,ile_iff,decide_eq_true_eq];omega
  ·rw[if_neg (by omega)];congr 1;symm;rw[decide_eq_false_iff_not];omega
def nl:List Int→Nat
 | []=>0
 | a::t=>if a=10 then 0 else nl t+1
theorem nl_le:∀ L:List Int,nl L≤L.length
 | []=>Nat.le_refl _
 | a::t=>by
  rw[nl,List.length_cons];have:=nl_le t
  split<;>omega
theorem nl_no:∀ {L:List Int},nl L=L.length→∀ (i:Nat),L[i]?≠some 10
 | [],_,i,h=>by cases h
 | a::t,hn,i,h=>by
  rw[nl,List.length_cons] at hn
  by_cases e:a=10
  ·rw[if_pos e] at hn; omega
  ·rw[if_neg e] at hn
   match i,h with
   | 0,h=>exact e (by simpa using h)
   | i+1,h=>exact nl_no (L:=t) (by omega) i (by simpa using h)
theorem nl_at:∀ {L:List Int},nl L<L.length→L[nl L]?=some 10
 | [],h=>by cases h
 | a::t,hn=>by
  rw[nl,List.length_cons] at hn;rw[nl]
  by_cases e:a=10
  ·rw[if_pos e]; simp[e]
  ·rw[if_neg e] at hn ⊢;rw[List.getElem?_cons_succ];exact nl_at (L:=t) (by omega)
theorem nl_lt:∀ {L:List Int} {i:Nat},i<nl L→L[i]?≠some 10
 | [],i,h=>by cases h
 | a::t,i,hn=>by
  rw[nl] at hn
  by_cases e:a=10
  ·rw[if_pos e] at hn; omega
  ·rw[if_neg e] at hn
   match i,hn with
   | 0,_=>simpa using e
   | i+1,h=>rw[List.getElem?_cons_succ]; exact nl_lt (by omega)
theorem byte_at (s:ByteArray)(i:Nat)(h:i<s.size):(bytesOf s)[i]?=some ((s[i]!.toNat:Nat):Int):=by
 have:=get_drop s 0 i;rw[List.drop_zero,if_pos (by omega),Nat.zero_add] at this;rw[this];congr 3;exact (getElem!_pos s.data i h).trans (getElem!_pos s i h).symm
theorem findB_nl (s:ByteArray):findB s 10=if nl (bytesOf s)<s.size then (nl (bytesOf s):Int) else -1:=by
 have hsz:=size_eq s;have hb:∀ i,i<s.size→((s[i]! == (10:Int).toNat.toUInt8)=true↔(bytesOf s)[i]?=some 10):=by
  intro i hi;rw[byte_at s i hi,beq_iff_eq]
  constructor
  ·intro h; rw[h]; rfl
  ·intro h;have:(s[i]!.toNat:Int)=10:=by simpa using h
   apply UInt8.toNat_inj.1;rw[show ((10:Int).toNat.toUInt8).toNat=10 from rfl];omega
 unfold findB;have hle:=nl_le (bytesOf s)
 by_cases h:nl (bytesOf s)<s.size
 ·have hf:(List.range s.size).find? (fun i=>s[i]! == (10:Int).toNat.toUInt8)=some (nl (bytesOf s)):=by
   rw[List.find?_range_eq_some];refine⟨(hb _ h).2 (nl_at (by omega)),by simpa using h,fun j hj=>?_⟩;have:¬ (s[j]! == (10:Int).toNat.toUInt8)=true:=fun e=>nl_lt hj ((hb j (by omega)).1 e);simpa using this
  rw[hf,if_pos h]
 ·have hf:(List.range s.size).find? (fun i=>s[i]! == (10:Int).toNat.toUInt8)=none:=by
   rw[List.find?_eq_none];intro i hi e;exact nl_no (by omega) i ((hb i (by simpa using hi)).1 e)
  rw[hf,if_neg h]
theorem Cut_eq {s:ByteArray}(hs:s.size≤1000000000):∃ r f,strings_Cut_nl s=some (strOf ((bytesOf s).take (nl (bytesOf s))),r,f):=by
 have hsz:=size_eq s;have hle:=nl_le (bytesOf s);have hI:internal_stringslite_Index_nl s=some (if nl (bytesOf s)<s.size then (nl (bytesOf s):Int) else -1):=by
  unfold internal_stringslite_Index_nl
  by_cases e:s=⟨#[10]⟩
  ·rw[if_pos (by rw[seq_iff]; exact e.symm)];subst e;rfl
  ·rw[if_neg (by rw[seq_iff]; exact fun h=>e h.symm),show getB { data:=#[10] } 0=some 10 from rfl,Option.bind_some];unfold internal_stringslite_IndexByte;rw[findB_nl,Option.bind_some]
 unfold strings_Cut_nl internal_stringslite_Cut_nl;rw[hI,Option.bind_some]
 by_cases h:nl (bytesOf s)<s.size
 ·rw[if_pos h,if_pos (by rw[ile_iff]; omega),if_pos (by rw[cutOk_iff]; omega),if_pos (by rw[cutOk_iff,sizI_eq,iadd_ok (by omega) (by omega)]; omega),Option.bind_some];refine⟨cutB s (iadd .i64 (nl (bytesOf s)) 1) (sizI s),true,?_⟩;have:cutB s 0 (nl (bytesOf s):Int)=strOf ((bytesOf s).take (nl (bytesOf s))):=by
   apply bytesOf_inj;rw[bytesOf_cutB,bytesOf_strOf ((bytesOf_isB s).take _)];simp
  rw[this]
 ·rw[if_neg h,if_neg (by decide),Option.bind_some];refine⟨⟨#[]⟩,false,?_⟩;rw[List.take_of_length_le (by omega),strOf_bytesOf]
def nameAt (b:List Int)(at_:Int):ByteArray × Int × Int:=
 if 0≤at_∧at_≤b.length then
  (if nameB ((b.drop at_.toNat).take (nl (b.drop at_.toNat)))=true then (strOf ((b.drop at_.toNat).take (nl (b.drop at_.toNat))),at_+nl (b.drop at_.toNat),0) else (⟨#[]⟩,at_,2))
 else (⟨#[]⟩,0,2)
theorem Name_eq {b:List Int}(hb:IsB b)(hl:b.length≤1000000000)(at_:Int):lex_Name b at_=some (nameAt b at_):=by
 unfold lex_Name nameAt;rw[isPlace_eq,Option.bind_some]
 by_cases h:0≤at_∧at_≤b.length
 case neg=>rw[if_neg (by simpa using h),if_neg h]
 rw[if_pos (by simpa using h),if_pos h,if_pos (by rw[cutOk_iff,lenI_eq,lenN_eq]; omega),cut_drop h.1 h.2];have hbd:=hb.drop at_.toNat;have hsz:(strOf (b.drop at_.toNat)).size≤1000000000:=by rw[strOf_size hbd,List.length_drop]; omega
 obtain⟨r,f,hC⟩:=Cut_eq hsz;rw[bytesOf_strOf hbd] at hC;have hnl:=nl_le (b.drop at_.toNat);rw[List.length_drop] at hnl;have hsz2:(strOf ((b.drop at_.toNat).take (nl (b.drop at_.toNat)))).size=nl (b.drop at_.toNat):=by rw[strOf_size (hbd.take _),List.length_take,List.length_drop]; omega
 rw[hC,Option.bind_some];simp only;rw[IsName_eq (by rw[hsz2]; omega),Option.bind_some,bytesOf_strOf (hbd.take _),sizI_eq,hsz2,iadd_ok (by omega) (by omega)]
 split<;>rfl
def lead (p:Int→Bool):List Int→Nat
 | []=>0
 | a::t=>if p a=true then lead p t+1 else 0
theorem lead_le (p:Int→Bool):∀ L:List Int,lead p L≤L.length
 | []=>Nat.le_refl _
 | a::t=>by
  rw[lead,List.length_cons];have:=lead_le p t
  split<;>omega
theorem lead_all (p:Int→Bool):∀ (L:List Int) (c:Int),c∈L.take (lead p L)→p c=true
 | [],c,h=>by cases h
 | a::t,c,h=>by
  rw[lead] at h
  by_cases e:p a=true
  ·rw[if_pos e,List.take_succ_cons,List.mem_cons] at h
   rcases h with rfl | h
   ·exact e
   ·exact lead_all p t c h
  ·rw[if_neg e] at h; cases h
theorem DecodeRune_eq {a:Int}{t:List Int}(hb:IsB (a::t))(hl:t.length≤1000000000):∃ (r:Int) (w:Nat),unicode_utf8_DecodeRune (a::t)=some (r,(w:Int))∧(a<128→r=a∧w=1)∧(128≤a→128≤r):=by
 have ha:=hb a List.mem_cons_self
 by_cases e:a<128
 ·exact⟨a,1,decode_one ha.1 e,fun _=>⟨rfl,rfl⟩,fun h=>by omega⟩
 ·obtain⟨r,hr,hge⟩:=slow_eq hb (by omega) hl;refine⟨r,lw (a::t),?_,fun h=>absurd h e,fun _=>hge⟩;unfold unicode_utf8_DecodeRune;rw[loopF_inr (r:=.inr ()),Option.bind_some]
  ·simp only;rw[hr];rfl
  ·simp only[unicode_utf8_DecodeRune_B0];rw[if_pos (by rw[ilt_iff,lenI_eq,List.length_cons]; omega),show getI (a::t) 0=some a from rfl,Option.bind_some,if_neg (by rw[ilt_iff]; exact e)]
def SB (f:Int→Option Bool)(s:List Int)(x:Int):Option (Int ⊕ (Int ⊕ Unit)):=
 if (ilt x (lenI s))=true then
  if (cutOk (lenN s) x (lenI s))=true then
   Option.bind (unicode_utf8_DecodeRune ((cut s x (lenI s)))) fun (v23,v24)=>
   Option.bind (f v23) fun v26=>
   if (beq2 v26 true)=true then some (.inr (.inl x))
   else some (.inl (iadd IntKind.i64 x v24))
  else none
 else some (.inr (.inr ()))
theorem SB_loop {f:Int→Option Bool}{p:Int→Bool}(h0:∀ c,0≤c→c<128→f c=some (!p c))(h1:∀ c,128≤c→f c=some true)(h2:∀ c,128≤c→p c=false){s:List Int}(hb:IsB s)(hl:s.length≤1000000000):
  ∀ (n x:Nat),s.length-x=n→x≤s.length→loopF (SB f s) (x:Int)=some (if x+lead p (s.drop x)<s.length then .inl ((x+lead p (s.drop x):Nat):Int) else .inr ()):=by
 intro n
 induction n with
 | zero=>
  intro x hn hx;rw[loopF_inr (r:=.inr ()),List.drop_eq_nil_of_le (by omega),if_neg (by simp[lead]; omega)];unfold SB;rw[if_neg (by rw[ilt_iff,lenI_eq]; omega)]
 | succ n ih=>
  intro x hn hx;have hlt:x<s.length:=by omega
  have hd:=List.drop_eq_getElem_cons hlt;have hg:=List.getElem?_eq_getElem hlt;generalize s[x]=c at hd hg;have hc:=hb.nth hg;have hbd:=hb.drop x;rw[hd] at hbd;obtain⟨r,w,hr,k1,k2⟩:=DecodeRune_eq hbd (by rw[List.length_drop]; omega);have hstep:SB f s (x:Int)=if p c=true then some (.inl (((x+1:Nat):Int))) else some (.inr (.inl (x:Int))):=by
   unfold SB;rw[if_pos (by rw[ilt_iff,lenI_eq]; omega),if_pos (by rw[cutOk_iff,lenI_eq,lenN_eq]; omega),cut_drop (by omega) (by omega),Int.toNat_natCast,hd,hr,Option.bind_some];simp only
   by_cases e:c<128
   ·obtain⟨rfl,rfl⟩:=k1 e;rw[h0 _ hc.1 e,Option.bind_some]
    cases hp:p r with
    | true=>
     rw[if_neg (by decide),if_pos rfl,iadd_ok (by omega) (by omega)];rfl
    | false=>
     rw[if_pos (by decide),if_neg (by decide)]
   ·rw[h1 _ (k2 (by omega)),Option.bind_some,if_pos (by decide),h2 _ (by omega),if_neg (by decide)]
  rw[hd,lead]
  by_cases e:p c=true
  ·rw[if_pos e] at hstep ⊢;rw[loopF_inl hstep,ih (x+1) (by omega) (by omega)];rw[show x+1+lead p (s.drop (x+1))=x+(lead p (s.drop (x+1))+1) by omega]
  ·rw[if_neg e] at hstep ⊢;rw[loopF_inr hstep,if_pos (by omega)];rfl
def dig (c:Int):Bool:=decide (48≤c∧c≤57)
theorem figs_f:(∀ c,0≤c→c<128→lex_run_1_figs c=some (!dig c))∧(∀ c,128≤c→lex_run_1_figs c=some true):=by
 constructor
 ·intro c h0 h1;unfold lex_run_1_figs lex_Number_1;rw[if_neg (by rw[ile_iff]; omega),iconv_u8 h0 (by omega)];unfold dig;simp only[ile_iff]
  by_cases e:48≤c
  ·rw[if_pos e,Option.bind_some];congr 1;unfold bnot ile;simp[e]
  ·rw[if_neg e,Option.bind_some];congr 1;unfold bnot;simp[e]
 ·intro c h;unfold lex_run_1_figs;rw[if_pos (by rw[ile_iff]; exact h)]
theorem run_figs_eq {b:List Int}(hb:IsB b)(hl:b.length≤1000000000){at_:Int}(h:0≤at_∧at_≤b.length):lex_run_figs b at_=some (at_+lead dig (b.drop at_.toNat)):=by
 have hbd:=hb.drop at_.toNat;have hdl:(b.drop at_.toNat).length=b.length-at_.toNat:=List.length_drop;have hle:=lead_le dig (b.drop at_.toNat);unfold lex_run_figs;rw[if_pos (by rw[cutOk_iff,lenI_eq,lenN_eq]; omega),cut_drop h.1 h.2];have hS:=SB_loop (p:=dig) figs_f.1 figs_f.2 (fun c h=>by unfold dig; simp; omega) hbd (by omega) _ 0 rfl (by omega);rw[Nat.zero_add,List.drop_zero] at hS;have hI:bytes_indexFunc_figs (b.drop at_.toNat)=some (if lead dig (b.drop at_.toNat)<(b.drop at_.toNat).length then ((lead dig (b.drop at_.toNat):Nat):Int) else -1):=by
  unfold bytes_indexFunc_figs;rw[show loopF (bytes_indexFunc_figs_B0 (b.drop at_.toNat)) 0=_ from hS]
  split<;>rfl
 unfold bytes_IndexFunc_figs;rw[hI,Option.bind_some,Option.bind_some]
 split
 ·rw[if_neg (by rw[ilt_iff]; omega),iadd_ok (by omega) (by omega)]
 ·rw[if_pos (by decide),lenI_eq];congr 1;omega
def nv (lim:Int):List Int→Int→Option Int
 | [],n=>some n
 | c::t,n=>if lim<n*10+(c-48) then none else nv lim t (n*10+(c-48))
def NB (w:List Int)(most:Int)(p:Int × Int):Option ((Int × Int) ⊕ (Unit ⊕ Int)):=match p with
 | (x28,x29)=>
  if (ilt x29 (lenI w))=true then
   Option.bind (getI w x29) fun v31=>
   if (ilt (imin most 2147483647) (iadd IntKind.i64 (imul IntKind.i64 x28 10) (iconv IntKind.i64 (isub IntKind.u8 v31 48))))=true then some (.inr (.inl ()))
   else some (.inl (((iadd IntKind.i64 (imul IntKind.i64 x28 10) (iconv IntKind.i64 (isub IntKind.u8 v31 48))),(iadd IntKind.i64 x29 1))))
  else some (.inr (.inr x28))
theorem isub_u8 {c:Int}(h0:48≤c)(h1:c≤57):isub .u8 c 48=c-48:=iconv_u8 (a:=c-48) (by omega) (by omega)
theorem NB_loop {w:List Int}(hw:∀ c∈w,dig c=true)(hl:w.length≤1000000000)(most:Int):∀ (n k:Nat) (x:Int),w.length-k=n→k≤w.length→0≤x→x≤2147483647 →
  loopF (NB w most) (x,(k:Int))=some (match nv (min most 2147483647) (w.drop k) x with | none=>.inl () | some v=>.inr v):=by
 intro n
 induction n with
 | zero=>
  intro k x hn hk h0 h1;rw[loopF_inr (r:=.inr x),List.drop_eq_nil_of_le (by omega),nv];unfold NB;simp only;rw[if_neg (by rw[ilt_iff,lenI_eq]; omega)]
 | succ n ih=>
  intro k x hn hk h0 h1;have hlt:k<w.length:=by omega
  have hd:=List.drop_eq_getElem_cons hlt;have hg:=List.getElem?_eq_getElem hlt;generalize w[k]=c at hd hg;have hc:48≤c∧c≤57:=by simpa[dig] using hw c (List.mem_of_getElem? hg)
  have hstep:NB w most (x,(k:Int))=if min most 2147483647<x*10+(c-48) then some (.inr (.inl ())) else some (.inl (x*10+(c-48),((k+1:Nat):Int))):=by
   unfold NB;simp only;rw[if_pos (by rw[ilt_iff,lenI_eq]; omega),getI_nat,hg,Option.bind_some,isub_u8 hc.1 hc.2,iconv_ok (by omega) (by omega),imul_ok (by omega) (by omega),iadd_ok (by omega) (by omega),iadd_ok (by omega) (by omega)];simp only[ilt_iff];rfl
  rw[hd,nv]
  by_cases e:min most 2147483647<x*10+(c-48)
  ·rw[if_pos e] at hstep ⊢;exact loopF_inr hstep
  ·rw[if_neg e] at hstep ⊢;rw[loopF_inl hstep,ih (k+1) _ (by omega) (by omega) (by omega) (by omega)]
def numL (L:List Int)(most:Int):Int × Nat × Int:=
 if lead dig L=0 then (0,0,2)
 else if L[0]?=some 48∧1<lead dig L then (0,0,2)
 else match nv (min most 2147483647) (L.take (lead dig L)) 0 with
  | none=>(0,0,3)
  | some v=>(v,lead dig L,0)
theorem Number_eq {b:List Int}(hb:IsB b)(hl:b.length≤1000000000){at_:Int}(h:0≤at_∧at_≤b.length)(most:Int):
  lex_Number b at_ most=some ((numL (b.drop at_.toNat) most).1,at_+(numL (b.drop at_.toNat) most).2.1,(numL (b.drop at_.toNat) most).2.2):=by
 have hdl:(b.drop at_.toNat).length=b.length-at_.toNat:=List.length_drop;have hle:=lead_le dig (b.drop at_.toNat);unfold lex_Number numL;rw[isPlace_eq,Option.bind_some,if_pos (by simpa using h),run_figs_eq hb hl h,Option.bind_some];simp only[ieq_iff,ilt_iff]
 by_cases e1:lead dig (b.drop at_.toNat)=0
 ·rw[if_pos (by omega),if_pos e1]; simp
 rw[if_neg (by omega),if_neg e1];have hlt:at_.toNat<b.length:=by omega
 have hg:=List.getElem?_eq_getElem hlt;generalize b[at_.toNat]=c at hg;have hgi:getI b at_=some c:=by unfold getI; rw[if_pos h.1]; exact hg
 have hg0:(b.drop at_.toNat)[0]?=some c:=by rw[List.getElem?_drop]; exact hg
 rw[hgi,Option.bind_some,hg0,iadd_ok (by omega) (by omega)];have hc:cut b at_ (at_+(lead dig (b.drop at_.toNat):Nat))=(b.drop at_.toNat).take (lead dig (b.drop at_.toNat)):=by
  unfold cut;congr 1;omega
 have hcut:cutOk (lenN b) at_ (at_+(lead dig (b.drop at_.toNat):Nat))=true:=by rw[cutOk_iff,lenN_eq]; omega
 have hN:=NB_loop (w:=(b.drop at_.toNat).take (lead dig (b.drop at_.toNat))) (lead_all dig _) (by rw[List.length_take]; omega) most _ 0 0 rfl (Nat.zero_le _) (Int.le_refl 0) (by decide);rw[List.drop_zero] at hN;have hN0:loopF (lex_Number_B0 b at_ most (at_+(lead dig (b.drop at_.toNat):Nat))) (0,0)=some (match nv (min most 2147483647) ((b.drop at_.toNat).take (lead dig (b.drop at_.toNat))) 0 with | none=>.inl () | some v=>.inr v):=by
  rw[← hN,← hc]; rfl
 have hN1:loopF (lex_Number_B1 b at_ most (at_+(lead dig (b.drop at_.toNat):Nat))) (0,0)=some (match nv (min most 2147483647) ((b.drop at_.toNat).take (lead dig (b.drop at_.toNat))) 0 with | none=>.inl () | some v=>.inr v):=by
  rw[← hN,← hc]; rfl
 by_cases e2:c=48
 ·rw[if_pos e2]
  by_cases e3:1<lead dig (b.drop at_.toNat)
  ·rw[if_pos (by omega),if_pos ⟨by rw[e2],e3⟩]; simp
  ·rw[if_neg (by omega),if_pos hcut,if_neg (fun h=>e3 h.2),hN0,Option.bind_some]
   cases nv (min most 2147483647) ((b.drop at_.toNat).take (lead dig (b.drop at_.toNat))) 0<;>simp
 ·rw[if_neg e2,if_pos hcut,if_neg (fun h=>e2 (by simpa using h.1)),hN1,Option.bind_some]
  cases nv (min most 2147483647) ((b.drop at_.toNat).take (lead dig (b.drop at_.toNat))) 0<;>simp
theorem acc_cont:∀ {n:Nat} {x v:Int} {l:List Int},acc n x l=some v→n≤l.length∧∀ i<n,∃ c,l[i]?=some c∧128≤c
 | 0,_,_,_,_=>⟨Nat.zero_le _,fun i h=>absurd h (Nat.not_lt_zero i)⟩
 | n+1,x,v,c::l,h=>by
  rw[acc] at h
  by_cases e:128≤c∧c≤191
  ·rw[if_pos e] at h;obtain⟨h1,h2⟩:=acc_cont h;refine⟨by rw[List.length_cons]; omega,fun i hi=>?_⟩
   match i with
   | 0=>exact⟨c,rfl,e.1⟩
   | i+1=>exact h2 i (by omega)
  ·rw[if_neg e] at h; cases h
theorem wid_acc {a:Int}{t:List Int}(h:2≤wid (a::t)):∃ x v,acc (wid (a::t)-1) x t=some v:=by
 rw[wid] at h ⊢
 by_cases e1:a<128
 ·rw[if_pos e1] at h; omega
 rw[if_neg e1] at h ⊢
 by_cases e2:a<192
 ·rw[if_pos e2] at h; omega
 rw[if_neg e2] at h ⊢
 by_cases e3:a<224
 ·rw[if_pos e3] at h ⊢
  cases hv:acc 1 (a-192) t with
  | none=>rw[hv] at h; simp at h
  | some v=>
   rw[hv] at h;simp only at h ⊢
   split at h
   ·rename_i k;rw[if_pos k];exact⟨_,_,hv⟩
   ·omega
 rw[if_neg e3] at h ⊢
 by_cases e4:a<240
 ·rw[if_pos e4] at h ⊢
  cases hv:acc 2 (a-224) t with
  | none=>rw[hv] at h; simp at h
  | some v=>
   rw[hv] at h;simp only at h ⊢
   split at h
   ·rename_i k;rw[if_pos k];exact⟨_,_,hv⟩
   ·omega
 rw[if_neg e4] at h ⊢
 by_cases e5:a<248
 ·rw[if_pos e5] at h ⊢
  cases hv:acc 3 (a-240) t with
  | none=>rw[hv] at h; simp at h
  | some v=>
   rw[hv] at h;simp only at h ⊢
   split at h
   ·rename_i k;rw[if_pos k];exact⟨_,_,hv⟩
   ·omega
 ·rw[if_neg e5] at h; omega
theorem chars_nl:∀ (n:Nat) (s t:List Int),s.length=n→chars (s++10::t)=none:=by
 intro n
 induction n using Nat.strongRecOn with
 | _ n ih=>
  intro s t hn
  match s,hn with
  | [],_=>
   rw[List.nil_append,chars_cons,if_pos (.inl (by decide))]
  | a::s,hn=>
   rw[List.cons_append,chars_cons]
   by_cases e:a<32∨a=127∨wid (a::(s++10::t))=0
   ·rw[if_pos e]
   rw[if_neg e];have hle:wid (a::(s++10::t))≤(a::s).length:=by
    by_cases h2:2≤wid (a::(s++10::t))
    ·obtain⟨x,v,hv⟩:=wid_acc h2;have hc:=(acc_cont hv).2
     by_cases hlt:wid (a::(s++10::t))-1≤s.length
     ·rw[List.length_cons]; omega
     ·obtain⟨c,hc1,hc2⟩:=hc s.length (by omega);rw[List.getElem?_append_right (Nat.le_refl _),Nat.sub_self] at hc1;simp at hc1;omega
    ·rw[List.length_cons]; omega
   generalize wid (a::(s++10::t))=w at e hle ⊢;rw[← List.cons_append,List.drop_append_of_le_length hle,ih _ (by rw[List.length_drop,← hn,List.length_cons]; omega) _ t rfl];rfl
theorem chars_no10:∀ (n:Nat) (s:List Int) (k:Nat),s.length=n→chars s=some k→nl s=s.length:=by
 intro n s k hn h;have hle:=nl_le s
 by_cases hlt:nl s<s.length
 ·exfalso;have h10:=nl_at hlt;obtain⟨hl,he⟩:=List.getElem?_eq_some_iff.1 h10;have:s=s.take (nl s)++10::s.drop (nl s+1):=by
   conv=>lhs; rw[← List.take_append_drop (nl s) s]
   rw[List.drop_eq_getElem_cons hl,he]
  rw[this,chars_nl _ _ _ rfl] at h
  cases h
 ·omega
theorem nl_append {s t:List Int}(h:nl s=s.length):nl (s++10::t)=s.length:=by
 induction s with
 | nil=>rfl
 | cons a s ih=>
  rw[nl,List.length_cons] at h
  by_cases e:a=10
  ·rw[if_pos e] at h; omega
  ·rw[if_neg e] at h;rw[List.cons_append,nl,if_neg e,ih (by omega),List.length_cons]
theorem loop_find {ε δ:Type}{b:Int→Option (Int ⊕ (ε ⊕ δ))}(n:Nat)(q:Nat→Bool)(e:Nat→ε)(d:δ)(h1:∀ k:Nat,k<n→b (k:Int)=some (if q k=true then .inr (.inl (e k)) else .inl ((k+1:Nat):Int)))(h2:b (n:Int)=some (.inr (.inr d))):
  (∃ k,k<n∧q k=true∧loopF b 0=some (.inl (e k)))∨((∀ k,k<n→q k=false)∧loopF b 0=some (.inr d)):=by
 have aux:∀ m k:Nat,n-k=m→k≤n→(∀ j,j<k→q j=false)→(∃ k',k'<n∧q k'=true∧loopF b (k:Int)=some (.inl (e k')))∨((∀ k,k<n→q k=false)∧loopF b (k:Int)=some (.inr d)):=by
  intro m
  induction m with
  | zero=>
   intro k hm hk hj;obtain rfl:k=n:=by omega
   exact .inr ⟨hj,loopF_inr h2⟩
  | succ m ih=>
   intro k hm hk hj;have h:=h1 k (by omega)
   by_cases hq:q k=true
   ·rw[if_pos hq] at h;exact .inl ⟨k,by omega,hq,loopF_inr h⟩
   ·rw[if_neg hq] at h;rw[loopF_inl h];refine ih (k+1) (by omega) (by omega) (fun j hjk=>?_)
    by_cases e:j=k
    ·subst e; simpa using hq
    ·exact hj j (by omega)
 exact aux n 0 rfl (Nat.zero_le _) (fun j h=>absurd h (Nat.not_lt_zero _))
theorem inc_ok {k:Nat}(h:k≤1000000000000000):iadd .i64 (k:Int) 1=((k+1:Nat):Int):=by rw[iadd_ok (by omega) (by omega)]; rfl
theorem lt_len {α:Type}{s:List α}{k:Nat}:(ilt (k:Int) (lenI s)=true)=(k<s.length):=by rw[ilt_iff,lenI_eq]; exact propext (by omega)
def EB {α:Type}(f:α→α→Option Bool)(s1 s2:List α)(x:Int):Option (Int ⊕ (Unit ⊕ Unit)):=
 if (ilt x (lenI s1))=true then
  Option.bind (getI s1 x) fun v20=>
  Option.bind (getI s2 x) fun v22=>
  Option.bind (f v20 v22) fun v28=>
  if v28=true then some (.inl (iadd IntKind.i64 x 1)) else some (.inr (.inl ()))
 else some (.inr (.inr ()))
theorem EB_eq {α:Type}{f:α→α→Option Bool}{s1 s2:List α}(hf:∀ a∈s1,∀ b,∃ v,f a b=some v∧(v=true↔a=b))(hn:s1.length=s2.length)(hl:s1.length≤1000000000000000):
  (loopF (EB f s1 s2) 0=some (.inr ())∧s1=s2)∨(loopF (EB f s1 s2) 0=some (.inl ())∧s1≠s2):=by
 classical
 refine Or.elim (loop_find (b:=EB f s1 s2) s1.length (fun k=>!decide (s1[k]?=s2[k]?)) (fun _=>()) () (fun k hk=>?_) ?_) ?_ ?_
 rotate_left 2
 ·rintro⟨k,hk,hq,h⟩;refine .inr ⟨h,fun e=>?_⟩;rw[e] at hq;simp at hq
 ·rintro⟨hq,h⟩;refine .inl ⟨h,List.ext_getElem? fun k=>?_⟩
  by_cases hk:k<s1.length
  ·simpa using hq k hk
  ·rw[List.getElem?_eq_none (by omega),List.getElem?_eq_none (by omega)]
 ·unfold EB;obtain⟨v,h1,h2⟩:=hf s1[k] (List.getElem_mem hk) (s2[k]'(by omega));rw[if_pos (by rw[lt_len]; exact hk),getI_nat,List.getElem?_eq_getElem hk,Option.bind_some,getI_nat,List.getElem?_eq_getElem (show k<s2.length by omega),Option.bind_some,h1,Option.bind_some,inc_ok (by omega)];simp only[Option.some.injEq]
  by_cases e:s1[k]=s2[k]'(by omega)
  ·rw[if_pos (h2.2 e),if_neg (by simp[e])]
  ·rw[if_neg (fun h=>e (h2.1 h)),if_pos (by simp[e])]
 ·unfold EB;rw[if_neg (by rw[lt_len]; omega)]
theorem Equal_eq {a:List Int}(b:List Int)(hl:a.length≤1000000000000000):slices_Equal a b=some (decide (a=b)):=by
 unfold slices_Equal;simp only[ieq_iff,lenI_eq]
 by_cases hn:a.length=b.length
 ·rw[if_pos (by omega),show slices_Equal_B0 a b=EB (fun x y=>some (ieq x y)) a b from rfl]
  rcases EB_eq (f:=fun x y=>some (ieq x y)) (s1:=a) (s2:=b) (fun x _ y=>⟨_,rfl,by rw[ieq_iff]⟩) hn hl with ⟨h,e⟩ | ⟨h,e⟩
  ·rw[h,decide_eq_true e]; rfl
  ·rw[h,decide_eq_false e]; rfl
 ·rw[if_neg (by omega),decide_eq_false (fun e=>hn (by rw[e]))]
def numB (n:Int):List Int:=bytesOf (numeral n)
theorem numB_isB (n:Int):IsB (numB n):=bytesOf_isB _
theorem numB_len {n:Int}(h:I64 n):(numB n).length≤21:=numeral_len h.1 h.2
theorem Itoa_eq {n:Int}(h:I64 n):strconv_Itoa n=some (numeral n):=by unfold strconv_Itoa; rw[if_pos ⟨h.1,h.2⟩]
theorem take_snoc {α:Type}{l:List α}{k:Nat}(h:k<l.length):l.take (k+1)=l.take k++[l[k]]:=by
 rw[List.take_add_one,List.getElem?_eq_getElem h];rfl
theorem Write0_eq (s:ByteArray)(h:(bytesOf s).length≤140737488355328):strings_Builder_WriteString0 s=some (sizI s,bytesOf s):=by
 unfold strings_Builder_WriteString0;rw[show bld_check0=some () from rfl,Option.bind_some,if_pos (by rw[capN_iff,lenN_eq]; omega)]
theorem Write1_eq (s:ByteArray)(q:List Int)(h:q.length+(bytesOf s).length≤140737488355328):strings_Builder_WriteString1 s q=some (sizI s,q++bytesOf s):=by
 unfold strings_Builder_WriteString1;rw[show bld_check1 q=some q from rfl,Option.bind_some,if_pos (by rw[capN_iff,lenN_eq,List.length_append]; omega)]
theorem IsB.one {c:Int}(h:0≤c∧c≤255):IsB [c]:=fun d hd=>by rw[List.mem_singleton] at hd; subst hd; exact h
def wordS (b s:List Int)(q:Nat × Int):Nat × Int:=if q.2=0 then (if Pre s (b.drop q.1) then (q.1+s.length,0) else (q.1,2)) else q
def numS (b:List Int)(most:Int)(q:Nat × Int):Int × Nat × Int:=if q.2=0 then ((numL (b.drop q.1) most).1,q.1+(numL (b.drop q.1) most).2.1,(numL (b.drop q.1) most).2.2) else (0,q)
def pcnf:List Int:=[112,32,99,110,102,32]
def hd1 (b:List Int):Int × Nat × Int:=numS b 100000 (wordS b pcnf (0,0))
theorem fig_dig:∀ (n:Nat),∀ c∈fig n,dig c=true:=by
 intro n
 induction n using Nat.strongRecOn with
 | _ n ih=>
  intro c hc
  by_cases h:n<10
  ·rw[fig_small h,List.mem_singleton] at hc;subst hc;simp[dig]; omega
  ·rw[fig_big h,List.mem_append,List.mem_singleton] at hc
   rcases hc with hc | rfl
   ·exact ih _ (by omega) c hc
   ·simp[dig]; omega
theorem nv_append {lim:Int}:∀ (A B:List Int) (x:Int),nv lim (A++B) x=(nv lim A x).bind (nv lim B)
 | [],B,x=>by rw[List.nil_append,nv,Option.bind_some]
 | c::A,B,x=>by
  rw[List.cons_append,nv,nv]
  split
  ·rfl
  ·exact nv_append A B _
theorem nv_fig (lim:Int):∀ (n:Nat),nv lim (fig n) 0=if lim<n then none else some (n:Int):=by
 intro n
 induction n using Nat.strongRecOn with
 | _ n ih=>
  by_cases h:n<10
  ·rw[fig_small h,nv,nv];have:(0:Int)*10+(48+(n:Int)-48)=n:=by omega
   rw[this]
  ·rw[fig_big h,nv_append,ih _ (by omega)]
   by_cases h1:lim<((n / 10:Nat):Int)
   ·rw[if_pos h1,if_pos (by omega)]; try rfl
   ·rw[if_neg h1,Option.bind_some,nv,nv];have:((n / 10:Nat):Int)*10+(48+((n % 10:Nat):Int)-48)=n:=by omega
    rw[this]
theorem lead_append {p:Int→Bool}{B:List Int}:∀ {A:List Int},(∀ c∈A,p c=true)→lead p (A++B)=A.length+lead p B
 | [],_=>by simp
 | c::A,h=>by
  rw[List.cons_append,lead,if_pos (h c List.mem_cons_self),lead_append (fun c hc=>h c (List.mem_cons_of_mem _ hc)),List.length_cons];omega
theorem num_fig (n:Nat)(b:List Int)(hb:lead dig b=0)(most:Int):numL (fig n++b) most=if min most 2147483647<n then (0,0,3) else ((n:Int),(fig n).length,0):=by
 have hp:=fig_pos n;have hlead:lead dig (fig n++b)=(fig n).length:=by rw[lead_append (fig_dig n),hb,Nat.add_zero]
 have hh:¬ ((fig n++b)[0]?=some 48∧1<(fig n).length):=by
  rintro⟨h1,h2⟩;rw[List.getElem?_append_left (by omega)] at h1;exact fig_head n (by have:=fig_one.1 h2; omega) h1
 unfold numL;rw[hlead,if_neg (by omega),if_neg hh,List.take_left,nv_fig]
 by_cases e:min most 2147483647<(n:Int)
 ·rw[if_pos e,if_pos e]
 ·rw[if_neg e,if_neg e]
theorem numB_nat (n:Nat):numB (n:Int)=fig n:=by
 unfold numB;rw[bytes_numeral,if_neg (by omega),Int.toNat_natCast]
theorem drop_step {b X Y:List Int}{a:Nat}(h:b.drop a=X++Y):b.drop (a+X.length)=Y:=by rw[← List.drop_drop,h,List.drop_left]
theorem pre_app (X Y:List Int):Pre X (X++Y):=by unfold Pre; exact List.take_left
theorem lead_lf (Y:List Int):lead dig (10::Y)=0:=rfl
theorem lead_sp (Y:List Int):lead dig (32::Y)=0:=rfl
end Go.Vid
