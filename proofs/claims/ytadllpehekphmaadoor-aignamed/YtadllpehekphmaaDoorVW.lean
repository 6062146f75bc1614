/- A library: what is lent, in the words in which the interpreter's states are told. No condition. -/
import Derived.Test.YtadllpehekphmaaDoorVV
set_option linter.unusedSimpArgs false
set_option linter.unusedVariables false
namespace Go.Vabs
open Go.Vid
section
variable {hp:Heap} {fr nms:List Nat} {ty:Tys} {n d:Nat} {m:List (Nat × T)}
attribute [simp] once lentMore lentHs nmOf ixOf namesFrom lentH putL rowsOf killM killH lndR lndH lnpH backH lentHp
@[simp] theorem lentT_c (all:Bool)(x:C):lentT all (.c x)=lentC all x:=rfl
@[simp] theorem lentC_ptr (all:Bool)(h i off:Nat):lentC all (.ptr h i off)=[h]:=rfl
@[simp] theorem lentC_lit (all:Bool)(v:Value):lentC all (.lit v)=[]:=rfl
@[simp] theorem opd_big [Globals] (n:Nat)(m:List (Nat × T))(i:Nat)(h:n≤i):opd (tmk n m) (.tmp i)=.junk:=by rw[opd_tmk,if_neg (Nat.not_lt.mpr h)]
@[simp] theorem Aig_over (x:Go.Vid.Aig)(n:Nat)(ds:List C):over (Go.Vid.Aig.cells x) n ds=over [.lit (.int .i64 x.I),sls 2 Go.Vid.Latch.cells x.L,sls 2 Go.Vid.And.cells x.G,Go.Vid.ints x.outs,Go.Vid.ints x.bad,Go.Vid.ints x.con,sls 3 Go.Vid.Name.cells x.names] n ds:=rfl
def hdsO (o:Option Ob):List Nat:=match o with
 | some o=>o.hds
 | none=>[]
@[simp] theorem hdsO_some (o:Ob):hdsO (some o)=o.hds:=rfl
@[simp] theorem obHds_eq (h:Nat):obHds hp h=hdsO (hget hp h):=rfl
@[simp] theorem lentObs_nil (hs:List Nat):lentObs hp fr hs []=some []:=rfl
@[simp] theorem lentObs_cons (hs:List Nat)(h:Nat)(l:List Nat):lentObs hp fr hs (h::l)=(hget hp h).bind fun o=>if fr.contains h=false∧o.hds.all hs.contains=true then (lentObs hp fr hs l).map (o::·) else none:=by
 rw[lentObs]
 cases hget hp h<;>rfl
@[simp] theorem handC_ptr (hs:List Nat)(h i off:Nat):handC hp hs nms (.ptr h i off)=if hs.contains h=true then some (.ptr (nmOf hs nms h) i off) else none:=rfl
@[simp] theorem handC_lit (hs:List Nat)(v:Value):handC hp hs nms (.lit v)=some (.lit v):=rfl
@[simp] theorem handT_c (hs:List Nat)(x:C):handT hp hs nms (.c x)=(handC hp hs nms x).map .c:=rfl
@[simp] theorem dhsC_ptr (hs:List Nat)(h i off:Nat):dhsC hp hs (.ptr h i off)=[]:=rfl
@[simp] theorem dhsC_lit (hs:List Nat)(v:Value):dhsC hp hs (.lit v)=[]:=rfl
@[simp] theorem dhsT_c (hs:List Nat)(x:C):dhsT hp hs (.c x)=dhsC hp hs x:=rfl
@[simp] theorem obShift_mk (g:Nat→Nat)(b f:Bool)(e sz:Nat)(es:List (List C)):Ob.shift g ⟨b,f,e,sz,es⟩=if f=true then ⟨b,f,e,sz,es⟩ else ⟨b,f,e,sz,es.map fun e=>e.map (C.shift g)⟩:=rfl
@[simp] theorem obShift_row {α:Type}(g:Nat→Nat)(e sz:Nat)(f:α→List C)(l:List α):Ob.shift g (rowO e sz f l)=rowO e sz f l:=rfl
section
variable {α:Type} {f:α→List C} {l:List α}
end
def xpW (nms:List Nat)(h off len:Nat)(fr seen:List Nat)(obs:List Ob)(o:Ob)(j:Option Nat):Option (C × List Nat × List Ob):=match j with
 | some j=>if o.box||!o.free||off+len > o.es.length then none else if seen.contains h then none else
   if fr.contains h then some (.sl o.sz ((o.es.drop off).take len),seen,obs) else some (.ref j off len,seen,obs)
 | none=>(expW h off len fr seen obs o).map fun p=>(p.1.shift (nms.length+·),p.2.1,p.2.2)
@[simp] theorem xpW_none (h off len:Nat)(seen:List Nat)(obs:List Ob)(o:Ob):xpW nms h off len fr seen obs o none=(expW h off len fr seen obs o).map fun p=>(p.1.shift (nms.length+·),p.2.1,p.2.2):=rfl
@[simp] theorem xpC_ref' (y:Option (TypeId × Nat))(h off len:Nat)(seen:List Nat)(obs:List Ob):xpC hp fr nms y (.ref h off len) seen obs=(hget hp h).bind fun o=>xpW nms h off len fr seen obs o (ixOf nms h):=by
 have:nilZ y (.ref h off len)=none:=by cases y<;>rfl
 simp only[xpC,this]
 cases hget hp h with
 | none=>rfl
 | some o=>
  simp only[Option.bind_some]
  cases hj:ixOf nms h with
  | some j=>rfl
  | none=>
   simp only[xpW_none,expW]
   by_cases h1:(o.box||!o.free||decide (off+len > o.es.length))=true
   ·rw[if_pos h1,if_pos h1]; rfl
   rw[if_neg h1,if_neg h1]
   by_cases h2:seen.contains h=true
   ·rw[if_pos h2,if_pos h2]; rfl
   rw[if_neg h2,if_neg h2]
   by_cases h3:fr.contains h=true
   ·rw[if_pos h3,if_pos h3]; rfl
   ·rw[if_neg h3,if_neg h3]; rfl
@[simp] theorem leN_self (a:Nat):leN a a=true:=by simp[leN]
@[simp] theorem xpW_row {α:Type}{f:α→List C}{l l':List α}(h e sz j:Nat)(seen:List Nat)(obs:List Ob):xpW nms h 0 (lenN l') fr seen obs (rowO e sz f l) (some j) =
  Br (leN (lenN l') (lenN l)) (if seen.contains h=true then none else if fr.contains h=true then some (.sl sz ((cm f l).take (lenN l')),seen,obs) else some (.ref j 0 (lenN l'),seen,obs)) none .mk .mk:=by
 have h1:(cm f l).length=lenN l:=cm_length
 by_cases hl:lenN l'≤lenN l
 ·have hn:¬ (0+lenN l' > lenN l):=by omega
  simp only[xpW,leN,hl,decide_true,Br_true,rowO_box,rowO_es,rowO_sz,rowO_free,h1,hn,decide_false,Bool.not_true,Bool.or_false,Bool.false_eq_true,if_false,List.drop_zero]
 ·have hn:(0+lenN l' > lenN l):=by omega
  simp only[xpW,leN,hl,decide_false,Br_false,rowO_box,rowO_es,rowO_free,h1,hn,decide_true,Bool.not_true,Bool.or_true,if_true]
@[simp] theorem xpC_ptr (z:Option (TypeId × Nat))(h i off:Nat)(seen:List Nat)(obs:List Ob):xpC hp fr nms z (.ptr h i off) seen obs=if fr.contains h=true then none else (ixOf nms h).map fun j=>(.ptr j i off,seen,obs):=by cases z<;>rfl
@[simp] theorem xpC_int (z:Option (TypeId × Nat))(k:IntKind)(x:Int)(seen:List Nat)(obs:List Ob):xpC hp fr nms z (.lit (.int k x)) seen obs=some (.lit (.int k x),seen,obs):=by cases z<;>rfl
@[simp] theorem xpC_nilIface (z:Option (TypeId × Nat))(seen:List Nat)(obs:List Ob):xpC hp fr nms z (.lit .nilIface) seen obs=some (.lit .nilIface,seen,obs):=by cases z<;>rfl
@[simp] theorem xpC_sls {α:Type}{f:α→List C}{l:List α}(z:Option (TypeId × Nat))(n:Nat)(seen:List Nat)(obs:List Ob):xpC hp fr nms z (sls n f l) seen obs=some (sls n f l,seen,obs):=by cases z<;>rfl
@[simp] theorem xpL_nil (zs:List Lz)(seen:List Nat)(obs:List Ob):xpL hp fr nms zs [] seen obs=some ([],seen,obs):=by cases zs<;>rfl
theorem xpL_cons0 (zs:List Lz)(c:C)(cs:List C)(seen:List Nat)(obs:List Ob):xpL hp fr nms zs (c::cs) seen obs=(xpC hp fr nms (zs.headD none) c seen obs).bind fun p=>(xpL hp fr nms zs.tail cs p.2.1 p.2.2).map fun q=>(p.1::q.1,q.2.1,q.2.2):=by
 rw[xpL]
 cases xpC hp fr nms (zs.headD none) c seen obs with
 | none=>rfl
 | some p=>
  simp only[Option.bind_some]
  cases xpL hp fr nms zs.tail cs p.2.1 p.2.2<;>rfl
@[simp] theorem xpL_cons (z:Lz)(zs:List Lz)(c:C)(cs:List C)(seen:List Nat)(obs:List Ob):xpL hp fr nms (z::zs) (c::cs) seen obs=(xpC hp fr nms z c seen obs).bind fun p=>(xpL hp fr nms zs cs p.2.1 p.2.2).map fun q=>(p.1::q.1,q.2.1,q.2.2):=xpL_cons0 ..
@[simp] theorem xp1_c (zs:List Lz)(x:C)(seen:List Nat)(obs:List Ob):xp1 hp fr nms zs (.c x) seen obs=(xpC hp fr nms (zs.headD none) x seen obs).map fun p=>(.c p.1,p.2.1,p.2.2):=by
 simp only[xp1]
 cases xpC hp fr nms (zs.headD none) x seen obs<;>rfl
@[simp] theorem xp1_agg (zs:List Lz)(cs:List C)(seen:List Nat)(obs:List Ob):xp1 hp fr nms zs (.agg cs) seen obs=(xpL hp fr nms zs cs seen obs).map fun p=>(.agg p.1,p.2.1,p.2.2):=by
 simp only[xp1]
 cases xpL hp fr nms zs cs seen obs<;>rfl
@[simp] theorem xpTs_nil (zss:List (List Lz))(seen:List Nat)(obs:List Ob):xpTs hp fr nms zss [] seen obs=some ([],seen,obs):=by cases zss<;>rfl
theorem xpTs_cons0 (zss:List (List Lz))(t:T)(ts:List T)(seen:List Nat)(obs:List Ob):xpTs hp fr nms zss (t::ts) seen obs=(xp1 hp fr nms (zss.headD []) t seen obs).bind fun p=>(xpTs hp fr nms zss.tail ts p.2.1 p.2.2).map fun q=>(p.1::q.1,q.2.1,q.2.2):=by
 rw[xpTs]
 cases xp1 hp fr nms (zss.headD []) t seen obs with
 | none=>rfl
 | some p=>
  simp only[Option.bind_some]
  cases xpTs hp fr nms zss.tail ts p.2.1 p.2.2<;>rfl
@[simp] theorem xpTs_cons (zs:List Lz)(zss:List (List Lz))(t:T)(ts:List T)(seen:List Nat)(obs:List Ob):xpTs hp fr nms (zs::zss) (t::ts) seen obs=(xp1 hp fr nms zs t seen obs).bind fun p=>(xpTs hp fr nms zss ts p.2.1 p.2.2).map fun q=>(p.1::q.1,q.2.1,q.2.2):=xpTs_cons0 ..
@[simp] theorem xpR_one (zss:List (List Lz))(t:T):xpR ty hp fr nms zss [t]=xp1 hp fr nms (zss.headD []) t [] []:=rfl
@[simp] theorem xpR_zero (zss:List (List Lz)):xpR ty hp fr nms zss []=some (.tup [],[],[]):=by simp[xpR]
@[simp] theorem xpR_more (zss:List (List Lz))(a b:T)(ts:List T):xpR ty hp fr nms zss (a::b::ts)=(xpTs hp fr nms zss (a::b::ts) [] []).map fun p=>(.tup p.1,p.2.1,p.2.2):=by
 simp only[xpR]
 cases xpTs hp fr nms zss (a::b::ts) [] []<;>rfl
@[simp] theorem zRef_ref (h off len:Nat)(z:Lz):zRef (.ref h off len) z=z:=rfl
@[simp] theorem zRef_lit (v:Value)(z:Lz):zRef (.lit v) z=none:=rfl
@[simp] theorem zRef_ptr (h i off:Nat)(z:Lz):zRef (.ptr h i off) z=none:=rfl
@[simp] theorem zRef_sls {α:Type}{f:α→List C}{l:List α}(sz:Nat)(z:Lz):zRef (sls sz f l) z=none:=rfl
@[simp] theorem zRefs_nil (zs:List Lz):zRefs [] zs=[]:=rfl
@[simp] theorem zRefs_cons (c:C)(cs:List C)(z:Lz)(zs:List Lz):zRefs (c::cs) (z::zs)=zRef c z::zRefs cs zs:=rfl
def xpB (hp:Heap)(fr nms:List Nat)(zs:List Lz)(seen:List Nat)(obs:List Ob)(b:Bool)(o:Option Ob):Option (Ob × List Nat × List Ob):=match o,b with
 | some o,false=>match o.es with
  | [cs]=>(xpL hp fr nms zs cs seen obs).map fun r=>(⟨o.box,r.1.all C.free,o.elem,o.sz,[r.1]⟩,r.2.1,r.2.2)
  | _=>none
 | _,_=>none
@[simp] theorem xpB_some (zs:List Lz)(seen:List Nat)(obs:List Ob)(b f:Bool)(e sz:Nat)(cs:List C):xpB hp fr nms zs seen obs false (some ⟨b,f,e,sz,[cs]⟩)=(xpL hp fr nms zs cs seen obs).map fun r=>(⟨b,r.1.all C.free,e,sz,[r.1]⟩,r.2.1,r.2.2):=rfl
def xpE (o0e o0s:Nat)(b:Bool)(o:Option Ob):Option Ob:=match o,b with
 | some o,false=>if o.free&&!o.box then some o else none
 | _,_=>some ⟨false,true,o0e,o0s,[]⟩
@[simp] theorem xpE_some (a b:Nat)(o:Ob):xpE a b false (some o)=if (o.free&&!o.box)=true then some o else none:=rfl
@[simp] theorem xpO_nil (os:List Ob)(seen:List Nat)(obs:List Ob):xpO ty hp fr nms [] os seen obs=some ([],seen,obs):=by cases os<;>rfl
@[simp] theorem xpO_box (k:Nat)(ks:List Nat)(f0:Bool)(e0 z0:Nat)(c0:List C)(os:List Ob)(seen:List Nat)(obs:List Ob):xpO ty hp fr nms (k::ks) (⟨true,f0,e0,z0,[c0]⟩::os) seen obs =
  (xpB hp fr nms (zRefs c0 (layE ty 5 e0)) seen obs (fr.contains k) (hget hp k)).bind fun p=>(xpO ty hp fr nms ks os p.2.1 p.2.2).map fun q=>(p.1::q.1,q.2.1,q.2.2):=by
 rw[xpO,if_pos rfl]
 cases hget hp k with
 | none=>rfl
 | some o=>
  cases fr.contains k with
  | true=>rfl
  | false=>
   simp only[xpB];obtain⟨b,f,e,sz,es⟩:=o
   cases es with
   | nil=>rfl
   | cons cs es=>
    cases es with
    | cons _ _=>rfl
    | nil=>
     simp only
     cases xpL hp fr nms (zRefs c0 (layE ty 5 e0)) cs seen obs with
     | none=>rfl
     | some r=>
      simp only[Option.map_some,Option.bind_some]
      cases xpO ty hp fr nms ks os r.2.1 r.2.2<;>rfl
theorem xpO_notBox (k:Nat)(ks:List Nat)(o0:Ob)(h0:o0.box=false)(os:List Ob)(seen:List Nat)(obs:List Ob):xpO ty hp fr nms (k::ks) (o0::os) seen obs =
  (xpO ty hp fr nms ks os seen obs).bind fun q=>(xpE o0.elem o0.sz (fr.contains k) (hget hp k)).map fun o=>(o::q.1,q.2.1,q.2.2):=by
 rw[xpO,if_neg (by rw[h0]; exact Bool.false_ne_true)]
 cases xpO ty hp fr nms ks os seen obs with
 | none=>rfl
 | some q=>
  simp only[Option.bind_some]
  cases hget hp k with
  | none=>rfl
  | some o=>
   cases fr.contains k with
   | true=>rfl
   | false=>
    simp only[xpE_some]
    split<;>rfl
@[simp] theorem xpO_rowO {α:Type}{f:α→List C}{l:List α}(k:Nat)(ks:List Nat)(e sz:Nat)(os:List Ob)(seen:List Nat)(obs:List Ob):xpO ty hp fr nms (k::ks) (rowO e sz f l::os) seen obs =
  (xpO ty hp fr nms ks os seen obs).bind fun q=>(xpE e sz (fr.contains k) (hget hp k)).map fun o=>(o::q.1,q.2.1,q.2.2):=xpO_notBox k ks _ rfl os seen obs
def outN (ty:Tys)(us:List TypeId)(nms:List Nat)(obs0:List Ob)(hp:Heap)(fr:List Nat)(ts:Option (List T)):Option (T × List Ob):=match ts with
 | some ts=>(xpR ty hp fr nms (us.map (layE ty 5)) ts).bind fun p=>(xpO ty hp fr nms nms obs0 p.2.1 p.2.2).map fun q=>(p.1,q.1++q.2.2)
 | none=>none
@[simp] theorem outN_some (us:List TypeId)(obs0:List Ob)(ts:List T):outN ty us nms obs0 hp fr (some ts)=(xpR ty hp fr nms (us.map (layE ty 5)) ts).bind fun p=>(xpO ty hp fr nms nms obs0 p.2.1 p.2.2).map fun q=>(p.1,q.1++q.2.2):=rfl
def outS [Globals] (ty:Tys)(rs:List ResultVar)(us:List TypeId)(obs0:List Ob)(s:St):Option (T × List Ob):=outN ty us (namesFrom 0 obs0) obs0 s.hp s.fr (rs.mapM (resT ty s))
def retL [Globals] (ty:Tys)(rs:List ResultVar)(us:List TypeId)(obs0:List Ob):Ex × St→Option (T × List Ob)
 | (.exit _,_)=>none
 | (.pan _ _,_)=>none
 | (_,s)=>outS ty rs us obs0 s
def retQ [Globals] (ty:Tys)(rs:List ResultVar)(us:List TypeId)(obs0:List Ob):Ex × St→Option (T × List Ob)
 | (.exit _,_)=>none
 | (.pan u cs,_)=>some (panR u cs)
 | (_,s)=>(outS ty rs us obs0 s).map okR
@[simp] theorem retQ_norm [Globals] (rs:List ResultVar)(us:List TypeId)(obs0:List Ob)(s:St):retQ ty rs us obs0 (.norm,s)=(outS ty rs us obs0 s).map okR:=rfl
@[simp] theorem retQ_ret [Globals] (rs:List ResultVar)(us:List TypeId)(obs0:List Ob)(s:St):retQ ty rs us obs0 (.ret,s)=(outS ty rs us obs0 s).map okR:=rfl
@[simp] theorem retQ_pan [Globals] (rs:List ResultVar)(us:List TypeId)(obs0:List Ob)(u:Nat)(cs:List C)(s:St):retQ ty rs us obs0 (.pan u cs,s)=some (panR u cs):=rfl
@[simp] theorem retL_ret [Globals] (rs:List ResultVar)(us:List TypeId)(obs0:List Ob)(s:St):retL ty rs us obs0 (.ret,s)=outS ty rs us obs0 s:=rfl
@[simp] theorem outS_mk [Globals] (rs:List ResultVar)(us:List TypeId)(obs0:List Ob):outS ty rs us obs0 (mk n m hp fr)=outN ty us (namesFrom 0 obs0) obs0 hp fr (rs.mapM (resT ty (mk n m hp fr))):=rfl
theorem outL_S [Globals] (fn:Func)(obs0:List Ob)(s:St):outL ty fn obs0 s=outS ty fn.results.toList fn.resultTypes.toList obs0 s:=by
 unfold outL outS outN
 cases fn.results.toList.mapM (resT ty s) with
 | none=>rfl
 | some ts=>
  simp only
  cases xpR ty s.hp s.fr (namesFrom 0 obs0) (fn.resultTypes.toList.map (layE ty 5)) ts with
  | none=>rfl
  | some p=>
   simp only[Option.bind_some]
   cases xpO ty s.hp s.fr (namesFrom 0 obs0) (namesFrom 0 obs0) obs0 p.2.1 p.2.2<;>rfl
theorem ev_runL [Globals] [Prims] {P : Program} {kp : Nat → Option (List Nat)} {K : Nat → Option (Nat → Option (List Nat))} {f : FuncId} {args ts : List T} {obs : List Ob} {r : T × List Ob} {fn : Func} {c : Code} {rs : List ResultVar} {us : List TypeId} {n : Nat} (hf : P.funcs[f]? = some fn) (hK : K f = some kp) (hb : fn.body = some c) (hr : fn.results.toList = rs) (hu : fn.resultTypes.toList = us) (ht : fn.ntmps = n) (hn : (fn.name == "runtime.NumGoroutine") = false) (hlo : lentOf args = obs) (hne : obs.isEmpty = false) (hre : realOf args = ts) (hm : marked args = false) (ha : ts.length ≤ n)
  (h:Is ((evK (evCall P ty K) ty kp c .mk (mk n (ts.zipIdx.map fun p=>(p.2,p.1)) (lentHp 0 obs) [])).bind (retL ty rs us obs)) (some r)):evCall P ty K f args=some r:=by
 subst hr;subst hu;subst ht;have h:(evCode (evCall P ty K) ty kp c (mk fn.ntmps (ts.zipIdx.map fun p=>(p.2,p.1)) (lentHp 0 obs) [])).bind (retL ty fn.results.toList fn.resultTypes.toList obs)=some r:=h;rw[Option.bind_eq_some_iff] at h;obtain⟨x,hx,hr⟩:=h;have hst:(mk fn.ntmps (ts.zipIdx.map fun p=>(p.2,p.1)) (lentHp 0 obs) [])={ tm:=ts++List.replicate (fn.ntmps-ts.length) .junk,hp:=lentHp 0 obs,fr:=[] }:=by
  have:=tmk_args ts fn.ntmps ha;simp only[mk,this]
 rw[hst] at hx;obtain⟨e,s⟩:=x;refine ev_startL hK hf hb hn hlo hne hre hm hx ?_ ?_ ?_
 ·intro id he;simp only at he;subst he
  cases hr
 ·intro u cs he;simp only at he;subst he
  cases hr
 ·rw[outL_S]
  cases e with
  | exit id=>cases hr
  | pan _ _=>cases hr
  | norm=>exact hr
  | ret=>exact hr
theorem ev_runP [Globals] [Prims] {P : Program} {kp : Nat → Option (List Nat)} {K : Nat → Option (Nat → Option (List Nat))} {f : FuncId} {args ts : List T} {obs : List Ob} {r : T × List Ob} {fn : Func} {c : Code} {rs : List ResultVar} {us : List TypeId} {n : Nat} (hf : P.funcs[f]? = some fn) (hK : K f = some kp) (hb : fn.body = some c) (hr : fn.results.toList = rs) (hu : fn.resultTypes.toList = us) (ht : fn.ntmps = n) (hn : (fn.name == "runtime.NumGoroutine") = false) (hlo : lentOf args = obs) (hne : obs.isEmpty = false) (hre : realOf args = ts) (ha : ts.length ≤ n)
  (h:Is ((evK (evCall P ty K) ty kp c .mk (mk n (ts.zipIdx.map fun p=>(p.2,p.1)) (lentHp 0 obs) [])).bind (retQ ty rs us obs)) (some r)):evCall P ty K f (.tup []::args)=some r:=by
 subst hr;subst hu;subst ht;refine ev_startP hK hf hb hn hlo hne hre ?_;have hst:(mk fn.ntmps (ts.zipIdx.map fun p=>(p.2,p.1)) (lentHp 0 obs) [])={ tm:=ts++List.replicate (fn.ntmps-ts.length) .junk,hp:=lentHp 0 obs,fr:=[] }:=by
  have:=tmk_args ts fn.ntmps ha;simp only[mk,this]
 have h:(evCode (evCall P ty K) ty kp c (mk fn.ntmps (ts.zipIdx.map fun p=>(p.2,p.1)) (lentHp 0 obs) [])).bind (retQ ty fn.results.toList fn.resultTypes.toList obs)=some r:=h;rw[hst] at h;rw[← h];congr 1;funext x;obtain⟨e,s⟩:=x
 cases e<;>first | rfl | (simp only[retP,retQ,outL_S])
end
section
variable {call:CallF} {ty:Tys} {n d:Nat} {m:List (Nat × T)} {hp:Heap} {fr:List Nat} {t:TypeId} {pos:String} {after:Array Edge} {g:Option (Nat × Bool)}
def nilE (x:T)(d n:Nat)(m:List (Nat × T))(hp:Heap)(fr:List Nat):Option St:=match x with
 | .c (.ptr h i off)=>some (mk n (tput m d (.c (.ptr h i off))) hp fr)
 | .c (.fptr cs off)=>some (mk n (tput m d (.c (.fptr cs off))) hp fr)
 | _=>none
@[simp] theorem nilE_ptr (h i off:Nat):nilE (.c (.ptr h i off)) d n m hp fr=some (mk n (tput m d (.c (.ptr h i off))) hp fr):=rfl
@[simp] theorem evOp_nilCheck [Globals] (x:Operand):evOp call ty { dst:=some d,op:=.nilCheck x,type:=t,pos:=pos,after:=after,guard:=g } (mk n m hp fr)=nilE (opd (tmk n m) x) d n m hp fr:=by
 rw[evOp_P rfl];simp only[evP,mk_tm,mk_hp];generalize opd (tmk n m) x=A
 cases A with
 | c X=>cases X<;>first | rfl | simp only[Option.bind_some,putP_mk,nilE]
 | _=>rfl
@[simp high] theorem srcOf_str' (q:ByteArray):srcOf hp (.c (.lit (.string q)))=some (cm byteF (bytesOf q)):=by
 rw[← byteEs_eq];rfl
@[simp] theorem tOf_nilIface:tOf .nilIface=.c (.lit .nilIface):=rfl
@[simp] theorem nilConst_nilIface:nilConst (.const .nilIface)=false:=rfl
@[simp] theorem nilConst_func (f:FuncId):nilConst (.func f)=false:=rfl
end
section
@[simp] theorem intF_at (x:Int)(h:0<(intF x).length):(intF x)[0]=.lit (.int .i64 x):=rfl
end
end Go.Vabs
