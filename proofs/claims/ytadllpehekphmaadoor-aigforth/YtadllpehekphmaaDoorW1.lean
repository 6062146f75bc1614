/- What the interpreter comes to is what the plain functions come to. No condition. -/
import Derived.Test.YtadllpehekphmaaDoorW0
set_option linter.unusedSimpArgs false
set_option linter.unusedVariables false
set_option maxRecDepth 20000
set_option maxHeartbeats 4000000
namespace Go.Proofs.YtadllpehekphmaaDoor
open Go.Vabs Go.Vid
theorem w_strings_Builder_WriteString0 (s:ByteArray)(r:Int × (List Int))(h:strings_Builder_WriteString0 s=some r):ev 23 [T.c (C.ptr 9000 0 0),T.c (.lit (.string s)),obT (Ob.mk true true 56 2 [[C.lit (Go.Value.pointer none),C.lit (Go.Value.slice none 0 0)]])]=some (T.tup [T.c (.lit (.int .i64 r.1)),T.c (C.lit Go.Value.nilIface)],[Ob.mk true false 56 2 [[C.ptr 0 0 0,C.ref 1 0 (lenN r.2)]],rowO 5 1 byteF r.2]):=by
 refine ev_runL (kp:=k23) (us:=[3,58]) (ts:=[T.c (C.ptr 9000 0 0),T.c (.lit (.string s))]) (obs:=[Ob.mk true true 56 2 [[C.lit (Go.Value.pointer none),C.lit (Go.Value.slice none 0 0)]]]) fn23 rfl rfl rfl rfl rfl (by kernel_rfl) rfl rfl rfl rfl (by simp) ?_;unfold strings_Builder_WriteString0 at h;simp;obtain⟨_u,h0',h⟩:=bS h;have h0:ev 45 [T.c (C.ptr 9000 0 0),obT { box:=true,free:=true,elem:=56,sz:=2,es:=[[C.lit (.pointer none),C.lit (.slice none 0 0)]] }]=some (T.tup [],[Ob.mk true false 56 2 [[C.ptr 0 0 0,C.lit (Go.Value.slice none 0 0)]]]):=w_bld_check0 _ h0';simp[h0]
 rcases iC h with ⟨c1,h⟩ | ⟨c1,h⟩
 ·simp[h0,c1]
  cases h
  rfl
 ·simp[h0,c1]
  cases h
theorem w_strings_Builder_WriteString1 (s:ByteArray)(q0:List Int)(r:Int × (List Int))(h:strings_Builder_WriteString1 s q0=some r):ev 23 [T.c (C.ptr 9000 0 0),T.c (.lit (.string s)),obT (Ob.mk true false 56 2 [[C.ptr 9000 0 0,C.ref 19001 0 (lenN q0)]]),obT (rowO 5 1 byteF q0)]=some (T.tup [T.c (.lit (.int .i64 r.1)),T.c (C.lit Go.Value.nilIface)],[Ob.mk true false 56 2 [[C.ptr 0 0 0,C.ref 1 0 (lenN r.2)]],rowO 5 1 byteF r.2]):=by
 refine ev_runL (kp:=k23) (us:=[3,58]) (ts:=[T.c (C.ptr 9000 0 0),T.c (.lit (.string s))]) (obs:=[Ob.mk true false 56 2 [[C.ptr 9000 0 0,C.ref 19001 0 (lenN q0)]],rowO 5 1 byteF q0]) fn23 rfl rfl rfl rfl rfl (by kernel_rfl) rfl rfl rfl rfl (by simp) ?_;unfold strings_Builder_WriteString1 at h;simp;obtain⟨v0,h1',h⟩:=bS h;have h1:ev 45 [T.c (C.ptr 9000 0 0),obT { box:=true,free:=false,elem:=56,sz:=2,es:=[[C.ptr 9000 0 0,C.ref 19001 0 (lenN q0)]] },obT (rowO 5 1 byteF q0)]=some (T.tup [],[Ob.mk true false 56 2 [[C.ptr 0 0 0,C.ref 1 0 (lenN v0)]],rowO 5 1 byteF v0]):=w_bld_check1 _ _ h1';simp[h1]
 rcases iC h with ⟨c2,h⟩ | ⟨c2,h⟩
 ·simp[h1,c2]
  cases h
  rfl
 ·simp[h1,c2]
  cases h
theorem w_aig_line (l:List Int)(r:ByteArray)(h:aig_line l=some r):ev 24 [T.c (sls 1 intF l)]=some (T.c (.lit (.string r)),[]):=by
 refine ev_run' (kp:=k24) (us:=[9]) fn24 rfl rfl rfl rfl rfl (by kernel_rfl) rfl rfl (by simp) ?_;unfold aig_line at h;simp;obtain⟨y26,h30,h⟩:=bS h;rw[eL (ι:=(List ByteArray) × Int) (ρ:=(List ByteArray)) (fun p=>match p with | (x18,x19)=>mk 21 [(3,T.c (C.ref 3 0 (lenN x18))),(6,T.c (sls 1 intF l)),(7,T.c (.lit (.int .i64 (lenI l)))),(8,T.c (.lit (.int .i64 x19)))] [(3,rowO 9 1 strF x18)] []) (fun r=>match r with | y26=>(Ex.exit 0,mk 21 [(3,T.c (C.ref 3 0 (lenN y26)))] [(3,rowO 9 1 strF y26)] [])) (aig_line_B0 l) h30 ?_ _ ?_]
 ·simp;obtain⟨v27,h28',h⟩:=bS h;have h28:ev 46 [T.c (sls 1 strF y26),T.c (.lit (.string { data:=#[32] }))]=some (T.c (.lit (.string v27)),[]):=w_strings_Join _ _ _ h28';simp[h28]
  rcases iC h with ⟨c29,h⟩ | ⟨c29,h⟩
  ·simp[h28,c29]
   cases h
   rfl
  ·simp[h28,c29]
   cases h
 ·clear h30 h;rintro⟨x18,x19⟩ y L res h hL hR;unfold aig_line_B0 at h;simp
  rcases iC h with ⟨c20,h⟩ | ⟨c20,h⟩
  ·simp[c20];obtain⟨v21,h22,h⟩:=bS h;simp[c20,h22];obtain⟨v23,h24',h⟩:=bS h;have h24:ev 42 [T.c (.lit (.int .i64 v21))]=some (T.c (.lit (.string v23)),[]):=w_strconv_Itoa _ _ h24';simp[c20,h22,h24]
   rcases iC h with ⟨c25,h⟩ | ⟨c25,h⟩
   ·simp[c20,h22,h24,c25]
    cases h
    exact hL _ _ rfl (by simp[headOf])
   ·simp[c20,h22,h24,c25]
    cases h
  ·simp[c20]
   cases h
   exact hR _ rfl
 ·simp[headOf]
theorem w_aig_Names (a:Aig)(s:ByteArray)(r:ByteArray)(h:aig_Names a s=some r):ev 19 [T.agg (Aig.cells a),T.c (.lit (.string s))]=some (T.c (.lit (.string r)),[]):=by
 refine ev_run' (kp:=k19) (us:=[9]) fn19 rfl rfl rfl rfl rfl (by kernel_rfl) rfl rfl (by simp) ?_;unfold aig_Names at h;simp;obtain⟨⟨v0,v1⟩,h2',h⟩:=bS h;have h2:ev 23 [T.c (C.ptr 9000 0 0),T.c (.lit (.string s)),obT { box:=true,free:=true,elem:=56,sz:=2,es:=[[C.lit (.pointer none),C.lit (.slice none 0 0)]] }]=some (T.tup [T.c (.lit (.int .i64 v0)),T.c (C.lit Go.Value.nilIface)],[Ob.mk true false 56 2 [[C.ptr 0 0 0,C.ref 1 0 (lenN v1)]],rowO 5 1 byteF v1]):=w_strings_Builder_WriteString0 _ _ h2';simp[h2];obtain⟨y47,h50,h⟩:=bS h;rw[eL (ι:=(List Int) × Int) (ρ:=(List Int)) (fun p=>match p with | (x33,x34)=>mk 33 [(5,T.c (C.ptr 5 0 0)),(11,T.c (sls 3 Name.cells a.names)),(12,T.c (.lit (.int .i64 (lenI a.names)))),(13,T.c (.lit (.int .i64 x34)))] [(5,{ box:=true,free:=false,elem:=56,sz:=2,es:=[[C.ptr 5 0 0,C.ref 9 0 (lenN x33)]] }),(9,rowO 5 1 byteF x33)] []) (fun r=>match r with | y47=>(Ex.exit 0,mk 33 [(5,T.c (C.ptr 5 0 0))] [(5,{ box:=true,free:=false,elem:=56,sz:=2,es:=[[C.ptr 5 0 0,C.ref 9 0 (lenN y47)]] }),(9,rowO 5 1 byteF y47)] [])) (aig_Names_B0 a s) h50 ?_ _ ?_]
 ·simp[h2];obtain⟨v48,h49',h⟩:=bS h;have h49:ev 26 [T.c (C.ptr 9000 0 0),obT { box:=true,free:=false,elem:=56,sz:=2,es:=[[C.ptr 9000 0 0,C.ref 19001 0 (lenN y47)]] },obT (rowO 5 1 byteF y47)]=some (T.c (.lit (.string v48)),[Ob.mk true false 56 2 [[C.ptr 0 0 0,C.junk]],Ob.mk false true 5 1 []]):=w_strings_Builder_String _ _ h49';simp[h2,h49]
  cases h
  rfl
 ·clear h50 h;rintro⟨x33,x34⟩ y L res h hL hR;unfold aig_Names_B0 at h;simp
  rcases iC h with ⟨c35,h⟩ | ⟨c35,h⟩
  ·simp[c35];obtain⟨v36,h37,h⟩:=bS h;simp[c35,h37];obtain⟨v38,h39',h⟩:=bS h;have h39:ev 42 [T.c (.lit (.int .i64 v36.pos))]=some (T.c (.lit (.string v38)),[]):=w_strconv_Itoa _ _ h39';simp[c35,h37,h39]
   rcases iC h with ⟨c40,h⟩ | ⟨c40,h⟩
   ·simp[c35,h37,h39,c40]
    rcases iC h with ⟨c41,h⟩ | ⟨c41,h⟩
    ·simp[c35,h37,h39,c40,c41]
     rcases iC h with ⟨c42,h⟩ | ⟨c42,h⟩
     ·simp[c35,h37,h39,c40,c41,c42]
      rcases iC h with ⟨c43,h⟩ | ⟨c43,h⟩
      ·simp[c35,h37,h39,c40,c41,c42,c43];obtain⟨⟨v44,v45⟩,h46',h⟩:=bS h;have h46:ev 23 [T.c (C.ptr 9000 0 0),T.c (.lit (.string (strOf [v36.kind]++v38++{ data:=#[32] }++v36.s++{ data:=#[10] }))),obT { box:=true,free:=false,elem:=56,sz:=2,es:=[[C.ptr 9000 0 0,C.ref 19001 0 (lenN x33)]] },obT (rowO 5 1 byteF x33)]=some (T.tup [T.c (.lit (.int .i64 v44)),T.c (C.lit Go.Value.nilIface)],[Ob.mk true false 56 2 [[C.ptr 0 0 0,C.ref 1 0 (lenN v45)]],rowO 5 1 byteF v45]):=w_strings_Builder_WriteString1 _ _ _ h46';simp[c35,h37,h39,c40,c41,c42,c43,h46]
       cases h
       exact hL _ _ rfl (by simp[headOf])
      ·simp[c35,h37,h39,c40,c41,c42,c43]
       cases h
     ·simp[c35,h37,h39,c40,c41,c42]
      cases h
    ·simp[c35,h37,h39,c40,c41]
     cases h
   ·simp[c35,h37,h39,c40]
    cases h
  ·simp[c35]
   cases h
   exact hR _ rfl
 ·simp[headOf]
theorem w_aig_Print (a:Aig)(r:ByteArray × Int)(h:aig_Print a=some r):ev 11 [T.agg (Aig.cells a)]=some (T.tup [T.c (.lit (.string r.1)),T.c (.lit (.int .i64 r.2))],[]):=by
 refine ev_run' (kp:=k11) (us:=[9,30]) fn11 rfl rfl rfl rfl rfl (by kernel_rfl) rfl rfl (by simp) ?_;unfold aig_Print at h;simp;obtain⟨v0,h1',h⟩:=bS h;have h1:ev 14 [T.agg a.cells]=some (T.c (.lit (.bool v0)),[]):=w_aig_Right _ _ h1';simp[h1]
 rcases iC h with ⟨c2,h⟩ | ⟨c2,h⟩
 ·simp[h1,c2];obtain⟨v3,h4',h⟩:=bS h;have h4:ev 17 [T.agg a.cells]=some (T.c (.lit (.int .i64 v3)),[]):=w_aig_Vars _ _ h4';simp[h1,c2,h4];obtain⟨v5,h6',h⟩:=bS h;have h6:ev 24 [T.c (sls 1 intF [v3,a.I,lenI a.L,lenI a.outs,lenI a.G,lenI a.bad,lenI a.con])]=some (T.c (.lit (.string v5)),[]):=w_aig_line _ _ h6';simp[h1,c2,h4,h6]
  rcases iC h with ⟨c7,h⟩ | ⟨c7,h⟩
  ·simp[h1,c2,h4,h6,c7];obtain⟨⟨v8,v9⟩,h10',h⟩:=bS h;have h10:ev 23 [T.c (C.ptr 9000 0 0),T.c (.lit (.string ({ data:=#[97,97,103,32] }++v5))),obT { box:=true,free:=true,elem:=56,sz:=2,es:=[[C.lit (.pointer none),C.lit (.slice none 0 0)]] }]=some (T.tup [T.c (.lit (.int .i64 v8)),T.c (C.lit Go.Value.nilIface)],[Ob.mk true false 56 2 [[C.ptr 0 0 0,C.ref 1 0 (lenN v9)]],rowO 5 1 byteF v9]):=w_strings_Builder_WriteString0 _ _ h10';simp[h1,c2,h4,h6,c7,h10];obtain⟨y37,h155,h⟩:=bS h;rw[eL (ι:=(List Int) × Int) (ρ:=(List Int)) (fun p=>match p with | (x29,x30)=>mk 119 [(1,T.c (C.ptr 1 0 0)),(4,T.c (C.ptr 4 0 0)),(39,T.c (.lit (.int .i64 a.I))),(40,T.c (.lit (.int .i64 x30)))] [(1,{ box:=true,free:=true,elem:=27,sz:=7,es:=[a.cells] }),(4,{ box:=true,free:=false,elem:=56,sz:=2,es:=[[C.ptr 4 0 0,C.ref 37 0 (lenN x29)]] }),(37,rowO 5 1 byteF x29)] []) (fun r=>match r with | y37=>(Ex.exit 0,mk 119 [(1,T.c (C.ptr 1 0 0)),(4,T.c (C.ptr 4 0 0))] [(1,{ box:=true,free:=true,elem:=27,sz:=7,es:=[a.cells] }),(4,{ box:=true,free:=false,elem:=56,sz:=2,es:=[[C.ptr 4 0 0,C.ref 37 0 (lenN y37)]] }),(37,rowO 5 1 byteF y37)] [])) (aig_Print_B0 a) h155 ?_ _ ?_]
   ·simp[h1,c2,h4,h6,c7,h10];obtain⟨y71,h153,h⟩:=bS h;rw[eL (ι:=(List Int) × Int) (ρ:=(List Int)) (fun p=>match p with | (x61,x62)=>mk 119 [(1,T.c (C.ptr 1 0 0)),(4,T.c (C.ptr 4 0 0)),(51,T.c (sls 2 Latch.cells a.L)),(52,T.c (.lit (.int .i64 (lenI a.L)))),(53,T.c (.lit (.int .i64 x62)))] [(1,{ box:=true,free:=true,elem:=27,sz:=7,es:=[a.cells] }),(4,{ box:=true,free:=false,elem:=56,sz:=2,es:=[[C.ptr 4 0 0,C.ref 37 0 (lenN x61)]] }),(37,rowO 5 1 byteF x61)] []) (fun r=>match r with | y71=>(Ex.exit 2,mk 119 [(1,T.c (C.ptr 1 0 0)),(4,T.c (C.ptr 4 0 0))] [(1,{ box:=true,free:=true,elem:=27,sz:=7,es:=[a.cells] }),(4,{ box:=true,free:=false,elem:=56,sz:=2,es:=[[C.ptr 4 0 0,C.ref 37 0 (lenN y71)]] }),(37,rowO 5 1 byteF y71)] [])) (aig_Print_B1 a) h153 ?_ _ ?_]
    ·simp[h1,c2,h4,h6,c7,h10];obtain⟨v72,h73',h⟩:=bS h;have h73:ev 25 [T.c (sls 1 rowF [a.outs,a.bad,a.con])]=some (T.c (C.ref 0 0 (lenN v72)),[rowO 3 1 intF v72]):=w_slices_Concat _ _ h73';simp[h1,c2,h4,h6,c7,h10,h73];obtain⟨y110,h151,h⟩:=bS h;rw[eL (ι:=(List Int) × Int) (ρ:=(List Int)) (fun p=>match p with | (x99,x100)=>mk 119 [(1,T.c (C.ptr 1 0 0)),(4,T.c (C.ptr 4 0 0)),(79,T.c (C.ref 79 0 (lenN v72))),(80,T.c (.lit (.int .i64 (lenI v72)))),(81,T.c (.lit (.int .i64 x100)))] [(1,{ box:=true,free:=true,elem:=27,sz:=7,es:=[a.cells] }),(4,{ box:=true,free:=false,elem:=56,sz:=2,es:=[[C.ptr 4 0 0,C.ref 37 0 (lenN x99)]] }),(37,rowO 5 1 byteF x99),(79,rowO 3 1 intF v72)] []) (fun r=>match r with | y110=>(Ex.exit 4,mk 119 [(1,T.c (C.ptr 1 0 0)),(4,T.c (C.ptr 4 0 0))] [(1,{ box:=true,free:=true,elem:=27,sz:=7,es:=[a.cells] }),(4,{ box:=true,free:=false,elem:=56,sz:=2,es:=[[C.ptr 4 0 0,C.ref 37 0 (lenN y110)]] }),(37,rowO 5 1 byteF y110)] [])) (aig_Print_B2 v72) h151 ?_ _ ?_]
     ·simp[h1,c2,h4,h6,c7,h10,h73];obtain⟨y144,h149,h⟩:=bS h;rw[eL (ι:=(List Int) × Int) (ρ:=(List Int)) (fun p=>match p with | (x134,x135)=>mk 119 [(1,T.c (C.ptr 1 0 0)),(4,T.c (C.ptr 4 0 0)),(91,T.c (sls 2 And.cells a.G)),(92,T.c (.lit (.int .i64 (lenI a.G)))),(93,T.c (.lit (.int .i64 x135)))] [(1,{ box:=true,free:=true,elem:=27,sz:=7,es:=[a.cells] }),(4,{ box:=true,free:=false,elem:=56,sz:=2,es:=[[C.ptr 4 0 0,C.ref 37 0 (lenN x134)]] }),(37,rowO 5 1 byteF x134)] []) (fun r=>match r with | y144=>(Ex.exit 6,mk 119 [(1,T.c (C.ptr 1 0 0)),(4,T.c (C.ptr 4 0 0))] [(1,{ box:=true,free:=true,elem:=27,sz:=7,es:=[a.cells] }),(4,{ box:=true,free:=false,elem:=56,sz:=2,es:=[[C.ptr 4 0 0,C.ref 37 0 (lenN y144)]] }),(37,rowO 5 1 byteF y144)] [])) (aig_Print_B3 a) h149 ?_ _ ?_]
      ·simp[h1,c2,h4,h6,c7,h10,h73];obtain⟨v145,h146',h⟩:=bS h;have h146:ev 26 [T.c (C.ptr 9000 0 0),obT { box:=true,free:=false,elem:=56,sz:=2,es:=[[C.ptr 9000 0 0,C.ref 19001 0 (lenN y144)]] },obT (rowO 5 1 byteF y144)]=some (T.c (.lit (.string v145)),[Ob.mk true false 56 2 [[C.ptr 0 0 0,C.junk]],Ob.mk false true 5 1 []]):=w_strings_Builder_String _ _ h146';simp[h1,c2,h4,h6,c7,h10,h73,h146];obtain⟨v147,h148',h⟩:=bS h;have h148:ev 19 [T.agg a.cells,T.c (.lit (.string v145))]=some (T.c (.lit (.string v147)),[]):=w_aig_Names _ _ _ h148';simp[h1,c2,h4,h6,c7,h10,h73,h146,h148]
       cases h
       rfl
      ·clear h149 h;rintro⟨x134,x135⟩ y L res h hL hR;unfold aig_Print_B3 at h;simp
       rcases iC h with ⟨c136,h⟩ | ⟨c136,h⟩
       ·simp[c136];obtain⟨v137,h138,h⟩:=bS h;simp[c136,h138];obtain⟨v139,h140',h⟩:=bS h;have h140:ev 24 [T.c (sls 1 intF [imul .i64 2 (iadd .i64 (iadd .i64 (iadd .i64 a.I (lenI a.L)) 1) x135),v137.a,v137.b])]=some (T.c (.lit (.string v139)),[]):=w_aig_line _ _ h140';simp[c136,h138,h140];obtain⟨⟨v141,v142⟩,h143',h⟩:=bS h;have h143:ev 23 [T.c (C.ptr 9000 0 0),T.c (.lit (.string v139)),obT { box:=true,free:=false,elem:=56,sz:=2,es:=[[C.ptr 9000 0 0,C.ref 19001 0 (lenN x134)]] },obT (rowO 5 1 byteF x134)]=some (T.tup [T.c (.lit (.int .i64 v141)),T.c (C.lit Go.Value.nilIface)],[Ob.mk true false 56 2 [[C.ptr 0 0 0,C.ref 1 0 (lenN v142)]],rowO 5 1 byteF v142]):=w_strings_Builder_WriteString1 _ _ _ h143'
        simp[c136,h138,h140,h143]
        cases h
        exact hL _ _ rfl (by simp[headOf])
       ·simp[c136]
        cases h
        exact hR _ rfl
      ·simp[headOf]
     ·clear h151 h;rintro⟨x99,x100⟩ y L res h hL hR;unfold aig_Print_B2 at h;simp
      rcases iC h with ⟨c101,h⟩ | ⟨c101,h⟩
      ·simp[c101]
       rcases iC h with ⟨c102,h⟩ | ⟨c102,h⟩
       ·simp[c101,c102];obtain⟨v103,h104,h⟩:=bS h;simp[c101,c102,h104];obtain⟨v105,h106',h⟩:=bS h;have h106:ev 24 [T.c (sls 1 intF [v103])]=some (T.c (.lit (.string v105)),[]):=w_aig_line _ _ h106';simp[c101,c102,h104,h106];obtain⟨⟨v107,v108⟩,h109',h⟩:=bS h;have h109:ev 23 [T.c (C.ptr 9000 0 0),T.c (.lit (.string v105)),obT { box:=true,free:=false,elem:=56,sz:=2,es:=[[C.ptr 9000 0 0,C.ref 19001 0 (lenN x99)]] },obT (rowO 5 1 byteF x99)]=some (T.tup [T.c (.lit (.int .i64 v107)),T.c (C.lit Go.Value.nilIface)],[Ob.mk true false 56 2 [[C.ptr 0 0 0,C.ref 1 0 (lenN v108)]],rowO 5 1 byteF v108]):=w_strings_Builder_WriteString1 _ _ _ h109'
        simp[c101,c102,h104,h106,h109]
        cases h
        exact hL _ _ rfl (by simp[headOf])
       ·simp[c101,c102]
        cases h
      ·simp[c101]
       cases h
       exact hR _ rfl
     ·simp[headOf]
    ·clear h153 h;rintro⟨x61,x62⟩ y L res h hL hR;unfold aig_Print_B1 at h;simp
     rcases iC h with ⟨c63,h⟩ | ⟨c63,h⟩
     ·simp[c63];obtain⟨v64,h65,h⟩:=bS h;simp[c63,h65];obtain⟨v66,h67',h⟩:=bS h;have h67:ev 24 [T.c (sls 1 intF [imul .i64 2 (iadd .i64 (iadd .i64 a.I 1) x62),v64.next,v64.reset])]=some (T.c (.lit (.string v66)),[]):=w_aig_line _ _ h67';simp[c63,h65,h67];obtain⟨⟨v68,v69⟩,h70',h⟩:=bS h;have h70:ev 23 [T.c (C.ptr 9000 0 0),T.c (.lit (.string v66)),obT { box:=true,free:=false,elem:=56,sz:=2,es:=[[C.ptr 9000 0 0,C.ref 19001 0 (lenN x61)]] },obT (rowO 5 1 byteF x61)]=some (T.tup [T.c (.lit (.int .i64 v68)),T.c (C.lit Go.Value.nilIface)],[Ob.mk true false 56 2 [[C.ptr 0 0 0,C.ref 1 0 (lenN v69)]],rowO 5 1 byteF v69]):=w_strings_Builder_WriteString1 _ _ _ h70'
      simp[c63,h65,h67,h70]
      cases h
      exact hL _ _ rfl (by simp[headOf])
     ·simp[c63]
      cases h
      exact hR _ rfl
    ·simp[headOf]
   ·clear h155 h;rintro⟨x29,x30⟩ y L res h hL hR;unfold aig_Print_B0 at h;simp
    rcases iC h with ⟨c31,h⟩ | ⟨c31,h⟩
    ·simp[c31];obtain⟨v32,h33',h⟩:=bS h;have h33:ev 24 [T.c (sls 1 intF [imul .i64 2 (iadd .i64 x30 1)])]=some (T.c (.lit (.string v32)),[]):=w_aig_line _ _ h33';simp[c31,h33];obtain⟨⟨v34,v35⟩,h36',h⟩:=bS h;have h36:ev 23 [T.c (C.ptr 9000 0 0),T.c (.lit (.string v32)),obT { box:=true,free:=false,elem:=56,sz:=2,es:=[[C.ptr 9000 0 0,C.ref 19001 0 (lenN x29)]] },obT (rowO 5 1 byteF x29)]=some (T.tup [T.c (.lit (.int .i64 v34)),T.c (C.lit Go.Value.nilIface)],[Ob.mk true false 56 2 [[C.ptr 0 0 0,C.ref 1 0 (lenN v35)]],rowO 5 1 byteF v35]):=w_strings_Builder_WriteString1 _ _ _ h36';simp[c31,h33,h36]
     cases h
     exact hL _ _ rfl (by simp[headOf])
    ·simp[c31]
     cases h
     exact hR _ rfl
   ·simp[headOf]
  ·simp[h1,c2,h4,h6,c7]
   cases h
 ·simp[h1,c2]
  cases h
  rfl
theorem w_slices_Equal (s1:List Int)(s2:List Int)(r:Bool)(h:slices_Equal s1 s2=some r):ev 37 [T.c (sls 1 intF s1),T.c (sls 1 intF s2)]=some (T.c (.lit (.bool r)),[]):=by
 refine ev_run' (kp:=k37) (us:=[4]) fn37 rfl rfl rfl rfl rfl (by kernel_rfl) rfl rfl (by simp) ?_;unfold slices_Equal at h;simp
 rcases iC h with ⟨c0,h⟩ | ⟨c0,h⟩
 ·simp[c0];obtain⟨w26,h25,h⟩:=bS h;rw[eL (ι:=Int) (ρ:=Unit ⊕ Unit) (fun p=>match p with | x18=>mk 26 [(0,T.c (sls 1 intF s1)),(1,T.c (sls 1 intF s2)),(12,T.c (.lit (.int .i64 (lenI s1)))),(13,T.c (.lit (.int .i64 x18)))] [] []) (fun r=>match r with | .inl ()=>(Ex.ret,mk 26 [(4,T.c (.lit (.bool false)))] [] []) | .inr ()=>(Ex.exit 0,mk 26 [] [] [])) (slices_Equal_B0 s1 s2) h25 ?_ _ ?_]
  ·rcases w26 with ⟨⟩ | ⟨⟩
   ·simp[c0]
    cases h
    rfl
   ·simp[c0]
    cases h
    rfl
  ·clear h25 h;rintro x18 y L res h hL hR;unfold slices_Equal_B0 at h;simp
   rcases iC h with ⟨c19,h⟩ | ⟨c19,h⟩
   ·simp[c19];obtain⟨v20,h21,h⟩:=bS h;simp[c19,h21];obtain⟨v22,h23,h⟩:=bS h;simp[c19,h21,h23]
    rcases iC h with ⟨c24,h⟩ | ⟨c24,h⟩
    ·simp[c19,h21,h23,c24]
     cases h
     exact hL _ _ rfl (by simp[headOf])
    ·simp[c19,h21,h23,c24]
     cases h
     exact hR _ rfl
   ·simp[c19]
    cases h
    exact hR _ rfl
  ·simp[headOf]
 ·simp[c0]
  cases h
  rfl
theorem w_slices_Equal' (s1:List Latch)(s2:List Latch)(r:Bool)(h:slices_Equal' s1 s2=some r):ev 38 [T.c (sls 2 Latch.cells s1),T.c (sls 2 Latch.cells s2)]=some (T.c (.lit (.bool r)),[]):=by
 refine ev_run' (kp:=k38) (us:=[4]) fn38 rfl rfl rfl rfl rfl (by kernel_rfl) rfl rfl (by simp) ?_;unfold slices_Equal' at h;simp
 rcases iC h with ⟨c0,h⟩ | ⟨c0,h⟩
 ·simp[c0];obtain⟨w26,h25,h⟩:=bS h;rw[eL (ι:=Int) (ρ:=Unit ⊕ Unit) (fun p=>match p with | x18=>mk 26 [(0,T.c (sls 2 Latch.cells s1)),(1,T.c (sls 2 Latch.cells s2)),(12,T.c (.lit (.int .i64 (lenI s1)))),(13,T.c (.lit (.int .i64 x18)))] [] []) (fun r=>match r with | .inl ()=>(Ex.ret,mk 26 [(4,T.c (.lit (.bool false)))] [] []) | .inr ()=>(Ex.exit 0,mk 26 [] [] [])) (slices_Equal'_B0 s1 s2) h25 ?_ _ ?_]
  ·rcases w26 with ⟨⟩ | ⟨⟩
   ·simp[c0]
    cases h
    rfl
   ·simp[c0]
    cases h
    rfl
  ·clear h25 h;rintro x18 y L res h hL hR;unfold slices_Equal'_B0 at h;simp
   rcases iC h with ⟨c19,h⟩ | ⟨c19,h⟩
   ·simp[c19];obtain⟨v20,h21,h⟩:=bS h;simp[c19,h21];obtain⟨v22,h23,h⟩:=bS h;simp[c19,h21,h23]
    rcases iC h with ⟨c24,h⟩ | ⟨c24,h⟩
    ·simp[c19,h21,h23,c24]
     cases h
     exact hR _ rfl
    ·simp[c19,h21,h23,c24]
     cases h
     exact hL _ _ rfl (by simp[headOf])
   ·simp[c19]
    cases h
    exact hR _ rfl
  ·simp[headOf]
 ·simp[c0]
  cases h
  rfl
theorem w_slices_Equal'' (s1:List And)(s2:List And)(r:Bool)(h:slices_Equal'' s1 s2=some r):ev 39 [T.c (sls 2 And.cells s1),T.c (sls 2 And.cells s2)]=some (T.c (.lit (.bool r)),[]):=by
 refine ev_run' (kp:=k39) (us:=[4]) fn39 rfl rfl rfl rfl rfl (by kernel_rfl) rfl rfl (by simp) ?_;unfold slices_Equal'' at h;simp
 rcases iC h with ⟨c0,h⟩ | ⟨c0,h⟩
 ·simp[c0];obtain⟨w26,h25,h⟩:=bS h;rw[eL (ι:=Int) (ρ:=Unit ⊕ Unit) (fun p=>match p with | x18=>mk 26 [(0,T.c (sls 2 And.cells s1)),(1,T.c (sls 2 And.cells s2)),(12,T.c (.lit (.int .i64 (lenI s1)))),(13,T.c (.lit (.int .i64 x18)))] [] []) (fun r=>match r with | .inl ()=>(Ex.ret,mk 26 [(4,T.c (.lit (.bool false)))] [] []) | .inr ()=>(Ex.exit 0,mk 26 [] [] [])) (slices_Equal''_B0 s1 s2) h25 ?_ _ ?_]
  ·rcases w26 with ⟨⟩ | ⟨⟩
   ·simp[c0]
    cases h
    rfl
   ·simp[c0]
    cases h
    rfl
  ·clear h25 h;rintro x18 y L res h hL hR;unfold slices_Equal''_B0 at h;simp
   rcases iC h with ⟨c19,h⟩ | ⟨c19,h⟩
   ·simp[c19];obtain⟨v20,h21,h⟩:=bS h;simp[c19,h21];obtain⟨v22,h23,h⟩:=bS h;simp[c19,h21,h23]
    rcases iC h with ⟨c24,h⟩ | ⟨c24,h⟩
    ·simp[c19,h21,h23,c24]
     cases h
     exact hR _ rfl
    ·simp[c19,h21,h23,c24]
     cases h
     exact hL _ _ rfl (by simp[headOf])
   ·simp[c19]
    cases h
    exact hR _ rfl
  ·simp[headOf]
 ·simp[c0]
  cases h
  rfl
theorem w_slices_Equal''' (s1:List Name)(s2:List Name)(r:Bool)(h:slices_Equal''' s1 s2=some r):ev 40 [T.c (sls 3 Name.cells s1),T.c (sls 3 Name.cells s2)]=some (T.c (.lit (.bool r)),[]):=by
 refine ev_run' (kp:=k40) (us:=[4]) fn40 rfl rfl rfl rfl rfl (by kernel_rfl) rfl rfl (by simp) ?_;unfold slices_Equal''' at h;simp
 rcases iC h with ⟨c0,h⟩ | ⟨c0,h⟩
 ·simp[c0];obtain⟨w26,h25,h⟩:=bS h;rw[eL (ι:=Int) (ρ:=Unit ⊕ Unit) (fun p=>match p with | x18=>mk 26 [(0,T.c (sls 3 Name.cells s1)),(1,T.c (sls 3 Name.cells s2)),(12,T.c (.lit (.int .i64 (lenI s1)))),(13,T.c (.lit (.int .i64 x18)))] [] []) (fun r=>match r with | .inl ()=>(Ex.ret,mk 26 [(4,T.c (.lit (.bool false)))] [] []) | .inr ()=>(Ex.exit 0,mk 26 [] [] [])) (slices_Equal'''_B0 s1 s2) h25 ?_ _ ?_]
  ·rcases w26 with ⟨⟩ | ⟨⟩
   ·simp[c0]
    cases h
    rfl
   ·simp[c0]
    cases h
    rfl
  ·clear h25 h;rintro x18 y L res h hL hR;unfold slices_Equal'''_B0 at h;simp
   rcases iC h with ⟨c19,h⟩ | ⟨c19,h⟩
   ·simp[c19];obtain⟨v20,h21,h⟩:=bS h;simp[c19,h21];obtain⟨v22,h23,h⟩:=bS h;simp[c19,h21,h23]
    rcases iC h with ⟨c24,h⟩ | ⟨c24,h⟩
    ·simp[c19,h21,h23,c24]
     cases h
     exact hR _ rfl
    ·simp[c19,h21,h23,c24]
     cases h
     exact hL _ _ rfl (by simp[headOf])
   ·simp[c19]
    cases h
    exact hR _ rfl
  ·simp[headOf]
 ·simp[c0]
  cases h
  rfl
theorem w_aig_Same (a:Aig)(b:Aig)(r:Bool)(h:aig_Same a b=some r):ev 15 [T.agg (Aig.cells a),T.agg (Aig.cells b)]=some (T.c (.lit (.bool r)),[]):=by
 refine ev_run' (kp:=k15) (us:=[4]) fn15 rfl rfl rfl rfl rfl (by kernel_rfl) rfl rfl (by simp) ?_;unfold aig_Same at h;simp;obtain⟨v0,h1',h⟩:=bS h;have h1:ev 37 [T.c (sls 1 intF a.outs),T.c (sls 1 intF b.outs)]=some (T.c (.lit (.bool v0)),[]):=w_slices_Equal _ _ _ h1';simp[h1]
 rcases iC h with ⟨c2,h⟩ | ⟨c2,h⟩
 ·simp[h1,c2];obtain⟨v3,h4',h⟩:=bS h;have h4:ev 37 [T.c (sls 1 intF a.bad),T.c (sls 1 intF b.bad)]=some (T.c (.lit (.bool v3)),[]):=w_slices_Equal _ _ _ h4';simp[h1,c2,h4]
  rcases iC h with ⟨c5,h⟩ | ⟨c5,h⟩
  ·simp[h1,c2,h4,c5];obtain⟨v6,h7',h⟩:=bS h;have h7:ev 37 [T.c (sls 1 intF a.con),T.c (sls 1 intF b.con)]=some (T.c (.lit (.bool v6)),[]):=w_slices_Equal _ _ _ h7';simp[h1,c2,h4,c5,h7]
   rcases iC h with ⟨c8,h⟩ | ⟨c8,h⟩
   ·simp[h1,c2,h4,c5,h7,c8]
    rcases iC h with ⟨c9,h⟩ | ⟨c9,h⟩
    ·simp[h1,c2,h4,c5,h7,c8,c9];obtain⟨v10,h11',h⟩:=bS h;have h11:ev 38 [T.c (sls 2 Latch.cells a.L),T.c (sls 2 Latch.cells b.L)]=some (T.c (.lit (.bool v10)),[]):=w_slices_Equal' _ _ _ h11';simp[h1,c2,h4,c5,h7,c8,c9,h11]
     rcases iC h with ⟨c12,h⟩ | ⟨c12,h⟩
     ·simp[h1,c2,h4,c5,h7,c8,c9,h11,c12];obtain⟨v13,h14',h⟩:=bS h;have h14:ev 39 [T.c (sls 2 And.cells a.G),T.c (sls 2 And.cells b.G)]=some (T.c (.lit (.bool v13)),[]):=w_slices_Equal'' _ _ _ h14';simp[h1,c2,h4,c5,h7,c8,c9,h11,c12,h14]
      rcases iC h with ⟨c15,h⟩ | ⟨c15,h⟩
      ·simp[h1,c2,h4,c5,h7,c8,c9,h11,c12,h14,c15];obtain⟨v16,h17',h⟩:=bS h;have h17:ev 40 [T.c (sls 3 Name.cells a.names),T.c (sls 3 Name.cells b.names)]=some (T.c (.lit (.bool v16)),[]):=w_slices_Equal''' _ _ _ h17';simp[h1,c2,h4,c5,h7,c8,c9,h11,c12,h14,c15,h17]
       cases h
       rfl
      ·simp[h1,c2,h4,c5,h7,c8,c9,h11,c12,h14,c15]
       cases h
       rfl
     ·simp[h1,c2,h4,c5,h7,c8,c9,h11,c12]
      cases h
      rfl
    ·simp[h1,c2,h4,c5,h7,c8,c9]
     cases h
     rfl
   ·simp[h1,c2,h4,c5,h7,c8]
    cases h
    rfl
  ·simp[h1,c2,h4,c5]
   cases h
   rfl
 ·simp[h1,c2]
  cases h
  rfl
end Go.Proofs.YtadllpehekphmaaDoor
