/- Plain laws: models said to be right, the same, printed and read. No condition. -/
import Derived.Test.YtadllpehekphmaaDoorPH
set_option linter.unusedSimpArgs false
set_option linter.unusedVariables false
set_option maxRecDepth 20000
namespace Go.Vid
open Go.Vabs
theorem lens_of {a:Aig}(h:SmallI a):LensI a:=by
 obtain⟨_,h1,h2,h3,h4,h5,h6,_⟩:=h;unfold LensI;omega
theorem AigBack_all {x0 x1:Aig}(h0:x0.Wf)(h1:x1.Wf):law06_AigBack x0 x1=some true:=by
 unfold law06_AigBack;rw[shown_true,Option.bind_some];obtain⟨b,e1,e2⟩:=small_says x0;rw[e1,Option.bind_some]
 by_cases hb:b=true
 case neg=>rw[if_neg hb]
 rw[if_pos hb];have hs:=e2.1 hb;obtain⟨c,f1,f2⟩:=small_says x1;rw[f1,Option.bind_some]
 by_cases hc:c=true
 case neg=>rw[if_neg hc]
 rw[if_pos hc];have hs':=f2.1 hc;have ho:=okay_of h0 hs;have ho':=okay_of h1 hs';obtain⟨p,g1,g2⟩:=refright_says ho;rw[g1,Option.bind_some]
 by_cases hp:p=true
 case neg=>rw[if_neg hp]
 rw[if_pos hp];have hr:=g2.1 hp;obtain⟨q,i1,i2⟩:=refright_says ho';rw[i1,Option.bind_some]
 by_cases hq:q=true
 case neg=>rw[if_neg hq]
 rw[if_pos hq];have hr':=i2.1 hq;have ht:=small_tx hr hs;have ht':=small_tx hr' hs';have k0:∀ x∈x0.names,0≤x.kind∧x.kind≤255:=fun x hx=>(ho.kinds x hx).1;have k1:∀ x∈x1.names,0≤x.kind∧x.kind≤255:=fun x hx=>(ho'.kinds x hx).1;rw[Print_eq hr ho (by omega),Option.bind_some];simp only;rw[Print_eq hr' ho' (by omega),Option.bind_some];simp only;rw[bytesOf_strOf (tx_isB k0),Parse_own hr k0 (by omega),Option.bind_some];simp only;obtain⟨w,r1,r2⟩:=refsame_says x1 (lens_of hs);rw[if_pos trivial,if_pos (by rw[ieq_iff]),if_pos (by rw[ieq_iff]),if_pos (by rw[ieq_iff]),if_pos (by rw[ieq_iff,sizI_eq',bytesOf_strOf (tx_isB k0)]),(refsame_says x0 (lens_of hs)).true_ rfl,Option.bind_some,if_pos rfl,r1,Option.bind_some]
 congr 1;rw[beq2_iff,Bool.eq_iff_iff,r2,seq_iff];refine⟨fun e=>?_,fun e=>by rw[e]⟩;have e:=strOf_inj (tx_isB k0) (tx_isB k1) e;have q0:=Parse_own hr k0 (by omega);rw[e,Parse_own hr' k1 (by omega)] at q0;injection q0 with q0;exact (congrArg Prod.fst q0).symm
end Go.Vid
