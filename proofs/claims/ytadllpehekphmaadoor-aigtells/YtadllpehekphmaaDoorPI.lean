/- Plain laws: models said to be right, the same, printed and read. No condition. -/
import Derived.Test.YtadllpehekphmaaDoorPH
set_option linter.unusedSimpArgs false
set_option linter.unusedVariables false
set_option maxRecDepth 20000
namespace Go.Vid
open Go.Vabs
theorem lens_of {a:Aig}(h:SmallI a):LensI a:=by
 obtain⟨_,h1,h2,h3,h4,h5,h6,_⟩:=h;unfold LensI;omega
theorem AigTells_all {x0 x1:Aig}{x2:ByteArray}(h0:x0.Wf):law06_AigTells x0 x1 x2=some true:=by
 unfold law06_AigTells;rw[shown_true,Option.bind_some];obtain⟨b,e1,e2⟩:=small_says x0;rw[e1,Option.bind_some]
 by_cases hb:b=true
 case neg=>rw[if_neg hb]
 rw[if_pos hb];have hs:=e2.1 hb;obtain⟨c,f1,f2⟩:=small_says x1;rw[f1,Option.bind_some]
 by_cases hc:c=true
 case neg=>rw[if_neg hc]
 rw[if_pos hc]
 by_cases hz:(100:Int)<sizI x2
 ·rw[if_pos (by rw[ilt_iff]; exact hz)]
 rw[if_neg (by rw[ilt_iff]; exact hz)];have ho:=okay_of h0 hs;obtain⟨v,s1,s2⟩:=same_says x1 (lens_of hs);obtain⟨w,r1,r2⟩:=refsame_says x1 (lens_of hs);have hvw:v=w:=by rw[Bool.eq_iff_iff,s2,r2]
 subst hvw;obtain⟨p,g1,g2⟩:=right_says ho;obtain⟨q,i1,i2⟩:=refright_says ho;have hpq:p=q:=by rw[Bool.eq_iff_iff,g2,i2]
 subst hpq;rw[sizI_eq'] at hz
 by_cases hr:RightI x0
 ·have hp:p=true:=g2.2 hr;subst hp;have ht:=small_tx hr hs;have hn:(nas x0).length≤20000:=by
   have:(nas x0).length≤(tx x0).length:=by unfold tx; simp only[List.length_append]; omega
   omega
  have hR:=refNames_eq (hr.nams ho) hr.poss (bytesOf x2) (bytesOf_isB _) (by omega);rw[strOf_bytesOf] at hR;rw[Print_eq hr ho (by omega),Option.bind_some];simp only;rw[refPrint_eq hr ho (by omega),Option.bind_some];simp only;rw[i1,Option.bind_some,if_pos trivial,g1,Option.bind_some,if_pos (by rw[beq2_iff]),s1,Option.bind_some,r1,Option.bind_some,if_pos (by rw[beq2_iff]),if_pos (by rw[seq_iff]),if_pos (by rw[ieq_iff]),if_pos rfl,(vars_eq hr).1,Option.bind_some,(vars_eq hr).2,Option.bind_some,if_pos (by rw[ieq_iff]),Names_eq (hr.nams ho) _ (by omega),Option.bind_some,hR,Option.bind_some];congr 1
  rw[seq_iff]
 ·have hp:p=false:=by rw[← Bool.not_eq_true]; exact fun e=>hr (g2.1 e)
  subst hp;rw[Print_no hr ho,Option.bind_some];simp only;rw[refPrint_no hr ho,Option.bind_some];simp only;rw[i1,Option.bind_some,if_pos trivial,g1,Option.bind_some,if_pos (by rw[beq2_iff]),s1,Option.bind_some,r1,Option.bind_some,if_pos (by rw[beq2_iff]),if_pos (by rw[seq_iff]),if_pos (by rw[ieq_iff]),if_neg (by simp)]
end Go.Vid
