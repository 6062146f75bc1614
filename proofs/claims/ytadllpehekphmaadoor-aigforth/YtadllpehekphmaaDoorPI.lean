/- Plain laws: models said to be right, the same, printed and read. No condition. -/
import Derived.Test.YtadllpehekphmaaDoorPH
set_option linter.unusedSimpArgs false
set_option linter.unusedVariables false
set_option maxRecDepth 20000
namespace Go.Vid
open Go.Vabs
theorem lens_right {a:Aig}(h:RightI a):LensI a:=by
 have hb:=h.bd;have h1:=h.outs.2;have h2:=h.bad.2;have h3:=h.con.2;have h4:=h.nms;unfold LensI;omega
theorem txs_mem {α:Type}{T:Nat→α→List Int}{x:α}:∀ {l:List α} {k:Nat},x∈l→∃ k',(T k' x).length≤(txs T k l).length
 | [],k,h=>by cases h
 | y::l,k,h=>by
  rcases List.mem_cons.1 h with rfl | h
  ·exact⟨k,by rw[txs,List.length_append]; omega⟩
  ·obtain⟨k',hk⟩:=txs_mem (T:=T) (k:=k+1) h;exact⟨k',by rw[txs,List.length_append]; omega⟩
theorem okay_read {a:Aig}(h:RightI a)(hN:NamS a a.names)(hl:(tx a).length≤1000000000):Okay a where
 kinds:=fun x hx=>⟨hN.kinds x hx,by
  obtain⟨k',hk⟩:=txs_mem (T:=naT) (k:=0) hx;rw[naT_len] at hk;have:(txs naT 0 a.names).length≤(tx a).length:=by unfold tx nas; simp only[List.length_append]; omega
  rw[size_eq];omega⟩
 lens:=lens_right h
 fit:=by have:=h.bd; omega
theorem AigForth_all {b:List Int}(hb:IsB b):law06_AigForth b=some true:=by
 unfold law06_AigForth;rw[shown_true,Option.bind_some]
 by_cases hl:(2000:Int)<b.length
 ·rw[if_pos (by rw[ilt_iff,lenI_eq]; exact hl)]
 rw[if_neg (by rw[ilt_iff,lenI_eq]; exact hl)]
 rcases Parse_back hb (by omega) with ⟨a,h1,h2,h3,h4⟩ | ⟨x,e,h1,h2,h3,h4⟩
 ·have ho:=okay_read h1 h2 (by rw[h3]; omega);rw[h4,Option.bind_some];simp only;rw[if_neg (by rw[ilt_iff]; omega),if_neg (by rw[ilt_iff,lenI_eq]; omega),if_pos (by rw[ieq_iff]),Print_eq h1 ho (by rw[h3]; omega),Option.bind_some];simp only;rw[if_pos trivial,if_pos (by rw[ieq_iff]),if_pos (by rw[seq_iff,h3]),if_pos (by rw[ieq_iff,lenI_eq]),(refright_says ho).true_ h1];rfl
 ·rw[h1,Option.bind_some];simp only;rw[if_neg (by rw[ilt_iff]; omega),if_neg (by rw[ilt_iff,lenI_eq]; omega),if_neg (by rw[ieq_iff]; omega),if_pos trivial,(refsame_says (a:=⟨0,[],[],[],[],[],[]⟩) ⟨0,[],[],[],[],[],[]⟩ (by unfold LensI; decide)).true_ rfl,Option.bind_some,if_pos rfl]
  rcases h4 with rfl | rfl
  ·rw[if_pos (by rw[ieq_iff])]
  ·rw[if_neg (by rw[ieq_iff]; omega)];congr 1
end Go.Vid
