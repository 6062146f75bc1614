/- The law CnfApart, plainly. No condition. -/
import Derived.Test.YtkdlblpidghjcaaDoorP6
import Derived.Test.YtkdlblpidghjcaaDoorGw
set_option linter.unusedSimpArgs false
set_option linter.unusedVariables false
set_option maxRecDepth 20000
namespace Go.Vid
open Go.Vabs
theorem modL_inj : ∀ (m n : List Bool) (k : Nat), modL k m = modL k n → m = n
 | [], [], _, _ => rfl
 | [], b :: n, k, h => by cases h
 | a :: m, [], k, h => by cases h
 | a :: m, b :: n, k, h => by
  rw [modL, modL] at h
  injection h with h1 h2
  rw [modL_inj m n (k + 1) h2]
  congr 1
  cases a <;> cases b <;> simp at h1 <;> first | rfl | omega
theorem modL_ne : ∀ (m : List Bool) (k : Nat), ∀ x ∈ modL k m, x ≠ 0
 | [], _, x, h => by cases h
 | a :: m, k, x, h => by
  rw [modL, List.mem_cons] at h
  rcases h with rfl | h
  ·split <;> omega
  ·exact modL_ne m (k + 1) x h
theorem txm_inj {m n : List Bool} (hm : m.length ≤ 100) (hn : n.length ≤ 100) (h : txm m = txm n) : m = n := by
 have key : ∀ m : List Bool, m.length ≤ 100 → clQ (txm m) 1000 (2, 0) = (modL 0 m, 2 + (tcl (modL 0 m)).length, 0) := by
  intro m hm
  refine clQ_text (Y := []) (by decide) (by decide) (fun l hl => ?_) (by rw [modL_len]; omega) (by rw [List.append_nil]; simp [txm, tcl])
  have := modL_bd m 0 l hl
  exact ⟨modL_ne m 0 l hl, by omega, by omega⟩
 have h1 := key m hm
 rw [h, key n hn] at h1
 injection h1 with h1 _
 exact (modL_inj _ _ _ h1).symm
theorem tx_inj {f g : Cnf} (hf : rightT f = true) (hg : rightT g = true) (sf : SmallP f 40) (sg : SmallP g 40) (h : tx f = tx g) : f = g := by
 have h1 := parse_own hf sf
 rw [h, parse_own hg sg] at h1
 injection h1 with h1 _
 exact h1.symm
theorem CnfApart_true (x : CnfApartIn_law03) (hx : x.Wf) : law03_CnfApart x = some true := by
 obtain ⟨f, g, m, n⟩ := x
 obtain ⟨hf, hg, _, _, _⟩ := hx
 simp only at hf hg
 have hF := FI_of hf
 obtain ⟨v, hv, hvs⟩ := small_dec f
 obtain ⟨u, hu, hus⟩ := small_dec g
 unfold law03_CnfApart
 simp only
 rw [shown_eq, Option.bind_some, hv, Option.bind_some]
 cases v
 ·rfl
 rw [if_pos rfl, hu, Option.bind_some]
 cases u
 ·rfl
 have sf := hvs.1 rfl
 have sg := hus.1 rfl
 rw [if_pos rfl]
 by_cases h1 : m.length ≤ 100
 case neg => rw [if_pos (by rw [ilt_iff, lenI_eq]; omega)]
 rw [if_neg (by rw [ilt_iff, lenI_eq]; omega)]
 by_cases h2 : n.length ≤ 100
 case neg => rw [if_pos (by rw [ilt_iff, lenI_eq]; omega)]
 rw [if_neg (by rw [ilt_iff, lenI_eq]; omega), refRight_eq, Option.bind_some]
 by_cases hr : rightT f = true
 case neg => rw [if_neg hr]
 rw [if_pos hr, refRight_eq, Option.bind_some]
 by_cases hq : rightT g = true
 case neg => rw [if_neg hq]
 rw [if_pos hq]
 have e1 := Print_eq f
 have e2 := Print_eq g
 rw [if_pos hr] at e1
 rw [if_pos hq] at e2
 rw [e1, Option.bind_some]
 simp only
 rw [e2, Option.bind_some]
 simp only
 rw [if_pos trivial, if_pos (by decide), if_pos (by decide), refSame_eq g hF.fl, Option.bind_some, if_pos, PrintModel_eq (by omega), Option.bind_some, PrintModel_eq (by omega), Option.bind_some, refFlags_eq n (by omega), Option.bind_some]
 ·congr 1
  rw [beq2_iff]
  rw [Bool.eq_iff_iff, seq_iff, decide_eq_true_iff]
  constructor
  ·intro e
   have := congrArg bytesOf e
   rw [bytesOf_strOf (txm_isB m), bytesOf_strOf (txm_isB n)] at this
   exact txm_inj h1 h2 this
  ·intro e
   rw [e]
 ·rw [beq2_iff]
  rw [Bool.eq_iff_iff, seq_iff, decide_eq_true_iff]
  constructor
  ·intro e
   have := congrArg bytesOf e
   rw [bytesOf_strOf (tx_isB f), bytesOf_strOf (tx_isB g)] at this
   rw [tx_inj hr hq sf sg this]
   exact ⟨rfl, rfl⟩
  ·intro e
   rw [cnf_ext e.1 e.2]
end Go.Vid
