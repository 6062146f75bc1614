/- The law CnfTurned, plainly. No condition. -/
import Derived.Test.YtkdlblpidghjcaaDoorP6
import Derived.Test.YtkdlblpidghjcaaDoorGw
set_option linter.unusedSimpArgs false
set_option linter.unusedVariables false
set_option maxRecDepth 20000
namespace Go.Vid
open Go.Vabs
def turnC (c : List Int) : List Int := c.map fun l => -l
def turnM (m : List Bool) : List Bool := m.map fun b => !b
theorem turn_lit {m : List Bool} {l : Int} (h : l ≠ 0) : litT (turnM m) (-l) = litT m l := by
 unfold litT turnM
 rw [Int.natAbs_neg, List.getElem?_map]
 by_cases hl : l.natAbs - 1 < m.length
 ·rw [List.getElem?_eq_getElem hl, Option.map_some]
  generalize m[l.natAbs - 1] = x
  by_cases h0 : 0 < l
  ·rw [decide_eq_true h0, decide_eq_false (show ¬ 0 < -l by omega)]
   cases x <;> simp
  ·rw [decide_eq_false h0, decide_eq_true (show 0 < -l by omega)]
   cases x <;> simp
 ·rw [List.getElem?_eq_none (by omega)]
  simp
theorem turn_cl {m : List Bool} : ∀ {c : List Int}, (∀ l ∈ c, l ≠ 0) → clT (turnM m) (turnC c) = clT m c
 | [], _ => rfl
 | l :: c, h => by
  have h1 := turn_lit (m := m) (h l List.mem_cons_self)
  have h2 := turn_cl (m := m) (c := c) fun x hx => h x (List.mem_cons_of_mem _ hx)
  unfold clT turnC at h2 ⊢
  rw [List.map_cons, List.any_cons, List.any_cons, h1, h2]
theorem turn_cls {m : List Bool} : ∀ {cs : List (List Int)}, (∀ c ∈ cs, ∀ l ∈ c, l ≠ 0) → (cs.map turnC).all (clT (turnM m)) = cs.all (clT m)
 | [], _ => rfl
 | c :: cs, h => by
  rw [List.map_cons, List.all_cons, List.all_cons, turn_cl (h c List.mem_cons_self), turn_cls fun d hd => h d (List.mem_cons_of_mem _ hd)]
theorem turn_right {N : Int} {cs : List (List Int)} (h : rightT { N := N, cs := cs } = true) : rightT { N := N, cs := cs.map turnC } = true := by
 obtain ⟨h1, h2, h3⟩ := right_parts h
 simp only at h1 h2 h3
 unfold rightT
 rw [Bool.and_eq_true, decide_eq_true_iff, List.all_eq_true]
 refine ⟨⟨h1.1, h1.2, by rw [List.length_map]; exact h2⟩, fun c hc => ?_⟩
 obtain ⟨d, hd, rfl⟩ := List.mem_map.1 hc
 have := h3 d hd
 unfold clR turnC
 rw [Bool.and_eq_true, decide_eq_true_iff, List.all_eq_true, List.length_map]
 refine ⟨this.1, fun l hl => ?_⟩
 obtain ⟨k, hk, rfl⟩ := List.mem_map.1 hl
 have := this.2 k hk
 unfold litR
 rw [decide_eq_true_iff]
 simp only
 omega
theorem snoc_loop {α β : Type} {body : List β × Int → Option ((List β × Int) ⊕ List β)} {l : List α} {g : α → β} (step : ∀ (k : Nat) (hk : k < l.length) (acc : List β), acc.length = k → body (acc, (k : Int)) = some (.inl (acc ++ [g l[k]], ((k + 1 : Nat) : Int)))) (fin : ∀ acc, body (acc, (l.length : Int)) = some (.inr acc)) (j : Nat) (hj : j ≤ l.length) :
  loopF body ((l.take j).map g, (j : Int)) = some (l.map g) := by
 have aux : ∀ n k : Nat, l.length - k = n → k ≤ l.length → loopF body ((l.take k).map g, (k : Int)) = some (l.map g) := by
  intro n
  induction n with
  | zero =>
   intro k hn hk
   obtain rfl : k = l.length := by omega
   rw [loopF_inr (fin _), List.take_length]
  | succ n ih =>
   intro k hn hk
   have hlt : k < l.length := by omega
   rw [loopF_inl (step k hlt _ (by rw [List.length_map, List.length_take]; omega))]
   have := ih (k + 1) (by omega) (by omega)
   rw [take_snoc hlt, List.map_append] at this
   exact this
 exact aux _ j rfl hj
theorem turn_row {f : Cnf} {i : Nat} (hi : i < f.cs.length) (hc : ∀ l ∈ f.cs[i], -100000 ≤ l ∧ l ≤ 100000) (hn : (f.cs[i]).length ≤ 1000) : loopF (law03_CnfTurned_B1 f (i : Int)) ([], 0) = some (turnC f.cs[i]) := by
 have hg := List.getElem?_eq_getElem hi
 generalize f.cs[i] = c at hc hn hg
 refine snoc_loop (body := law03_CnfTurned_B1 f (i : Int)) (l := c) (g := fun l => -l) (fun k hk acc ha => ?_) (fun acc => ?_) 0 (Nat.zero_le _)
 ·have hx := hc _ (List.getElem_mem hk)
  unfold law03_CnfTurned_B1
  simp only
  rw [getI_nat, hg, Option.bind_some, if_pos (by rw [lt_len]; exact hk), getI_nat, List.getElem?_eq_getElem hk, Option.bind_some, if_pos (by rw [capN_iff, lenN_eq, List.length_append, List.length_singleton]; omega), ineg_ok (by omega) (by omega), inc_ok (by omega)]
 ·unfold law03_CnfTurned_B1
  simp only
  rw [getI_nat, hg, Option.bind_some, if_neg (by rw [lt_len]; omega)]
theorem turn_model {m : List Bool} (hm : m.length ≤ 100) : loopF (law03_CnfTurned_B3 m) ([], 0) = some (turnM m) := by
 refine snoc_loop (body := law03_CnfTurned_B3 m) (l := m) (g := fun b => !b) (fun k hk acc ha => ?_) (fun acc => ?_) 0 (Nat.zero_le _)
 ·unfold law03_CnfTurned_B3
  simp only
  rw [if_pos (by rw [lt_len]; exact hk), getI_nat, List.getElem?_eq_getElem hk, Option.bind_some, if_pos (by rw [capN_iff, lenN_eq, List.length_append, List.length_singleton]; omega), inc_ok (by omega)]
  rfl
 ·unfold law03_CnfTurned_B3
  simp only
  rw [if_neg (by rw [lt_len]; omega)]
theorem CnfTurned_true (f : Cnf) (m : List Bool) (hf : Cnf.Wf f) (_ : FitsL 1 (fun _ => True) m) : law03_CnfTurned f m = some true := by
 have hF := FI_of hf
 obtain ⟨v, hv, hvs⟩ := small_dec f
 unfold law03_CnfTurned
 rw [shown_eq, Option.bind_some, hv, Option.bind_some]
 cases v
 ·rfl
 rw [if_pos rfl]
 by_cases h1 : m.length ≤ 100
 case neg => rw [if_pos (by rw [ilt_iff, lenI_eq]; omega)]
 rw [if_neg (by rw [ilt_iff, lenI_eq]; omega), refRight_eq, Option.bind_some]
 by_cases hr : rightT f = true
 case neg => rw [if_neg hr]
 rw [if_pos hr]
 obtain ⟨r1, r2, r3⟩ := right_parts hr
 have hbd : ∀ c ∈ f.cs, ∀ l ∈ c, -100000 ≤ l ∧ l ≤ 100000 := fun c hc l hl => by have := (r3 c hc).2 l hl; omega
 have hne : ∀ c ∈ f.cs, ∀ l ∈ c, l ≠ 0 := fun c hc l hl => ((r3 c hc).2 l hl).1
 have hmt : (turnM m).length ≤ 1000000000000000 := by unfold turnM; rw [List.length_map]; omega
 have hTR : rightT { N := f.N, cs := f.cs.map turnC } = true := turn_right (N := f.N) (cs := f.cs) hr
 have e1 := Holds_eq hF (m := m) (by omega)
 have e2 : cnf_Holds ({ N := f.N, cs := f.cs.map turnC } : Cnf) (turnM m) = some (hoT m f) := by
  rw [Holds_eq ⟨by rw [List.length_map]; exact hF.1, fun c hc => by
   obtain ⟨d, hd, rfl⟩ := List.mem_map.1 hc
   unfold turnC
   refine ⟨by rw [List.length_map]; exact (hF.2 d hd).1, fun l hl => ?_⟩
   obtain ⟨k, hk, rfl⟩ := List.mem_map.1 hl
   have := hbd d hd k hk
   exact ⟨by omega, by omega⟩⟩ hmt]
  congr 1
  exact turn_cls hne
 by_cases h0 : 0 < f.cs.length
 ·rw [if_pos (by rw [ilt_iff, lenI_eq]; omega)]
  have hrow := turn_row h0 (hbd _ (List.getElem_mem h0)) (r3 _ (List.getElem_mem h0)).1
  rw [show law03_CnfTurned_B0 f = law03_CnfTurned_B1 f ((0 : Nat) : Int) from rfl, hrow, Option.bind_some, if_pos (by decide)]
  have hloop := snoc_loop (body := law03_CnfTurned_B2 f) (l := f.cs) (g := turnC) (fun k hk acc ha => by
   have hm := List.getElem_mem hk
   unfold law03_CnfTurned_B2
   simp only
   rw [if_pos (by rw [lt_len]; exact hk), turn_row hk (hbd _ hm) (r3 _ hm).1, Option.bind_some, if_pos (by rw [capN_iff, lenN_eq, List.length_append, List.length_singleton]; omega), inc_ok (by omega)]) (fun acc => by
   unfold law03_CnfTurned_B2
   simp only
   rw [if_neg (by rw [lt_len]; omega)]) 1 h0
  have e0 : ((f.cs.take 1).map turnC, ((1 : Nat) : Int)) = ([turnC f.cs[0]], iadd IntKind.i64 0 1) := by
   rw [show (1 : Nat) = 0 + 1 from rfl, take_snoc h0]
   simp
   decide
  rw [e0] at hloop
  rw [hloop, Option.bind_some, turn_model h1, Option.bind_some, if_pos rfl, e1, Option.bind_some, e2, Option.bind_some, if_pos (by simp), Right_eq, hTR]
  rfl
 ·have hnil : f.cs = [] := List.eq_nil_of_length_eq_zero (by omega)
  rw [hnil] at e2 hTR
  rw [if_neg (by rw [ilt_iff, lenI_eq]; omega), show law03_CnfTurned_B4 m = law03_CnfTurned_B3 m from rfl, turn_model h1, Option.bind_some, if_pos rfl, e1, Option.bind_some, show ({ N := f.N, cs := ([] : List (List Int)) } : Cnf) = { N := f.N, cs := [].map turnC } from rfl, e2, Option.bind_some, if_pos (by simp), Right_eq, hTR]
  rfl
end Go.Vid
