/- The law EncAsks, plainly: it answers true. No condition. -/
import Derived.Test.YthmnnieiibeiaaaPA
set_option linter.unusedSimpArgs false
set_option linter.unusedVariables false
set_option maxRecDepth 10000
namespace Go.Vid
open Go.Vabs
theorem cons_eq {a : Aig} (h : a.Bd) (hc : ∀ x ∈ a.con, 0 ≤ x ∧ x ≤ 200000) (hn : a.con.length ≤ 2000) {q : List (List Int)} (hq : q.length ≤ 1000000) : ref19_cons a q = some (q ++ a.con.map fun x => [a.lt 0 x]) := by
 unfold ref19_cons
 have hc := loopF_count (body := ref19_cons_B0 a) (fun j => (q ++ (a.con.take j).map fun x => [a.lt 0 x], (j : Int))) a.con.length (r := q ++ a.con.map fun x => [a.lt 0 x]) (fun j hj => by
  have hx := List.getElem?_eq_getElem hj
  have hbj := hc a.con[j] (List.getElem_mem hj)
  simp only [ref19_cons_B0]
  rw [if_pos (by simp [lenI_eq]; omega), getI_nat, hx, Option.bind_some, ref19_Lit_eq h (by omega) (by omega), Option.bind_some, if_pos (by rw [capN_iff, lenN_eq]; simp; omega), iadd_ok (by omega) (by omega), List.take_succ_eq_append_getElem hj, List.map_append, ← List.append_assoc]
  rfl) (by
  simp only [ref19_cons_B0]
  rw [if_neg (by simp [lenI_eq])]
  simp)
 have hc : loopF (ref19_cons_B0 a) (q, 0) = some (q ++ a.con.map fun x => [a.lt 0 x]) := by
  rw [← hc]
  simp
 rw [hc, Option.bind_some]
theorem lt_R {a : Aig} (hB : a.Bd) {k l n : Int} (hk : k = 0 ∨ k = 1) (hn : k + 1 ≤ n) (hl : 0 ≤ l ∧ l ≤ 2 * a.V + 1) : litR (n * (a.V + 1)) (a.lt k l) = true ∧ litR (n * (a.V + 1)) (-a.lt k l) = true := by
 have hV := hB.v0
 have hm : (k + 1) * (a.V + 1) ≤ n * (a.V + 1) := Int.mul_le_mul_of_nonneg_right hn (by omega)
 generalize n * (a.V + 1) = N at hm ⊢
 unfold litR Aig.lt
 rw [decide_eq_true_iff, decide_eq_true_iff]
 rcases hk with rfl | rfl <;> split <;> refine ⟨⟨?_, ?_, ?_⟩, ?_, ?_, ?_⟩ <;> omega
theorem all_R {n : Int} {c : List Int} (hc : c.length ≤ 1000) (h : ∀ l ∈ c, litR n l = true) : clR n c = true := by
 unfold clR
 rw [decide_eq_true hc, Bool.true_and, List.all_eq_true]
 exact h
theorem flip_le {a : Aig} {x : Int} (h : 0 ≤ x ∧ x ≤ 2 * a.V + 1) : 0 ≤ flip x ∧ flip x ≤ 2 * a.V + 1 := by unfold flip; split <;> omega
theorem frame_R {a : Aig} (hR : RightP a) {k n : Int} (hk : k = 0 ∨ k = 1) (hn : k + 1 ≤ n) : ∀ c ∈ a.frame k, clR (n * (a.V + 1)) c = true := by
 intro c hc
 have hB := hR.bd
 have hV0 := hB.v0
 have hV : a.V = a.I + a.L.length + a.G.length := rfl
 have i0 := hR.i0
 unfold Aig.frame at hc
 rcases List.mem_cons.1 hc with rfl | hc
 ·refine all_R (by simp) (fun l hl => ?_)
  rw [List.mem_singleton.1 hl]
  exact (lt_R hB hk hn (by omega)).1
 ·obtain ⟨j, x, hx, hj, hy⟩ := upto_mem hc
  obtain ⟨g1, g2, g3⟩ := hR.gates j x hx
  have hgl : a.gl j = 2 * (a.I + a.L.length + 1 + j) := rfl
  unfold Aig.gF at hy
  have t := fun l (h : 0 ≤ l ∧ l ≤ 2 * a.V + 1) => (lt_R (n := n) hB hk hn h).1
  have f1 := flip_le (a := a) (x := x.a) (by omega)
  have f2 := flip_le (a := a) (x := x.b) (by omega)
  simp only [List.mem_cons, List.not_mem_nil, or_false] at hy
  rcases hy with rfl | rfl | rfl <;> refine all_R (by simp) (fun l hl => ?_) <;> simp only [List.mem_cons, List.not_mem_nil, or_false] at hl
  ·rcases hl with rfl | rfl <;> exact t _ (by omega)
  ·rcases hl with rfl | rfl <;> exact t _ (by omega)
  ·rcases hl with rfl | rfl | rfl
   ·exact t _ (by omega)
   ·exact t _ f1
   ·exact t _ f2
theorem first_R {a : Aig} (hR : RightP a) : ∀ c ∈ a.first, clR (1 * (a.V + 1)) c = true := by
 intro c hc
 have hB := hR.bd
 have hV : a.V = a.I + a.L.length + a.G.length := rfl
 have i0 := hR.i0
 unfold Aig.first at hc
 obtain ⟨j, x, hx, hj, hy⟩ := upto_mem hc
 have hlb := hR.lb x (List.mem_of_getElem? hx)
 unfold Aig.ff at hy
 split at hy
 ·rw [List.mem_singleton.1 hy]
  refine all_R (by simp) (fun l hl => ?_)
  rw [List.mem_singleton.1 hl]
  exact (lt_R hB (.inl rfl) (by omega) (by omega)).1
 ·cases hy
theorem link_R {a : Aig} (hR : RightP a) : ∀ c ∈ a.link, clR (2 * (a.V + 1)) c = true := by
 intro c hc
 have hB := hR.bd
 have hV : a.V = a.I + a.L.length + a.G.length := rfl
 have i0 := hR.i0
 unfold Aig.link at hc
 obtain ⟨j, x, hx, hj, hy⟩ := upto_mem hc
 obtain ⟨q1, q2, _⟩ := hR.latches j x hx
 have t1 := lt_R (n := 2) hB (k := 1) (.inr rfl) (by omega) (l := 2 * (a.I + 1 + j)) (by omega)
 have t0 := lt_R (n := 2) hB (k := 0) (.inl rfl) (by omega) (l := x.next) (by omega)
 unfold Aig.lk at hy
 simp only [List.mem_cons, List.not_mem_nil, or_false] at hy
 rcases hy with rfl | rfl <;> refine all_R (by simp) (fun l hl => ?_) <;> simp only [List.mem_cons, List.not_mem_nil, or_false] at hl
 ·rcases hl with rfl | rfl
  ·exact t1.2
  ·exact t0.1
 ·rcases hl with rfl | rfl
  ·exact t1.1
  ·exact t0.2
theorem one_R {a : Aig} (hB : a.Bd) {k l n : Int} (hk : k = 0 ∨ k = 1) (hn : k + 1 ≤ n) (hl : 0 ≤ l ∧ l ≤ 2 * a.V + 1) : clR (n * (a.V + 1)) [a.lt k l] = true := all_R (by simp) fun x hx => by
 rw [List.mem_singleton.1 hx]
 exact (lt_R hB hk hn hl).1
theorem right_R {N : Int} {cs : List (List Int)} (h0 : 0 ≤ N ∧ N ≤ 100000) (hn : cs.length ≤ 20000) (h : ∀ c ∈ cs, clR N c = true) : ref03_Right { N := N, cs := cs } = some true := by
 rw [refRight_eq]
 unfold rightT
 rw [decide_eq_true ⟨h0.1, h0.2, hn⟩, Bool.true_and, List.all_eq_true.2 h]
theorem same_R {x y : Cnf} (hN : x.N = y.N) (hc : x.cs = y.cs) (hn : x.cs.length ≤ 20000) (h : ∀ c ∈ x.cs, clR x.N c = true) : ref03_Same x y = some true := by
 rw [refSame_eq y ⟨by omega, fun c hc => ?_⟩, decide_eq_true ⟨hN, hc⟩]
 have := h c hc
 unfold clR at this
 simp only [Bool.and_eq_true, decide_eq_true_iff] at this
 omega
theorem EncAsks_true (a : Aig) (inv bad : Int) (ha : a.Wf) (hi : Fits .i64 inv) (hb : Fits .i64 bad) : law19_EncAsks a inv bad = some true := by
 unfold law19_EncAsks
 rw [shown_eq, Option.bind_some]
 obtain ⟨b1, h1, p1⟩ := may_total a ha inv hi
 rw [h1, Option.bind_some]
 by_cases e1 : b1 = true
 case neg => rw [if_neg e1]
 rw [if_pos e1]
 obtain ⟨hS, hR, l0, l1⟩ := p1 e1
 obtain ⟨b2, h2, p2⟩ := may_total a ha bad hb
 rw [h2, Option.bind_some]
 by_cases e2 : b2 = true
 case neg => rw [if_neg e2]
 rw [if_pos e2]
 obtain ⟨_, _, m0, m1⟩ := p2 e2
 have hB := hR.bd
 have hG := hR.gb
 have hL := hR.lb
 have hv := hB.v0
 have hV : a.V = a.I + a.L.length + a.G.length := rfl
 rw [← hV] at l1 m1
 have hr := hR.vars
 rw [← hV] at hr
 have s1 := hS.l
 have s2 := hS.g
 have s4 := hS.con
 have hcon := hR.con.bd hr
 have hcl : ∀ x ∈ a.con, 0 ≤ x ∧ x ≤ 2 * a.V + 1 := hR.con
 have n1 := gF_len a 0 a.G.length
 have n2 := gF_len a 1 a.G.length
 have n3 := lk_len a a.L.length
 have n4 := ff_len a a.L.length
 have fl0 : (a.frame 0).length ≤ 121 := by unfold Aig.frame; simp; omega
 have fl1 : (a.frame 1).length ≤ 121 := by unfold Aig.frame; simp; omega
 have ll : a.link.length ≤ 80 := by unfold Aig.link; omega
 have fi : a.first.length ≤ 40 := by unfold Aig.first; omega
 have hfi := flip_le (a := a) (x := inv) ⟨l0, l1⟩
 rw [enc_Starts_eq hB hG hL (by omega), Option.bind_some, enc_Stays_eq hB hG hL hcon (by omega) (by omega), Option.bind_some, enc_Safe_eq hB hG hcon (by omega) (by omega) (by omega), Option.bind_some]
 have r1 : ∀ c ∈ a.frame 0 ++ a.first ++ [[a.lt 0 (flip inv)]], clR (1 * (a.V + 1)) c = true := fun c hc => by
  simp only [List.mem_append, List.mem_singleton] at hc
  rcases hc with (hc | hc) | rfl
  ·exact frame_R hR (.inl rfl) (by omega) c hc
  ·exact first_R hR c hc
  ·exact one_R hB (.inl rfl) (by omega) hfi
 have r2 : ∀ c ∈ a.frame 0 ++ a.frame 1 ++ a.link ++ ((a.con ++ [inv]).map fun x => [a.lt 0 x]) ++ [[a.lt 1 (flip inv)]], clR (2 * (a.V + 1)) c = true := fun c hc => by
  simp only [List.mem_append, List.mem_singleton, List.mem_map] at hc
  rcases hc with (((hc | hc) | hc) | ⟨x, hx, rfl⟩) | rfl
  ·exact frame_R hR (.inl rfl) (by omega) c hc
  ·exact frame_R hR (.inr rfl) (by omega) c hc
  ·exact link_R hR c hc
  ·refine one_R hB (.inl rfl) (by omega) ?_
   rcases hx with hx | rfl
   ·exact hcl x hx
   ·exact ⟨l0, l1⟩
  ·exact one_R hB (.inr rfl) (by omega) hfi
 have r3 : ∀ c ∈ a.frame 0 ++ (a.con ++ [inv, bad]).map fun x => [a.lt 0 x], clR (1 * (a.V + 1)) c = true := fun c hc => by
  simp only [List.mem_append, List.mem_map, List.mem_cons, List.not_mem_nil, or_false] at hc
  rcases hc with hc | ⟨x, hx, rfl⟩
  ·exact frame_R hR (.inl rfl) (by omega) c hc
  ·refine one_R hB (.inl rfl) (by omega) ?_
   rcases hx with hx | rfl | rfl
   ·exact hcl x hx
   ·exact ⟨l0, l1⟩
   ·exact ⟨m0, m1⟩
 rw [Int.one_mul] at r1 r3
 have q1 : (a.frame 0 ++ a.first ++ [[a.lt 0 (flip inv)]]).length ≤ 20000 := by simp; omega
 have q2 : (a.frame 0 ++ a.frame 1 ++ a.link ++ ((a.con ++ [inv]).map fun x => [a.lt 0 x]) ++ [[a.lt 1 (flip inv)]]).length ≤ 20000 := by simp; omega
 have q3 : (a.frame 0 ++ (a.con ++ [inv, bad]).map fun x => [a.lt 0 x]).length ≤ 20000 := by simp; omega
 rw [right_R (by omega) q1 r1, Option.bind_some, if_pos rfl, right_R (by omega) q2 r2, Option.bind_some, if_pos rfl, right_R (by omega) q3 r3, Option.bind_some, if_pos rfl, if_pos rfl]
 have e1 : ref19_Starts a inv = some { N := a.V + 1, cs := a.frame 0 ++ a.first ++ [[a.lt 0 (flip inv)]] } := by
  unfold ref19_Starts
  rw [ref19_Frame_eq hB hG (by omega), Option.bind_some, ref19_First_eq hB hL, Option.bind_some, if_pos (by rw [capN_iff, lenN_eq]; simp; omega), ref19_Vars_eq hB (by omega), Option.bind_some, ref19_Lit_eq hB (by omega) (by omega), Option.bind_some, ineg_lt hB (by omega) (by omega), if_pos (by rw [capN_iff, lenN_eq]; simp; omega), lt_flip a 0 l0, Int.one_mul, List.append_assoc]
 have e2 : ref19_Stays a inv = some { N := 2 * (a.V + 1), cs := a.frame 0 ++ a.frame 1 ++ a.link ++ ((a.con ++ [inv]).map fun x => [a.lt 0 x]) ++ [[a.lt 1 (flip inv)]] } := by
  unfold ref19_Stays
  rw [ref19_Frame_eq hB hG (by omega), Option.bind_some, ref19_Frame_eq hB hG (by omega), Option.bind_some, if_pos (by rw [capN_iff, lenN_eq]; simp; omega), ref19_Link_eq hB hL, Option.bind_some, if_pos (by rw [capN_iff, lenN_eq]; simp; omega), cons_eq hB hcon (by omega) (by simp; omega), Option.bind_some, ref19_Vars_eq hB (by omega), Option.bind_some, ref19_Lit_eq hB (by omega) (by omega), Option.bind_some, ref19_Lit_eq hB (by omega) (by omega), Option.bind_some, ineg_lt hB (by omega) (by omega), if_pos (by rw [capN_iff, lenN_eq]; simp; omega), lt_flip a 1 l0]
  simp
 have e3 : ref19_Safe a inv bad = some { N := a.V + 1, cs := a.frame 0 ++ (a.con ++ [inv, bad]).map fun x => [a.lt 0 x] } := by
  unfold ref19_Safe
  rw [ref19_Frame_eq hB hG (by omega), Option.bind_some, cons_eq hB hcon (by omega) (by omega), Option.bind_some, ref19_Vars_eq hB (by omega), Option.bind_some, ref19_Lit_eq hB (by omega) (by omega), Option.bind_some, ref19_Lit_eq hB (by omega) (by omega), Option.bind_some, if_pos (by rw [capN_iff, lenN_eq]; simp; omega), Int.one_mul]
  simp
 rw [e1, Option.bind_some, same_R rfl rfl q1 r1, Option.bind_some, if_pos rfl, e2, Option.bind_some, same_R rfl rfl q2 r2, Option.bind_some, if_pos rfl, e3, Option.bind_some, same_R rfl rfl q3 r3, Option.bind_some]
end Go.Vid
