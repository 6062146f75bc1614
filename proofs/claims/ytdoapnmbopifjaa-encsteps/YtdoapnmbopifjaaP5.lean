/- Plain laws about two frames. No condition. -/
import Derived.Test.YtdoapnmbopifjaaP4
set_option linter.unusedSimpArgs false
set_option linter.unusedVariables false
set_option maxRecDepth 10000
namespace Go.Vid
open Go.Vabs
theorem vl_get {w : List Bool} {l : Int} (hl : 0 ≤ l) (hv : l / 2 < w.length) : ∃ b, w[(l / 2).toNat]? = some b ∧ vl w l = if l % 2 = 1 then !b else b := by
  have hlt : (l / 2).toNat < w.length := by omega
  have hg := List.getElem?_eq_getElem hlt
  refine ⟨_, hg, ?_⟩
  unfold vl
  simp [List.getD, hg]
theorem lt1_true {a : Aig} (hB : a.Bd) {v w : List Bool} {l : Int} (hv : (v.length : Int) = a.V + 1) (hl : 0 ≤ l) (hw : l / 2 < w.length) : TrueIn (v ++ w) (a.lt 1 l) ↔ vl w l = true := by
  have hV := hB.v0
  obtain ⟨b0, hb0, hvl⟩ := vl_get hl hw
  have hidx : (v ++ w)[v.length + (l / 2).toNat]? = some b0 := by
    rw [List.getElem?_append_right (by omega), ← hb0]
    congr 1
    omega
  rw [hvl]
  unfold TrueIn Aig.lt
  by_cases e : l % 2 = 1
  · rw [if_pos e, if_pos e]
    constructor
    · rintro ⟨k, b, hk, he⟩
      cases b with
      | true => simp at he; omega
      | false =>
        simp at he
        have : k = v.length + (l / 2).toNat := by omega
        subst this
        rw [hidx] at hk
        injection hk with hk
        rw [hk]; rfl
    · intro h
      refine ⟨_, b0, hidx, ?_⟩
      have : b0 = false := by simpa using h
      rw [this]
      simp
      omega
  · rw [if_neg e, if_neg e]
    constructor
    · rintro ⟨k, b, hk, he⟩
      cases b with
      | true =>
        simp at he
        have : k = v.length + (l / 2).toNat := by omega
        subst this
        rw [hidx] at hk
        injection hk with hk
      | false => simp at he; omega
    · intro h
      refine ⟨_, b0, hidx, ?_⟩
      rw [h]
      simp
      omega
theorem lt0_app {a : Aig} {v w : List Bool} {l : Int} (hl : 0 ≤ l) (hv : l / 2 < v.length) : TrueIn (v ++ w) (a.lt 0 l) ↔ vl v l = true := by
  rw [lt0_true hl (by simp; omega), vl_append hl hv]
theorem flip_half {l : Int} (hl : 0 ≤ l) : 0 ≤ flip l ∧ flip l / 2 = l / 2 := by unfold flip; split <;> omega
/-- A frame's clauses, wherever its values stand. -/
theorem frame_model' {a : Aig} (h : RightP a) {k : Int} {u v : List Bool} (hv : (v.length : Int) = a.V + 1) (ht : ∀ l : Int, 0 ≤ l → l / 2 < v.length → (TrueIn u (a.lt k l) ↔ vl v l = true)) :
    ModelOf (a.frame k) u ↔ v[0]? = some false ∧ ∀ (j : Nat) (x : And), a.G[j]? = some x → v[(a.I + a.L.length + 1 + j).toNat]? = some (vl v x.a && vl v x.b) := by
  have i0 := h.i0
  have hV : a.V = a.I + a.L.length + a.G.length := rfl
  unfold ModelOf Aig.frame
  rw [List.forall_mem_cons, upto_all]
  have h0 : (∃ x ∈ [a.lt k 1], TrueIn u x) ↔ v[0]? = some false := by
    rw [show (∃ x ∈ [a.lt k 1], TrueIn u x) ↔ TrueIn u (a.lt k 1) by simp, ht 1 (by omega) (by omega)]
    have hg := List.getElem?_eq_getElem (show 0 < v.length by omega)
    rw [hg]
    unfold vl
    simp [List.getD, hg]
  rw [h0]
  refine and_congr_right fun _ => ?_
  refine forall_congr' fun j => forall_congr' fun x => forall_congr' fun hx => ?_
  have hj := (List.getElem?_eq_some_iff.1 hx).1
  obtain ⟨g1, g2, g3⟩ := h.gates j x hx
  have hgl := gl_half a j
  have hg0 : 0 ≤ a.gl j := by unfold Aig.gl; omega
  have hge : a.gl j % 2 = 0 := by unfold Aig.gl; omega
  have hfl : flip (a.gl j) = a.gl j + 1 := by unfold flip; rw [if_neg (by omega)]
  have hlt : (a.I + a.L.length + 1 + (j : Int)).toNat < v.length := by omega
  have hgv := List.getElem?_eq_getElem hlt
  have vg : vl v (a.gl j) = v[(a.I + a.L.length + 1 + (j : Int)).toNat] := by
    unfold vl
    rw [if_neg (by omega), hgl]
    simp [List.getD, hgv]
  have t1 : TrueIn u (a.lt k (a.gl j + 1)) ↔ vl v (a.gl j) = false := by
    rw [ht _ (by omega) (by omega), ← hfl, vl_flip hg0 (by omega)]
    simp
  have t2 : TrueIn u (a.lt k (a.gl j)) ↔ vl v (a.gl j) = true := ht _ hg0 (by omega)
  have t3 : TrueIn u (a.lt k x.a) ↔ vl v x.a = true := ht _ (by omega) (by omega)
  have t4 : TrueIn u (a.lt k x.b) ↔ vl v x.b = true := ht _ (by omega) (by omega)
  have t5 : TrueIn u (a.lt k (flip x.a)) ↔ vl v x.a = false := by
    have hf := flip_half (l := x.a) (by omega)
    rw [ht _ hf.1 (by omega), vl_flip (by omega) (by omega)]
    simp
  have t6 : TrueIn u (a.lt k (flip x.b)) ↔ vl v x.b = false := by
    have hf := flip_half (l := x.b) (by omega)
    rw [ht _ hf.1 (by omega), vl_flip (by omega) (by omega)]
    simp
  rw [hgv, ← vg]
  unfold Aig.gF
  simp only [hj, true_implies, List.mem_cons, List.not_mem_nil, or_false, forall_eq_or_imp, forall_eq, exists_eq_or_imp, exists_eq_left, t1, t2, t3, t4, t5, t6, Option.some.injEq]
  cases vl v (a.gl j) <;> cases vl v x.a <;> cases vl v x.b <;> simp
/-- The clauses that link two frames. -/
theorem link_model {a : Aig} (h : RightP a) {v w : List Bool} (hv : (v.length : Int) = a.V + 1) (hw : (w.length : Int) = a.V + 1) : ModelOf a.link (v ++ w) ↔ ∀ (i : Nat) (x : Latch), a.L[i]? = some x → w[(a.I + 1 + i).toNat]? = some (vl v x.next) := by
  have i0 := h.i0
  have hB := h.bd
  have hV : a.V = a.I + a.L.length + a.G.length := rfl
  unfold ModelOf Aig.link
  rw [upto_all]
  refine forall_congr' fun i => forall_congr' fun x => forall_congr' fun hx => ?_
  have hi := (List.getElem?_eq_some_iff.1 hx).1
  obtain ⟨q1, q2, _⟩ := h.latches i x hx
  obtain ⟨g, hg⟩ : ∃ g : Int, g = 2 * (a.I + 1 + i) := ⟨_, rfl⟩
  have hfg := flip_half (l := g) (by omega)
  have hfn := flip_half (l := x.next) (by omega)
  have hlt : (a.I + 1 + (i : Int)).toNat < w.length := by omega
  have hgw := List.getElem?_eq_getElem hlt
  have vg : vl w g = w[(a.I + 1 + (i : Int)).toNat] := by
    have : g / 2 = a.I + 1 + i := by omega
    unfold vl
    rw [if_neg (by omega), this]
    simp [List.getD, hgw]
  have t1 : TrueIn (v ++ w) (-a.lt 1 g) ↔ vl w g = false := by
    rw [← lt_flip a 1 (by omega), lt1_true hB hv hfg.1 (by omega), vl_flip (by omega) (by omega)]
    simp
  have t2 : TrueIn (v ++ w) (a.lt 1 g) ↔ vl w g = true := lt1_true hB hv (by omega) (by omega)
  have t3 : TrueIn (v ++ w) (a.lt 0 x.next) ↔ vl v x.next = true := lt0_app (by omega) (by omega)
  have t4 : TrueIn (v ++ w) (-a.lt 0 x.next) ↔ vl v x.next = false := by
    rw [← lt_flip a 0 (by omega), lt0_app hfn.1 (by omega), vl_flip (by omega) (by omega)]
    simp
  rw [hgw, ← vg]
  unfold Aig.lk
  rw [← hg]
  simp only [hi, true_implies, List.mem_cons, List.not_mem_nil, or_false, forall_eq_or_imp, forall_eq, exists_eq_or_imp, exists_eq_left, t1, t2, t3, t4, Option.some.injEq]
  cases vl w g <;> cases vl v x.next <;> simp
/-- Clauses of one literal each, of frame 0. -/
theorem ones_model {a : Aig} {u v : List Bool} {l : List Int} (ht : ∀ x ∈ l, (TrueIn u (a.lt 0 x) ↔ vl v x = true)) : ModelOf (l.map fun x => [a.lt 0 x]) u ↔ ∀ x ∈ l, vl v x = true := by
  unfold ModelOf
  simp only [List.mem_map, forall_exists_index, and_imp, forall_apply_eq_imp_iff₂, List.mem_singleton, exists_eq_left]
  exact forall_congr' fun x => forall_congr' fun hx => ht x hx
theorem enc_Stays_eq {a : Aig} (h : a.Bd) (hg : GatesB a) (hl : LatchesB a) (hc : ∀ x ∈ a.con, 0 ≤ x ∧ x ≤ 200000) (hn : a.con.length ≤ 2000) {inv : Int} (hi : 0 ≤ inv ∧ inv ≤ 200000) : enc_Stays a inv = some { N := 2 * (a.V + 1), cs := a.frame 0 ++ a.frame 1 ++ a.link ++ ((a.con ++ [inv]).map fun x => [a.lt 0 x]) ++ [[a.lt 1 (flip inv)]] } := by
  have hf := flip_bd hi
  have h1 := frame_len h 0
  have h2 := frame_len h 1
  have h3 := lk_len a a.L.length
  have h4 := h.l
  have h5 : a.link.length ≤ 40000 := by unfold Aig.link; omega
  unfold enc_Stays
  rw [bxor_flip (by omega), enc_clause_eq h (by omega) (by simp) (by simp; omega), Option.bind_some, enc_Vars_eq h (by omega), Option.bind_some, enc_Frame_eq h hg (by omega), Option.bind_some, enc_Frame_eq h hg (by omega), Option.bind_some, enc_Link_eq h hl, Option.bind_some, enc_holds_eq h hc hn (by simp; omega) (by simp), Option.bind_some]
  have he : [a.frame 0, a.frame 1, a.link, (a.con ++ [inv]).map fun x => [a.lt 0 x], [List.map (a.lt 1) [flip inv]]].flatten = a.frame 0 ++ a.frame 1 ++ a.link ++ ((a.con ++ [inv]).map fun x => [a.lt 0 x]) ++ [[a.lt 1 (flip inv)]] := by simp
  rw [Concat_eq (by simp) (by rw [he]; simp; omega), he, Option.bind_some]
theorem lits_eq {v : List Bool} {l : List Int} (hl : l.length ≤ 100000) (hb : ∀ x ∈ l, 0 ≤ x ∧ x ≤ 1000000) : ref08_lits v l = some (l.map (vl v)) := by
  unfold ref08_lits
  have hc := loopF_count (body := ref08_lits_B0 v l) (fun j => ((l.take j).map (vl v), (j : Int))) l.length (r := l.map (vl v)) (fun j hj => by
    have hx := List.getElem?_eq_getElem hj
    simp only [ref08_lits_B0]
    rw [if_pos (by simp [lenI_eq]; omega), getI_nat, hx, Option.bind_some, ref08_Lit_eq (hb _ (List.getElem_mem hj)), Option.bind_some, if_pos (by rw [capN_iff, lenN_eq]; simp; omega), iadd_ok (by omega) (by omega), List.take_succ_eq_append_getElem hj, List.map_append]
    rfl) (by
    simp only [ref08_lits_B0]
    rw [if_neg (by simp [lenI_eq])]
    simp)
  have hc : loopF (ref08_lits_B0 v l) ([], 0) = some (l.map (vl v)) := hc
  rw [hc, Option.bind_some]
theorem LitsP.bd {v : Int} {l : List Int} (h : LitsP v l) (hv : v ≤ 20000) : ∀ x ∈ l, 0 ≤ x ∧ x ≤ 200000 := fun x hx => by
  have := h x hx
  omega
theorem Step_eq {a : Aig} (h : RightP a) (hS : SmallP a) {st inn w : List Bool} {bad : Int} (hw : ref08_Values a st inn = some (w, bad)) : ref08_Step a st inn = if bad = 0 then some (a.L.map fun x => vl w x.next, (a.outs.map (vl w), a.bad.map (vl w), a.con.map (vl w)), 0) else some ([], ([], [], []), bad) := by
  have hr := h.vars
  unfold ref08_Step
  rw [hw, Option.bind_some]
  dsimp only
  by_cases e : bad = 0
  case neg => rw [if_neg (by simpa using e), if_neg e]
  rw [if_pos (by simpa using e), if_pos e]
  have s1 := hS.l
  have s2 := hS.outs
  have s3 := hS.bad
  have s4 := hS.con
  have hc := loopF_count (body := ref08_Step_B0 a w) (fun j => ((a.L.take j).map fun x => vl w x.next, (j : Int))) a.L.length (r := a.L.map fun x => vl w x.next) (fun j hj => by
    have hx := List.getElem?_eq_getElem hj
    have hb := h.lb a.L[j] (List.getElem_mem hj)
    simp only [ref08_Step_B0]
    rw [if_pos (by simp [lenI_eq]; omega), getI_nat, hx, Option.bind_some, ref08_Lit_eq (by omega), Option.bind_some, if_pos (by rw [capN_iff, lenN_eq]; simp; omega), iadd_ok (by omega) (by omega), List.take_succ_eq_append_getElem hj, List.map_append]
    rfl) (by
    simp only [ref08_Step_B0]
    rw [if_neg (by simp [lenI_eq])]
    simp)
  have hc : loopF (ref08_Step_B0 a w) ([], 0) = some (a.L.map fun x => vl w x.next) := hc
  have hwide : ∀ {l : List Int}, LitsP (a.I + a.L.length + a.G.length) l → ∀ x ∈ l, 0 ≤ x ∧ x ≤ 1000000 := fun hl x hx => by
    have := hl.bd hr x hx
    omega
  rw [hc, Option.bind_some, lits_eq (by omega) (hwide h.outs), Option.bind_some, lits_eq (by omega) (hwide h.bad), Option.bind_some, lits_eq (by omega) (hwide h.con), Option.bind_some]
end Go.Vid
