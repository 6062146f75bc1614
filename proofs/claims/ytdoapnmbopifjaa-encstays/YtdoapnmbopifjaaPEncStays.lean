/- The law EncStays, plainly: it answers true. No condition. -/
import Derived.Test.YtdoapnmbopifjaaP5
set_option linter.unusedSimpArgs false
set_option linter.unusedVariables false
namespace Go.Vid
open Go.Vabs
theorem stays_loop (p : List Bool × List Bool × List Bool) (hp : p.2.2.length ≤ 1000000) : loopF (law19_EncStays_B0 p) (true, 0) = some (p.2.2.all id) := by
  obtain ⟨l, hl⟩ : ∃ l, l = p.2.2 := ⟨_, rfl⟩
  have hll : l.length ≤ 1000000 := by rw [hl]; exact hp
  have hc := loopF_count (body := law19_EncStays_B0 p) (fun j => ((l.take j).all id, (j : Int))) l.length (r := l.all id) (fun j hj => by
    have hx := List.getElem?_eq_getElem hj
    simp only [law19_EncStays_B0]
    rw [if_pos (by simp [inI]), ← hl, if_pos (by simp [lenI_eq]; omega), List.take_succ_eq_append_getElem hj, List.all_append]
    split
    · rename_i e
      rw [if_pos (by rw [inI_iff, lenN_eq]; omega), nthI_nat, hx, Option.bind_some, iadd_ok (by omega) (by omega), e]
      simp
    · rename_i e
      have e : (l.take j).all id = false := by simpa using e
      rw [iadd_ok (by omega) (by omega), e]
      simp) (by
    simp only [law19_EncStays_B0]
    rw [if_pos (by simp [inI]), ← hl, if_neg (by simp [lenI_eq])]
    simp)
  rw [← hl]
  exact hc
theorem EncStays_true (x : EncStaysIn_law19) (hx : x.Wf) : law19_EncStays x = some true := by
  obtain ⟨a, st, ⟨in0, in1⟩, inv⟩ := x
  obtain ⟨ha, hst, hin, hinv, _⟩ := hx
  simp only at ha hst hin hinv
  unfold law19_EncStays
  dsimp only
  rw [shown_eq, Option.bind_some]
  obtain ⟨b1, h1, p1⟩ := may_total a ha inv hinv
  rw [h1, Option.bind_some]
  by_cases e1 : b1 = true
  case neg => rw [if_neg e1]
  rw [if_pos e1]
  obtain ⟨hS, hR, l0, l1⟩ := p1 e1
  have hB := hR.bd
  have i0 := hR.i0
  have hV : a.V = a.I + a.L.length + a.G.length := rfl
  have hvr := hR.vars
  rw [← hV] at l1 hvr
  by_cases e2 : ilt 60 (lenI st) = true
  · rw [if_pos e2]
  rw [if_neg e2, if_pos (by simp [inI])]
  by_cases e3 : ilt 60 (lenI in0) = true
  · rw [if_pos e3]
  rw [if_neg e3, if_pos (by simp [inI])]
  by_cases e4 : ilt 60 (lenI in1) = true
  · rw [if_pos e4]
  rw [if_neg e4]
  simp only [ilt_iff, lenI_eq] at e2 e3 e4
  obtain ⟨v, bad, hv, hbad, hbi, hgood⟩ := Values_spec hR st in0 (by omega) (by omega)
  have hstep := Step_eq hR hS hv
  obtain ⟨n, o, q, hno, hno0⟩ : ∃ n o q, ref08_Step a st in0 = some (n, o, q) ∧ n.length ≤ 1000 ∧ (bad = 0 → n = a.L.map (fun x => vl v x.next) ∧ o.2.2 = a.con.map (vl v)) := by
    by_cases e : bad = 0
    · rw [if_pos e] at hstep
      exact ⟨_, _, _, hstep, by simp; have := hS.l; omega, fun _ => ⟨rfl, rfl⟩⟩
    · rw [if_neg e] at hstep
      exact ⟨_, _, _, hstep, by simp, fun h => absurd h e⟩
  obtain ⟨hnl, hno0⟩ := hno0
  obtain ⟨w, odd, hw, hodd, hoi, hgood2⟩ := Values_spec hR n in1 (by omega) (by omega)
  rw [hv, Option.bind_some]
  dsimp only
  rw [hno, Option.bind_some]
  dsimp only
  rw [hw, Option.bind_some]
  dsimp only
  by_cases e5 : ieq bad 0 = true
  case neg => rw [if_neg e5]
  rw [if_pos e5]
  by_cases e6 : ieq odd 0 = true
  case neg => rw [if_neg e6]
  rw [if_pos e6]
  simp only [ieq_iff] at e5 e6
  obtain ⟨hn, ho⟩ := hno0 e5
  obtain ⟨hvals, gs, hgs⟩ := hgood e5
  obtain ⟨hwals, gs2, hgs2⟩ := hgood2 e6
  obtain ⟨hsl, hil⟩ := hbi.1 e5
  obtain ⟨hnl', hil'⟩ := hoi.1 e6
  have hV0 := hB.v0
  have hvl : (v.length : Int) = a.V + 1 := by rw [hvals.1]; omega
  have hwl : (w.length : Int) = a.V + 1 := by rw [hwals.1]; omega
  have hcon := hR.con.bd hR.vars
  have hcl := hS.con
  have hf0 := frame_len hB 0
  have hf1 := frame_len hB 1
  have hlk := lk_len a a.L.length
  have hLl := hB.l
  have hlink : a.link.length ≤ 40000 := by unfold Aig.link; omega
  rw [stays_loop o (by rw [ho]; simp; omega), Option.bind_some, enc_Stays_eq hB hR.gb hR.lb hcon (by omega) (by omega), Option.bind_some, enc_Safe_eq hB hR.gb hcon (by omega) (by omega) (by omega), Option.bind_some]
  rw [if_pos (by rw [capN_iff, lenN_eq]; omega), if_pos (by rw [capN_iff, lenN_eq]; simp; omega), ref08_Lit_eq (by omega), ref08_Lit_eq (by omega)]
  simp only [Option.bind_some, if_true]
  have hN : ieq (2 * (a.V + 1)) (lenI (v ++ w)) = true := by simp [lenI_eq]; omega
  rw [if_pos hN, if_pos hN]
  obtain ⟨b, hb, hbiff⟩ := Holds_spec { N := 2 * (a.V + 1), cs := a.frame 0 ++ a.frame 1 ++ a.link ++ ((a.con ++ [inv]).map fun x => [a.lt 0 x]) ++ [[a.lt 1 (flip inv)]] } (by simp; omega) (by
    intro c hc
    simp only [List.mem_append, List.mem_singleton, List.mem_map] at hc
    rcases hc with (((hc | hc) | hc) | hc) | hc
    · exact frame_rows a 0 c hc
    · exact frame_rows a 1 c hc
    · exact link_rows a c hc
    · obtain ⟨_, _, rfl⟩ := hc; simp
    · subst hc; simp) (v ++ w) (by simp; omega)
  obtain ⟨b2, hb2, hb2iff⟩ := Holds_spec { N := a.V + 1, cs := a.frame 0 ++ (a.con ++ [inv, inv]).map fun x => [a.lt 0 x] } (by simp; omega) (by
    intro c hc
    simp only [List.mem_append, List.mem_map] at hc
    rcases hc with hc | hc
    · exact frame_rows a 0 c hc
    · obtain ⟨_, _, rfl⟩ := hc; simp) v (by omega)
  rw [hb, hb2]
  simp only [Option.bind_some]
  have hlt : ∀ l : Int, 0 ≤ l → l ≤ 2 * a.V + 1 → l / 2 < v.length ∧ l / 2 < w.length := fun l h0 h1 => by omega
  have m0 : ModelOf (a.frame 0) (v ++ w) := (frame_model' hR hvl fun l h0 h1 => lt0_app h0 h1).2 hvals.2
  have m1 : ModelOf (a.frame 1) (v ++ w) := (frame_model' hR hwl fun l h0 h1 => lt1_true hB hvl h0 h1).2 hwals.2
  have m2 : ModelOf a.link (v ++ w) := (link_model hR hvl hwl).2 (by
    intro i y hy
    have hi := (List.getElem?_eq_some_iff.1 hy).1
    have hnn : n[i]? = some (vl v y.next) := by rw [hn, List.getElem?_map, hy]; rfl
    rw [hgs2, show false :: (in1 ++ n) ++ gs2 = (false :: in1) ++ n ++ gs2 by simp, List.getElem?_append_left (by simp; omega), List.getElem?_append_right (by simp; omega), ← hnn]
    congr 1
    simp
    omega)
  have m0' : ModelOf (a.frame 0) v := IsVals_model hR hvals
  have conb : ∀ x ∈ a.con ++ [inv], 0 ≤ x ∧ x ≤ 2 * a.V + 1 := fun x hx => by
    rw [List.mem_append, List.mem_singleton] at hx
    rcases hx with hx | hx
    · exact hR.con x hx
    · omega
  have m3 := ones_model (a := a) (u := v ++ w) (v := v) (l := a.con ++ [inv]) fun x hx => lt0_app (conb x hx).1 (hlt x (conb x hx).1 (conb x hx).2).1
  have m3' := ones_model (a := a) (u := v) (v := v) (l := a.con ++ [inv, inv]) fun x hx => by
    have hx' : 0 ≤ x ∧ x ≤ 2 * a.V + 1 := conb x (by simpa using hx)
    exact lt0_true hx'.1 (hlt x hx'.1 hx'.2).1
  have hfi := flip_half (l := inv) l0
  have m4 : ModelOf [[a.lt 1 (flip inv)]] (v ++ w) ↔ vl w inv = false := by
    unfold ModelOf
    simp only [List.mem_singleton, forall_eq, exists_eq_left]
    rw [lt1_true hB hvl hfi.1 (by omega), vl_flip l0 (by omega)]
    simp
  obtain ⟨all, hall⟩ : ∃ all, all = (o.2.2.all id) := ⟨_, rfl⟩
  have hall' : all = true ↔ ∀ x ∈ a.con, vl v x = true := by
    rw [hall, ho]
    simp [List.all_eq_true]
  rw [← hall]
  have k1 : b = true ↔ all = true ∧ vl v inv = true ∧ vl w inv = false := by
    rw [hbiff]
    show ModelOf (a.frame 0 ++ a.frame 1 ++ a.link ++ ((a.con ++ [inv]).map fun x => [a.lt 0 x]) ++ [[a.lt 1 (flip inv)]]) (v ++ w) ↔ _
    rw [ModelOf_append, ModelOf_append, ModelOf_append, ModelOf_append, m3, m4, hall']
    constructor
    · rintro ⟨⟨_, h⟩, h2⟩
      exact ⟨fun x hx => h x (List.mem_append_left _ hx), h inv (by simp), h2⟩
    · rintro ⟨h, h2, h3⟩
      refine ⟨⟨⟨⟨m0, m1⟩, m2⟩, fun x hx => ?_⟩, h3⟩
      rw [List.mem_append, List.mem_singleton] at hx
      rcases hx with hx | hx
      · exact h x hx
      · rw [hx]; exact h2
  have k2 : b2 = true ↔ all = true ∧ vl v inv = true := by
    rw [hb2iff]
    show ModelOf (a.frame 0 ++ (a.con ++ [inv, inv]).map fun x => [a.lt 0 x]) v ↔ _
    rw [ModelOf_append, m3', hall']
    constructor
    · rintro ⟨_, h⟩
      exact ⟨fun x hx => h x (List.mem_append_left _ hx), h inv (by simp)⟩
    · rintro ⟨h, h2⟩
      refine ⟨m0', fun x hx => ?_⟩
      rw [List.mem_append] at hx
      rcases hx with hx | hx
      · exact h x hx
      · have : x = inv := by simpa using hx
        rw [this]; exact h2
  have e7 : b = (all && (vl v inv && !vl w inv)) := by
    rw [Bool.eq_iff_iff, k1]
    simp
  have e8 : b2 = (all && vl v inv) := by
    rw [Bool.eq_iff_iff, k2]
    simp
  rw [e7, e8]
  cases all <;> cases vl v inv <;> cases vl w inv <;> simp [beq2, bnot]
end Go.Vid
