/- The law EncSteps, plainly: it answers true. No condition. -/
import Derived.Test.YtdoapnmbopifjaaP5
set_option linter.unusedSimpArgs false
set_option linter.unusedVariables false
namespace Go.Vid
open Go.Vabs
theorem Values_spec' {a : Aig} (h : RightP a) (st inn : List Bool) : ∃ w bad, ref08_Values a st inn = some (w, bad) ∧ (bad = 0 ∨ bad = 7) ∧ (bad = 0 ↔ st.length = a.L.length ∧ (inn.length : Int) = a.I) ∧
    (bad = 0 → IsVals a w ∧ ∃ gs, w = false :: (inn ++ st) ++ gs) := by
  have hB := h.bd
  by_cases hs : st.length ≤ 100000
  · by_cases hi : inn.length ≤ 100000
    · exact Values_spec h st inn hs hi
    · obtain ⟨b1, b2, b3, b4⟩ := hB
      have e2 : ¬ ieq (lenI inn) a.I = true := by rw [ieq_iff, lenI_eq]; omega
      unfold ref08_Values
      by_cases e1 : ieq (lenI st) (lenI a.L) = true
      · rw [if_pos e1, if_neg e2]
        rw [ieq_iff, lenI_eq] at e2
        exact ⟨_, _, rfl, .inr rfl, by simp; omega, fun h => by simp at h⟩
      · rw [if_neg e1]
        rw [ieq_iff, lenI_eq] at e2
        exact ⟨_, _, rfl, .inr rfl, by simp; omega, fun h => by simp at h⟩
  · obtain ⟨b1, b2, b3, b4⟩ := hB
    have e1 : ¬ ieq (lenI st) (lenI a.L) = true := by rw [ieq_iff, lenI_eq, lenI_eq]; omega
    unfold ref08_Values
    rw [if_neg e1]
    exact ⟨_, _, rfl, .inr rfl, by simp; omega, fun h => by simp at h⟩
theorem EncSteps_true (x : EncStepsIn_law19) (hx : x.Wf) : law19_EncSteps x = some true := by
  obtain ⟨a, st, ⟨in0, in1⟩, other⟩ := x
  obtain ⟨ha, hst, hin, hoth, _⟩ := hx
  simp only at ha hst hin hoth
  unfold law19_EncSteps
  dsimp only
  rw [shown_eq, Option.bind_some]
  obtain ⟨b1, h1, p1⟩ := May_total a ha
  rw [h1, Option.bind_some]
  by_cases e1 : b1 = true
  case neg => rw [if_neg e1]
  rw [if_pos e1]
  obtain ⟨hS, hR⟩ := p1 e1
  have hB := hR.bd
  have i0 := hR.i0
  have hV : a.V = a.I + a.L.length + a.G.length := rfl
  have hvr := hR.vars
  rw [← hV] at hvr
  by_cases e2 : ilt 60 (lenI st) = true
  · rw [if_pos e2]
  rw [if_neg e2]
  by_cases e3 : ilt 60 (lenI other) = true
  · rw [if_pos e3]
  rw [if_neg e3, if_pos (by simp [inI])]
  simp only [ilt_iff, lenI_eq] at e2 e3
  obtain ⟨v, bad, hv, hbad, hbi, hgood⟩ := Values_spec' hR st in0
  have hstep := Step_eq hR hS hv
  obtain ⟨n, o, q, hno, hnl, hno0⟩ : ∃ n o q, ref08_Step a st in0 = some (n, o, q) ∧ n.length ≤ 1000 ∧ (bad = 0 → n = a.L.map (fun x => vl v x.next)) := by
    by_cases e : bad = 0
    · rw [if_pos e] at hstep
      exact ⟨_, _, _, hstep, by simp; have := hS.l; omega, fun _ => rfl⟩
    · rw [if_neg e] at hstep
      exact ⟨_, _, _, hstep, by simp, fun h => absurd h e⟩
  obtain ⟨w, odd, hw, hodd, hoi, hgood2⟩ := Values_spec' hR n in1
  obtain ⟨u, ill, hu, hill, hui, hgood3⟩ := Values_spec' hR other in1
  rw [hv, Option.bind_some]
  dsimp only
  rw [hno, Option.bind_some]
  dsimp only
  rw [if_pos (by simp [inI]), hw, Option.bind_some]
  dsimp only
  rw [hu, Option.bind_some]
  dsimp only
  by_cases e5 : ieq bad 0 = true
  case neg => rw [if_neg e5]
  rw [if_pos e5]
  by_cases e6 : ieq odd 0 = true
  case neg => rw [if_neg e6]
  rw [if_pos e6]
  by_cases e7 : ieq ill 0 = true
  case neg => rw [if_neg e7]
  rw [if_pos e7]
  simp only [ieq_iff] at e5 e6 e7
  have hn := hno0 e5
  obtain ⟨hvals, gs, hgs⟩ := hgood e5
  obtain ⟨hwals, gs2, hgs2⟩ := hgood2 e6
  obtain ⟨huals, gs3, hgs3⟩ := hgood3 e7
  obtain ⟨hsl, hil⟩ := hbi.1 e5
  obtain ⟨hnl', hil'⟩ := hoi.1 e6
  obtain ⟨hol, _⟩ := hui.1 e7
  have hV0 := hB.v0
  have hvl : (v.length : Int) = a.V + 1 := by rw [hvals.1]; omega
  have hwl : (w.length : Int) = a.V + 1 := by rw [hwals.1]; omega
  have hul : (u.length : Int) = a.V + 1 := by rw [huals.1]; omega
  have hf0 := frame_len hB 0
  have hf1 := frame_len hB 1
  have hlk := lk_len a a.L.length
  have hLl := hB.l
  have hlink : a.link.length ≤ 40000 := by unfold Aig.link; omega
  rw [enc_Frame_eq hB hR.gb (by omega), Option.bind_some, if_pos (by rw [capN_iff, lenN_eq]; omega), enc_Frame_eq hB hR.gb (by omega), Option.bind_some, if_pos (by rw [capN_iff, lenN_eq]; simp; omega), enc_Link_eq hB hR.lb, Option.bind_some, if_pos (by rw [capN_iff, lenN_eq]; simp; omega)]
  rw [if_pos (by rw [capN_iff, lenN_eq]; omega), if_pos (by rw [capN_iff, lenN_eq]; simp; omega), if_pos (by rw [capN_iff, lenN_eq]; simp; omega)]
  simp only [if_true]
  have hcs : ∀ c ∈ a.frame 0 ++ (a.frame 1 ++ a.link), c.length ≤ 1000000 := by
    intro c hc
    simp only [List.mem_append] at hc
    rcases hc with hc | hc | hc
    · exact frame_rows a 0 c hc
    · exact frame_rows a 1 c hc
    · exact link_rows a c hc
  obtain ⟨b, hb, hbiff⟩ := Holds_spec { N := imul IntKind.i64 2 (lenI v), cs := a.frame 0 ++ (a.frame 1 ++ a.link) } (by simp; omega) hcs (v ++ w) (by simp; omega)
  obtain ⟨b2, hb2, hb2iff⟩ := Holds_spec { N := imul IntKind.i64 2 (lenI v), cs := a.frame 0 ++ (a.frame 1 ++ a.link) } (by simp; omega) hcs (v ++ u) (by simp; omega)
  have hlt : ∀ l : Int, 0 ≤ l → l ≤ 2 * a.V + 1 → l / 2 < v.length ∧ l / 2 < w.length := fun l h0 h1 => by omega
  have m0 : ∀ z : List Bool, ModelOf (a.frame 0) (v ++ z) := fun z => (frame_model' hR hvl fun l h0 h1 => lt0_app h0 h1).2 hvals.2
  have m1 : ModelOf (a.frame 1) (v ++ w) := (frame_model' hR hwl fun l h0 h1 => lt1_true hB hvl h0 h1).2 hwals.2
  have m1' : ModelOf (a.frame 1) (v ++ u) := (frame_model' hR hul fun l h0 h1 => lt1_true hB hvl h0 h1).2 huals.2
  have at2 : ∀ (z s gs : List Bool), z = false :: (in1 ++ s) ++ gs → s.length = a.L.length → ∀ i : Nat, i < a.L.length → z[(a.I + 1 + i).toNat]? = s[i]? := by
    intro z s gs hz hs i hi
    rw [hz, show false :: (in1 ++ s) ++ gs = (false :: in1) ++ s ++ gs by simp, List.getElem?_append_left (by simp; omega), List.getElem?_append_right (by simp; omega)]
    congr 1
    simp
    omega
  have hnn : ∀ (i : Nat) (y : Latch), a.L[i]? = some y → n[i]? = some (vl v y.next) := fun i y hy => by rw [hn, List.getElem?_map, hy]; rfl
  have m2 : ModelOf a.link (v ++ w) := (link_model hR hvl hwl).2 (by
    intro i y hy
    rw [at2 w n gs2 hgs2 hnl' i (List.getElem?_eq_some_iff.1 hy).1, hnn i y hy])
  have m2' : ModelOf a.link (v ++ u) ↔ n = other := by
    rw [link_model hR hvl hul]
    constructor
    · intro h
      refine List.ext_getElem? fun i => ?_
      by_cases hi : i < a.L.length
      · have hy := List.getElem?_eq_getElem hi
        rw [hnn i _ hy, ← h i _ hy, at2 u other gs3 hgs3 hol i hi]
      · rw [List.getElem?_eq_none (by omega), List.getElem?_eq_none (by omega)]
    · rintro rfl i y hy
      rw [at2 u n gs3 hgs3 hol i (List.getElem?_eq_some_iff.1 hy).1, hnn i y hy]
  have k1 : b = true := by
    rw [hbiff]
    show ModelOf (a.frame 0 ++ (a.frame 1 ++ a.link)) (v ++ w)
    rw [ModelOf_append, ModelOf_append]
    exact ⟨m0 w, m1, m2⟩
  have k2 : b2 = true ↔ n = other := by
    rw [hb2iff]
    show ModelOf (a.frame 0 ++ (a.frame 1 ++ a.link)) (v ++ u) ↔ _
    rw [ModelOf_append, ModelOf_append, m2']
    exact ⟨fun h => h.2.2, fun h => ⟨m0 u, m1', h⟩⟩
  rw [hb, hb2]
  simp only [Option.bind_some]
  rw [if_pos k1, Flags_eq (by omega), Option.bind_some]
  have : b2 = decide (n = other) := by
    rw [Bool.eq_iff_iff, k2]
    simp
  rw [this]
  simp [beq2]
end Go.Vid
