/- The law LexAhead, plainly: it answers true. No condition. -/
import Derived.Test.YtgamgcmjiancmaaDoorP8
set_option linter.unusedSimpArgs false
set_option linter.unusedVariables false
set_option maxRecDepth 20000
namespace Go.Vid
open Go.Vabs
theorem tk_len {l : List Int} {x : Int} {k : Nat} (hb : IsB l) (h : tk l 0 0 = some (x, k)) : k ≤ l.length := by
  obtain ⟨y, j, h1, _, _, _, h5, _⟩ := tk_put l 0 0 x k hb h
  omega
theorem LexAhead_true (x : LexAheadIn_law01) (hx : x.Wf) : law01_LexAhead x = some true := by
  obtain ⟨A, b, a, most⟩ := x
  obtain ⟨wA, wb, wa, wm, -⟩ := hx
  simp only at wA wb wa wm
  have hA : IsB A := fun c hc => (wA.2 c hc).u8
  have hb : IsB b := fun c hc => (wb.2 c hc).u8
  unfold law01_LexAhead
  rw [shown_eq, Option.bind_some]
  simp only [lenI_eq, ilt_iff]
  by_cases h1 : (500 : Int) < A.length
  · rw [if_pos h1]
  rw [if_neg h1]
  by_cases h2 : (500 : Int) < b.length
  · rw [if_pos h2]
  rw [if_neg h2]
  by_cases h3 : a < 0
  · rw [if_pos h3]
  rw [if_neg h3]
  by_cases h4 : (b.length : Int) < a
  · rw [if_pos h4]
  have hAb := hA.append hb
  have hlen : (A ++ b).length = A.length + b.length := List.length_append
  have hp : 0 ≤ a ∧ a ≤ b.length := by omega
  have hp2 : 0 ≤ (A.length : Int) + a ∧ (A.length : Int) + a ≤ (A ++ b).length := by rw [hlen]; omega
  have hd : (A ++ b).drop ((A.length : Int) + a).toNat = b.drop a.toNat := by
    rw [List.drop_append, List.drop_eq_nil_of_le (by omega), List.nil_append]
    congr 1
    omega
  have hdl : (b.drop a.toNat).length = b.length - a.toNat := List.length_drop
  have hbd := hb.drop a.toNat
  obtain ⟨t1, t2, t3, g1, g2, g3⟩ : ∃ (t1 : Int) (t2 : Nat) (t3 : Int), lex_Take b a = some (t1, a + t2, t3) ∧ lex_Take (A ++ b) ((A.length : Int) + a) = some (t1, (A.length : Int) + a + t2, t3) ∧ t2 ≤ (b.drop a.toNat).length := by
    have k1 := Take_eq hb hp.1 hp.2 (by omega)
    have k2 := Take_eq hAb hp2.1 hp2.2 (by omega)
    rw [hd] at k2
    cases ht : tk (b.drop a.toNat) 0 0 with
    | none =>
      rw [ht] at k1 k2
      exact ⟨0, 0, 2, by rw [k1]; simp, by rw [k2]; simp, Nat.zero_le _⟩
    | some p =>
      obtain ⟨p1, p2⟩ := p
      rw [ht] at k1 k2
      exact ⟨_, _, _, k1, k2, tk_len hbd ht⟩
  rw [if_neg h4, if_pos (by rw [capN_iff, lenN_eq]; omega), if_pos (by rw [capN_iff, lenN_eq, hlen]; omega), iadd_ok (by omega) (by omega)]
  rw [Signed_eq hb (by omega) hp, Signed_eq hAb (by omega) hp2, Ones_eq hb (by omega) hp, Ones_eq hAb (by omega) hp2, Name_eq hb (by omega), Name_eq hAb (by omega), g1, g2, hd]
  unfold nameAt
  rw [if_pos hp, if_pos hp2, hd]
  have s1 := signL_le (b.drop a.toNat) most
  have s2 := onesL_le (b.drop a.toNat) most
  have s3 := nl_le (b.drop a.toNat)
  generalize signL (b.drop a.toNat) most = q at s1
  obtain ⟨q1, q2, q3⟩ := q
  generalize onesL (b.drop a.toNat) most = u at s2
  obtain ⟨u1, u2, u3⟩ := u
  simp only at s1 s2
  obtain ⟨n1, n2, n3, e1, e2, e3⟩ : ∃ (n1 : ByteArray) (n2 : Nat) (n3 : Int), (if nameB ((b.drop a.toNat).take (nl (b.drop a.toNat))) = true then (strOf ((b.drop a.toNat).take (nl (b.drop a.toNat))), a + nl (b.drop a.toNat), 0) else (⟨#[]⟩, a, 2)) = (n1, a + n2, n3) ∧ (if nameB ((b.drop a.toNat).take (nl (b.drop a.toNat))) = true then (strOf ((b.drop a.toNat).take (nl (b.drop a.toNat))), (A.length : Int) + a + nl (b.drop a.toNat), 0) else (⟨#[]⟩, (A.length : Int) + a, 2)) = (n1, (A.length : Int) + a + n2, n3) ∧ n2 ≤ (b.drop a.toNat).length := by
    split
    · exact ⟨_, _, _, rfl, rfl, s3⟩
    · exact ⟨⟨#[]⟩, 0, 2, by simp, by simp, Nat.zero_le _⟩
  rw [e1, e2]
  simp only [Option.bind_some]
  have f : ∀ k : Nat, k ≤ (b.drop a.toNat).length → iadd .i64 (a + k) (A.length : Int) = (A.length : Int) + a + k ∧ a ≤ a + k ∧ a + k ≤ b.length := by
    intro k hk
    rw [iadd_ok (by omega) (by omega)]
    omega
  obtain ⟨f1, f2, f3⟩ := f q2 s1
  obtain ⟨f4, f5, f6⟩ := f u2 s2
  obtain ⟨f7, f8, f9⟩ := f n2 e3
  obtain ⟨f10, f11, f12⟩ := f t2 g3
  rw [f1, f4, f7, f10]
  simp only [ieq_iff, seq_iff, ile_iff, reduceIte, f2, f3, f5, f6, f8, f9, f11]
  congr 1
  rw [ile_iff]
  exact f12
end Go.Vid
