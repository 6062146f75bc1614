/- Plain laws: the model's reading of a string's place, and the library's. No condition. -/
import Derived.Test.YtgamgcmjiancmaaDoorP3
set_option linter.unusedSimpArgs false
set_option linter.unusedVariables false
set_option maxRecDepth 20000
namespace Go.Vid
open Go.Vabs
theorem get_drop (s : ByteArray) (i k : Nat) : ((bytesOf s).drop i)[k]? = if i + k < s.size then some (((s.get! (i + k)).toNat : Nat) : Int) else none := by
  rw [List.getElem?_drop]
  split
  · rename_i h
    have hlt : i + k < (bytesOf s).length := by rw [← size_eq]; exact h
    unfold bytesOf
    rw [List.getElem?_map, List.getElem?_eq_getElem (show i + k < s.data.toList.length from h), Option.map_some, Array.getElem_toList]
    congr 3
    exact (getElem!_pos s.data (i + k) h).symm
  · rename_i h
    exact List.getElem?_eq_none (by rw [← size_eq]; omega)
/-- What the model reads: with fewer bytes at hand none stands for those that lack. -/
def mdl (p1 p2 p3 : Bool) (g0 g1 g2 g3 : Nat) : Nat × Nat :=
  if g0 < 0x80 then (g0, 1)
  else if g0 / 32 == 6 && (p1 && g1 / 64 == 2) then
    let c := (g0 % 32) * 64 + g1 % 64
    if c ≥ 0x80 then (c, 2) else (Utf8.runeError, 1)
  else if g0 / 16 == 14 && (p1 && g1 / 64 == 2) && (p2 && g2 / 64 == 2) then
    let c := (g0 % 16) * 4096 + (g1 % 64) * 64 + g2 % 64
    if c ≥ 0x800 && Utf8.valid c then (c, 3) else (Utf8.runeError, 1)
  else if g0 / 8 == 30 && (p1 && g1 / 64 == 2) && (p2 && g2 / 64 == 2) && (p3 && g3 / 64 == 2) then
    let c := (g0 % 8) * 262144 + (g1 % 64) * 4096 + (g2 % 64) * 64 + g3 % 64
    if c ≥ 0x10000 && Utf8.valid c then (c, 4) else (Utf8.runeError, 1)
  else (Utf8.runeError, 1)
theorem decode_mdl (s : ByteArray) (i : Nat) : Utf8.decode s i = mdl (decide (i + 1 < s.size)) (decide (i + 2 < s.size)) (decide (i + 3 < s.size)) (s.get! (i + 0)).toNat (s.get! (i + 1)).toNat (s.get! (i + 2)).toNat (s.get! (i + 3)).toNat := rfl
theorem beq_eq (a b : Nat) : (a == b) = decide (a = b) := by
  by_cases h : a = b <;> simp [h]
theorem valid_eq (c : Nat) : Utf8.valid (c : Int) = decide (c < 55296 ∨ (57344 ≤ c ∧ c ≤ 1114111)) := by
  unfold Utf8.valid
  rw [Bool.eq_iff_iff]
  simp
  omega
def Mdl (L : List Int) (p : Nat × Nat) : Prop := ∃ w r, wid L = w ∧ p = (r, if w = 0 then 1 else w) ∧ (w = 0 → r = 65533) ∧ (w = 1 → L[0]? = some (r : Int)) ∧ (2 ≤ w → 128 ≤ r)
theorem Mdl.bad {L : List Int} {p : Nat × Nat} (h : wid L = 0) (g : p = (65533, 1)) : Mdl L p := ⟨0, 65533, h, g, fun _ => rfl, fun h => absurd h (by decide), fun h => by omega⟩
theorem Mdl.good {L : List Int} {p : Nat × Nat} {w r : Nat} (hw : 2 ≤ w) (h : wid L = w) (g : p = (r, w)) (hr : 128 ≤ r) : Mdl L p := ⟨w, r, h, by rw [if_neg (by omega), g], fun h => by omega, fun h => by omega, fun _ => hr⟩
theorem mdl_eq (p1 p2 p3 : Bool) (g0 g1 g2 g3 : Nat) : mdl p1 p2 p3 g0 g1 g2 g3 =
    if g0 < 128 then (g0, 1)
    else if g0 / 32 = 6 ∧ p1 = true ∧ g1 / 64 = 2 then (if 128 ≤ g0 % 32 * 64 + g1 % 64 then (g0 % 32 * 64 + g1 % 64, 2) else (65533, 1))
    else if (g0 / 16 = 14 ∧ p1 = true ∧ g1 / 64 = 2) ∧ p2 = true ∧ g2 / 64 = 2 then (if 2048 ≤ g0 % 16 * 4096 + g1 % 64 * 64 + g2 % 64 ∧ (g0 % 16 * 4096 + g1 % 64 * 64 + g2 % 64 < 55296 ∨ 57344 ≤ g0 % 16 * 4096 + g1 % 64 * 64 + g2 % 64 ∧ g0 % 16 * 4096 + g1 % 64 * 64 + g2 % 64 ≤ 1114111) then (g0 % 16 * 4096 + g1 % 64 * 64 + g2 % 64, 3) else (65533, 1))
    else if ((g0 / 8 = 30 ∧ p1 = true ∧ g1 / 64 = 2) ∧ p2 = true ∧ g2 / 64 = 2) ∧ p3 = true ∧ g3 / 64 = 2 then (if 65536 ≤ g0 % 8 * 262144 + g1 % 64 * 4096 + g2 % 64 * 64 + g3 % 64 ∧ (g0 % 8 * 262144 + g1 % 64 * 4096 + g2 % 64 * 64 + g3 % 64 < 55296 ∨ 57344 ≤ g0 % 8 * 262144 + g1 % 64 * 4096 + g2 % 64 * 64 + g3 % 64 ∧ g0 % 8 * 262144 + g1 % 64 * 4096 + g2 % 64 * 64 + g3 % 64 ≤ 1114111) then (g0 % 8 * 262144 + g1 % 64 * 4096 + g2 % 64 * 64 + g3 % 64, 4) else (65533, 1))
    else (65533, 1) := by
  unfold mdl
  simp only [beq_eq, valid_eq, Utf8.runeError, ge_iff_le, Bool.and_eq_true, decide_eq_true_eq]
set_option maxHeartbeats 4000000 in
theorem mdl_spec {L : List Int} {p1 p2 p3 : Bool} {g0 g1 g2 g3 : Nat} (b0 : g0 < 256) (b1 : g1 < 256) (b2 : g2 < 256) (b3 : g3 < 256)
    (hL : ∃ t, L = (g0 : Int) :: (if p1 = true then (g1 : Int) :: (if p2 = true then (g2 : Int) :: (if p3 = true then (g3 : Int) :: t else []) else []) else [])) : Mdl L (mdl p1 p2 p3 g0 g1 g2 g3) := by
  obtain ⟨t, rfl⟩ := hL
  rw [mdl_eq]
  by_cases e1 : g0 < 128
  · exact ⟨1, g0, by rw [wid, if_pos (by omega)], by rw [if_pos e1]; rfl, fun h => absurd h (by decide), fun _ => rfl, fun h => by omega⟩
  by_cases e2 : g0 < 192
  · exact .bad (by rw [wid, if_neg (by omega), if_pos (by omega)]) (by rw [if_neg e1, if_neg (by omega), if_neg (by omega), if_neg (by omega)])
  by_cases e3 : g0 < 224
  · have hw : ∀ t, wid ((g0 : Int) :: t) = (match acc 1 ((g0 : Int) - 192) t with | some v => if 128 ≤ v then 2 else 0 | none => 0) := fun t => by rw [wid, if_neg (by omega), if_neg (by omega), if_pos (by omega)]; rfl
    by_cases h1 : p1 = true ∧ 128 ≤ g1 ∧ g1 ≤ 191
    · have hw2 : wid ((g0 : Int) :: (if p1 = true then (g1 : Int) :: (if p2 = true then (g2 : Int) :: (if p3 = true then (g3 : Int) :: t else []) else []) else [])) = if 128 ≤ ((g0 : Int) - 192) * 64 + g1 - 128 then 2 else 0 := by
        rw [hw, if_pos h1.1, acc, if_pos (by omega)]; rfl
      by_cases h3 : 128 ≤ g0 % 32 * 64 + g1 % 64
      · exact .good (w := 2) (by omega) (by rw [hw2, if_pos (by omega)]) (by rw [if_neg e1, if_pos ⟨by omega, h1.1, by omega⟩, if_pos h3]) h3
      · exact .bad (by rw [hw2, if_neg (by omega)]) (by rw [if_neg e1, if_pos ⟨by omega, h1.1, by omega⟩, if_neg h3])
    · refine .bad ?_ (by rw [if_neg e1, if_neg (fun h => h1 ⟨h.2.1, by omega⟩), if_neg (by omega), if_neg (by omega)])
      rw [hw]
      by_cases h2 : p1 = true
      · rw [if_pos h2, acc, if_neg (fun h => h1 ⟨h2, by omega⟩)]
      · rw [if_neg h2, acc]
  by_cases e4 : g0 < 240
  · have hw : ∀ t, wid ((g0 : Int) :: t) = (match acc 2 ((g0 : Int) - 224) t with | some v => if 2048 ≤ v ∧ (v < 55296 ∨ 57344 ≤ v) then 3 else 0 | none => 0) := fun t => by rw [wid, if_neg (by omega), if_neg (by omega), if_neg (by omega), if_pos (by omega)]; rfl
    by_cases h1 : (p1 = true ∧ 128 ≤ g1 ∧ g1 ≤ 191) ∧ (p2 = true ∧ 128 ≤ g2 ∧ g2 ≤ 191)
    · have hw2 : wid ((g0 : Int) :: (if p1 = true then (g1 : Int) :: (if p2 = true then (g2 : Int) :: (if p3 = true then (g3 : Int) :: t else []) else []) else [])) = if 2048 ≤ (((g0 : Int) - 224) * 64 + g1 - 128) * 64 + g2 - 128 ∧ ((((g0 : Int) - 224) * 64 + g1 - 128) * 64 + g2 - 128 < 55296 ∨ 57344 ≤ (((g0 : Int) - 224) * 64 + g1 - 128) * 64 + g2 - 128) then 3 else 0 := by
        rw [hw, if_pos h1.1.1, acc, if_pos (by omega), if_pos h1.2.1, acc, if_pos (by omega)]; rfl
      have hc : (g0 / 16 = 14 ∧ p1 = true ∧ g1 / 64 = 2) ∧ p2 = true ∧ g2 / 64 = 2 := ⟨⟨by omega, h1.1.1, by omega⟩, h1.2.1, by omega⟩
      by_cases h3 : 2048 ≤ g0 % 16 * 4096 + g1 % 64 * 64 + g2 % 64 ∧ (g0 % 16 * 4096 + g1 % 64 * 64 + g2 % 64 < 55296 ∨ 57344 ≤ g0 % 16 * 4096 + g1 % 64 * 64 + g2 % 64 ∧ g0 % 16 * 4096 + g1 % 64 * 64 + g2 % 64 ≤ 1114111)
      · exact .good (w := 3) (by omega) (by rw [hw2, if_pos (by omega)]) (by rw [if_neg e1, if_neg (by omega), if_pos hc, if_pos h3]) (by omega)
      · exact .bad (by rw [hw2, if_neg (by omega)]) (by rw [if_neg e1, if_neg (by omega), if_pos hc, if_neg h3])
    · refine .bad ?_ (by rw [if_neg e1, if_neg (by omega), if_neg (fun h => h1 ⟨⟨h.1.2.1, by omega⟩, h.2.1, by omega⟩), if_neg (by omega)])
      rw [hw]
      by_cases h2 : p1 = true
      · rw [if_pos h2, acc]
        by_cases h4 : 128 ≤ g1 ∧ g1 ≤ 191
        · rw [if_pos (by omega)]
          by_cases h5 : p2 = true
          · rw [if_pos h5, acc, if_neg (fun h => h1 ⟨⟨h2, h4⟩, h5, by omega⟩)]
          · rw [if_neg h5, acc]
        · rw [if_neg (by omega)]
      · rw [if_neg h2, acc]
  by_cases e5 : g0 < 248
  · have hw : ∀ t, wid ((g0 : Int) :: t) = (match acc 3 ((g0 : Int) - 240) t with | some v => if 65536 ≤ v ∧ v ≤ 1114111 then 4 else 0 | none => 0) := fun t => by rw [wid, if_neg (by omega), if_neg (by omega), if_neg (by omega), if_neg (by omega), if_pos (by omega)]; rfl
    by_cases h1 : ((p1 = true ∧ 128 ≤ g1 ∧ g1 ≤ 191) ∧ (p2 = true ∧ 128 ≤ g2 ∧ g2 ≤ 191)) ∧ (p3 = true ∧ 128 ≤ g3 ∧ g3 ≤ 191)
    · have hw2 : wid ((g0 : Int) :: (if p1 = true then (g1 : Int) :: (if p2 = true then (g2 : Int) :: (if p3 = true then (g3 : Int) :: t else []) else []) else [])) = if 65536 ≤ ((((g0 : Int) - 240) * 64 + g1 - 128) * 64 + g2 - 128) * 64 + g3 - 128 ∧ ((((g0 : Int) - 240) * 64 + g1 - 128) * 64 + g2 - 128) * 64 + g3 - 128 ≤ 1114111 then 4 else 0 := by
        rw [hw, if_pos h1.1.1.1, acc, if_pos (by omega), if_pos h1.1.2.1, acc, if_pos (by omega), if_pos h1.2.1, acc, if_pos (by omega)]; rfl
      have hc : ((g0 / 8 = 30 ∧ p1 = true ∧ g1 / 64 = 2) ∧ p2 = true ∧ g2 / 64 = 2) ∧ p3 = true ∧ g3 / 64 = 2 := ⟨⟨⟨by omega, h1.1.1.1, by omega⟩, h1.1.2.1, by omega⟩, h1.2.1, by omega⟩
      by_cases h3 : 65536 ≤ g0 % 8 * 262144 + g1 % 64 * 4096 + g2 % 64 * 64 + g3 % 64 ∧ (g0 % 8 * 262144 + g1 % 64 * 4096 + g2 % 64 * 64 + g3 % 64 < 55296 ∨ 57344 ≤ g0 % 8 * 262144 + g1 % 64 * 4096 + g2 % 64 * 64 + g3 % 64 ∧ g0 % 8 * 262144 + g1 % 64 * 4096 + g2 % 64 * 64 + g3 % 64 ≤ 1114111)
      · exact .good (w := 4) (by omega) (by rw [hw2, if_pos (by omega)]) (by rw [if_neg e1, if_neg (by omega), if_neg (by omega), if_pos hc, if_pos h3]) (by omega)
      · exact .bad (by rw [hw2, if_neg (by omega)]) (by rw [if_neg e1, if_neg (by omega), if_neg (by omega), if_pos hc, if_neg h3])
    · refine .bad ?_ (by rw [if_neg e1, if_neg (by omega), if_neg (by omega), if_neg (fun h => h1 ⟨⟨⟨h.1.1.2.1, by omega⟩, h.1.2.1, by omega⟩, h.2.1, by omega⟩)])
      rw [hw]
      by_cases h2 : p1 = true
      · rw [if_pos h2, acc]
        by_cases h4 : 128 ≤ g1 ∧ g1 ≤ 191
        · rw [if_pos (by omega)]
          by_cases h5 : p2 = true
          · rw [if_pos h5, acc]
            by_cases h6 : 128 ≤ g2 ∧ g2 ≤ 191
            · rw [if_pos (by omega)]
              by_cases h7 : p3 = true
              · rw [if_pos h7, acc, if_neg (fun h => h1 ⟨⟨⟨h2, h4⟩, h5, h6⟩, h7, by omega⟩)]
              · rw [if_neg h7, acc]
            · rw [if_neg (by omega)]
          · rw [if_neg h5, acc]
        · rw [if_neg (by omega)]
      · rw [if_neg h2, acc]
  · exact .bad (by rw [wid, if_neg (by omega), if_neg (by omega), if_neg (by omega), if_neg (by omega), if_neg (by omega)]) (by rw [if_neg e1, if_neg (by omega), if_neg (by omega), if_neg (by omega)])
theorem drop_form {L : List Int} {p : Bool} {g : Nat} {k : Nat} (h : L[k]? = if p = true then some (g : Int) else none) : ∃ t, L.drop k = if p = true then (g : Int) :: t else [] := by
  cases p
  · refine ⟨[], ?_⟩
    rw [if_neg (by decide)] at h ⊢
    exact List.drop_eq_nil_of_le (by have := List.getElem?_eq_none_iff.1 h; omega)
  · rw [if_pos rfl] at h
    obtain ⟨hlt, he⟩ := List.getElem?_eq_some_iff.1 h
    exact ⟨L.drop (k + 1), by rw [if_pos rfl, ← he]; exact List.drop_eq_getElem_cons hlt⟩
/-- The model's reading. -/
theorem decode_spec {s : ByteArray} {i : Nat} (hi : i < s.size) : Mdl ((bytesOf s).drop i) (Utf8.decode s i) := by
  rw [decode_mdl]
  have bd : ∀ k, (s.get! k).toNat < 256 := fun k => UInt8.toNat_lt _
  refine mdl_spec (bd _) (bd _) (bd _) (bd _) ?_
  have G : ∀ k, ((bytesOf s).drop i)[k]? = if decide (i + k < s.size) = true then some (((s.get! (i + k)).toNat : Nat) : Int) else none := fun k => by rw [get_drop]; simp
  obtain ⟨t3, h3⟩ := drop_form (G 3)
  obtain ⟨t2, h2⟩ := drop_form (G 2)
  obtain ⟨t1, h1⟩ := drop_form (G 1)
  obtain ⟨t0, h0⟩ := drop_form (G 0)
  rw [if_pos (by simpa using hi), List.drop_zero] at h0
  have k1 : ((bytesOf s).drop i).drop 1 = t0 := by rw [h0]; rfl
  refine ⟨t3, ?_⟩
  rw [h0]
  congr 1
  rw [← k1, h1]
  by_cases q1 : decide (i + 1 < s.size) = true
  · rw [if_pos q1] at h1 ⊢
    rw [if_pos q1]
    congr 1
    have k2 : ((bytesOf s).drop i).drop 2 = t1 := by rw [show 2 = 1 + 1 from rfl, ← List.drop_drop, h1]; rfl
    rw [← k2, h2]
    by_cases q2 : decide (i + 2 < s.size) = true
    · rw [if_pos q2] at h2 ⊢
      rw [if_pos q2]
      congr 1
      have k3 : ((bytesOf s).drop i).drop 3 = t2 := by rw [show 3 = 2 + 1 from rfl, ← List.drop_drop, h2]; rfl
      rw [← k3, h3]
    · rw [if_neg q2, if_neg q2]
  · rw [if_neg q1, if_neg q1]
end Go.Vid
