/- A library: an append, told apart from the state. No condition. -/
import Derived.Test.YtgamgcmjiancmaaDoorVSA
set_option linter.unusedSimpArgs false
set_option linter.unusedVariables false
namespace Go.Vabs
open Go.RowKit

def effA (ty : Tys) (t u : TypeId) (bT xT : T) (hp : Heap) (fr : List Nat) : Option (Nat × T × Ob) :=
  match Vabs.elemOf ty t, (ty u).map Ty.k, srcOf hp xT with
  | some (e, sz), some uk, some new => match ty e with
    | some y =>
      if uk.isInt = false ∧ (srcSz hp xT).getD sz = sz ∧ (freeSrc hp xT = true ∨ new.all (fun e => e.all C.free) = true) ∧ y.zero.map List.length = some sz ∧ 0 < y.bytes then
        match bT with
        | .c (.ref h off len) =>
          match hget hp h with
          | some o =>
            if o.box = false ∧ o.elem = e ∧ o.sz = sz ∧ o.free = true ∧ fr.contains h = false ∧ off + len ≤ o.es.length ∧ (len + new.length) * y.bytes ≤ 140737488355328 then
              some (h, .c (.ref h 0 (len + new.length)), ⟨false, true, e, sz, (o.es.drop off).take len ++ new⟩)
            else none
          | none => none
        | _ => none
      else none
    | none => none
  | _, _, _ => none
def appA (s : St) (d : Nat) (r : Nat × T × Ob) : St := { tm := (s.tm.map (T.kill r.1)).set d r.2.1, hp := hput (s.hp.map fun p => (p.1, p.2.killF r.1)) r.1 r.2.2, fr := s.fr }

section
variable {call : CallF} {ty : Tys} {ops : Array Oper} {U : List Nat} {o : Oper} {s : St} {d : Nat} {b x : Operand} {t u : TypeId}

theorem evA_strict [Globals] (ho : apArgs o = some (d, b, x, t, u)) (hc : chkA ty U b x u s = true) : evOp call ty o s = (effA ty t u (opd s.tm b) (opd s.tm x) s.hp s.fr).map (appA s d) := by
  unfold apArgs at ho
  split at ho
  · rename_i c hop
    split at ho
    · rename_i b x t u d hcal hargs htys hd
      simp only [Option.some.injEq, Prod.mk.injEq] at ho
      obtain ⟨e1, e2, e3, e4, e5⟩ := ho
      subst e1 e2 e3 e4 e5
      unfold chkA at hc
      split at hc
      · rename_i h off len hb
        simp only [Bool.and_eq_true] at hc
        obtain ⟨⟨_, hfs⟩, hni⟩ := hc
        unfold evOp
        rw [hop]
        simp only
        rw [hcal]
        simp only
        unfold evA
        rw [hargs, htys, hd]
        simp only [hb, nilLit, Bool.false_eq_true, if_false, hfs, Bool.not_true, loose]
        unfold evA1
        split
        · rename_i hk
          simp [notInt, hk] at hni
        · unfold evA2 effA
          rw [hb]
          cases e1 : elemOf ty t with
          | none => rfl
          | some p =>
            obtain ⟨e, sz⟩ := p
            cases e2 : (ty u).map Ty.k with
            | none => rfl
            | some uk =>
              cases e3 : srcOf s.hp (opd s.tm x) with
              | none => rfl
              | some new =>
                simp only
                cases e4 : ty e with
                | none => rfl
                | some y =>
                  simp only
                  split
                  · cases e5 : hget s.hp h with
                    | none => rfl
                    | some o =>
                      simp only
                      split <;> rfl
                  · rfl
      · cases hc
    · cases ho
  · cases ho

theorem srcOf_congr {hp hp' : Heap} {xT : T} (h : ∀ k ∈ xT.hds1, hget hp' k = hget hp k) : srcOf hp' xT = srcOf hp xT ∧ srcSz hp' xT = srcSz hp xT ∧ freeSrc hp' xT = freeSrc hp xT := by
  cases xT with
  | c c =>
    cases c with
    | ref k off len =>
      have := h k (by simp [T.hds1, C.hds])
      simp only [srcOf, srcSz, freeSrc, this, and_self]
    | lit v => cases v <;> first | exact ⟨rfl, rfl, rfl⟩ | (refine ⟨?_, ?_, rfl⟩ <;> (first | (unfold srcOf; split <;> first | rfl | (rename_i h; cases h; rfl) | simp_all) | (unfold srcSz; split <;> first | rfl | (rename_i h; cases h; rfl) | simp_all)))
    | _ => exact ⟨rfl, rfl, rfl⟩
  | _ => exact ⟨rfl, rfl, rfl⟩
theorem effA_congr {hp hp' : Heap} {fr fr' : List Nat} {bT xT : T} (h1 : ∀ k ∈ xT.hds1, hget hp' k = hget hp k) (h2 : ∀ k ∈ bT.hds1, hget hp' k = hget hp k ∧ fr'.contains k = fr.contains k) : effA ty t u bT xT hp' fr' = effA ty t u bT xT hp fr := by
  obtain ⟨e1, e2, e3⟩ := srcOf_congr h1
  unfold effA
  rw [e1, e2, e3]
  split
  · split
    · split
      · split
        · rename_i h off len
          obtain ⟨e4, e5⟩ := h2 h (by simp [T.hds1, C.hds])
          rw [e4, e5]
        · rfl
      · rfl
    · rfl
  · rfl
/-- What stands at the base's block. -/
theorem effA_base {hp : Heap} {fr : List Nat} {bT xT : T} {r : Nat × T × Ob} (h : effA ty t u bT xT hp fr = some r) : ∃ off len o0, bT = .c (.ref r.1 off len) ∧ hget hp r.1 = some o0 ∧ o0.free = true ∧ o0.box = false ∧ r.1 ∉ fr ∧ (∃ n, r.2.1 = .c (.ref r.1 0 n)) := by
  unfold effA at h
  split at h
  · rename_i e sz uk new e1 e2 e3
    split at h
    · rename_i y e4
      split at h
      · rename_i hcnd
        split at h
        · rename_i hd off len
          split at h
          · rename_i o0 e5
            split at h
            · rename_i hc2
              injection h with h
              subst h
              obtain ⟨c1, c2, c3, c4, c5, c6, c7⟩ := hc2
              refine ⟨off, len, o0, rfl, e5, c4, c1, by simpa using c5, ⟨_, rfl⟩⟩
            · cases h
          · cases h
        · cases h
      · cases h
    · cases h
  · cases h
end
end Go.Vabs
