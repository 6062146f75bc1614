/- A library: every order of a region with appends comes to the same. No condition. -/
import Derived.Test.YtgamgcmjiancmaaDoorVSC
set_option linter.unusedSimpArgs false
set_option linter.unusedVariables false
namespace Go.Vabs
open Go.RowKit

def junkAt (s : St) (d : Nat) : Prop := ∀ t, s.tm[d]? = some t → t = .junk
theorem junkAt_opd [Globals] {s : St} {d : Nat} (h : junkAt s d) : opd s.tm (.tmp d) = .junk := by
  simp only [opd]
  cases ht : s.tm[d]? with
  | none => rfl
  | some t => simp [h t ht, T.noI]
theorem junkAt_map {s s' : St} {d : Nat} {f : T → T} (hf : f .junk = .junk) (hs : s'.tm = s.tm.map f) (h : junkAt s d) : junkAt s' d := by
  intro t ht
  rw [hs, List.getElem?_map, Option.map_eq_some_iff] at ht
  obtain ⟨t0, h0, rfl⟩ := ht
  rw [h t0 h0, hf]
theorem junkAt_evict {s : St} {d k : Nat} (h : junkAt s d) : junkAt (evict k s) d := by
  unfold evict
  split
  · exact h
  · split
    · exact junkAt_map (s := s) (f := T.frz k _) rfl rfl h
    · exact junkAt_map (s := s) (f := T.kill k) rfl rfl h
theorem junkAt_evicts {d : Nat} : ∀ {l : List Nat} {s : St}, junkAt s d → junkAt (evicts l s) d
  | [], _, h => h
  | k :: l, s, h => junkAt_evicts (l := l) (junkAt_evict h)
theorem junkAt_freezes {d : Nat} : ∀ {l : List Nat} {s : St}, junkAt s d → junkAt (freezes l s) d
  | [], _, h => h
  | k :: l, s, h => by
    refine junkAt_freezes (l := l) ?_
    unfold freeze
    split
    · exact h
    · split
      · exact junkAt_map (s := s) (f := T.frz k _) rfl rfl h
      · exact h
theorem junkAt_loose {s : St} {d : Nat} {c : Bool} {cs : Option (List C)} (h : junkAt s d) : junkAt (loose c cs s) d := by
  unfold loose
  split
  · split
    · exact junkAt_evicts h
    · exact h
  · exact h
theorem junkAt_set {s s' : St} {d d' : Nat} {t : T} (hne : d' ≠ d) (hs : s'.tm = s.tm.set d' t) (h : junkAt s d) : junkAt s' d := by
  intro t' ht
  rw [hs, List.getElem?_set_ne hne] at ht
  exact h t' ht

theorem evA2_junk [Globals] {ty : Tys} {d d' : Nat} {b x : Operand} {t u : TypeId} {s s1 : St} (hd : d' ≠ d) (hj : junkAt s d) (h : evA2 ty d' b x t u s = some s1) : junkAt s1 d := by
  unfold evA2 at h
  split at h
  · split at h
    · split at h
      · split at h
        · split at h
          · split at h
            · injection h with h; subst h
              exact junkAt_set hd rfl hj
            · cases h
          · cases h
        · split at h
          · split at h
            · injection h with h; subst h
              rename_i k off len _ _ _ _ _
              exact junkAt_set (s := ⟨s.tm.map (T.kill k), s.hp, s.fr⟩) hd rfl (junkAt_map (s := s) (f := T.kill k) rfl rfl hj)
            · cases h
          · cases h
        · cases h
      · cases h
    · cases h
  · cases h
theorem evZ_junk [Globals] {ty : Tys} {d d' : Nat} {b x : Operand} {t : TypeId} {s s1 : St} (hd : d' ≠ d) (hj : junkAt s d) (h : evZ ty d' b x t s = some s1) : junkAt s1 d := by
  unfold evZ at h
  split at h
  · split at h
    · split at h
      · split at h
        · split at h
          · split at h
            · injection h with h; subst h
              exact junkAt_set hd rfl hj
            · cases h
          · cases h
        · cases h
      · cases h
    · cases h
  · cases h
theorem putP_junk {s s1 : St} {dst : Option Nat} {r : T × Option Ob} {d : Nat} (hd : dst ≠ some d) (hj : junkAt s d) (h : putP s dst r = some s1) : junkAt s1 d := by
  unfold putP at h
  split at h
  · injection h with h; subst h
    exact junkAt_set (fun e => hd (by rw [e])) rfl hj
  · injection h with h; subst h; exact hj
  · split at h
    · injection h with h; subst h
      exact junkAt_set (fun e => hd (by rw [e])) rfl hj
    · cases h
  · cases h
theorem evOp_junk [Globals] {call : CallF} {ty : Tys} {o : Oper} {s s1 : St} {d : Nat} (hd : o.dst ≠ some d) (hj : junkAt s d) (h : evOp call ty o s = some s1) : junkAt s1 d := by
  unfold evOp at h
  split at h
  · split at h
    · unfold evS evS1 at h
      split at h
      · split at h
        · split at h
          · rw [Option.map_eq_some_iff] at h
            obtain ⟨o', _, rfl⟩ := h
            exact junkAt_loose hj
          · cases h
        · cases h
      · cases h
    · cases h
  · unfold evR0 at h
    split at h
    · rename_i q d' _ _ hd'
      injection h with h; subst h
      exact junkAt_set (fun e => hd (by rw [hd', e])) rfl hj
    · cases h
  · rename_i ho
    unfold evI at h
    split at h
    · clear ho
      rename_i k
      split at h
      · rename_i q pos d' hk hd'
        have hkd : k ≠ d := fun e => by subst e; have := hj _ hk; cases this
        split at h
        · injection h with h; subst h
          refine junkAt_set (s := ⟨(s.tm.map T.noI).set k (.itr q (pos + decW q pos)), s.hp, s.fr⟩) (fun e => hd (by rw [hd', e])) rfl ?_
          exact junkAt_set (s := ⟨s.tm.map T.noI, s.hp, s.fr⟩) hkd rfl (junkAt_map (s := s) (f := T.noI) rfl rfl hj)
        · injection h with h; subst h
          exact junkAt_set (fun e => hd (by rw [hd', e])) rfl hj
      · cases h
    · cases h
  · split at h
    · unfold evW at h
      split at h
      · split at h
        · rename_i hd'
          split at h
          · split at h
            · injection h with h; subst h
              exact junkAt_set (fun e => hd (by rw [hd', e])) rfl hj
            · cases h
          · cases h
        · cases h
      · rw [Option.bind_eq_some_iff] at h
        obtain ⟨r, _, h⟩ := h
        exact putP_junk hd hj h
    · rw [Option.bind_eq_some_iff] at h
      obtain ⟨r, _, h⟩ := h
      exact putP_junk hd hj h
  · rw [Option.bind_eq_some_iff] at h
    obtain ⟨r, _, h⟩ := h
    exact putP_junk hd (junkAt_freezes hj) h
  · split at h
    · split at h
      · cases h
      · split at h
        · rw [Option.bind_eq_some_iff] at h
          obtain ⟨r, _, h⟩ := h
          exact putP_junk hd hj h
        · split at h
          · cases h
          · split at h
            · cases h
            · unfold takeIn at h
              split at h
              · cases h
              · rename_i d' hd'
                split at h
                · injection h with h; subst h
                  exact junkAt_set (fun e => hd (by rw [hd', e])) rfl hj
                · cases h
    · unfold evA at h
      split at h
      · rename_i b x t u d' _ _ hd'
        simp only at h
        have hne : d' ≠ d := fun e => hd (by rw [hd', e])
        unfold evA1 at h
        split at h
        · refine evZ_junk hne (junkAt_loose ?_) h
          split
          · exact junkAt_evict hj
          · exact hj
        · refine evA2_junk hne (junkAt_loose ?_) h
          split
          · exact junkAt_evict hj
          · exact hj
      · cases h
    · rw [Option.bind_eq_some_iff] at h
      obtain ⟨r, _, h⟩ := h
      exact putP_junk hd hj h
  · rw [Option.bind_eq_some_iff] at h
    obtain ⟨r, _, h⟩ := h
    exact putP_junk hd hj h

theorem apArgs_classC {o : Oper} (h : classC o = true) : apArgs o = none := by
  unfold apArgs
  unfold classC at h
  split
  · rename_i c hop
    rw [hop] at h
    simp only at h
    split
    · rename_i hcal _ _ _
      rw [hcal] at h
      cases h
    · rfl
  · rfl
theorem chk_classC [Globals] {ty : Tys} {U : List Nat} {o : Oper} {s : St} (h : classC o = true) : chk ty U o s = true := by
  unfold chk
  rw [apArgs_classC h]

section
variable {P : Program} {ty : Tys} {call : CallF} {w0 : World} {B : Nat} {f0 : Nat → Prop} {ops : Array Oper} {U : List Nat}

theorem evOpsU_cons [Globals] {o : Oper} {l : List Oper} {s s' : St} : evOpsU call ty U (o :: l) s = some s' ↔ o.guard = none ∧ chk ty U o s = true ∧ ∃ s1, step call ty ops o s = some s1 ∧ evOpsU call ty U l s1 = some s' := by
  simp only [evOpsU]
  constructor
  · intro h
    split at h
    · rename_i hc
      simp only [Bool.and_eq_true, Option.isNone_iff_eq_none] at hc
      rw [Option.bind_eq_some_iff] at h
      obtain ⟨s1, h1, h2⟩ := h
      exact ⟨hc.1, hc.2, s1, by rw [step_none hc.1]; exact h1, h2⟩
    · cases h
  · rintro ⟨h1, h2, s1, h3, h4⟩
    rw [h1, h2]
    rw [step_none h1] at h3
    simp only [Option.isNone_none, Bool.and_self, if_true, h3, Option.bind_some, h4]
theorem evOpsU_evOps [Globals] : ∀ {l : List Oper} {s s' : St}, evOpsU call ty U l s = some s' → evOps call ty ops l s = some s'
  | [], s, s', h => h
  | o :: l, s, s', h => by
    obtain ⟨_, _, s1, h1, h2⟩ := (evOpsU_cons (ops := ops)).1 h
    rw [evOps_step, h1, Option.bind_some]
    exact evOpsU_evOps h2

/-- The names that are still to come hold nothing. -/
structure Todo (U : List Nat) (l : List Oper) (s : St) : Prop where
  junk : ∀ o ∈ l, ∀ d, o.dst = some d → d ∈ U → junkAt s d
  nodup : (l.filterMap (·.dst)).Nodup
theorem Todo.step [Globals] {o : Oper} {l : List Oper} {s s1 : St} (h : Todo U (o :: l) s) (hg : o.guard = none) (h1 : step call ty ops o s = some s1) : Todo U l s1 := by
  have hn := h.nodup
  refine ⟨fun o' ho' d hd hU => ?_, ?_⟩
  · rw [step_none hg] at h1
    refine evOp_junk (fun e => ?_) (h.junk o' (List.mem_cons_of_mem _ ho') d hd hU) h1
    rw [List.filterMap_cons, e] at hn
    simp only [List.nodup_cons] at hn
    exact hn.1 (List.mem_filterMap.2 ⟨o', ho', hd⟩)
  · rw [List.filterMap_cons] at hn
    split at hn
    · exact hn
    · exact (List.nodup_cons.1 hn).2
theorem Todo.perm {l l' : List Oper} {s : St} (h : Todo U l s) (hp : l.Perm l') : Todo U l' s :=
  ⟨fun o ho => h.junk o (hp.mem_iff.2 ho), (hp.filterMap _).nodup_iff.1 h.nodup⟩

def pairU (ops : Array Oper) (U : List Nat) (x y : Oper) : Bool := indep ops x y || indepU ops U x y || indepU ops U y x

theorem moveFrontU [Globals] (hty : ∀ t y, ty t = some y → Ty.of P t = some y) (hcall : call.ok P) (hB : B ≤ w0.heap.size) {i : Oper} {R : List Oper} {s' : St} : ∀ {A : List Oper} {s : St}, Good w0 B f0 s → Todo U (A ++ i :: R) s → (∀ x ∈ A, pairU ops U x i = true) →
    evOpsU call ty U (A ++ i :: R) s = some s' → evOpsU call ty U (i :: (A ++ R)) s = some s'
  | [], s, _, _, _, h => h
  | x :: A, s, hg, ht, hi, h => by
    rw [List.cons_append] at h ht
    obtain ⟨hgx, hcx, s1, h1, h2⟩ := (evOpsU_cons (ops := ops)).1 h
    have h3 := moveFrontU hty hcall hB (step_good hty hcall hB hg h1) (ht.step hgx h1) (fun y hy => hi y (List.mem_cons_of_mem _ hy)) h2
    obtain ⟨hgi, hci, s2, h4, h5⟩ := (evOpsU_cons (ops := ops)).1 h3
    have hp := hi x List.mem_cons_self
    simp only [pairU, Bool.or_eq_true] at hp
    have key : chk ty U i s = true ∧ ∃ s1', step call ty ops i s = some s1' ∧ chk ty U x s1' = true ∧ step call ty ops x s1' = some s2 := by
      rcases hp with (hp | hp) | hp
      · obtain ⟨s1', h6, h7⟩ := swap hg.closed hp h1 h4
        simp only [indep, Bool.and_eq_true] at hp
        exact ⟨chk_classC hp.1.1.1.1.2, s1', h6, chk_classC hp.1.1.1.1.1, h7⟩
      · obtain ⟨s1', h6, h7, h8⟩ := swapA hty hcall hB hg hp hcx h1 h4
        simp only [indepU, Bool.and_eq_true] at hp
        exact ⟨chk_classC hp.1.1.1.1.2, s1', h6, h7, h8⟩
      · obtain ⟨h6, s1', h7, h8⟩ := swapB hty hcall hB hg hp (fun d hd hU => junkAt_opd (ht.junk x List.mem_cons_self d hd hU)) h1 hci h4
        simp only [indepU, Bool.and_eq_true] at hp
        exact ⟨h6, s1', h7, chk_classC hp.1.1.1.1.2, h8⟩
    obtain ⟨k1, s1', k2, k3, k4⟩ := key
    refine (evOpsU_cons (ops := ops)).2 ⟨hgi, k1, s1', k2, ?_⟩
    rw [List.cons_append]
    exact (evOpsU_cons (ops := ops)).2 ⟨hgx, k3, s2, k4, h5⟩
end
end Go.Vabs
