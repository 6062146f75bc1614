/- A library: every order of a region comes to the same. No condition. -/
import Derived.Test.YtdoapnmbopifjaaVR
set_option linter.unusedSimpArgs false
set_option linter.unusedVariables false
namespace Go.Vabs
open Go.RowKit

def readsOf (ops : Array Oper) (o : Oper) : List Nat :=
  (o.op.operands.toList.filterMap fun x => match x with | .tmp t => some t | _ => none) ++ (match o.guard with | some (j, _) => (((ops[j]?).bind (·.dst)).toList) | none => [])
def dstOk (o : Oper) : Bool := match o.dst with
  | some d => decide (d < 10000)
  | none => true
def awayFrom (ops : Array Oper) (x y : Oper) : Bool := match x.dst with
  | some d => !(readsOf ops y).contains d && !(y.dst == some d)
  | none => true
def indep (ops : Array Oper) (x y : Oper) : Bool := classC x && classC y && dstOk x && dstOk y && awayFrom ops x y && awayFrom ops y x

theorem fput_comm (l : List Nat) (a b : Nat) : fput (fput l a) b = fput (fput l b) a := by
  by_cases hab : a = b
  · rw [hab]
  induction l with
  | nil =>
    simp only [fput]
    rcases Nat.lt_or_gt_of_ne hab with h | h
    · simp [hab, Ne.symm hab, h, Nat.lt_asymm h]
    · simp [hab, Ne.symm hab, h, Nat.lt_asymm h]
  | cons c l ih =>
    simp only [fput]
    by_cases e1 : a = c
    · subst e1
      simp only [if_true, fput, if_neg (Ne.symm hab)]
      by_cases l2 : b < a
      · simp [l2, fput, hab, Nat.lt_asymm l2]
      · simp [l2, fput]
    · by_cases e2 : b = c
      · subst e2
        simp only [if_neg e1, if_true, fput]
        by_cases l1 : a < b
        · simp [l1, fput, Ne.symm hab, Nat.lt_asymm l1]
        · simp [l1, fput, e1]
      · simp only [if_neg e1, if_neg e2]
        by_cases l1 : a < c <;> by_cases l2 : b < c
        · simp only [if_pos l1, if_pos l2, fput, if_neg hab, if_neg (Ne.symm hab)]
          rcases Nat.lt_or_gt_of_ne hab with h | h
          · simp [h, Nat.lt_asymm h, l1, l2, e1, e2]
          · simp [h, Nat.lt_asymm h, l1, l2, e1, e2]
        · have h3 : a < b := by omega
          simp [l1, l2, fput, hab, Ne.symm hab, h3, Nat.lt_asymm h3, e1, e2]
        · have h3 : b < a := by omega
          simp [l1, l2, fput, hab, Ne.symm hab, h3, Nat.lt_asymm h3, e1, e2]
        · simp [l1, l2, fput, e1, e2, ih]
theorem fputs_fput (X : List Nat) : ∀ (l : List Nat) (a : Nat), fputs (fput l a) X = fput (fputs l X) a := by
  induction X with
  | nil => intro l a; rfl
  | cons x X ih => intro l a; simp only [fputs]; rw [fput_comm, ih]
theorem fputs_comm (X Y : List Nat) (l : List Nat) : fputs (fputs l X) Y = fputs (fputs l Y) X := by
  induction Y generalizing l with
  | nil => rfl
  | cons y Y ih => simp only [fputs]; rw [← fputs_fput, ih]

theorem puts_get : ∀ (l : List (Nat × Ob)) (hp : Heap) (k : Nat), (∀ p ∈ l, p.1 ≠ k) → hget (puts hp l) k = hget hp k
  | [], _, _, _ => rfl
  | (k', o) :: l, hp, k, h => by
    simp only [puts]
    rw [puts_get l _ k (fun p hp' => h p (List.mem_cons_of_mem _ hp'))]
    exact hget_hput_ne _ _ _ _ (Ne.symm (h (k', o) List.mem_cons_self))
theorem freshAll_congr : ∀ (l : List (Nat × Ob)) (hp hp' : Heap), (∀ p ∈ l, hget hp' p.1 = hget hp p.1) → freshAll hp' l = freshAll hp l
  | [], _, _, _ => rfl
  | (k, o) :: l, hp, hp', h => by
    simp only [freshAll]
    rw [h (k, o) List.mem_cons_self, freshAll_congr l (hput hp k o) (hput hp' k o) (fun p hp'' => by
      by_cases e : p.1 = k
      · rw [e, hget_hput, hget_hput]
      · rw [hget_hput_ne _ _ _ _ e, hget_hput_ne _ _ _ _ e]; exact h p (List.mem_cons_of_mem _ hp''))]
theorem puts_hput : ∀ (X : List (Nat × Ob)) (hp : Heap) (k : Nat) (o : Ob), (∀ p ∈ X, p.1 ≠ k) → puts (hput hp k o) X = hput (puts hp X) k o
  | [], _, _, _, _ => rfl
  | (k', o') :: X, hp, k, o, h => by
    simp only [puts]
    rw [hput_comm _ _ _ _ _ (Ne.symm (h (k', o') List.mem_cons_self)), puts_hput X _ k o (fun p hp' => h p (List.mem_cons_of_mem _ hp'))]
theorem puts_comm (X : List (Nat × Ob)) : ∀ (Y : List (Nat × Ob)) (hp : Heap), (∀ p ∈ X, ∀ q ∈ Y, p.1 ≠ q.1) → puts (puts hp X) Y = puts (puts hp Y) X
  | [], _, _ => rfl
  | (k, o) :: Y, hp, h => by
    simp only [puts]
    rw [← puts_hput X hp k o (fun p hp' => h p hp' (k, o) List.mem_cons_self), puts_comm X Y _ (fun p hp' q hq => h p hp' q (List.mem_cons_of_mem _ hq))]
theorem puts_ext : ∀ (l : List (Nat × Ob)) (hp : Heap), freshAll hp l = true → Ext hp (puts hp l)
  | [], _, _ => fun _ _ h => h
  | (k, o) :: l, hp, h => by
    simp only [freshAll, Bool.and_eq_true, Option.isNone_iff_eq_none] at h
    intro k' o' hk'
    refine puts_ext l (hput hp k o) h.2 k' o' ?_
    rw [hget_hput_ne _ _ _ _ (fun e => by rw [e, h.1] at hk'; cases hk')]
    exact hk'

section
variable {call : CallF} {ty : Tys} {ops : Array Oper} {o x y : Oper} {tm tm' : List T} {hp hp' : Heap}

theorem opd_congr (h : ∀ t ∈ readsOf ops o, tm'[t]? = tm[t]?) : ∀ x ∈ o.op.operands.toList, opd tm' x = opd tm x := by
  intro x hx
  cases x with
  | tmp t =>
    simp only [opd]
    rw [h t (List.mem_append_left _ (List.mem_filterMap.2 ⟨.tmp t, hx, rfl⟩))]
  | _ => rfl
theorem guardOf_congr (h : ∀ t ∈ readsOf ops o, tm'[t]? = tm[t]?) : guardOf ops tm' o = guardOf ops tm o := by
  unfold guardOf
  cases hg : o.guard with
  | none => rfl
  | some p =>
    obtain ⟨j, want⟩ := p
    simp only
    cases hd : (ops[j]?).bind (·.dst) with
    | none => rfl
    | some d =>
      simp only
      rw [h d (List.mem_append_right _ (by rw [hg]; simp [hd]))]
theorem hsC_dom (hc : Closed tm hp) : ∀ (n : Nat) (c : C), (∀ k ∈ c.hds, ∃ o, hget hp k = some o) → ∀ k ∈ hsC hp n c, ∃ o, hget hp k = some o
  | 0, c, h, k, hk => by
    cases c with
    | ref h' off len => simp only [hsC, List.mem_singleton] at hk; subst hk; exact h k (by simp [C.hds])
    | _ => simp [hsC] at hk
  | n + 1, c, h, k, hk => by
    cases c with
    | ref h' off len =>
      obtain ⟨o, ho⟩ := h h' (by simp [C.hds])
      simp only [hsC, ho, List.mem_cons] at hk
      rcases hk with rfl | hk
      · exact ⟨o, ho⟩
      · split at hk
        · simp at hk
        · obtain ⟨e, he, hk⟩ := List.mem_flatMap.1 hk
          obtain ⟨c', hc', hk⟩ := List.mem_flatMap.1 hk
          exact hsC_dom hc n c' (hc.hp h' o ho e he c' hc') k hk
    | _ => simp [hsC] at hk
theorem hsT_dom (hc : Closed tm hp) (t : T) (h : ∀ k ∈ t.hds1, ∃ o, hget hp k = some o) : ∀ k ∈ hsT hp t, ∃ o, hget hp k = some o := by
  intro k hk
  cases t with
  | c x => exact hsC_dom hc 3 x h k hk
  | agg cs =>
    obtain ⟨c, hcc, hk⟩ := List.mem_flatMap.1 hk
    exact hsC_dom hc 3 c (fun k' hk' => h k' (List.mem_flatMap.2 ⟨c, hcc, hk'⟩)) k hk
  | _ => simp [hsT] at hk
theorem tOf_hds (v : Value) : (tOf v).hds1 = [] := by
  cases v with
  | agg cs =>
    simp only [tOf]
    split
    · simp only [T.hds1]
      induction cs.toList with
      | nil => rfl
      | cons a l ih => simp [C.hds, ih]
    · rfl
  | _ => rfl
theorem opd_dom (hc : Closed tm hp) (x : Operand) : ∀ k ∈ (opd tm x).hds1, ∃ o, hget hp k = some o := by
  intro k hk
  cases x with
  | tmp t =>
    simp only [opd] at hk
    cases ht : tm[t]? with
    | none => rw [ht] at hk; simp [T.hds1] at hk
    | some y => rw [ht] at hk; exact hc.tm y (List.mem_of_getElem? ht) k hk
  | const v => simp only [opd, tOf_hds] at hk; simp at hk
  | global _ => simp [opd, T.hds1] at hk
  | func _ => simp [opd, T.hds1] at hk
theorem callArgs_sub (o : Oper) : ∀ x ∈ callArgs o, x ∈ o.op.operands.toList := by
  intro x hx
  unfold callArgs at hx
  split at hx
  · rename_i c ho
    rw [ho]
    simp only [Op.operands, Call.operands, Array.toList_append]
    exact List.mem_append_right _ hx
  · simp at hx

theorem eff_congr (hc : Closed tm hp) (hx : Ext hp hp') (h : ∀ t ∈ readsOf ops o, tm'[t]? = tm[t]?) : eff call ty ops o tm' hp' = eff call ty ops o tm hp := by
  have h1 := opd_congr h
  unfold eff
  rw [guardOf_congr h]
  have hsame : ∀ x ∈ o.op.operands.toList, ∀ k ∈ (opd tm x).hds1, hget hp' k = hget hp k := fun x hxx k hk => by
    obtain ⟨ob, hob⟩ := opd_dom hc x k hk
    rw [hob, hx k ob hob]
  rw [evP_congr h1 hsame]
  have hmap : (callArgs o).map (opd tm') = (callArgs o).map (opd tm) := List.map_congr_left fun x hxx => h1 x (callArgs_sub o x hxx)
  rw [hmap]
  have gen : ∀ l : List T, (∀ t ∈ l, ∀ k ∈ t.hds1, ∃ o, hget hp k = some o) → l.mapM (dataT hp') = l.mapM (dataT hp) ∧ (l.flatMap (hsT hp')).filter (fun h => (hget hp' h).isSome) = (l.flatMap (hsT hp)).filter fun h => (hget hp h).isSome := by
    intro l hl
    induction l with
    | nil => exact ⟨rfl, rfl⟩
    | cons t l ih =>
      obtain ⟨e1, e2⟩ := dataT_congr hc.hp hx t (hl t List.mem_cons_self)
      obtain ⟨e3, e4⟩ := ih (fun t' ht' => hl t' (List.mem_cons_of_mem _ ht'))
      refine ⟨by rw [List.mapM_cons, List.mapM_cons, e1, e3], ?_⟩
      rw [List.flatMap_cons, List.flatMap_cons, List.filter_append, List.filter_append, e4, e2]
      congr 1
      refine List.filter_congr (fun k hk => ?_)
      obtain ⟨ob, hob⟩ := hsT_dom hc t (hl t List.mem_cons_self) k hk
      rw [hob, hx k ob hob]
  obtain ⟨e1, e2⟩ := gen ((callArgs o).map (opd tm)) (fun t ht => by
    obtain ⟨x, _, rfl⟩ := List.mem_map.1 ht
    exact opd_dom hc x)
  rw [e1, e2]

theorem numbered_key {d : Nat} : ∀ {os : List Ob} {i : Nat} {p : Nat × Ob}, p ∈ numbered d i os → p.1 % 10000 = d % 10000
  | [], _, _, h => by simp [numbered] at h
  | o :: os, i, p, h => by
    simp only [numbered, List.mem_cons] at h
    rcases h with rfl | h
    · simp only
      omega
    · exact numbered_key h
theorem eff_news {e : Eff} (h : eff call ty ops o tm hp = some e) : ∀ p ∈ e.news, ∃ d, o.dst = some d ∧ p.1 % 10000 = d % 10000 := by
  unfold eff at h
  split at h
  · cases h
  · injection h with h; subst h; simp
  · split at h
    · split at h
      · cases h
      · split at h
        · rename_i r d hr hd
          injection h with h
          subst h
          intro p hp
          exact ⟨d, hd, numbered_key hp⟩
        · cases h
    · split at h
      · injection h with h; subst h; simp
      · rename_i t ob d he hd
        injection h with h
        subst h
        intro p hp
        simp only [List.mem_singleton] at hp
        subst hp
        exact ⟨d, hd, rfl⟩
      · cases h

theorem swap {s s1 s2 : St} (hcl : Closed s.tm s.hp) (hi : indep ops x y = true) (h1 : step call ty ops x s = some s1) (h2 : step call ty ops y s1 = some s2) : ∃ s1', step call ty ops y s = some s1' ∧ step call ty ops x s1' = some s2 := by
  simp only [indep, Bool.and_eq_true] at hi
  obtain ⟨⟨⟨⟨⟨hcx, hcy⟩, hdx⟩, hdy⟩, haxy⟩, hayx⟩ := hi
  rw [step_eff hcx, Option.bind_eq_some_iff] at h1
  obtain ⟨ex, hex, hax⟩ := h1
  rw [step_eff hcy, Option.bind_eq_some_iff] at h2
  obtain ⟨ey, hey, hay⟩ := h2
  unfold app at hax hay
  split at hax
  · rename_i hfx
    injection hax with hax
    subst hax
    split at hay
    · rename_i hfy
      injection hay with hay
      subst hay
      -- temporaries that the one reads are not the other's
      have away : ∀ (p q : Oper) (t : T), awayFrom ops p q = true → ∀ i ∈ readsOf ops q, (putT s p.dst t).tm[i]? = s.tm[i]? := fun p q t hpq i hiq => by
        unfold awayFrom at hpq
        unfold putT
        cases hd : p.dst with
        | none => rfl
        | some d =>
          simp only [hd, Bool.and_eq_true, Bool.not_eq_true'] at hpq
          simp only
          rw [List.getElem?_set_ne]
          intro e
          subst e
          have := hpq.1
          simp at this
          exact this hiq
      have hey' : eff call ty ops y s.tm s.hp = some ey := by
        rw [← hey]
        exact (eff_congr hcl (puts_ext _ _ hfx) (away x y ex.t haxy)).symm
      have hkeys : ∀ p ∈ ex.news, ∀ q ∈ ey.news, p.1 ≠ q.1 := fun p hp q hq e => by
        obtain ⟨d1, h1, h2⟩ := eff_news hex p hp
        obtain ⟨d2, h3, h4⟩ := eff_news hey' q hq
        have hdx' : (d1 : Nat) < 10000 := by unfold dstOk at hdx; rw [h1] at hdx; exact of_decide_eq_true hdx
        have hdy' : (d2 : Nat) < 10000 := by unfold dstOk at hdy; rw [h3] at hdy; exact of_decide_eq_true hdy
        unfold awayFrom at haxy
        rw [h1] at haxy
        simp only [Bool.and_eq_true, Bool.not_eq_true', beq_eq_false_iff_ne] at haxy
        apply haxy.2
        rw [h3]
        rw [e] at h2
        have : (d2 : Nat) = d1 := by rw [← Nat.mod_eq_of_lt hdx', ← Nat.mod_eq_of_lt hdy', ← h2, ← h4]
        rw [this]
      have hfy' : freshAll s.hp ey.news = true := by
        rw [← freshAll_congr ey.news s.hp (puts s.hp ex.news) (fun q hq => puts_get _ _ _ (fun p hp => hkeys p hp q hq))]
        exact hfy
      refine ⟨{ tm := (putT s y.dst ey.t).tm, hp := puts s.hp ey.news, fr := fputs s.fr ey.frs }, ?_, ?_⟩
      · rw [step_eff hcy, hey', Option.bind_some]
        unfold app
        rw [if_pos hfy']
      · rw [step_eff hcx]
        simp only
        rw [eff_congr hcl (puts_ext _ _ hfy') (away y x ey.t hayx), hex, Option.bind_some]
        unfold app
        simp only
        rw [if_pos (by rw [freshAll_congr ex.news s.hp (puts s.hp ey.news) (fun p hp => puts_get _ _ _ (fun q hq => Ne.symm (hkeys p hp q hq)))]; exact hfx)]
        congr 1
        rw [puts_comm ey.news ex.news s.hp (fun p hp q hq => Ne.symm (hkeys q hq p hp)), fputs_comm ey.frs ex.frs]
        congr 1
        unfold putT
        cases hd1 : x.dst with
        | none => cases hd2 : y.dst <;> rfl
        | some d1 =>
          cases hd2 : y.dst with
          | none => rfl
          | some d2 =>
            simp only
            refine List.set_comm _ _ ?_
            intro e
            unfold awayFrom at haxy
            rw [hd1] at haxy
            simp only [Bool.and_eq_true, Bool.not_eq_true', beq_eq_false_iff_ne] at haxy
            apply haxy.2
            rw [hd2, e]
    · cases hay
  · cases hax
end

section
variable {P : Program} {ty : Tys} {kp : Nat → Option (List Nat)} {K : Nat → Option (Nat → Option (List Nat))} {call : CallF} {w0 : World} {B : Nat} {f0 : Nat → Prop} {ops : Array Oper}

/-- There is a world that it tells of. -/
def Good (w0 : World) (B : Nat) (f0 : Nat → Prop) (s : St) : Prop := ∃ fz ρ tm w, Rel w0 B f0 fz ρ s tm w

theorem exists_of_wp {o : Oper} {a : Act} {w : World} {next : Act → World → Prop} (h : o.wp P a w next (fun _ _ _ => False)) : ∃ a' w', next a' w' := by
  unfold Oper.wp Oper.upon at h
  split at h
  · exact ⟨_, _, h⟩
  · exact ⟨_, _, h⟩
  · exact ⟨_, _, h⟩
  · obtain ⟨e, w', fr, hR, _⟩ := h []
    cases e with
    | returned v => exact ⟨_, _, hR⟩
    | panicked c => exact hR.elim
    | outgrown => obtain ⟨_, _, hq⟩ := hR; exact hq.elim
  · obtain ⟨v, w', hR, _⟩ := h default []
    exact ⟨_, _, hR⟩
  · exact h.elim
  · exact h.elim
theorem step_good (hty : ∀ t y, ty t = some y → Ty.of P t = some y) (hcall : call.ok P) (hB : B ≤ w0.heap.size) {o : Oper} {s s' : St} (hg : Good w0 B f0 s) (h : step call ty ops o s = some s') : Good w0 B f0 s' := by
  obtain ⟨fz, ρ, tm, w, hrel⟩ := hg
  unfold step at h
  split at h
  · cases h
  · injection h with h
    subst h
    unfold putT
    cases o.dst with
    | none => exact ⟨fz, ρ, tm, w, hrel⟩
    | some d => exact ⟨fz, ρ, tm.setIfInBounds d undef, w, hrel.put d (t := .tup []) ⟨#[], rfl, rfl, fun i t h => by simp at h⟩⟩
  · obtain ⟨a', w', fz', ρ', hR⟩ := exists_of_wp (evOp_sound (P := P) (a := ⟨tm, []⟩) (next := fun a' w' => ∃ fz' ρ', Rel w0 B f0 fz' ρ' s' a'.tmps w') (Q := fun _ _ _ => False) hty hcall hB hrel h (fun fz' ρ' tm' w' hr => ⟨fz', ρ', hr⟩))
    exact ⟨fz', ρ', a'.tmps, w', hR⟩

theorem moveFront (hty : ∀ t y, ty t = some y → Ty.of P t = some y) (hcall : call.ok P) (hB : B ≤ w0.heap.size) {i : Oper} {R : List Oper} {s' : St} : ∀ {A : List Oper} {s : St}, Good w0 B f0 s → (∀ x ∈ A, indep ops x i = true) →
    evOps call ty ops (A ++ i :: R) s = some s' → evOps call ty ops (i :: (A ++ R)) s = some s'
  | [], s, _, _, h => h
  | x :: A, s, hg, hi, h => by
    rw [List.cons_append, evOps_step, Option.bind_eq_some_iff] at h
    obtain ⟨s1, h1, h2⟩ := h
    have h3 := moveFront hty hcall hB (step_good hty hcall hB hg h1) (fun y hy => hi y (List.mem_cons_of_mem _ hy)) h2
    rw [evOps_step, Option.bind_eq_some_iff] at h3
    obtain ⟨s2, h4, h5⟩ := h3
    obtain ⟨fz, ρ, tm, w, hrel⟩ := hg
    obtain ⟨s1', h6, h7⟩ := swap hrel.closed (hi x List.mem_cons_self) h1 h4
    rw [evOps_step, h6, Option.bind_some, List.cons_append, evOps_step, h7, Option.bind_some]
    exact h5
end

/-! ### Which comes before which -/
def bitsOf (acc : List Nat) (o : Oper) : Nat := (o.after.toList.filter (Region.binds .any)).foldl (fun s e => s ||| 2 ^ e.on ||| acc.getD e.on 0) 0
def befs : List Oper → List Nat → List Nat
  | [], acc => acc
  | o :: l, acc => befs l (acc ++ [bitsOf acc o])
/-- An order in which each operation stands behind those that it waits for. -/
def inOrder (m : Region.Mode) (ops : Array Oper) : List Nat → List Nat → Bool
  | _, [] => true
  | seen, i :: l => (match ops[i]? with
    | some o => o.after.toList.all fun e => !Region.binds m e || seen.contains e.on
    | none => false) && inOrder m ops (i :: seen) l
def topoOk (m : Region.Mode) (ops : Array Oper) : Bool := inOrder m ops [] (Region.linearise m ops 0) && (List.range ops.size).all fun i => (Region.linearise m ops 0).contains i
def goodRegion (ops : Array Oper) : Bool :=
  (topoOk .any ops && topoOk .text ops && topoOk .gc ops && ops.toList.zipIdx.all fun p => p.1.after.toList.all fun e => !Region.binds .any e || decide (e.on < p.2)) &&
  (List.range ops.size).all fun j => (List.range j).all fun i => ((befs ops.toList []).getD j 0).testBit i || (match ops[i]?, ops[j]? with
    | some x, some y => indep ops x y
    | _, _ => false)

theorem befs_prefix : ∀ (l : List Oper) (acc : List Nat), ∃ t, befs l acc = acc ++ t ∧ t.length = l.length
  | [], acc => ⟨[], by simp [befs], rfl⟩
  | o :: l, acc => by
    obtain ⟨t, h1, h2⟩ := befs_prefix l (acc ++ [bitsOf acc o])
    exact ⟨bitsOf acc o :: t, by simp only [befs]; rw [h1]; simp, by simp [h2]⟩
theorem befs_get : ∀ (l : List Oper) (acc : List Nat) (j : Nat) (o : Oper), l[j]? = some o → (befs l acc).getD (acc.length + j) 0 = bitsOf ((befs l acc).take (acc.length + j)) o
  | [], _, _, _, h => by simp at h
  | o' :: l, acc, 0, o, h => by
    simp only [List.getElem?_cons_zero, Option.some.injEq] at h
    subst h
    obtain ⟨t, h1, _⟩ := befs_prefix l (acc ++ [bitsOf acc o'])
    simp only [befs]
    rw [h1, Nat.add_zero, List.append_assoc, List.take_left, List.getD_eq_getElem?_getD, List.getElem?_append_right (Nat.le_refl _)]
    simp
  | o' :: l, acc, j + 1, o, h => by
    simp only [List.getElem?_cons_succ] at h
    have := befs_get l (acc ++ [bitsOf acc o']) j o h
    simp only [befs]
    rw [List.length_append, List.length_singleton, show acc.length + 1 + j = acc.length + (j + 1) by omega] at this
    exact this
theorem bitsOf_bit {acc : List Nat} {o : Oper} {x : Nat} (h : (bitsOf acc o).testBit x = true) : ∃ e ∈ o.after.toList.filter (Region.binds .any), x = e.on ∨ (acc.getD e.on 0).testBit x = true := by
  unfold bitsOf at h
  have gen : ∀ (l : List Edge) (s : Nat), (l.foldl (fun s e => s ||| 2 ^ e.on ||| acc.getD e.on 0) s).testBit x = true → s.testBit x = true ∨ ∃ e ∈ l, x = e.on ∨ (acc.getD e.on 0).testBit x = true := by
    intro l
    induction l with
    | nil => intro s h; exact .inl h
    | cons e l ih =>
      intro s h
      rcases ih _ h with h | ⟨e', he', h⟩
      · rw [Nat.testBit_or, Nat.testBit_or, Bool.or_eq_true, Bool.or_eq_true] at h
        rcases h with (h | h) | h
        · exact .inl h
        · rw [Nat.testBit_two_pow] at h
          exact .inr ⟨e, List.mem_cons_self, .inl (by have := of_decide_eq_true h; omega)⟩
        · exact .inr ⟨e, List.mem_cons_self, .inr h⟩
      · exact .inr ⟨e', List.mem_cons_of_mem _ he', h⟩
  rcases gen _ _ h with h | h
  · simp at h
  · exact h

section
variable {ops : Array Oper}
theorem good_edge (hg : goodRegion ops = true) {i : Nat} {o : Oper} (ho : ops[i]? = some o) : ∀ e ∈ o.after.toList, Region.binds .any e = true → e.on < i := by
  intro e he hb
  simp only [goodRegion, Bool.and_eq_true] at hg
  have h1 := List.all_eq_true.1 hg.1.2 (o, i) (by
    rw [List.mem_iff_getElem?]
    exact ⟨i, by rw [List.getElem?_zipIdx, Array.getElem?_toList, ho]; simp⟩)
  have h2 := List.all_eq_true.1 h1 e he
  rw [hb] at h2
  simpa using h2
theorem good_topo (hg : goodRegion ops = true) (m : Region.Mode) : topoOk m ops = true := by
  simp only [goodRegion, Bool.and_eq_true] at hg
  cases m with
  | any => exact hg.1.1.1.1
  | text => exact hg.1.1.1.2
  | gc => exact hg.1.1.2
/-- The first that isn't listed, in such an order, waits for nothing. -/
theorem first_ready {m : Region.Mode} {q : Nat → Bool} : ∀ (l seen : List Nat), inOrder m ops seen l = true → (∀ k ∈ seen, q k = true) → (∃ k ∈ l, q k = false) → ∃ i o, i ∈ l ∧ q i = false ∧ ops[i]? = some o ∧ ∀ e ∈ o.after.toList, Region.binds m e = true → q e.on = true
  | [], _, _, _, h => by obtain ⟨k, hk, _⟩ := h; cases hk
  | i :: l, seen, h, hs, hex => by
    simp only [inOrder, Bool.and_eq_true] at h
    obtain ⟨h1, h2⟩ := h
    cases hq : q i with
    | false =>
      split at h1
      · rename_i o ho
        refine ⟨i, o, List.mem_cons_self, hq, ho, fun e he hb => ?_⟩
        have := List.all_eq_true.1 h1 e he
        rw [hb] at this
        simp only [Bool.not_true, Bool.false_or, List.contains_iff_mem] at this
        exact hs _ this
      · cases h1
    | true =>
      obtain ⟨i', o, hi, hr⟩ := first_ready l (i :: seen) h2 (fun k hk => by
        rcases List.mem_cons.1 hk with rfl | hk
        · exact hq
        · exact hs k hk) (by
        obtain ⟨k, hk, hkq⟩ := hex
        rcases List.mem_cons.1 hk with rfl | hk
        · rw [hq] at hkq; cases hkq
        · exact ⟨k, hk, hkq⟩)
      exact ⟨i', o, List.mem_cons_of_mem _ hi, hr⟩
theorem binds_any {e : Edge} (h : Region.binds .any e = true) (m : Region.Mode) : Region.binds m e = true := by
  unfold Region.binds at h ⊢
  split at h
  · cases h
  · cases h
  · rfl
theorem good_pair (hg : goodRegion ops = true) {i j : Nat} {x y : Oper} (hij : i < j) (hx : ops[i]? = some x) (hy : ops[j]? = some y) : ((befs ops.toList []).getD j 0).testBit i = true ∨ indep ops x y = true := by
  simp only [goodRegion, Bool.and_eq_true] at hg
  have hj := (Array.getElem?_eq_some_iff.1 hy).1
  have h1 := List.all_eq_true.1 (List.all_eq_true.1 hg.2 j (List.mem_range.2 hj)) i (List.mem_range.2 hij)
  rw [hx, hy, Bool.or_eq_true] at h1
  exact h1
/-- What is listed has all listed that it waits for. -/
def ClosedL (ops : Array Oper) (listed : Array Bool) : Prop := ∀ k o, ops[k]? = some o → listed.getD k false = true → ∀ e ∈ o.after.toList.filter (Region.binds .any), listed.getD e.on false = true
theorem listed_of_bit (hg : goodRegion ops = true) {listed : Array Bool} (hcl : ClosedL ops listed) {x : Nat} : ∀ (j : Nat) (o : Oper), ops[j]? = some o → (∀ e ∈ o.after.toList.filter (Region.binds .any), listed.getD e.on false = true) → ((befs ops.toList []).getD j 0).testBit x = true → listed.getD x false = true := by
  intro j
  induction j using Nat.strongRecOn with
  | _ j ih =>
    intro o ho hall hbit
    have hb := befs_get ops.toList [] j o (by rw [Array.getElem?_toList]; exact ho)
    simp only [List.length_nil, Nat.zero_add] at hb
    rw [hb] at hbit
    obtain ⟨e, he, h⟩ := bitsOf_bit hbit
    have hlt := good_edge hg ho e (List.mem_filter.1 he).1 (List.mem_filter.1 he).2
    rcases h with rfl | h
    · exact hall e he
    · have hj := (Array.getElem?_eq_some_iff.1 ho).1
      have hoe : ops[e.on]? = some (ops[e.on]'(by omega)) := Array.getElem?_eq_getElem _
      refine ih e.on hlt _ hoe (hcl e.on _ hoe (hall e he)) ?_
      rw [List.getD_eq_getElem?_getD] at h ⊢
      rw [List.getElem?_take, if_pos hlt] at h
      exact h
end

section
variable {P : Program} {ty : Tys} {kp : Nat → Option (List Nat)} {K : Nat → Option (Nat → Option (List Nat))} {call : CallF} {w0 : World} {B : Nat} {f0 : Nat → Prop} {ops : Array Oper}

def unl (ops : Array Oper) (listed : Array Bool) : List Nat := (List.range ops.size).filter fun i => !listed.getD i true
theorem mem_unl {listed : Array Bool} (hs : listed.size = ops.size) {i : Nat} : i ∈ unl ops listed ↔ i < ops.size ∧ listed.getD i false = false := by
  unfold unl
  rw [List.mem_filter, List.mem_range]
  constructor
  · rintro ⟨h1, h2⟩
    refine ⟨h1, ?_⟩
    simp only [Array.getD_eq_getD_getElem?, Array.getElem?_eq_getElem (show i < listed.size by omega), Option.getD_some, Bool.not_eq_true'] at h2 ⊢
    exact h2
  · rintro ⟨h1, h2⟩
    refine ⟨h1, ?_⟩
    simp only [Array.getD_eq_getD_getElem?, Array.getElem?_eq_getElem (show i < listed.size by omega), Option.getD_some, Bool.not_eq_true'] at h2 ⊢
    exact h2
theorem unl_set {listed : Array Bool} (hs : listed.size = ops.size) {i : Nat} (hi : i < ops.size) : unl ops (listed.setIfInBounds i true) = (unl ops listed).filter (· != i) := by
  unfold unl
  rw [List.filter_filter]
  refine List.filter_congr (fun k hk => ?_)
  have hkl : k < ops.size := List.mem_range.1 hk
  simp only [Array.getD_eq_getD_getElem?, Array.getElem?_setIfInBounds]
  by_cases e : i = k
  · subst e
    simp [hs, hi]
  · simp [e, Ne.symm e]

theorem map_some_of {l : List Nat} (h : ∀ i ∈ l, i < ops.size) : l.map (ops[·]?) = (l.filterMap (ops[·]?)).map some := by
  induction l with
  | nil => rfl
  | cons i l ih =>
    have hi : ops[i]? = some (ops[i]'(h i List.mem_cons_self)) := Array.getElem?_eq_getElem _
    simp only [List.map_cons, List.filterMap_cons, hi]
    rw [ih (fun k hk => h k (List.mem_cons_of_mem _ hk))]

theorem go_order (m : Region.Mode) (hty : ∀ t y, ty t = some y → Ty.of P t = some y) (hcall : call.ok P) (hB : B ≤ w0.heap.size) (hg : goodRegion ops = true) {s' : St} : ∀ (fuel t : Nat) (listed : Array Bool) (acc : List Nat) (s : St), listed.size = ops.size → ClosedL ops listed → (unl ops listed).length ≤ fuel → Good w0 B f0 s →
    evOps call ty ops ((unl ops listed).filterMap (ops[·]?)) s = some s' → ∃ l : List Nat, Region.linearise.go m ops fuel t listed acc = acc.reverse ++ l ∧ ∃ os : List Oper, l.map (ops[·]?) = os.map some ∧ evOps call ty ops os s = some s'
  | 0, t, listed, acc, s, hs, hcl, hlen, hgood, h => by
    have : unl ops listed = [] := List.eq_nil_of_length_eq_zero (by omega)
    rw [this] at h
    exact ⟨[], by simp [Region.linearise.go], [], rfl, h⟩
  | fuel + 1, t, listed, acc, s, hs, hcl, hlen, hgood, h => by
    simp only [Region.linearise.go]
    generalize hrs : ((List.range ops.size).filter fun i => !listed.getD i true && ((ops[i]?).map (·.after.all fun e => !Region.binds m e || listed.getD e.on false)).getD false) = rs
    by_cases hemp : unl ops listed = []
    · -- all is listed
      have hrs0 : rs = [] := by
        rw [← hrs]
        refine List.eq_nil_iff_forall_not_mem.2 (fun i hi => ?_)
        have h1 := List.mem_filter.1 hi
        simp only [Bool.and_eq_true] at h1
        have : i ∈ unl ops listed := List.mem_filter.2 ⟨h1.1, h1.2.1⟩
        rw [hemp] at this
        cases this
      rw [hrs0]
      rw [hemp] at h
      simp only [List.length_nil, Nat.mod_zero, List.getElem?_nil]
      exact ⟨[], by simp, [], rfl, h⟩
    · -- the first that isn't listed is ready
      have hne : rs ≠ [] := by
        obtain ⟨q, hm⟩ : ∃ q, q ∈ unl ops listed := List.exists_mem_of_ne_nil _ hemp
        obtain ⟨hql, hqf⟩ := (mem_unl hs).1 hm
        have htop := good_topo hg m
        simp only [topoOk, Bool.and_eq_true] at htop
        obtain ⟨hto, hta⟩ := htop
        obtain ⟨x, o, _, hxf, hxo, hxe⟩ := first_ready (q := fun k => listed.getD k false) _ [] hto (by simp) ⟨q, by
          have := List.all_eq_true.1 hta q (List.mem_range.2 hql)
          simpa using this, hqf⟩
        have hxl := (Array.getElem?_eq_some_iff.1 hxo).1
        intro e
        have : x ∈ rs := by
          rw [← hrs]
          refine List.mem_filter.2 ⟨List.mem_range.2 hxl, ?_⟩
          rw [Bool.and_eq_true]
          refine ⟨(List.mem_filter.1 ((mem_unl hs).2 ⟨hxl, hxf⟩)).2, ?_⟩
          rw [hxo]
          simp only [Option.map_some, Option.getD_some]
          rw [← Array.all_toList]
          refine List.all_eq_true.2 (fun ed hed => ?_)
          cases hb : Region.binds m ed with
          | false => rfl
          | true =>
            have := hxe ed hed hb
            -- 
            rw [this]
            rfl
        rw [e] at this
        cases this
      have hpos : 0 < rs.length := List.length_pos_iff.2 hne
      obtain ⟨i, hi⟩ : ∃ i, rs[t % rs.length]? = some i := ⟨rs[t % rs.length]'(Nat.mod_lt _ hpos), List.getElem?_eq_getElem _⟩
      rw [hi]
      simp only
      have hir : i ∈ rs := List.mem_of_getElem? hi
      rw [← hrs] at hir
      obtain ⟨hil, hic⟩ := List.mem_filter.1 hir
      have hil := List.mem_range.1 hil
      rw [Bool.and_eq_true] at hic
      have hiu : i ∈ unl ops listed := List.mem_filter.2 ⟨List.mem_range.2 hil, hic.1⟩
      have hoi : ops[i]? = some ops[i] := Array.getElem?_eq_getElem hil
      have hedges : ∀ e ∈ (ops[i]).after.toList.filter (Region.binds .any), listed.getD e.on false = true := fun e he => by
        obtain ⟨he, hbe⟩ := List.mem_filter.1 he
        have h2 := hic.2
        rw [hoi] at h2
        simp only [Option.map_some, Option.getD_some] at h2
        rw [← Array.all_toList] at h2
        have h3 := List.all_eq_true.1 h2 e he
        rw [binds_any hbe m] at h3
        simpa using h3
      -- what stands ahead of it in the list may come up behind it
      obtain ⟨A, R, hAR⟩ := List.append_of_mem hiu
      have hpw : (unl ops listed).Pairwise (· < ·) := List.Pairwise.filter _ List.pairwise_lt_range
      rw [hAR] at hpw
      have hA : ∀ k ∈ A, k < i := fun k hk => (List.pairwise_append.1 hpw).2.2 k hk i List.mem_cons_self
      have hnd : i ∉ A ∧ i ∉ R := by
        refine ⟨fun hq => Nat.lt_irrefl _ (hA i hq), fun hq => ?_⟩
        have := (List.pairwise_cons.1 (List.pairwise_append.1 hpw).2.1).1 i hq
        omega
      have hset : unl ops (listed.setIfInBounds i true) = A ++ R := by
        rw [unl_set hs hil, hAR, List.filter_append, List.filter_cons]
        simp only [bne_self_eq_false, Bool.false_eq_true, if_false]
        rw [List.filter_eq_self.2 (fun k hk => by simp; intro e; exact hnd.1 (e ▸ hk)), List.filter_eq_self.2 (fun k hk => by simp; intro e; exact hnd.2 (e ▸ hk))]
      rw [hAR, List.filterMap_append, List.filterMap_cons, hoi] at h
      simp only at h
      have hfront := moveFront hty hcall hB hgood (fun x hx => by
        obtain ⟨k, hk, hxk⟩ := List.mem_filterMap.1 hx
        have hku : k ∈ unl ops listed := by rw [hAR]; exact List.mem_append_left _ hk
        rcases good_pair hg (hA k hk) hxk hoi with hb | hb
        · have := listed_of_bit hg hcl i _ hoi hedges hb
          rw [((mem_unl hs).1 hku).2] at this
          cases this
        · exact hb) h
      rw [evOps_step, Option.bind_eq_some_iff] at hfront
      obtain ⟨s1, h1, h2⟩ := hfront
      have hcl' : ClosedL ops (listed.setIfInBounds i true) := fun k o hk hkl e he => by
        have mono : ∀ j, listed.getD j false = true → (listed.setIfInBounds i true).getD j false = true := fun j hj => by
          simp only [Array.getD_eq_getD_getElem?, Array.getElem?_setIfInBounds] at hj ⊢
          split
          · split <;> simp_all
          · exact hj
        by_cases e' : i = k
        · subst e'
          rw [hoi] at hk
          injection hk with hk
          subst hk
          exact mono _ (hedges e he)
        · refine mono _ (hcl k o hk ?_ e he)
          simp only [Array.getD_eq_getD_getElem?, Array.getElem?_setIfInBounds, if_neg e'] at hkl ⊢
          exact hkl
      have hlen' : (unl ops (listed.setIfInBounds i true)).length ≤ fuel := by
        rw [hset]
        rw [hAR] at hlen
        simp at hlen ⊢
        omega
      obtain ⟨l, hl1, os, hl2, hl3⟩ := go_order m hty hcall hB hg fuel (t / rs.length) (listed.setIfInBounds i true) (i :: acc) s1 (by simpa using hs) hcl' hlen' (step_good hty hcall hB hgood h1) (by rw [hset, List.filterMap_append]; exact h2)
      refine ⟨i :: l, by rw [hl1]; simp, ops[i] :: os, by simp only [List.map_cons, hoi, hl2], ?_⟩
      rw [evOps_step, h1, Option.bind_some]
      exact hl3

theorem anyhow (hty : ∀ t y, ty t = some y → Ty.of P t = some y) (call : CallF) (hcall : call.ok P) : Anyhow P ty call goodRegion := by
  intro w0 B f0 fz ρ s s' tm w ops t hB hg hrel h
  obtain ⟨m, t', hsch⟩ : ∃ m t', Region.schedule (P.follows .mixedOrders) ops t = Region.linearise m ops t' := by
    unfold Region.schedule
    split
    · exact ⟨_, _, rfl⟩
    · split
      · exact ⟨_, _, rfl⟩
      · exact ⟨_, _, rfl⟩
  rw [hsch]
  unfold Region.linearise
  have hunl : unl ops (Array.replicate ops.size false) = List.range ops.size := by
    unfold unl
    refine List.filter_eq_self.2 (fun i hi => ?_)
    have := List.mem_range.1 hi
    simp [Array.getD_eq_getD_getElem?, Array.getElem?_replicate, this]
  have hall : (List.range ops.size).filterMap (ops[·]?) = ops.toList := by
    have h1 := map_some_of (ops := ops) (l := List.range ops.size) (fun i hi => List.mem_range.1 hi)
    rw [map_get_range] at h1
    exact (List.map_inj_right (fun a b hab => by injection hab)).1 h1.symm
  obtain ⟨l, h1, os, h2, h3⟩ := go_order (w0 := w0) (B := B) (f0 := f0) m hty hcall hB hg ops.size t' (Array.replicate ops.size false) [] (Vabs.enter ops.toList s) (by simp) (fun k o hk hkl => by
      simp only [Array.getD_eq_getD_getElem?, Array.getElem?_replicate] at hkl
      split at hkl <;> simp at hkl) (by rw [hunl]; simp) ⟨fz, ρ, tm, w, hrel⟩ (s' := s') (by rw [hunl, hall]; exact h)
  refine ⟨os, ?_, h3⟩
  rw [h1]
  simpa using h2

/-- THE LIBRARY's WORD: what the abstract interpreter says of a call of a program whose regions are good is so. -/
theorem calls_of_ev (hty : ∀ t y, ty t = some y → Ty.of P t = some y) (hok : okProgram goodRegion P K) {f : FuncId} {args : List T} {r : T × List Ob} (h : evCall P ty K f args = some r) : CallOK P f args r :=
  (evCall_sound hty hok (fun call hc => anyhow hty call hc) f args r h).1
end
#print axioms calls_of_ev
end Go.Vabs
