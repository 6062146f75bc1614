/- A library: what a call hands back to which something was lent. No condition. -/
import Derived.Test.YthmnnieiibeiaaaVP
set_option linter.unusedSimpArgs false
set_option linter.unusedVariables false
namespace Go.Vabs
open Go.RowKit
theorem ixOf_some : ∀ {l : List Nat} {h j : Nat}, ixOf l h = some j → l[j]? = some h
 | [], h, j, e => by cases e
 | k :: l, h, j, e => by
  simp only [ixOf] at e
  split at e
  ·rename_i hk
   injection e with e
   subst e
   subst hk
   rfl
  ·rw [Option.map_eq_some_iff] at e
   obtain ⟨i, hi, rfl⟩ := e
   simpa using ixOf_some hi
theorem ixOf_none : ∀ {l : List Nat} {h : Nat}, ixOf l h = none → h ∉ l
 | [], h, e => by simp
 | k :: l, h, e => by
  simp only [ixOf] at e
  split at e
  ·cases e
  ·rename_i hk
   rw [Option.map_eq_none_iff] at e
   simp only [List.mem_cons, not_or]
   exact ⟨fun e => hk e.symm, ixOf_none e⟩
theorem lentH_ix {b b' : Bool} {i j : Nat} (h : lentH b i = lentH b' j) : i = j ∧ b = b' := by
 unfold lentH at h
 cases b <;> cases b' <;> simp at h <;> first | exact ⟨by omega, rfl⟩ | omega
theorem namesFrom_get : ∀ {obs : List Ob} {i j : Nat}, (namesFrom i obs)[j]? = (obs[j]?).map fun o => lentH o.box (i + j)
 | [], i, j => by simp [namesFrom]
 | o :: os, i, 0 => by simp [namesFrom]
 | o :: os, i, j + 1 => by
  simp only [namesFrom, List.getElem?_cons_succ]
  rw [namesFrom_get, show i + 1 + j = i + (j + 1) by omega]
theorem namesFrom_length : ∀ {obs : List Ob} {i : Nat}, (namesFrom i obs).length = obs.length
 | [], i => rfl
 | o :: os, i => by simp [namesFrom, namesFrom_length]
theorem names_inj {obs : List Ob} {i j k : Nat} (h1 : (namesFrom 0 obs)[i]? = some k) (h2 : (namesFrom 0 obs)[j]? = some k) : i = j := by
 rw [namesFrom_get, Option.map_eq_some_iff] at h1 h2
 obtain ⟨o1, _, e1⟩ := h1
 obtain ⟨o2, _, e2⟩ := h2
 have := (lentH_ix (e1.trans e2.symm)).1
 omega
def lk (lam : Nat → Option Loc) (n : Nat) (locs : List Loc) (i : Nat) : Option Loc := if i < n then lam i else locs[i - n]?
theorem lk_pre {lam : Nat → Option Loc} {n : Nat} {l m : List Loc} (h : l <+: m) {i : Nat} {a : Loc} (hi : lk lam n l i = some a) : lk lam n m i = some a := by
 unfold lk at hi ⊢
 split
 ·rename_i hlt; rw [if_pos hlt] at hi; exact hi
 ·rename_i hlt; rw [if_neg hlt] at hi; exact getElem?_pre h hi
section
variable {P : Program} {ty : Tys} {w0 : World} {B : Bs} {f0 fz : Nat → Prop} {ρ : Nat → Option Loc} {s : St} {tm : Array Value} {w : World} {nms : List Nat} {lam : Nat → Option Loc}
def Lam (s : St) (ρ : Nat → Option Loc) (nms : List Nat) (lam : Nat → Option Loc) : Prop := ∀ j k, nms[j]? = some k → k ∉ s.fr → ∀ l, ρ k = some l → lam j = some l
theorem xpC_rep [Globals] (hrel : Rel w0 B f0 fz ρ s tm w) (hlam : Lam s ρ nms lam) {z : Option (TypeId × Nat)} {seen : List Nat} {obs : List Ob} {locs : List Loc} (hinv : ExpInv w fz ρ s.fr seen obs locs) (hsn : ∀ k ∈ seen, k ∉ nms) {v : Value} {c c' : C} {seen' : List Nat} {obs' : List Ob} (hv : RepC w fz ρ v c)
  (h : xpC s.hp s.fr nms z c seen obs = some (c', seen', obs')) :
  ∃ locs', locs <+: locs' ∧ ExpInv w fz ρ s.fr seen' obs' locs' ∧ (∀ k ∈ seen', k ∉ nms) ∧ RepC w fz (lk lam nms.length locs') v c' := by
 have via : ∀ c1, expC s.hp s.fr z c seen obs = some (c1, seen', obs') → c' = c1.shift (nms.length + ·) → (∀ k ∈ seen', k ∉ nms) → ∃ locs', locs <+: locs' ∧ ExpInv w fz ρ s.fr seen' obs' locs' ∧ (∀ k ∈ seen', k ∉ nms) ∧ RepC w fz (lk lam nms.length locs') v c' := by
  intro c1 h1 h2 h3
  obtain ⟨locs', g1, g2, g3⟩ := expC_rep hrel hinv hv h1
  refine ⟨locs', g1, g2, h3, ?_⟩
  rw [h2]
  refine g3.shift (fun k l hk => ?_)
  unfold lk
  rw [if_neg (by omega), Nat.add_sub_cancel_left]
  exact hk
 have known : ∀ (k j : Nat), ixOf nms k = some j → s.fr.contains k = false → ∀ l, ρ k = some l → lk lam nms.length locs j = some l := by
  intro k j hj hfr l hl
  have h1 := ixOf_some hj
  unfold lk
  rw [if_pos (List.getElem?_eq_some_iff.1 h1).1]
  exact hlam j k h1 (by simpa using hfr) l hl
 unfold xpC at h
 split at h
 ·rename_i q hz
  simp only [Option.some.injEq, Prod.mk.injEq] at h
  obtain ⟨rfl, rfl, rfl⟩ := h
  exact via (.ref obs.length 0 0) (by unfold expC; rw [hz]) rfl hsn
 ·rename_i hz
  cases c with
  | ref k off len =>
   simp only at h
   split at h
   ·rename_i o ho
    split at h
    ·cases h
    ·rename_i hcond
     split at h
     ·cases h
     ·rename_i hseen
      split at h
      ·rename_i hfr
       simp only [Option.some.injEq, Prod.mk.injEq] at h
       obtain ⟨rfl, rfl, rfl⟩ := h
       exact via (.sl o.sz ((o.es.drop off).take len)) (by unfold expC; rw [hz]; simp only [ho, if_neg hcond, if_neg hseen, if_pos hfr]) rfl hsn
      ·rename_i hfr
       split at h
       ·rename_i j hj
        simp only [Option.some.injEq, Prod.mk.injEq] at h
        obtain ⟨rfl, rfl, rfl⟩ := h
        refine ⟨locs, List.prefix_refl _, hinv, hsn, ?_⟩
        have hk := known k j hj (by simpa using hfr)
        cases hv with
        | frz hq => cases hq
        | nil _ e => exact .nil _ (hk _ e)
        | ref _ _ _ b base cap sz a e hc ha hs => exact .ref _ _ _ b base cap sz a (hk _ e) hc ha hs
       ·rename_i hj
        simp only [Option.some.injEq, Prod.mk.injEq] at h
        obtain ⟨rfl, rfl, rfl⟩ := h
        refine via (.ref obs.length 0 len) (by unfold expC; rw [hz]; simp only [ho, if_neg hcond, if_neg hseen, if_neg hfr]) rfl (fun k' hk' => ?_)
        rcases List.mem_cons.1 hk' with rfl | hk'
        ·exact ixOf_none hj
        ·exact hsn k' hk'
   ·cases h
  | ptr k i off =>
   simp only at h
   split at h
   ·cases h
   ·rename_i hfr
    rw [Option.map_eq_some_iff] at h
    obtain ⟨j, hj, h⟩ := h
    simp only [Prod.mk.injEq] at h
    obtain ⟨rfl, rfl, rfl⟩ := h
    refine ⟨locs, List.prefix_refl _, hinv, hsn, ?_⟩
    have hk := known k j hj (by simpa using hfr)
    cases hv with
    | frz hq => cases hq
    | ptr _ _ _ b base cap sz e => exact .ptr _ _ _ b base cap sz (hk _ e)
  | _ =>
   simp only [Option.some.injEq, Prod.mk.injEq] at h
   obtain ⟨rfl, rfl, rfl⟩ := h
   exact via _ (by unfold expC; rw [hz]) rfl hsn
theorem xpL_rep [Globals] (hrel : Rel w0 B f0 fz ρ s tm w) (hlam : Lam s ρ nms lam) : ∀ {zs : List (Option (TypeId × Nat))} {cs cs' : List C} {vs : List Value} {seen seen' : List Nat} {obs obs' : List Ob} {locs : List Loc}, ExpInv w fz ρ s.fr seen obs locs → (∀ k ∈ seen, k ∉ nms) → RepL w fz ρ vs cs → xpL s.hp s.fr nms zs cs seen obs = some (cs', seen', obs') →
  ∃ locs', locs <+: locs' ∧ ExpInv w fz ρ s.fr seen' obs' locs' ∧ (∀ k ∈ seen', k ∉ nms) ∧ RepL w fz (lk lam nms.length locs') vs cs'
 | zs, [], cs', vs, seen, seen', obs, obs', locs, hinv, hsn, hv, h => by
  simp only [xpL, Option.some.injEq, Prod.mk.injEq] at h
  obtain ⟨rfl, rfl, rfl⟩ := h
  exact ⟨locs, List.prefix_refl _, hinv, hsn, hv.1, by simp⟩
 | zs, c :: cs, cs', vs, seen, seen', obs, obs', locs, hinv, hsn, hv, h => by
  simp only [xpL] at h
  split at h
  ·rename_i c1 seen1 obs1 hc
   split at h
   ·rename_i cs1 seen2 obs2 hcs
    simp only [Option.some.injEq, Prod.mk.injEq] at h
    obtain ⟨rfl, rfl, rfl⟩ := h
    cases vs with
    | nil => have := hv.1; simp at this
    | cons u us =>
     obtain ⟨locs1, hp1, hinv1, hsn1, hr1⟩ := xpC_rep hrel hlam hinv hsn (hv.2 0 u c rfl rfl) hc
     obtain ⟨locs2, hp2, hinv2, hsn2, hr2⟩ := xpL_rep hrel hlam hinv1 hsn1 (vs := us) ⟨by have := hv.1; simpa using this, fun i x y hx hy => hv.2 (i + 1) x y (by simpa using hx) (by simpa using hy)⟩ hcs
     refine ⟨locs2, hp1.trans hp2, hinv2, hsn2, by simp [hr2.1], fun i x y hx hy => ?_⟩
     cases i with
     | zero => simp at hx hy; subst hx; subst hy; exact hr1.mono (fun _ _ => rfl) (fun _ h => h) (fun _ _ hk => lk_pre hp2 hk)
     | succ i => exact hr2.2 i x y (by simpa using hx) (by simpa using hy)
   ·cases h
  ·cases h
theorem xp1_rep [Globals] (hrel : Rel w0 B f0 fz ρ s tm w) (hlam : Lam s ρ nms lam) {zs : List (Option (TypeId × Nat))} {t t' : T} {v : Value} {seen seen' : List Nat} {obs obs' : List Ob} {locs : List Loc} (hinv : ExpInv w fz ρ s.fr seen obs locs) (hsn : ∀ k ∈ seen, k ∉ nms) (hv : RepT w fz ρ v t) (h : xp1 s.hp s.fr nms zs t seen obs = some (t', seen', obs')) :
  ∃ locs', locs <+: locs' ∧ ExpInv w fz ρ s.fr seen' obs' locs' ∧ (∀ k ∈ seen', k ∉ nms) ∧ Rep1 w fz (lk lam nms.length locs') v t' := by
 cases t with
 | c x =>
  simp only [xp1] at h
  split at h
  ·rename_i c1 s1 o1 hc
   simp only [Option.some.injEq, Prod.mk.injEq] at h
   obtain ⟨rfl, rfl, rfl⟩ := h
   exact xpC_rep hrel hlam hinv hsn hv hc
  ·cases h
 | agg cs =>
  simp only [xp1] at h
  split at h
  ·rename_i c1 s1 o1 hc
   simp only [Option.some.injEq, Prod.mk.injEq] at h
   obtain ⟨rfl, rfl, rfl⟩ := h
   obtain ⟨vs, e, hv⟩ := hv
   obtain ⟨locs', h1, h2, h3, h4⟩ := xpL_rep hrel hlam hinv hsn hv hc
   exact ⟨locs', h1, h2, h3, vs, e, h4⟩
  ·cases h
 | junk =>
  simp only [xp1, Option.some.injEq, Prod.mk.injEq] at h
  obtain ⟨rfl, rfl, rfl⟩ := h
  exact ⟨locs, List.prefix_refl _, hinv, hsn, trivial⟩
 | tup _ => cases h
 | itr _ _ => cases h
theorem xpTs_rep [Globals] (hrel : Rel w0 B f0 fz ρ s tm w) (hlam : Lam s ρ nms lam) : ∀ {zss : List (List (Option (TypeId × Nat)))} {ts ts' : List T} {vs : List Value} {seen seen' : List Nat} {obs obs' : List Ob} {locs : List Loc}, ExpInv w fz ρ s.fr seen obs locs → (∀ k ∈ seen, k ∉ nms) → vs.length = ts.length → (∀ (i : Nat) (v : Value) (t : T), vs[i]? = some v → ts[i]? = some t → RepT w fz ρ v t) →
  xpTs s.hp s.fr nms zss ts seen obs = some (ts', seen', obs') → ∃ locs', locs <+: locs' ∧ ExpInv w fz ρ s.fr seen' obs' locs' ∧ (∀ k ∈ seen', k ∉ nms) ∧ vs.length = ts'.length ∧ (∀ (i : Nat) (v : Value) (t : T), vs[i]? = some v → ts'[i]? = some t → Rep1 w fz (lk lam nms.length locs') v t)
 | zss, [], ts', vs, seen, seen', obs, obs', locs, hinv, hsn, hl, hv, h => by
  simp only [xpTs, Option.some.injEq, Prod.mk.injEq] at h
  obtain ⟨rfl, rfl, rfl⟩ := h
  exact ⟨locs, List.prefix_refl _, hinv, hsn, hl, by simp⟩
 | zss, t :: ts, ts', vs, seen, seen', obs, obs', locs, hinv, hsn, hl, hv, h => by
  simp only [xpTs] at h
  split at h
  ·rename_i c1 seen1 obs1 hc
   split at h
   ·rename_i cs1 seen2 obs2 hcs
    simp only [Option.some.injEq, Prod.mk.injEq] at h
    obtain ⟨rfl, rfl, rfl⟩ := h
    cases vs with
    | nil => simp at hl
    | cons u us =>
     obtain ⟨locs1, hp1, hinv1, hsn1, hr1⟩ := xp1_rep hrel hlam hinv hsn (hv 0 u t rfl rfl) hc
     obtain ⟨locs2, hp2, hinv2, hsn2, hl2, hr2⟩ := xpTs_rep hrel hlam hinv1 hsn1 (vs := us) (by simpa using hl) (fun i x y hx hy => hv (i + 1) x y (by simpa using hx) (by simpa using hy)) hcs
     refine ⟨locs2, hp1.trans hp2, hinv2, hsn2, by simp [hl2], fun i x y hx hy => ?_⟩
     cases i with
     | zero => simp at hx hy; subst hx; subst hy; exact hr1.mono (fun _ _ => rfl) (fun _ h => h) (fun _ _ hk => lk_pre hp2 hk)
     | succ i => exact hr2 i x y (by simpa using hx) (by simpa using hy)
   ·cases h
  ·cases h
theorem xpO_rep [Globals] (hrel : Rel w0 B f0 fz ρ s tm w) (hlam : Lam s ρ nms lam) (hnil : ∀ j k, nms[j]? = some k → k ∈ s.fr ∨ ρ k = none → lam j = some .nil) : ∀ {ks : List Nat} {os : List Ob} {i0 : Nat} {os' : List Ob} {seen seen' : List Nat} {obs obs' : List Ob} {locs : List Loc},
  ExpInv w fz ρ s.fr seen obs locs → (∀ k ∈ seen, k ∉ nms) → (∀ m, ks[m]? = nms[i0 + m]? ∨ ks[m]? = none) → ks.length = os.length → xpO ty s.hp s.fr nms ks os seen obs = some (os', seen', obs') →
  ∃ locs', locs <+: locs' ∧ ExpInv w fz ρ s.fr seen' obs' locs' ∧ (∀ k ∈ seen', k ∉ nms) ∧ os'.length = os.length ∧ (∀ (m : Nat) (o : Ob), os'[m]? = some o → ∃ l, lam (i0 + m) = some l ∧ RepO w fz (lk lam nms.length locs') l o) ∧
   (∀ (m : Nat) (o0 : Ob), os[m]? = some o0 → o0.box = true → ∃ k o o', nms[i0 + m]? = some k ∧ k ∉ s.fr ∧ hget s.hp k = some o ∧ os'[m]? = some o' ∧ o'.box = o.box)
 | [], [], i0, os', seen, seen', obs, obs', locs, hinv, hsn, hks, hlen, h => by
  simp only [xpO, Option.some.injEq, Prod.mk.injEq] at h
  obtain ⟨rfl, rfl, rfl⟩ := h
  exact ⟨locs, List.prefix_refl _, hinv, hsn, rfl, by simp, by simp⟩
 | [], _ :: _, i0, os', seen, seen', obs, obs', locs, hinv, hsn, hks, hlen, h => by simp at hlen
 | _ :: _, [], i0, os', seen, seen', obs, obs', locs, hinv, hsn, hks, hlen, h => by simp at hlen
 | k :: ks, o0 :: os, i0, os', seen, seen', obs, obs', locs, hinv, hsn, hks, hlen, h => by
  have hk0 : nms[i0]? = some k := by
   have := hks 0
   rcases this with h | h
   ·exact h.symm
   ·cases h
  have hks' : ∀ m, ks[m]? = nms[i0 + 1 + m]? ∨ ks[m]? = none := fun m => by
   have := hks (m + 1)
   rw [show i0 + (m + 1) = i0 + 1 + m by omega] at this
   simpa using this
  have hi0 : i0 < nms.length := (List.getElem?_eq_some_iff.1 hk0).1
  have hlam0 : ∀ l locs, lam i0 = some l → lk lam nms.length locs i0 = some l := fun l locs e => by unfold lk; rw [if_pos hi0]; exact e
  have step : ∀ {seen1 : List Nat} {obs1 : List Ob} {locs1 : List Loc} {o1 : Ob} {os1 : List Ob} {l1 : Loc}, ExpInv w fz ρ s.fr seen1 obs1 locs1 → (∀ k ∈ seen1, k ∉ nms) → locs <+: locs1 → lam i0 = some l1 → RepO w fz (lk lam nms.length locs1) l1 o1 →
    (o0.box = true → k ∉ s.fr ∧ ∃ o, hget s.hp k = some o ∧ o1.box = o.box) →
    xpO ty s.hp s.fr nms ks os seen1 obs1 = some (os1, seen', obs') → os' = o1 :: os1 →
    ∃ locs', locs <+: locs' ∧ ExpInv w fz ρ s.fr seen' obs' locs' ∧ (∀ k ∈ seen', k ∉ nms) ∧ os'.length = (o0 :: os).length ∧ (∀ (m : Nat) (o : Ob), os'[m]? = some o → ∃ l, lam (i0 + m) = some l ∧ RepO w fz (lk lam nms.length locs') l o) ∧
     (∀ (m : Nat) (o0' : Ob), (o0 :: os)[m]? = some o0' → o0'.box = true → ∃ k o o', nms[i0 + m]? = some k ∧ k ∉ s.fr ∧ hget s.hp k = some o ∧ os'[m]? = some o' ∧ o'.box = o.box) := by
   intro seen1 obs1 locs1 o1 os1 l1 g1 g2 g3 g4 g5 g5' g6 g7
   obtain ⟨locs2, e1, e2, e3, e4, e5, e6⟩ := xpO_rep hrel hlam hnil (i0 := i0 + 1) g1 g2 hks' (by simpa using hlen) g6
   subst g7
   refine ⟨locs2, g3.trans e1, e2, e3, by simp [e4], fun m o ho => ?_, fun m o0' ho hb => ?_⟩
   ·cases m with
    | zero =>
     simp at ho
     subst ho
     exact ⟨l1, g4, g5.mono (fun _ _ _ _ _ => rfl) (fun _ _ => rfl) (fun _ h => h) (fun _ _ hk => lk_pre e1 hk)⟩
    | succ m =>
     have := e5 m o (by simpa using ho)
     rw [show i0 + 1 + m = i0 + (m + 1) by omega] at this
     exact this
   ·cases m with
    | zero =>
     simp at ho
     subst ho
     obtain ⟨q1, o, q2, q3⟩ := g5' hb
     exact ⟨k, o, o1, hk0, q1, q2, rfl, q3⟩
    | succ m =>
     obtain ⟨k', o, o', q1, q2, q3, q4, q5⟩ := e6 m o0' (by simpa using ho) hb
     rw [show i0 + 1 + m = i0 + (m + 1) by omega] at q1
     exact ⟨k', o, o', q1, q2, q3, by simpa using q4, q5⟩
  unfold xpO at h
  split at h
  ·rename_i hbox
   split at h
   ·rename_i o c0 ho hfr hes0
    split at h
    ·rename_i cs hes
     split at h
     ·rename_i cs' seen1 obs1 hx
      split at h
      ·rename_i os1 seen2 obs2 hrec
       simp only [Option.some.injEq, Prod.mk.injEq] at h
       obtain ⟨rfl, rfl, rfl⟩ := h
       have hkfr : k ∉ s.fr := by simpa using hfr
       obtain ⟨l, hl, hO⟩ := hrel.obj k o ho
       obtain ⟨h1, h0, hO⟩ := hO
       have hcl : cs.length = o.sz := h1 cs (by rw [hes]; exact List.mem_singleton_self _)
       cases l with
       | nil => have := hO.1; rw [hes] at this; cases this
       | «at» b base cap sz =>
        obtain ⟨e1, e2, c, fr, e3, e4, e5, e6⟩ := hO
        have hcv : ∀ j, j < cs.length → ∃ u, c[base + 0 * sz + j]? = some u ∧ ∀ x, cs[j]? = some x → RepC w fz ρ u x := fun j hj => by
         obtain ⟨u, hu, hr⟩ := e6 0 j cs cs[j] (by rw [hes]; rfl) (List.getElem?_eq_getElem hj)
         exact ⟨u, hu, fun x hx => by rw [List.getElem?_eq_getElem hj] at hx; injection hx with hx; exact hx ▸ hr⟩
        let vs : List Value := (List.range cs.length).map fun j => (c[base + 0 * sz + j]?).getD undef
        have hvs : ∀ j u, vs[j]? = some u → j < cs.length ∧ c[base + 0 * sz + j]? = some u := fun j u hu => by
         simp only [vs, List.getElem?_map, Option.map_eq_some_iff] at hu
         obtain ⟨i, hi, hu⟩ := hu
         have hil := (List.getElem?_eq_some_iff.1 hi)
         obtain ⟨h1, h2⟩ := hil
         simp only [List.length_range] at h1
         simp only [List.getElem_range] at h2
         subst h2
         obtain ⟨u', hu', _⟩ := hcv j h1
         rw [hu'] at hu
         exact ⟨h1, by rw [hu']; exact congrArg some hu⟩
        have hrl : RepL w fz ρ vs cs := ⟨by simp [vs], fun j u x hu hx => by
         obtain ⟨h1, h2⟩ := hvs j u hu
         obtain ⟨u', hu', hr⟩ := hcv j h1
         rw [hu'] at h2
         injection h2 with h2
         exact h2 ▸ hr x hx⟩
        obtain ⟨locs1, g1, g2, g3, g4⟩ := xpL_rep hrel hlam hinv hsn hrl hx
        have hl1 : cs'.length = o.sz := by rw [← g4.1, hrl.1, hcl]
        refine step (o1 := { o with free := cs'.all C.free, es := [cs'] }) (l1 := .at b base cap sz) g2 g3 g1 (hlam i0 k hk0 hkfr _ hl) ?_ (fun _ => ⟨hkfr, o, ho, rfl⟩) hrec rfl
        refine ⟨fun e he => by rw [List.mem_singleton] at he; subst he; exact hl1, fun hf e he x hxx => by rw [List.mem_singleton] at he; subst he; exact List.all_eq_true.1 hf x hxx, e1, by rw [hes] at e2; exact e2, c, fr, e3, e4, e5, fun i j e x he hxx => ?_⟩
        cases i with
        | succ i => simp at he
        | zero =>
         simp at he
         subst he
         have hj := (List.getElem?_eq_some_iff.1 hxx).1
         have hjv : j < vs.length := by rw [g4.1]; exact hj
         have hu := List.getElem?_eq_getElem hjv
         exact ⟨vs[j], (hvs j _ hu).2, g4.2 j _ x hu hxx⟩
      ·cases h
     ·cases h
    ·cases h
   ·cases h
  ·rename_i hbox
   split at h
   ·rename_i os1 seen1 obs1 hrec
    split at h
    ·rename_i o ho hfr
     split at h
     ·rename_i hfree
      simp only [Option.some.injEq, Prod.mk.injEq] at h
      obtain ⟨rfl, rfl, rfl⟩ := h
      have hkfr : k ∉ s.fr := by simpa using hfr
      obtain ⟨l, hl, hO⟩ := hrel.obj k o ho
      simp only [Bool.and_eq_true] at hfree
      exact step hinv hsn (List.prefix_refl _) (hlam i0 k hk0 hkfr _ hl) (hO.free_any hfree.1 (fun _ _ _ _ _ => rfl) (fun _ _ => rfl) (fun _ h => h)) (fun e => absurd e hbox) hrec rfl
     ·cases h
    ·rename_i hno
     simp only [Option.some.injEq, Prod.mk.injEq] at h
     obtain ⟨rfl, rfl, rfl⟩ := h
     have : k ∈ s.fr ∨ ρ k = none := by
      by_cases hkfr : k ∈ s.fr
      ·exact .inl hkfr
      ·right
       cases hρ : ρ k with
       | none => rfl
       | some l =>
        obtain ⟨o, ho⟩ := hrel.dom1 k l hρ
        exact absurd (by simpa using hkfr) (hno o ho)
     exact step hinv hsn (List.prefix_refl _) (hnil i0 k hk0 this) ⟨fun e he => absurd he List.not_mem_nil, fun _ e he => absurd he List.not_mem_nil, rfl, rfl⟩ (fun e => absurd e hbox) hrec rfl
   ·cases h
theorem results_run [Globals] (hty : ∀ t y, ty t = some y → Ty.of P t = some y) {a : Act} (hrel : Rel w0 B f0 fz ρ s a.tmps w) {fn : Func} {ts : List T} (hts : fn.results.toList.mapM (resT ty s) = some ts) :
  ∃ vs : List Value, (results fn a.tmps).run P w = .ok (if h : vs.toArray.size = 1 then vs.toArray[0] else .tuple vs.toArray) w ∧ vs.length = ts.length ∧ ∀ (i : Nat) (v : Value) (t : T), vs[i]? = some v → ts[i]? = some t → RepT w fz ρ v t := by
 obtain ⟨vs, h1, h2, h3⟩ := results_rep (P := P) hty hrel hts
 refine ⟨vs, ?_, h2, h3⟩
 rw [results_eq, Array.mapM_eq_mapM_toList]
 simp only [Sem.run_bind, Sem.run_map, h1, Result.andThen_ok]
 rfl
theorem xpR_rep [Globals] (hrel : Rel w0 B f0 fz ρ s tm w) (hlam : Lam s ρ nms lam) {zss : List (List (Option (TypeId × Nat)))} {ts : List T} {t : T} {vs : List Value} {seen : List Nat} {obs : List Ob} (h2 : vs.length = ts.length) (h3 : ∀ (i : Nat) (v : Value) (t : T), vs[i]? = some v → ts[i]? = some t → RepT w fz ρ v t)
  (h : xpR ty s.hp s.fr nms zss ts = some (t, seen, obs)) : ∃ locs, ExpInv w fz ρ s.fr seen obs locs ∧ (∀ k ∈ seen, k ∉ nms) ∧ RepT w fz (lk lam nms.length locs) (if h : vs.toArray.size = 1 then vs.toArray[0] else .tuple vs.toArray) t := by
 unfold xpR at h
 split at h
 ·rename_i t0
  obtain ⟨locs, _, hinv, hsn, hr⟩ := xp1_rep hrel hlam expInv_nil (by simp) (h3 0 (vs[0]'(by rw [h2]; simp)) t0 (List.getElem?_eq_getElem _) rfl) h
  refine ⟨locs, hinv, hsn, ?_⟩
  rw [dif_pos (by simpa using h2)]
  exact hr.toT
 ·rename_i hne
  split at h
  ·rename_i ts' seen' obs' he
   simp only [Option.some.injEq, Prod.mk.injEq] at h
   obtain ⟨rfl, rfl, rfl⟩ := h
   obtain ⟨locs, _, hinv, hsn, hl, hr⟩ := xpTs_rep hrel hlam expInv_nil (by simp) h2 h3 he
   refine ⟨locs, hinv, hsn, ?_⟩
   rw [dif_neg]
   ·refine ⟨vs.toArray, rfl, by simpa using hl, fun i t ht => ?_⟩
    have hil := (List.getElem?_eq_some_iff.1 ht).1
    have : i < vs.length := by rw [hl]; exact hil
    exact ⟨vs[i], by simp [this], hr i _ t (List.getElem?_eq_getElem this) ht⟩
   ·intro hq
    have h1' : ts.length = 1 := by rw [← h2]; simpa using hq
    obtain ⟨t, ht⟩ := List.length_eq_one_iff.1 h1'
    exact hne t ht
  ·cases h
theorem outL_sound [Globals] (hty : ∀ t y, ty t = some y → Ty.of P t = some y) {a : Act} {w1 : World} {ρ0 : Nat → Option Loc} {obs0 : List Ob} (hin : LentIn w1 f0 ρ0 obs0) (hrel : Rel w1 (lentBs w1.heap.size ρ0) f0 fz ρ s a.tmps w) {fn : Func} {r : T × List Ob} (h : outL ty fn obs0 s = some r) :
  ∃ v fz' ρ', (results fn a.tmps).run P w = .ok v w ∧ OutL w1 w f0 fz' ρ0 ρ' v obs0 r := by
 unfold outL at h
 split at h
 ·rename_i ts hts
  split at h
  ·rename_i t seen obs hx
   split at h
   ·rename_i os seen' obs' ho
    injection h with h
    subst h
    obtain ⟨lam, hlamd⟩ : ∃ lam : Nat → Option Loc, lam = fun j => match (namesFrom 0 obs0)[j]? with
     | some k => if k ∈ s.fr then some .nil else some ((ρ k).getD .nil)
     | none => none := ⟨_, rfl⟩
    have hlam : Lam s ρ (namesFrom 0 obs0) lam := fun j k hj hk l hl => by
     subst hlamd
     simp only [hj, if_neg hk, hl, Option.getD_some]
    have hnil : ∀ j k, (namesFrom 0 obs0)[j]? = some k → k ∈ s.fr ∨ ρ k = none → lam j = some .nil := fun j k hj hk => by
     subst hlamd
     simp only [hj]
     split
     ·rfl
     ·rename_i hn
      rcases hk with hk | hk
      ·exact absurd hk hn
      ·rw [hk]; rfl
    have hlat : ∀ j b base cap sz, lam j = some (.at b base cap sz) → ∃ k, (namesFrom 0 obs0)[j]? = some k ∧ k ∉ s.fr ∧ ρ k = some (.at b base cap sz) := fun j b base cap sz hj => by
     subst hlamd
     simp only at hj
     split at hj
     ·rename_i k hk
      split at hj
      ·cases hj
      ·rename_i hn
       refine ⟨k, hk, hn, ?_⟩
       cases hρ : ρ k with
       | none => rw [hρ] at hj; cases hj
       | some l => rw [hρ] at hj; exact hj
     ·cases hj
    obtain ⟨vs, h1, h2, h3⟩ := results_run (P := P) hty hrel hts
    obtain ⟨locs1, hinv1, hsn1, hr⟩ := xpR_rep hrel hlam h2 h3 hx
    obtain ⟨locs, hpre, hinv, hsn, hosl, hos, hbx⟩ := xpO_rep (i0 := 0) hrel hlam hnil hinv1 hsn1 (fun m => .inl (by rw [Nat.zero_add])) namesFrom_length ho
    have hn : (namesFrom 0 obs0).length = os.length := by rw [namesFrom_length, hosl]
    refine ⟨_, fz, lk lam (namesFrom 0 obs0).length locs, h1, {
     below := hrel.below
     f0 := hrel.fz0
     f1 := hrel.fz1
     fl := hrel.fzl
     val := hr.mono (fun _ _ => rfl) (fun _ h => h) (fun _ _ hk => lk_pre hpre hk)
     obj := fun i o hi => ?_
     dom := fun k l hk => ?_
     inj := fun k k' b base cap sz base' cap' sz' hk hk' => ?_
     len := by simp only [List.length_append]; omega
     box := fun j o hj hb => ?_ }⟩
    ·by_cases hlt : i < os.length
     ·simp only at hi
      rw [List.getElem?_append_left hlt] at hi
      obtain ⟨l, hl, hO⟩ := hos i o hi
      rw [Nat.zero_add] at hl
      refine ⟨l, by unfold lk; rw [if_pos (by omega)]; exact hl, hO, fun b base cap sz e => ?_⟩
      obtain ⟨k, _, hkf, hk⟩ := hlat i b base cap sz (e ▸ hl)
      obtain ⟨g1, g2, _⟩ := hrel.own k b base cap sz hk
      exact ⟨(g2 hkf).1, g1, (g2 hkf).2⟩
     ·simp only at hi
      rw [List.getElem?_append_right (by omega)] at hi
      have hil := (List.getElem?_eq_some_iff.1 hi).1
      have hli : i - os.length < locs.length := by rw [← hinv.len]; exact hil
      have hloc := List.getElem?_eq_getElem hli
      refine ⟨locs[i - os.length], by unfold lk; rw [if_neg (by omega), hn]; exact hloc, (hinv.obj _ o _ hi hloc).2 _, fun b base cap sz e => ?_⟩
      obtain ⟨k, _, hkf, base', cap', sz', hk⟩ := hinv.at_ (i - os.length) b base cap sz (by rw [hloc, e])
      obtain ⟨g1, g2, _⟩ := hrel.own k b _ _ _ hk
      exact ⟨(g2 hkf).1, g1, (g2 hkf).2⟩
    ·simp only [List.length_append]
     unfold lk at hk
     split at hk
     ·omega
     ·have := (List.getElem?_eq_some_iff.1 hk).1
      have := hinv.len
      omega
    ·have hnew : ∀ k b base cap sz, ¬ k < (namesFrom 0 obs0).length → lk lam (namesFrom 0 obs0).length locs k = some (.at b base cap sz) → ∃ q ∈ seen', q ∉ s.fr ∧ ∃ base' cap' sz', ρ q = some (.at b base' cap' sz') := fun k b base cap sz hlt e => by
      unfold lk at e
      rw [if_neg hlt] at e
      exact hinv.at_ _ b base cap sz e
     have hold : ∀ k b base cap sz, k < (namesFrom 0 obs0).length → lk lam (namesFrom 0 obs0).length locs k = some (.at b base cap sz) → ∃ q, (namesFrom 0 obs0)[k]? = some q ∧ q ∉ s.fr ∧ ρ q = some (.at b base cap sz) := fun k b base cap sz hlt e => by
      unfold lk at e
      rw [if_pos hlt] at e
      exact hlat _ b base cap sz e
     by_cases c1 : k < (namesFrom 0 obs0).length <;> by_cases c2 : k' < (namesFrom 0 obs0).length
     ·obtain ⟨q, q1, q2, q3⟩ := hold k _ _ _ _ c1 hk
      obtain ⟨p, p1, p2, p3⟩ := hold k' _ _ _ _ c2 hk'
      have := hrel.inj q p b _ _ _ _ _ _ q2 p2 q3 p3
      subst this
      exact names_inj q1 p1
     ·obtain ⟨q, q1, q2, q3⟩ := hold k _ _ _ _ c1 hk
      obtain ⟨p, p1, p2, _, _, _, p3⟩ := hnew k' _ _ _ _ c2 hk'
      have := hrel.inj q p b _ _ _ _ _ _ q2 p2 q3 p3
      subst this
      exact absurd (List.mem_of_getElem? q1) (hsn q p1)
     ·obtain ⟨q, q1, q2, q3⟩ := hold k' _ _ _ _ c2 hk'
      obtain ⟨p, p1, p2, _, _, _, p3⟩ := hnew k _ _ _ _ c1 hk
      have := hrel.inj q p b _ _ _ _ _ _ q2 p2 q3 p3
      subst this
      exact absurd (List.mem_of_getElem? q1) (hsn q p1)
     ·unfold lk at hk hk'
      rw [if_neg c1] at hk
      rw [if_neg c2] at hk'
      have := hinv.inj _ _ b base cap sz base' cap' sz' hk hk'
      omega
    ·obtain ⟨k, o1, o', q1, q2, q3, q4, q5⟩ := hbx j o hj hb
     rw [Nat.zero_add] at q1
     have hkn : k = lentH true j := by
      rw [namesFrom_get, hj, Option.map_some, Nat.zero_add, hb] at q1
      injection q1 with q1
      exact q1.symm
     have hnm : lentNm k = true := by rw [hkn]; unfold lentNm lentH; simp
     obtain ⟨l0, g1, _⟩ := hin.obj j o hj
     rw [hb, ← hkn] at g1
     obtain ⟨_, g2, o2, g3, g4⟩ := hrel.boxes k l0 (by show (if lentNm k = true then ρ0 k else none) = some l0; rw [if_pos hnm]; exact g1)
     rw [q3] at g3
     injection g3 with g3
     refine ⟨?_, o', ?_, by rw [q5, g3]; exact g4⟩
     ·rw [← hkn, g1]
      unfold lk
      rw [if_pos (List.getElem?_eq_some_iff.1 q1).1]
      exact hlam j k q1 q2 l0 g2
     ·simp only
      rw [List.getElem?_append_left (List.getElem?_eq_some_iff.1 q4).1]
      exact q4
   ·cases h
  ·cases h
 ·cases h
end
end Go.Vabs
