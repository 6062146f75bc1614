/- A library: what is lent to a call, and what its caller has of it behind. No condition. -/
import Derived.Test.YthmnnieiibeiaaaVPA
set_option linter.unusedSimpArgs false
set_option linter.unusedVariables false
namespace Go.Vabs
open Go.RowKit
section
variable {w w' : World} {fz fz' : Nat → Prop} {ρ ρ' : Nat → Option Loc} {v : Value} {σ : Nat → Nat}
theorem RepC.to {c : C} (h : RepC w fz ρ v c) (hw : ∀ b, fz b → w'.heap[b]? = w.heap[b]?) (hf : ∀ b, fz b → fz' b) (hr : ∀ k ∈ c.hds, ∀ l, ρ k = some l → ρ' (σ k) = some l) : RepC w' fz' ρ' v (c.shift σ) := by
 cases h with
 | frz hq =>
  have : c.shift σ = c := by cases hq <;> rfl
  rw [this]
  exact .frz (hq.mono hw hf)
 | nil k e => exact .nil _ (hr k (by simp [C.hds]) _ e)
 | ref k off len b base cap sz a e hc ha hs => exact .ref _ off len b base cap sz a (hr k (by simp [C.hds]) _ e) hc ha hs
 | ptr k i off b base cap sz e => exact .ptr _ i off b base cap sz (hr k (by simp [C.hds]) _ e)
theorem RepC.on {c : C} (h : RepC w fz ρ v c) (hw : ∀ b, fz b → w'.heap[b]? = w.heap[b]?) (hf : ∀ b, fz b → fz' b) (hr : ∀ k ∈ c.hds, ∀ l, ρ k = some l → ρ' k = some l) : RepC w' fz' ρ' v c := by
 cases h with
 | frz hq => exact .frz (hq.mono hw hf)
 | nil k e => exact .nil _ (hr k (by simp [C.hds]) _ e)
 | ref k off len b base cap sz a e hc ha hs => exact .ref _ off len b base cap sz a (hr k (by simp [C.hds]) _ e) hc ha hs
 | ptr k i off b base cap sz e => exact .ptr _ i off b base cap sz (hr k (by simp [C.hds]) _ e)
theorem RepL.on {vs : List Value} {cs : List C} (h : RepL w fz ρ vs cs) (hw : ∀ b, fz b → w'.heap[b]? = w.heap[b]?) (hf : ∀ b, fz b → fz' b) (hr : ∀ k ∈ cs.flatMap C.hds, ∀ l, ρ k = some l → ρ' k = some l) : RepL w' fz' ρ' vs cs :=
 ⟨h.1, fun i v c hv hc => (h.2 i v c hv hc).on hw hf (fun k hk => hr k (List.mem_flatMap.2 ⟨c, List.mem_of_getElem? hc, hk⟩))⟩
theorem Rep1.on {t : T} (h : Rep1 w fz ρ v t) (hw : ∀ b, fz b → w'.heap[b]? = w.heap[b]?) (hf : ∀ b, fz b → fz' b) (hr : ∀ k ∈ t.hds1, ∀ l, ρ k = some l → ρ' k = some l) : Rep1 w' fz' ρ' v t := by
 cases t with
 | c x => exact RepC.on h hw hf hr
 | agg cs => obtain ⟨vs, e, h⟩ := h; exact ⟨vs, e, h.on hw hf hr⟩
 | tup _ => exact h.elim
 | itr _ _ => exact h.elim
 | junk => trivial
theorem RepT.on {t : T} (h : RepT w fz ρ v t) (hw : ∀ b, fz b → w'.heap[b]? = w.heap[b]?) (hf : ∀ b, fz b → fz' b) (hr : ∀ k ∈ t.hds, ∀ l, ρ k = some l → ρ' k = some l) : RepT w' fz' ρ' v t := by
 cases t with
 | c x => exact RepC.on h hw hf hr
 | agg cs => obtain ⟨vs, e, h⟩ := h; exact ⟨vs, e, h.on hw hf hr⟩
 | tup ts =>
  obtain ⟨vs, e, hs, h⟩ := h
  refine ⟨vs, e, hs, fun i t ht => ?_⟩
  obtain ⟨v', hv, h1⟩ := h i t ht
  exact ⟨v', hv, h1.on hw hf (fun k hk => hr k (List.mem_flatMap.2 ⟨t, List.mem_of_getElem? ht, hk⟩))⟩
 | itr _ _ => trivial
 | junk => trivial
theorem C.hds_of_free {c : C} (h : c.free = true) : c.hds = [] := by cases c <;> first | rfl | cases h
theorem RepO.on {l : Loc} {o : Ob} (h : RepO w fz ρ l o) (hl : ∀ b base cap sz, l = .at b base cap sz → w'.heap[b]? = w.heap[b]?) (hw : ∀ b, fz b → w'.heap[b]? = w.heap[b]?) (hf : ∀ b, fz b → fz' b) (hr : ∀ k ∈ o.hds, ∀ l, ρ k = some l → ρ' k = some l) : RepO w' fz' ρ' l o := by
 obtain ⟨h1, h0, h⟩ := h
 refine ⟨h1, h0, ?_⟩
 cases l with
 | nil => exact h
 | «at» b base cap sz =>
  obtain ⟨h1, h2, c, fr, h3, h4, h5, h6⟩ := h
  refine ⟨h1, h2, c, fr, (hl _ _ _ _ rfl).trans h3, h4, h5, fun i j e x he hx => ?_⟩
  obtain ⟨v, hv, hrep⟩ := h6 i j e x he hx
  refine ⟨v, hv, hrep.on hw hf (fun k hk => ?_)⟩
  cases hfr : o.free with
  | true => rw [C.hds_of_free (h0 hfr e (List.mem_of_getElem? he) x (List.mem_of_getElem? hx))] at hk; cases hk
  | false => exact hr k (by simp only [Ob.hds, hfr, Bool.false_eq_true, if_false]; exact List.mem_flatMap.2 ⟨e, List.mem_of_getElem? he, List.mem_flatMap.2 ⟨x, List.mem_of_getElem? hx, hk⟩⟩)
theorem RepO.to {l : Loc} {o : Ob} (h : RepO w fz ρ l o) (hl : ∀ b base cap sz, l = .at b base cap sz → w'.heap[b]? = w.heap[b]?) (hw : ∀ b, fz b → w'.heap[b]? = w.heap[b]?) (hf : ∀ b, fz b → fz' b) (hr : ∀ k ∈ o.hds, ∀ l, ρ k = some l → ρ' (σ k) = some l) : RepO w' fz' ρ' l (o.shift σ) := by
 unfold Ob.shift
 split
 ·rename_i hfr
  exact h.free_any hfr hl hw hf
 ·rename_i hfr
  obtain ⟨h1, h0, h⟩ := h
  refine ⟨fun e he => ?_, fun hq => absurd hq hfr, ?_⟩
  ·obtain ⟨e0, he0, rfl⟩ := List.mem_map.1 he
   simpa using h1 e0 he0
  cases l with
  | nil => exact ⟨by simp [h.1], h.2⟩
  | «at» b base cap sz =>
   obtain ⟨h1, h2, c, fr, h3, h4, h5, h6⟩ := h
   refine ⟨h1, by simpa using h2, c, fr, (hl _ _ _ _ rfl).trans h3, h4, h5, fun i j e x he hx => ?_⟩
   simp only [List.getElem?_map, Option.map_eq_some_iff] at he
   obtain ⟨e0, he0, rfl⟩ := he
   rw [List.getElem?_map, Option.map_eq_some_iff] at hx
   obtain ⟨x0, hx0, rfl⟩ := hx
   obtain ⟨v, hv, hrep⟩ := h6 i j e0 x0 he0 hx0
   exact ⟨v, hv, hrep.to hw hf (fun k hk => hr k (by simp only [Ob.hds, hfr, Bool.false_eq_true, if_false]; exact List.mem_flatMap.2 ⟨e0, List.mem_of_getElem? he0, List.mem_flatMap.2 ⟨x0, List.mem_of_getElem? hx0, hk⟩⟩))⟩
theorem Ob.shift_box {o : Ob} : (o.shift σ).box = o.box := by unfold Ob.shift; split <;> rfl
end
theorem C.kill_hds {h k : Nat} {c : C} (hk : k ∈ (c.kill h).hds) : k ≠ h ∧ k ∈ c.hds := by
 unfold C.kill at hk
 split at hk
 ·simp [C.hds] at hk
 ·rename_i hn
  refine ⟨fun e => hn ?_, hk⟩
  subst e
  cases c <;> simp_all [C.hds, C.has]
theorem T.kill1_hds {h k : Nat} {t : T} (hk : k ∈ (t.kill1 h).hds1) : k ≠ h ∧ k ∈ t.hds1 := by
 cases t with
 | c x => exact C.kill_hds hk
 | agg cs =>
  obtain ⟨c, hc, hk⟩ := List.mem_flatMap.1 hk
  obtain ⟨c0, h0, rfl⟩ := List.mem_map.1 hc
  obtain ⟨h1, h2⟩ := C.kill_hds hk
  exact ⟨h1, List.mem_flatMap.2 ⟨c0, h0, h2⟩⟩
 | _ => simp [T.kill1, T.hds1] at hk
theorem T.kill_hds {h k : Nat} {t : T} (hk : k ∈ (t.kill h).hds) : k ≠ h ∧ k ∈ t.hds := by
 cases t with
 | c x => exact C.kill_hds hk
 | agg cs => exact T.kill1_hds (t := .agg cs) hk
 | tup ts =>
  obtain ⟨t, ht, hk⟩ := List.mem_flatMap.1 hk
  obtain ⟨t0, h0, rfl⟩ := List.mem_map.1 ht
  obtain ⟨h1, h2⟩ := T.kill1_hds hk
  exact ⟨h1, List.mem_flatMap.2 ⟨t0, h0, h2⟩⟩
 | itr _ _ => simp [T.kill, T.hds, T.hds1] at hk
 | junk => simp [T.kill, T.hds, T.hds1] at hk
theorem Ob.killF_hds {h k : Nat} {o : Ob} (hk : k ∈ (o.killF h).hds) : k ≠ h ∧ k ∈ o.hds := by
 unfold Ob.killF at hk
 split at hk
 ·rename_i hf
  simp [Ob.hds, hf] at hk
 ·rename_i hf
  have hf' : (o.kill h).free = false := by simpa [Ob.kill] using hf
  simp only [Ob.hds, hf', Bool.false_eq_true, if_false] at hk
  obtain ⟨e, he, hk⟩ := List.mem_flatMap.1 hk
  obtain ⟨c, hc, hk⟩ := List.mem_flatMap.1 hk
  simp only [Ob.kill] at he
  obtain ⟨e0, he0, rfl⟩ := List.mem_map.1 he
  obtain ⟨c0, hc0, rfl⟩ := List.mem_map.1 hc
  obtain ⟨h1, h2⟩ := C.kill_hds hk
  refine ⟨h1, ?_⟩
  simp only [Ob.hds, if_neg hf]
  exact List.mem_flatMap.2 ⟨e0, he0, List.mem_flatMap.2 ⟨c0, hc0, h2⟩⟩
theorem Ob.killF_box {h : Nat} {o : Ob} : (o.killF h).box = o.box := by unfold Ob.killF; split <;> rfl
section
variable {P : Program} {ty : Tys} {w0 : World} {B : Bs} {f0 fz : Nat → Prop} {ρ : Nat → Option Loc} {s : St} {tm : Array Value} {w : World}
theorem Rel.killed [Globals] (h : Nat) (hrel : Rel w0 B f0 fz ρ s tm w) : Rel w0 B f0 fz ρ { tm := s.tm.map (T.kill h), hp := s.hp.map fun p => (p.1, p.2.killF h), fr := s.fr } tm w where
 size := by simp [hrel.size]
 tmp := fun i t ht => by
  rw [List.getElem?_map, Option.map_eq_some_iff] at ht
  obtain ⟨t0, h0, rfl⟩ := ht
  obtain ⟨u, hu, h1⟩ := hrel.tmp i t0 h0
  exact ⟨u, hu, h1.kill h (fun _ _ => rfl) (fun _ hb => hb) (fun _ _ _ e => e)⟩
 dom1 := fun k l hk => by
  obtain ⟨o, ho⟩ := hrel.dom1 k l hk
  exact ⟨o.killF h, by simp only; rw [hget_map (fun x => x.killF h), ho]; rfl⟩
 obj := fun k o hk => by
  simp only at hk
  rw [hget_map (fun x => x.killF h), Option.map_eq_some_iff] at hk
  obtain ⟨x, hx, rfl⟩ := hk
  obtain ⟨l, hl, hO⟩ := hrel.obj k x hx
  exact ⟨l, hl, hO.killF (fun _ hb => hb) (fun _ _ _ e => e)⟩
 inj := hrel.inj
 own := hrel.own
 fzl := hrel.fzl
 fz0 := hrel.fz0
 fz1 := hrel.fz1
 below := hrel.below
 frd := fun k hk => by
  obtain ⟨o, ho⟩ := hrel.frd k hk
  exact ⟨o.killF h, by simp only; rw [hget_map (fun x => x.killF h), ho]; rfl⟩
 glz := hrel.glz
 itr := fun i q pos ht => by
  rw [List.getElem?_map, Option.map_eq_some_iff] at ht
  obtain ⟨t0, h0, ht⟩ := ht
  rw [kill_itr ht] at h0
  exact hrel.itr i q pos h0
 boxes := fun k l hk => by
  obtain ⟨h1, h2, o, h3, h4⟩ := hrel.boxes k l hk
  exact ⟨h1, h2, o.killF h, by simp only; rw [hget_map (fun x => x.killF h), h3]; rfl, by rw [Ob.killF_box]; exact h4⟩
theorem killS_sound [Globals] : ∀ (rs : List Nat) {s : St}, Rel w0 B f0 fz ρ s tm w → Rel w0 B f0 fz ρ (killS rs s) tm w ∧ (killS rs s).fr = s.fr ∧ (∀ t ∈ (killS rs s).tm, ∀ k ∈ t.hds, k ∉ rs ∧ ∃ t0 ∈ s.tm, k ∈ t0.hds) ∧
  (∀ q o, hget (killS rs s).hp q = some o → ∃ o0, hget s.hp q = some o0 ∧ o.box = o0.box ∧ ∀ k ∈ o.hds, k ∉ rs ∧ k ∈ o0.hds) ∧ (∀ q o0, hget s.hp q = some o0 → ∃ o, hget (killS rs s).hp q = some o)
 | [], s, hrel => ⟨hrel, rfl, fun t ht k hk => ⟨by simp, t, ht, hk⟩, fun q o hq => ⟨o, hq, rfl, fun k hk => ⟨by simp, hk⟩⟩, fun q o hq => ⟨o, hq⟩⟩
 | h :: rs, s, hrel => by
  obtain ⟨g1, g2, g3, g4, g5⟩ := killS_sound rs (hrel.killed h)
  refine ⟨g1, g2, fun t ht k hk => ?_, fun q o hq => ?_, fun q o0 hq => ?_⟩
  ·obtain ⟨e1, t0, e2, e3⟩ := g3 t ht k hk
   obtain ⟨t1, h1, rfl⟩ := List.mem_map.1 e2
   obtain ⟨e4, e5⟩ := T.kill_hds e3
   exact ⟨by simp [e4, e1], t1, h1, e5⟩
  ·obtain ⟨o0, e1, e2, e3⟩ := g4 q o hq
   simp only at e1
   rw [hget_map (fun x => x.killF h), Option.map_eq_some_iff] at e1
   obtain ⟨x, hx, rfl⟩ := e1
   refine ⟨x, hx, by rw [e2, Ob.killF_box], fun k hk => ?_⟩
   obtain ⟨e4, e5⟩ := e3 k hk
   obtain ⟨e6, e7⟩ := Ob.killF_hds e5
   exact ⟨by simp [e6, e4], e7⟩
  ·exact g5 q (o0.killF h) (by simp only; rw [hget_map (fun x => x.killF h), hq]; rfl)
end
theorem putL_get : ∀ {hs : List Nat} {os : List Ob} {hp : Heap}, hs.Nodup → hs.length ≤ os.length → (∀ (j h : Nat) (o : Ob), hs[j]? = some h → os[j]? = some o → hget (putL hp hs os) h = some o) ∧ ∀ k, k ∉ hs → hget (putL hp hs os) k = hget hp k
 | [], os, hp, _, _ => ⟨by simp, fun k _ => rfl⟩
 | h :: hs, [], hp, _, hl => by simp at hl
 | h :: hs, o :: os, hp, hn, hl => by
  rw [List.nodup_cons] at hn
  obtain ⟨h1, h2⟩ := putL_get (hp := hput hp h o) hn.2 (by simpa using hl)
  refine ⟨fun j k o' hj ho => ?_, fun k hk => ?_⟩
  ·cases j with
   | zero =>
    simp at hj ho
    subst hj
    subst ho
    simp only [putL]
    rw [h2 _ hn.1]
    exact hget_hput _ _ _
   | succ j => exact h1 j k o' (by simpa using hj) (by simpa using ho)
  ·simp only [List.mem_cons, not_or] at hk
   simp only [putL]
   rw [h2 k hk.2]
   exact hget_hput_ne _ _ _ _ hk.1
theorem once_nodup : ∀ (l seen : List Nat), seen.Nodup → (once seen l).Nodup
 | [], seen, h => h
 | a :: l, seen, h => by
  unfold once
  split
  ·exact once_nodup l seen h
  ·rename_i hn
   refine once_nodup l _ ?_
   rw [List.nodup_append]
   refine ⟨h, by simp, fun x hx y hy => ?_⟩
   rw [List.mem_singleton] at hy
   subst hy
   intro e
   subst e
   exact hn (by simpa using hx)
theorem lentHs_nodup (hp : Heap) (all : Bool) (ts : List T) : (lentHs hp all ts).Nodup := once_nodup _ _ (once_nodup _ _ (once_nodup _ _ (by simp)))
theorem nodup_get {l : List Nat} (h : l.Nodup) {i j a : Nat} (hi : l[i]? = some a) (hj : l[j]? = some a) : i = j := by
 obtain ⟨h1, e1⟩ := List.getElem?_eq_some_iff.1 hi
 obtain ⟨h2, e2⟩ := List.getElem?_eq_some_iff.1 hj
 exact (List.getElem_inj h).1 (e1.trans e2.symm)
theorem ixOf_get {l : List Nat} (hinj : ∀ (i j a : Nat), l[i]? = some a → l[j]? = some a → i = j) {j a : Nat} (h : l[j]? = some a) : ixOf l a = some j := by
 cases hi : ixOf l a with
 | none => exact absurd (List.mem_of_getElem? h) (ixOf_none hi)
 | some i => rw [hinj i j a (ixOf_some hi) h]
theorem lentObs_get {hp : Heap} {fr hs : List Nat} : ∀ {l : List Nat} {obs : List Ob}, lentObs hp fr hs l = some obs → obs.length = l.length ∧ ∀ (j h : Nat), l[j]? = some h → ∃ o, obs[j]? = some o ∧ hget hp h = some o ∧ h ∉ fr ∧ ∀ k ∈ o.hds, k ∈ hs
 | [], obs, h => by
  simp only [lentObs, Option.some.injEq] at h
  subst h
  exact ⟨rfl, by simp⟩
 | h :: l, obs, e => by
  simp only [lentObs] at e
  split at e
  ·rename_i o ho
   split at e
   ·rename_i hc
    rw [Option.map_eq_some_iff] at e
    obtain ⟨os, hos, rfl⟩ := e
    obtain ⟨g1, g2⟩ := lentObs_get hos
    refine ⟨by simp [g1], fun j k hj => ?_⟩
    cases j with
    | zero =>
     simp at hj
     subst hj
     exact ⟨o, rfl, ho, by simpa using hc.1, fun k hk => by simpa using List.all_eq_true.1 hc.2 k hk⟩
    | succ j =>
     obtain ⟨o', q⟩ := g2 j k (by simpa using hj)
     exact ⟨o', by simpa using q.1, q.2⟩
   ·cases e
  ·cases e
end Go.Vabs
set_option linter.unusedSimpArgs false
set_option linter.unusedVariables false
namespace Go.Vabs
open Go.RowKit
section
variable {P : Program} {ty : Tys} {w0 : World} {B : Bs} {f0 fz : Nat → Prop} {ρ : Nat → Option Loc} {s : St} {tm : Array Value} {w : World}
open Classical in
theorem takeL_sound [Globals] (hrel : Rel w0 B f0 fz ρ s tm w) (hB : B.n ≤ w.heap.size) {w' : World} {fL fz' : Nat → Prop} {ρ0 ρr : Nat → Option Loc} {v : Value} {r : T × List Ob} {hs dhs : List Nat} {obs obs' : List Ob} {d : Nat} {s' : St}
  (hobs : lentObs s.hp s.fr hs hs = some obs) (hnd : hs.Nodup) (hol : obs'.length = obs.length) (hob : ∀ (j : Nat) (o : Ob), obs[j]? = some o → ∃ o', obs'[j]? = some o' ∧ o'.box = o.box)
  (hρ0 : ∀ k l, ρ0 k = some l → ∃ (j h : Nat), hs[j]? = some h ∧ ρ h = some l) (hρ1 : ∀ (j h : Nat) (o : Ob), hs[j]? = some h → obs[j]? = some o → ρ0 (lentH o.box j) = ρ h)
  (hL : ∀ b, fL b ↔ fz b ∨ ∃ k ∈ dhs, ∃ base cap sz, ρ k = some (.at b base cap sz)) (hdh : ∀ k ∈ dhs, k ∉ hs) (ho : OutL w w' fL fz' ρ0 ρr v obs' r) (h : takeL s d hs dhs r = some s') :
  ∃ fz2 ρ2, Rel w0 B f0 fz2 ρ2 s' (tm.setIfInBounds d v) w' ∧ ∀ b, fz b → fz2 b := by
 obtain ⟨hlen, hget0⟩ := lentObs_get hobs
 unfold takeL at h
 split at h
 ·rename_i hp hadd
  injection h with h
  subst h
  obtain ⟨hK, hKfr, hKtm, hKhp, hKk⟩ := killS_sound (rowsOf s.hp hs) hrel
  generalize killS (rowsOf s.hp hs) s = s1 at hK hKfr hKtm hKhp hKk hadd
  have hlr : hs.length ≤ (r.2.map (Ob.shift (backH hs d))).length := by
   have := ho.len
   rw [List.length_map]
   omega
  obtain ⟨hp1, hp2⟩ := putL_get (hp := s1.hp) hnd hlr
  obtain ⟨ha1, ha2, ha3⟩ := addObs_get hadd
  simp only [Nat.zero_add, List.length_map, List.length_drop] at ha1 ha2 ha3
  let isNew : Nat → Prop := fun k => ∃ j, j < r.2.length - hs.length ∧ k = d + 10000 * j
  let ρ2 : Nat → Option Loc := fun k => if hk : isNew k then ρr (hs.length + hk.choose) else match ixOf hs k with
   | some j => ρr j
   | none => ρ k
  have hinj : ∀ (i j a : Nat), hs[i]? = some a → hs[j]? = some a → i = j := fun i j a => nodup_get hnd
  -- names
  have hin : ∀ (j k : Nat), hs[j]? = some k → ¬ isNew k := fun j k hj ⟨i, hi, e⟩ => by
   have h1 := ha3 i hi
   have hjl := (List.getElem?_eq_some_iff.1 hj).1
   have hjr : j < (r.2.map (Ob.shift (backH hs d))).length := by omega
   rw [← e, hp1 j k _ hj (List.getElem?_eq_getElem hjr)] at h1
   cases h1
  have hnew0 : ∀ k, isNew k → k ∉ hs ∧ hget s.hp k = none := fun k hk => by
   have hkh : k ∉ hs := fun hm => by
    obtain ⟨j, hj⟩ := List.mem_iff_getElem?.1 hm
    exact hin j k hj hk
   refine ⟨hkh, ?_⟩
   obtain ⟨i, hi, e⟩ := hk
   have h1 := ha3 i hi
   rw [← e, hp2 k hkh] at h1
   cases hq : hget s.hp k with
   | none => rfl
   | some o => obtain ⟨o', ho'⟩ := hKk k o hq; rw [h1] at ho'; cases ho'
  have hρnone : ∀ k, isNew k → ρ k = none := fun k hk => by
   cases hq : ρ k with
   | none => rfl
   | some l => obtain ⟨o, ho⟩ := hrel.dom1 k l hq; rw [(hnew0 k hk).2] at ho; cases ho
  have hρnew : ∀ j, j < r.2.length - hs.length → ρ2 (d + 10000 * j) = ρr (hs.length + j) := fun j hj => by
   have hk : isNew (d + 10000 * j) := ⟨j, hj, rfl⟩
   simp only [ρ2, dif_pos hk]
   have := hk.choose_spec.2
   congr 1
   omega
  have hρhs : ∀ (j k : Nat), hs[j]? = some k → ρ2 k = ρr j := fun j k hj => by
   simp only [ρ2, dif_neg (hin j k hj), ixOf_get hinj hj]
  have hρold : ∀ k, ¬ isNew k → k ∉ hs → ρ2 k = ρ k := fun k hk hkh => by
   simp only [ρ2, dif_neg hk]
   cases hi : ixOf hs k with
   | none => rfl
   | some j => exact absurd (List.mem_of_getElem? (ixOf_some hi)) hkh
  have hback : ∀ i l, ρr i = some l → ρ2 (backH hs d i) = some l := fun i l hi => by
   have hlt := ho.dom i l hi
   unfold backH
   by_cases hil : i < hs.length
   ·rw [List.getElem?_eq_getElem hil, Option.getD_some, hρhs i _ (List.getElem?_eq_getElem hil)]
    exact hi
   ·rw [List.getElem?_eq_none (by omega), Option.getD_none, hρnew _ (by omega), show hs.length + (i - hs.length) = i by omega]
    exact hi
  -- what was lent
  have hlent : ∀ b, lentAt ρ0 b → ∃ k ∈ hs, k ∉ s.fr ∧ ∃ base cap sz, ρ k = some (.at b base cap sz) := fun b ⟨q, base, cap, sz, hq⟩ => by
   obtain ⟨j, k, hj, hk⟩ := hρ0 q _ hq
   obtain ⟨_, _, _, hfr, _⟩ := hget0 j k hj
   exact ⟨k, List.mem_of_getElem? hj, hfr, base, cap, sz, hk⟩
  have hlown : ∀ b, lentAt ρ0 b → B.owns b ∧ ¬ fz b := fun b hb => by
   obtain ⟨k, _, hfr, base, cap, sz, hk⟩ := hlent b hb
   exact (hrel.own k b base cap sz hk).2.1 hfr
  have hrow : ∀ k, k ∈ hs → k ∉ rowsOf s.hp hs → ρ2 k = ρ k := fun k hk hr => by
   obtain ⟨j, hj⟩ := List.mem_iff_getElem?.1 hk
   obtain ⟨o, ho1, ho2, _⟩ := hget0 j k hj
   have hbox : o.box = true := by
    cases hb : o.box with
    | true => rfl
    | false => exact absurd (List.mem_filter.2 ⟨hk, by simp [ho2, hb]⟩) hr
   obtain ⟨o', e1, e2⟩ := hob j o ho1
   rw [hρhs j k hj, (ho.box j o' e1 (by rw [e2]; exact hbox)).1, ← hρ1 j k o hj ho1, hbox]
  have hkeep : ∀ k l, k ∉ rowsOf s.hp hs → ρ k = some l → ρ2 k = some l := fun k l hr hk => by
   by_cases hm : k ∈ hs
   ·rw [hrow k hm hr]; exact hk
   ·rw [hρold k (fun hn => by rw [hρnone k hn] at hk; cases hk) hm]; exact hk
  have hsz := ho.below.size
  have hheap : ∀ b, b < w.heap.size → ¬ lentAt ρ0 b → w'.heap[b]? = w.heap[b]? := fun b hb hn => ho.below.block b (fun e => e.elim (fun e => by have : w.heap.size ≤ b := e; omega) hn)
  have hfzw : ∀ b, fz b → w'.heap[b]? = w.heap[b]? := fun b hb => hheap b (hrel.fzl b hb) (fun hq => (hlown b hq).2 hb)
  have hfz2 : ∀ b, fz b → fz' b := fun b hb => ho.f0 b ((hL b).2 (.inl hb))
  have hother : ∀ k b base cap sz, k ∉ hs → ρ k = some (.at b base cap sz) → ¬ lentAt ρ0 b := fun k b base cap sz hk hρ hq => by
   obtain ⟨k', hk', hfr', _, _, _, hρ'⟩ := hlent b hq
   by_cases hm : k ∈ s.fr
   ·exact (hlown b hq).2 ((hrel.own k b _ _ _ hρ).2.2 hm)
   ·exact hk (by rw [hrel.inj k k' b _ _ _ _ _ _ hm hfr' hρ hρ']; exact hk')
  -- blocks
  have hg1 : ∀ j (o : Ob), r.2[hs.length + j]? = some o → hget hp (d + 10000 * j) = some (o.shift (backH hs d)) := fun j o hj => ha1 j _ (by rw [List.getElem?_map, List.getElem?_drop, hj]; rfl)
  have hg2 : ∀ (j k : Nat) (o : Ob), hs[j]? = some k → r.2[j]? = some o → hget hp k = some (o.shift (backH hs d)) := fun j k o hj ho => by
   rw [ha2 k (fun i hi e => hin j k hj ⟨i, hi, e⟩)]
   exact hp1 j k _ hj (by rw [List.getElem?_map, ho]; rfl)
  have hg3 : ∀ k, ¬ isNew k → k ∉ hs → hget hp k = hget s1.hp k := fun k hk hkh => by
   rw [ha2 k (fun i hi e => hk ⟨i, hi, e⟩)]
   exact hp2 k hkh
  have hrj : ∀ (j k : Nat), hs[j]? = some k → ∃ o, r.2[j]? = some o := fun j k hj => by
   have := (List.getElem?_eq_some_iff.1 hj).1
   have h2 := ho.len
   exact ⟨r.2[j], List.getElem?_eq_getElem (by omega)⟩
  -- which they are
  have cls : ∀ k, (∃ i o, r.2[i]? = some o ∧ hget hp k = some (o.shift (backH hs d)) ∧ ρ2 k = ρr i ∧ k = backH hs d i ∧ k ∉ s.fr ∧ k ∉ dhs.filter fun h => (hget s.hp h).isSome) ∨ (¬ isNew k ∧ k ∉ hs ∧ hget hp k = hget s1.hp k ∧ ρ2 k = ρ k) := fun k => by
   by_cases hk : isNew k
   ·obtain ⟨hkh, hkn⟩ := hnew0 k hk
    obtain ⟨j, hj, e⟩ := hk
    have hlt : hs.length + j < r.2.length := by omega
    refine .inl ⟨hs.length + j, r.2[hs.length + j], List.getElem?_eq_getElem hlt, by rw [e]; exact hg1 j _ (List.getElem?_eq_getElem hlt), by rw [e]; exact hρnew j hj, ?_, fun hm => ?_, fun hm => ?_⟩
    ·unfold backH
     rw [List.getElem?_eq_none (by omega), Option.getD_none, Nat.add_sub_cancel_left]
     exact e
    ·obtain ⟨o, ho⟩ := hrel.frd k hm
     rw [hkn] at ho
     cases ho
    ·have := (List.mem_filter.1 hm).2
     rw [hkn] at this
     cases this
   ·by_cases hkh : k ∈ hs
    ·obtain ⟨j, hj⟩ := List.mem_iff_getElem?.1 hkh
     obtain ⟨o, hro⟩ := hrj j k hj
     obtain ⟨_, _, _, hfr, _⟩ := hget0 j k hj
     refine .inl ⟨j, o, hro, hg2 j k o hj hro, hρhs j k hj, ?_, hfr, fun hm => hdh k (List.mem_filter.1 hm).1 hkh⟩
     unfold backH
     rw [hj]
     rfl
    ·exact .inr ⟨hk, hkh, hg3 k hk hkh, hρold k hk hkh⟩
  have hownA : ∀ i (o : Ob) b base cap sz, r.2[i]? = some o → ρr i = some (.at b base cap sz) → (w.heap.size ≤ b ∨ lentAt ρ0 b) ∧ b < w'.heap.size ∧ ¬ fz' b := fun i o b base cap sz hi hρ => by
   obtain ⟨l, hl, _, hO⟩ := ho.obj i o hi
   rw [hρ] at hl
   injection hl with hl
   exact hO b base cap sz hl.symm
  have hfr2 : ∀ k, k ∈ fputs s.fr (dhs.filter fun h => (hget s.hp h).isSome) ↔ k ∈ (dhs.filter fun h => (hget s.hp h).isSome) ∨ k ∈ s.fr := fun k => mem_fputs
  have hR : Rel w0 B f0 fz' ρ2 { tm := s1.tm, hp := hp, fr := fputs s.fr (dhs.filter fun h => (hget s.hp h).isSome) } tm w' := {
   size := hK.size
   tmp := fun i t ht => by
    obtain ⟨u, hu, hr⟩ := hK.tmp i t ht
    exact ⟨u, hu, hr.on hfzw hfz2 (fun k hk l hl => hkeep k l (hKtm t (List.mem_of_getElem? ht) k hk).1 hl)⟩
   dom1 := fun k l hk => by
    rcases cls k with ⟨i, o, _, h2, _⟩ | ⟨_, _, h3, h4⟩
    ·exact ⟨_, h2⟩
    ·rw [h4] at hk
     obtain ⟨o, ho⟩ := hK.dom1 k l hk
     exact ⟨o, by simp only; rw [h3]; exact ho⟩
   obj := fun k o hk => by
    rcases cls k with ⟨i, o1, h1, h2, h3, _⟩ | ⟨_, hkh, h3, h4⟩
    ·simp only at hk
     rw [h2] at hk
     injection hk with hk
     subst hk
     obtain ⟨l, hl, hO, _⟩ := ho.obj i o1 h1
     exact ⟨l, by rw [h3]; exact hl, hO.to (fun _ _ _ _ _ => rfl) (fun _ _ => rfl) (fun _ h => h) (fun k' _ l' hl' => hback k' l' hl')⟩
    ·simp only at hk
     rw [h3] at hk
     obtain ⟨l, hl, hO⟩ := hK.obj k o hk
     obtain ⟨_, _, _, hh⟩ := hKhp k o hk
     exact ⟨l, by rw [h4]; exact hl, hO.on (fun b base cap sz e => hheap b (hrel.own k b base cap sz (e ▸ hl)).1 (hother k b base cap sz hkh (e ▸ hl))) hfzw hfz2 (fun k' hk' l' hl' => hkeep k' l' (hh k' hk').1 hl')⟩
   inj := fun k k' b base cap sz base' cap' sz' g1 g2 g3 g4 => by
    rcases cls k with ⟨i, o1, h1, _, h3, h4, _⟩ | ⟨_, hkh, _, h4⟩ <;> rcases cls k' with ⟨i', o1', h1', _, h3', h4', _⟩ | ⟨_, hkh', _, h4'⟩
    ·rw [h3] at g3
     rw [h3'] at g4
     rw [h4, h4', ho.inj i i' b base cap sz base' cap' sz' g3 g4]
    ·rw [h3] at g3
     rw [h4'] at g4
     rcases (hownA i o1 b _ _ _ h1 g3).1 with e | e
     ·have := (hrel.own k' b _ _ _ g4).1; omega
     ·exact absurd e (hother k' b _ _ _ hkh' g4)
    ·rw [h3'] at g4
     rw [h4] at g3
     rcases (hownA i' o1' b _ _ _ h1' g4).1 with e | e
     ·have := (hrel.own k b _ _ _ g3).1; omega
     ·exact absurd e (hother k b _ _ _ hkh g3)
    ·rw [h4] at g3
     rw [h4'] at g4
     exact hrel.inj k k' b base cap sz base' cap' sz' (fun hm => g1 ((hfr2 k).2 (.inr hm))) (fun hm => g2 ((hfr2 k').2 (.inr hm))) g3 g4
   own := fun k b base cap sz hk => by
    rcases cls k with ⟨i, o1, h1, _, h3, _, h5, h6⟩ | ⟨_, hkh, _, h4⟩
    ·rw [h3] at hk
     obtain ⟨e1, e2, e3⟩ := hownA i o1 b _ _ _ h1 hk
     refine ⟨e2, fun _ => ⟨?_, e3⟩, fun hm => ?_⟩
     ·rcases e1 with e1 | e1
      ·exact .inl (by omega)
      ·exact (hlown b e1).1
     ·rcases (hfr2 k).1 hm with hm | hm
      ·exact absurd hm h6
      ·exact absurd hm h5
    ·rw [h4] at hk
     obtain ⟨e1, e2, e3⟩ := hrel.own k b base cap sz hk
     refine ⟨by omega, fun hm => ⟨(e2 (fun hq => hm ((hfr2 k).2 (.inr hq)))).1, fun hz => ?_⟩, fun hm => ?_⟩
     ·have hks : k ∉ s.fr := fun hq => hm ((hfr2 k).2 (.inr hq))
      rcases ho.f1 b hz with hz | hz
      ·rcases (hL b).1 hz with hz | ⟨k2, hk2, _, _, _, hρ⟩
       ·exact (e2 hks).2 hz
       ·by_cases hm2 : k2 ∈ s.fr
        ·exact (e2 hks).2 ((hrel.own k2 b _ _ _ hρ).2.2 hm2)
        ·have := hrel.inj k k2 b _ _ _ _ _ _ hks hm2 hk hρ
         subst this
         obtain ⟨o, hok⟩ := hrel.dom1 k _ hk
         exact hm ((hfr2 k).2 (.inl (List.mem_filter.2 ⟨hk2, by rw [hok]; rfl⟩)))
      ·rcases hz with hz | hz
       ·have : w.heap.size ≤ b := hz; omega
       ·exact hother k b _ _ _ hkh hk hz
     ·rcases (hfr2 k).1 hm with hm | hm
      ·exact ho.f0 b ((hL b).2 (.inr ⟨k, (List.mem_filter.1 hm).1, base, cap, sz, hk⟩))
      ·exact hfz2 b (e3 hm)
   fzl := ho.fl
   fz0 := fun b hb => hfz2 b (hrel.fz0 b hb)
   fz1 := fun b hb => by
    rcases ho.f1 b hb with hz | hz
    ·rcases (hL b).1 hz with hz | ⟨k2, hk2, base, cap, sz, hρ⟩
     ·exact hrel.fz1 b hz
     ·by_cases hm2 : k2 ∈ s.fr
      ·exact hrel.fz1 b ((hrel.own k2 b _ _ _ hρ).2.2 hm2)
      ·exact .inr ((hrel.own k2 b _ _ _ hρ).2.1 hm2).1
    ·rcases hz with hz | hz
     ·exact .inr (.inl (by have : w.heap.size ≤ b := hz; omega))
     ·exact .inr (hlown b hz).1
   below := hrel.below.trans ⟨ho.below.os, ho.below.tape, ho.below.output, hsz, fun k hk => ho.below.block k (fun e => by
    rcases e with e | e
    ·exact hk (.inl (by have : w.heap.size ≤ k := e; omega))
    ·exact hk (hlown k e).1)⟩
   frd := fun k hk => by
    rcases cls k with ⟨i, o, _, h2, _⟩ | ⟨_, _, h3, _⟩
    ·exact ⟨_, h2⟩
    ·have : ∃ o, hget s.hp k = some o := by
      rcases (hfr2 k).1 hk with hm | hm
      ·exact Option.isSome_iff_exists.1 (List.mem_filter.1 hm).2
      ·exact hrel.frd k hm
     obtain ⟨o, ho⟩ := this
     obtain ⟨o', ho'⟩ := hKk k o ho
     exact ⟨o', by simp only; rw [h3]; exact ho'⟩
   glz := hrel.glz.mono hfzw hfz2
   itr := fun i q pos ht => by
    obtain ⟨u, hu, hI⟩ := hK.itr i q pos ht
    have hnl : ∀ b, (∀ k b' base cap sz, ρ k = some (.at b' base cap sz) → b' ≠ b) → ¬ lentAt ρ0 b := fun b hq hb => by
     obtain ⟨k, _, _, base, cap, sz, hk⟩ := hlent b hb
     exact hq k b base cap sz hk rfl
    refine ⟨u, hu, hI.mono (fun b hb hq => hheap b hb (hnl b hq)) (fun b hb _ hz hq hz2 => ?_) (fun b hb hq k b' base cap sz hk => ?_)⟩
    ·rcases ho.f1 b hz2 with hz2 | hz2
     ·rcases (hL b).1 hz2 with h | ⟨k, _, base, cap, sz, hk⟩
      ·exact hz h
      ·exact hq k b base cap sz hk rfl
     ·rcases hz2 with e | e
      ·have : w.heap.size ≤ b := e; omega
      ·exact hnl b hq e
    ·rcases cls k with ⟨i', o1, h1, _, h3, _⟩ | ⟨_, _, _, h4⟩
     ·rw [h3] at hk
      rcases (hownA i' o1 b' _ _ _ h1 hk).1 with e | e
      ·omega
      ·intro e'
       subst e'
       exact hnl _ hq e
     ·rw [h4] at hk
      exact hq k b' base cap sz hk
   boxes := fun k l hk => by
    obtain ⟨h1, h2, o, h3, h4⟩ := hrel.boxes k l hk
    have hnr : k ∉ rowsOf s.hp hs := fun hm => by
     have := (List.mem_filter.1 hm).2
     rw [h3] at this
     simp [h4] at this
    refine ⟨h1, hkeep k l hnr h2, ?_⟩
    rcases cls k with ⟨i, o1, g1, g2, g3, g4, _⟩ | ⟨_, _, g3, _⟩
    ·refine ⟨_, g2, ?_⟩
     rw [Ob.shift_box]
     by_cases hkh : k ∈ hs
     ·obtain ⟨j, hj⟩ := List.mem_iff_getElem?.1 hkh
      obtain ⟨o2, e1, e2, _⟩ := hget0 j k hj
      rw [h3] at e2
      injection e2 with e2
      subst e2
      obtain ⟨o3, e3, e4⟩ := hob j o e1
      obtain ⟨_, o4, e5, e6⟩ := ho.box j o3 e3 (by rw [e4]; exact h4)
      have : hget hp k = some (o4.shift (backH hs d)) := hg2 j k o4 hj e5
      rw [g2] at this
      injection this with this
      have hb := congrArg Ob.box this
      rw [Ob.shift_box, Ob.shift_box] at hb
      rw [hb]
      exact e6
     ·by_cases hkn : isNew k
      ·rw [(hnew0 k hkn).2] at h3; cases h3
      ·have := hg3 k hkn hkh
       rw [g2] at this
       obtain ⟨o5, e5, e6, _⟩ := hKhp k _ this.symm
       rw [h3] at e5
       injection e5 with e5
       subst e5
       rw [Ob.shift_box] at e6
       rw [e6]
       exact h4
    ·obtain ⟨o', ho'⟩ := hKk k o h3
     refine ⟨o', by simp only; rw [g3]; exact ho', ?_⟩
     obtain ⟨o0, e1, e2, _⟩ := hKhp k o' ho'
     rw [h3] at e1
     injection e1 with e1
     subst e1
     rw [e2]
     exact h4 }
  exact ⟨fz', ρ2, hR.put d (ho.val.shift hback) (shift_noI _ _), hfz2⟩
 ·cases h
end
end Go.Vabs
