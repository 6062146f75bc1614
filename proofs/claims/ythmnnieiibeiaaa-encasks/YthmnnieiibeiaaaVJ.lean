/- A library: the abstract interpreter's stores. No condition. -/
import Derived.Test.YthmnnieiibeiaaaVI
set_option linter.unusedSimpArgs false
set_option linter.unusedVariables false
namespace Go.Vabs
open Go.RowKit
structure But (w w' : World) (b : Nat) : Prop where
 os : w'.os = w.os
 tape : w'.tape = w.tape
 output : w'.output = w.output
 size : w'.heap.size = w.heap.size
 block : ∀ k, k ≠ b → w'.heap[k]? = w.heap[k]?
theorem But.refl (w : World) (b : Nat) : But w w b := ⟨rfl, rfl, rfl, rfl, fun _ _ => rfl⟩
theorem But.trans {a b c : World} {k : Nat} (h : But a b k) (g : But b c k) : But a c k :=
 ⟨g.os.trans h.os, g.tape.trans h.tape, g.output.trans h.output, g.size.trans h.size, fun i hi => (g.block i hi).trans (h.block i hi)⟩
theorem run_storeCells' {P : Program} {b q : Nat} {e : TypeId} {fr : Nat × Nat} : ∀ (vs : List Value) (i : Nat) (c : Array Value) (w : World), w.heap[b]? = some (.cells c e fr) → q + i + vs.length ≤ c.size → (∀ v ∈ vs, isCell v) →
  (∀ off, off < c.size → ¬ (fr.1 ≤ off ∧ off < fr.2)) → ∃ (w' : World) (c' : Array Value), (storeCells ⟨b, q, none⟩ vs i).run P w = .ok () w' ∧ w'.heap[b]? = some (.cells c' e fr) ∧ c'.toList = over c.toList (q + i) vs ∧ But w w' b
 | [], i, c, w, hb, hl, hv, hf => ⟨w, c, rfl, hb, by
   apply List.ext_getElem?
   intro j
   rw [over_get, if_neg (by simp only [List.length_nil]; omega)], But.refl _ _⟩
 | v :: vs, i, c, w, hb, hl, hv, hf => by
  simp only [List.length_cons] at hl
  have hq : w.cell? ⟨b, q + i, none⟩ = some (c[q + i]'(by omega)) := by rw [cell?_at hb, Array.getElem?_eq_getElem (by omega)]
  have hfz : w.frozen? ⟨b, q + i, none⟩ = false := by
   have := hf (q + i) (by omega)
   simp only [World.frozen?, hb]
   simpa using this
  have hset : (w.setCell ⟨b, q + i, none⟩ v).heap[b]? = some (.cells (c.setIfInBounds (q + i) v) e fr) := by
   simp [World.setCell, Array.getElem?_modify, hb]
  obtain ⟨w', c', h1, h2, h3, h4⟩ := run_storeCells' (P := P) (q := q) vs (i + 1) (c.setIfInBounds (q + i) v) (w.setCell ⟨b, q + i, none⟩ v) hset (by simp; omega) (fun u hu => hv u (List.mem_cons_of_mem _ hu)) (fun off ho => hf off (by simpa using ho))
  refine ⟨w', c', ?_, h2, ?_, But.trans (b := w.setCell ⟨b, q + i, none⟩ v) ⟨rfl, rfl, rfl, by simp, fun k hk => Below.heap_setCell _ _ _ _ hk⟩ h4⟩
  ·simp only [storeCells, Sem.run_bind, add_none]
   rw [run_store P w _ v .plain (hv v List.mem_cons_self).one, hq]
   simp only [hfz, Bool.false_eq_true, if_false, Result.andThen_ok]
   exact h1
  ·rw [h3]
   apply List.ext_getElem?
   intro j
   rw [over_get, over_get]
   simp only [Array.length_toList, Array.size_setIfInBounds, Array.getElem?_toList, Array.getElem?_setIfInBounds, List.length_cons]
   by_cases h1 : q + (i + 1) ≤ j ∧ j < q + (i + 1) + vs.length ∧ j < c.size
   ·rw [if_pos h1, if_pos (by omega), show j - (q + i) = (j - (q + (i + 1))) + 1 by omega, List.getElem?_cons_succ]
   ·rw [if_neg h1]
    by_cases h2 : q + i = j
    ·subst h2
     rw [if_pos rfl, if_pos (by omega), if_pos (by omega)]
     simp
    ·rw [if_neg h2, if_neg (by omega)]
section
variable {P : Program} {ty : Tys} {w0 : World} {B : Bs} {f0 fz : Nat → Prop} {ρ : Nat → Option Loc} {s : St} {a : Act} {w : World} {o : Oper}
theorem C.all_free {cs : List C} (h : cs.all C.free = true) : ∀ c ∈ cs, c.free = true := fun c hc => List.all_eq_true.1 h c hc
theorem Rel.write [Globals] (hrel : Rel w0 B f0 fz ρ s a.tmps w) {h b base cap sz : Nat} {ob ob' : Ob} {w' : World} (hh : hget s.hp h = some ob) (hr : ρ h = some (.at b base cap sz)) (hfr : h ∉ s.fr) (hbut : But w w' b) (hbox : ob'.box = ob.box)
  (hob : ∀ {w'' : World}, w'' = w' → RepO w' fz ρ (.at b base cap sz) ob') : Rel w0 B f0 fz ρ { tm := s.tm, hp := hput s.hp h ob', fr := s.fr } a.tmps w' := by
 obtain ⟨hb1, hb2, _⟩ := hrel.own h b base cap sz hr
 obtain ⟨hB, hnf⟩ := hb2 hfr
 have hfz : ∀ k, fz k → w'.heap[k]? = w.heap[k]? := fun k hk => hbut.block k (fun e => hnf (e ▸ hk))
 exact {
  size := hrel.size
  tmp := fun i t ht => by
   obtain ⟨v, hv, hrep⟩ := hrel.tmp i t ht
   exact ⟨v, hv, hrep.mono hfz (fun _ h => h) (fun _ _ h => h)⟩
  dom1 := fun k l hk => by
   by_cases e : k = h
   ·subst e; exact ⟨ob', hget_hput _ _ _⟩
   ·obtain ⟨o, ho⟩ := hrel.dom1 k l hk
    exact ⟨o, by rw [hget_hput_ne _ _ _ _ e]; exact ho⟩
  obj := fun k o hk => by
   by_cases e : k = h
   ·subst e
    simp only [hget_hput, Option.some.injEq] at hk
    subst hk
    exact ⟨_, hr, hob rfl⟩
   ·simp only [hget_hput_ne _ _ _ _ e] at hk
    obtain ⟨l, hl, ho⟩ := hrel.obj k o hk
    refine ⟨l, hl, ho.mono (fun b' base' cap' sz' hb => ?_) hfz (fun _ h => h) (fun _ _ h => h)⟩
    refine hbut.block b' (fun e' => ?_)
    subst hb
    subst e'
    by_cases hk : k ∈ s.fr
    ·exact hnf ((hrel.own k _ _ _ _ hl).2.2 hk)
    ·exact e (hrel.inj k h _ _ _ _ _ _ _ hk hfr hl hr)
  inj := hrel.inj
  own := fun k b' base' cap' sz' hk => by
   obtain ⟨h1, h2⟩ := hrel.own k b' base' cap' sz' hk
   exact ⟨by rw [hbut.size]; exact h1, h2⟩
  fzl := fun k hk => by rw [hbut.size]; exact hrel.fzl k hk
  fz0 := hrel.fz0
  fz1 := hrel.fz1
  below := hrel.below.trans ⟨hbut.os, hbut.tape, hbut.output, by rw [hbut.size]; exact Nat.le_refl _, fun k hk => hbut.block k (fun e => hk (e ▸ hB))⟩
  frd := fun k hk => by
   by_cases e : k = h
   ·subst e; exact ⟨ob', hget_hput _ _ _⟩
   ·obtain ⟨o, ho⟩ := hrel.frd k hk
    exact ⟨o, by rw [hget_hput_ne _ _ _ _ e]; exact ho⟩
  glz := hrel.glz.mono hfz (fun _ h => h)
  boxes := fun k l hk => by
   obtain ⟨h1, h2, o, h3, h4⟩ := hrel.boxes k l hk
   by_cases e : k = h
   ·subst e
    exact ⟨h1, h2, ob', hget_hput _ _ _, by rw [hbox]; rw [h3] at hh; injection hh with hh; exact hh ▸ h4⟩
   ·exact ⟨h1, h2, o, by rw [hget_hput_ne _ _ _ _ e]; exact h3, h4⟩
  itr := fun i q pos ht => by
   obtain ⟨u, hu, hI⟩ := hrel.itr i q pos ht
   exact ⟨u, hu, hI.mono (fun b' _ hq => hbut.block b' (fun e => hq h b base cap sz hr e.symm)) (fun _ _ _ hz _ => hz) (fun _ _ hq => hq)⟩ }
theorem storeVar_run (hty : ∀ t y, ty t = some y → Ty.of P t = some y) {t : TypeId} {y : Ty} (ht : ty t = some y) (ad : Addr) (v : Value) (hs : v.cells.size = y.size) : storeVar t ad v = storeVar t ad v ∧
  (storeVar t ad v).run P w = (storeCells ad v.cells.toList).run P w := by
 obtain ⟨i, d, hi, hd, hk, hsz, _⟩ := Ty.of_some (hty t y ht)
 refine ⟨rfl, ?_⟩
 have : ¬ v.cells.size ≠ i.size := by omega
 simp only [storeVar, Sem.run_bind, run_sizeOf' hi, Result.andThen_ok, if_neg this, Sem.run_pure]
theorem evS1_sound [Globals] (hty : ∀ t y, ty t = some y → Ty.of P t = some y) (hrel : Rel w0 B f0 fz ρ s a.tmps w) {t : TypeId} {x ad : Operand} {s' : St} (ho : o.op = .store t ad x) (h : evS1 ty t ad x s = some s') :
  ∃ w', (execOp a.eval o).run P w = .ok .skip w' ∧ Rel w0 B f0 fz ρ s' a.tmps w' := by
 unfold evS1 at h
 split at h
 ·rename_i k i off y cs hp ht hcs
  split at h
  ·rename_i ob hob
   split at h
   ·rename_i hcond
    obtain ⟨hfr, hlen, hbf⟩ := hcond
    have hfr : k ∉ s.fr := by simpa using hfr
    rw [Option.map_eq_some_iff] at h
    obtain ⟨ob', hst, rfl⟩ := h
    have hpr := opd_rep hrel ad
    rw [hp] at hpr
    have hpr : RepC w fz ρ (a.eval ad) (.ptr k i off) := hpr
    generalize hpv : a.eval ad = pv at hpr
    cases hpr with
    | frz hf => cases hf
    | ptr _ _ _ b base cap sz hr =>
     have hvr := RepT.cells (opd_rep hrel x) hcs
     have hvl := hvr.1
     simp only [Array.length_toList] at hvl
     obtain ⟨hes, hfree, hsz, hcap, c, fr, hb, hsize, hff, hcell⟩ := hrel.objAt hob hr
     unfold storeO at hst
     split at hst
     ·rename_i e he
      split at hst
      ·rename_i hle
       injection hst with hst
       subst hst
       have hel : e.length = ob.sz := hes e (List.mem_of_getElem? he)
       have hi := (List.getElem?_eq_some_iff.1 he).1
       have hmul : (i + 1) * sz ≤ cap * sz := Nat.mul_le_mul_right _ (by omega)
       rw [Nat.add_mul] at hmul
       obtain ⟨w', c', h1, h2, h3, h4⟩ := run_storeCells' (P := P) (b := b) (q := base + i * sz + off) (e := ob.elem) (fr := fr) (a.eval x).cells.toList 0 c w hb (by simp; omega)
        (fun v hv => by
         obtain ⟨j, hj⟩ := List.mem_iff_getElem?.1 hv
         have hjl := (List.getElem?_eq_some_iff.1 hj).1
         simp only [Array.length_toList] at hjl
         exact (hvr.2 j v _ hj (List.getElem?_eq_getElem (by omega))).cell) (thaw hff.1)
       have hnf := ((hrel.own k b base cap sz hr).2.1 hfr).2
       have hfz : ∀ q, fz q → w'.heap[q]? = w.heap[q]? := fun q hq => h4.block q (fun e => hnf (e ▸ hq))
       refine ⟨w', ?_, hrel.write hob hr hfr h4 rfl (fun _ => ?_)⟩
       ·have hrun := (storeVar_run (P := P) (w := w) hty ht ⟨b, base + i * sz + off, none⟩ (a.eval x) (by omega)).2
        simp only [execOp, ho, hpv, Sem.run_bind, Instr.storeAt, Instr.sureAddr, Sem.run_pure, Result.andThen_ok, hrun, h1]
       ·refine ⟨fun e' he' => ?_, fun hf e' he' x' hx' => ?_, hsz, by simpa using hcap, c', fr, h2, by rw [← Array.length_toList, h3, over_length]; simpa using hsize, ?_, fun i' j' e' x' he' hx' => ?_⟩
        ·rcases List.mem_or_eq_of_mem_set he' with he' | rfl
         ·exact hes e' he'
         ·rw [over_length]; exact hel
        ·simp only [Bool.and_eq_true] at hf
         rcases List.mem_or_eq_of_mem_set he' with he' | rfl
         ·exact hfree hf.1 e' he' x' hx'
         ·obtain ⟨j, hj⟩ := List.mem_iff_getElem?.1 hx'
          rw [over_get] at hj
          split at hj
          ·exact C.all_free hf.2 x' (List.mem_of_getElem? hj)
          ·exact hfree hf.1 e (List.mem_of_getElem? he) x' (List.mem_of_getElem? hj)
        ·have : c'.size = c.size := by rw [← Array.length_toList, h3, over_length, Array.length_toList]
         rw [this]
         exact hff
        ·rw [← Array.getElem?_toList, h3, over_get]
         simp only [Array.length_toList]
         have hj' : j' < sz := by
          have := (List.getElem?_eq_some_iff.1 hx').1
          have : e'.length = ob.sz := by
           rcases List.mem_or_eq_of_mem_set (List.mem_of_getElem? he') with he' | rfl
           ·exact hes e' he'
           ·rw [over_length]; exact hel
          omega
         have hrow : ∀ p, p < ob.es.length → p * sz + sz ≤ cap * sz := fun p hp => by
          have := Nat.mul_le_mul_right sz (show p + 1 ≤ cap by omega)
          rw [Nat.add_mul] at this
          omega
         by_cases hii : i = i'
         ·subst hii
          rw [List.getElem?_set_self hi] at he'
          injection he' with he'
          subst he'
          rw [over_get] at hx'
          split at hx'
          ·rename_i hin
           rw [if_pos (by omega)]
           have hlt : j' - off < (a.eval x).cells.size := by omega
           refine ⟨(a.eval x).cells.toList[j' - off]'(by simpa using hlt), ?_, (hvr.2 (j' - off) _ x' (List.getElem?_eq_getElem _) hx').mono hfz (fun _ h => h) (fun _ _ h => h)⟩
           rw [show base + i * sz + j' - (base + i * sz + off + 0) = j' - off by omega]
           exact List.getElem?_eq_getElem _
          ·rename_i hout
           rw [if_neg (by omega)]
           obtain ⟨v, hv, hrep⟩ := hcell i j' e x' he hx'
           exact ⟨v, by rw [Array.getElem?_toList]; exact hv, hrep.mono hfz (fun _ h => h) (fun _ _ h => h)⟩
         ·rw [List.getElem?_set_ne hii] at he'
          have hi' := (List.getElem?_eq_some_iff.1 he').1
          have h1' := hrow i hi
          have h2' := hrow i' hi'
          have : i * sz + sz ≤ i' * sz ∨ i' * sz + sz ≤ i * sz := by
           rcases Nat.lt_or_gt_of_ne hii with h | h
           ·left; have := Nat.mul_le_mul_right sz (show i + 1 ≤ i' from h); rw [Nat.add_mul] at this; omega
           ·right; have := Nat.mul_le_mul_right sz (show i' + 1 ≤ i from h); rw [Nat.add_mul] at this; omega
          rw [if_neg (by omega)]
          obtain ⟨v, hv, hrep⟩ := hcell i' j' e' x' he' hx'
          exact ⟨v, by rw [Array.getElem?_toList]; exact hv, hrep.mono hfz (fun _ h => h) (fun _ _ h => h)⟩
      ·cases hst
     ·cases hst
   ·cases h
  ·cases h
 ·cases h
theorem loose_sound [Globals] {c : Bool} {cs : Option (List C)} (hrel : Rel w0 B f0 fz ρ s a.tmps w) : ∃ fz' ρ', Rel w0 B f0 fz' ρ' (loose c cs s) a.tmps w ∧ (∀ b, fz b → fz' b) ∧ (∀ k, hget s.hp k = none → hget (loose c cs s).hp k = none) := by
 unfold loose
 split
 ·split
  ·obtain ⟨fz', ρ', h1, h2, h4⟩ := evicts_sound (refsOf _) hrel
   exact ⟨fz', ρ', h1, h2, h4⟩
  ·exact ⟨fz, ρ, hrel, fun _ h => h, fun _ h => h⟩
 ·exact ⟨fz, ρ, hrel, fun _ h => h, fun _ h => h⟩
theorem evS_sound [Globals] (hty : ∀ t y, ty t = some y → Ty.of P t = some y) (hrel : Rel w0 B f0 fz ρ s a.tmps w) {t : TypeId} {x ad : Operand} {s' : St} (ho : o.op = .store t ad x) (h : evS ty t ad x s = some s') :
  ∃ w' fz' ρ', (execOp a.eval o).run P w = .ok .skip w' ∧ Rel w0 B f0 fz' ρ' s' a.tmps w' ∧ ∀ b, fz b → fz' b := by
 obtain ⟨fz', ρ', h1, h2, _⟩ := loose_sound (c := rowPtr s.hp (opd s.tm ad)) (cs := (opd s.tm x).cells) hrel
 obtain ⟨w', h3, h4⟩ := evS1_sound hty h1 ho h
 exact ⟨w', fz', ρ', h3, h4, h2⟩
end
end Go.Vabs
