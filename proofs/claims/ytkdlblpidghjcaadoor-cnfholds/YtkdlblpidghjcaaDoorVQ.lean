/- A library: the abstract interpreter's operations, by the model's rules. No condition. -/
import Derived.Test.YtkdlblpidghjcaaDoorVPB
set_option linter.unusedSimpArgs false
set_option linter.unusedVariables false
namespace Go.Vabs
open Go.RowKit
def PrimOK [Globals] (P : Program) : Prop := ∀ f args r, Globals.pr f args = some r → CallOK P f args r ∧ ∃ fn c, P.funcs[f]? = some fn ∧ (fn.name == "runtime.NumGoroutine") = false ∧ fn.body = some c
def EnvOK [Globals] (P : Program) : Prop := IxOK P ∧ PrimOK P
def CallF.ok [Globals] (P : Program) (call : CallF) : Prop := EnvOK P ∧ ∀ f args r, call f args = some r → CallOK P f args r ∧ ∃ fn c, P.funcs[f]? = some fn ∧ (fn.name == "runtime.NumGoroutine") = false ∧ fn.body = some c
section
variable {P : Program} {ty : Tys} {kp : Nat → Option (List Nat)} {K : Nat → Option (Nat → Option (List Nat))} {call : CallF} {w0 : World} {B : Bs} {f0 fz : Nat → Prop} {ρ : Nat → Option Loc} {s : St} {a : Act} {w : World} {o : Oper}
theorem put_some (a : Act) (d : Nat) (v : Value) : a.put (some d) v = { a with tmps := a.tmps.setIfInBounds d v } := rfl
theorem putP_sound [Globals] (hix : IxOK P) (hty : ∀ t y, ty t = some y → Ty.of P t = some y) (hB : B.n ≤ w0.heap.size) (hrel : Rel w0 B f0 fz ρ s a.tmps w) {r : T × Option Ob} {s' : St} (h : evP ty o s.tm s.hp = some r) (hp : putP s o.dst r = some s') :
  ∃ v w' ρ', (execOp a.eval o).run P w = .ok (.value v) w' ∧ Rel w0 B f0 fz ρ' s' (a.put o.dst v).tmps w' := by
 obtain ⟨t, oo⟩ := r
 rcases evP_sound hix hty hrel h with ⟨rfl, v, hrun, hv⟩ | ⟨ob, d, rfl, hd, v, w', l, hrun, hnew, hrep⟩
 ·unfold putP at hp
  cases hdst : o.dst with
  | none =>
   simp only [hdst, Option.some.injEq] at hp
   subst hp
   exact ⟨v, w, ρ, hrun, hrel⟩
  | some d =>
   simp only [hdst, Option.some.injEq] at hp
   subst hp
   exact ⟨v, w, ρ, hrun, hrel.put d hv (evP_noI hrel h)⟩
 ·unfold putP at hp
  simp only [hd] at hp
  split at hp
  ·rename_i hf
   injection hp with hp
   subst hp
   obtain ⟨ρ', _, hR, _⟩ := hrel.make d (Nat.le_trans hB hrel.below.size) hnew hf hrep (evP_noI hrel h)
   exact ⟨v, w', ρ', hrun, by rw [hd]; exact hR⟩
  ·cases hp
theorem evA_sound [Globals] (hty : ∀ t y, ty t = some y → Ty.of P t = some y) (hB : B.n ≤ w0.heap.size) (hrel : Rel w0 B f0 fz ρ s a.tmps w) {c : Call} {s' : St} (ho : o.op = .call c) (hc : c.callee = .builtin .append) (h : evA ty o.dst c.args.toList c.argTypes.toList s = some s') :
  ∃ v w' fz' ρ', (execOp a.eval o).run P w = .ok (.value v) w' ∧ Rel w0 B f0 fz' ρ' s' (a.put o.dst v).tmps w' ∧ ∀ b, fz b → fz' b := by
 unfold evA at h
 split at h
 ·rename_i b x t u d hargs htys hdst
  have hargs' : c.args = #[b, x] := by rw [← Array.toArray_toList (xs := c.args), hargs]
  have htys' : c.argTypes = #[t, u] := by rw [← Array.toArray_toList (xs := c.argTypes), htys]
  have h1 : ∃ fz1 ρ1, Rel w0 B f0 fz1 ρ1 (if nilLit (opd s.tm b) then evict d s else s) a.tmps w ∧ ∀ b, fz b → fz1 b := by
   split
   ·obtain ⟨fz1, ρ1, h1, h2, _⟩ := evict_sound d hrel
    exact ⟨fz1, ρ1, h1, h2⟩
   ·exact ⟨fz, ρ, hrel, fun _ h => h⟩
  obtain ⟨fz1, ρ1, hr1, hf1⟩ := h1
  simp only at h
  generalize hs1 : (if nilLit (opd s.tm b) then evict d s else s) = s1 at h hr1
  obtain ⟨fz2, ρ2, hr2, hf2, _⟩ := loose_sound (c := !freeSrc s1.hp (opd s1.tm x)) (cs := (srcOf s1.hp (opd s1.tm x)).map List.flatten) hr1
  obtain ⟨v, w', ρ', hrun, hR⟩ := evA1_sound hty (Nat.le_trans hB hr2.below.size) hr2 ho hc hargs' htys' h
  exact ⟨v, w', fz2, ρ', hrun, by rw [hdst]; exact hR, fun b hb => hf2 b (hf1 b hb)⟩
 ·cases h
theorem mapM_args [Globals] (hrel : Rel w0 B f0 fz ρ s a.tmps w) {fL : Nat → Prop} (hf : ∀ b, fz b → fL b) {xs : List Operand} {args : List T} (h : (xs.map (opd s.tm)).mapM (dataT s.hp) = some args)
  (hL : ∀ k ∈ (xs.map (opd s.tm)).flatMap (hsT s.hp), ∀ b base cap sz, ρ k = some (.at b base cap sz) → fL b) :
  (xs.map a.eval).length = args.length ∧ ∀ (i : Nat) (t : T), args[i]? = some t → ∃ v, (xs.map a.eval)[i]? = some v ∧ RepT w fL (fun _ => none) v t := by
 obtain ⟨h1, h2⟩ := mapM_get h
 simp only [List.length_map] at h1
 refine ⟨by simp [h1], fun i t ht => ?_⟩
 have hi := (List.getElem?_eq_some_iff.1 ht).1
 have hx : xs[i]? = some xs[i] := List.getElem?_eq_getElem (by omega)
 have hmx : (xs.map (opd s.tm))[i]? = some (opd s.tm xs[i]) := by rw [List.getElem?_map, hx]; rfl
 refine ⟨a.eval xs[i], by rw [List.getElem?_map, hx]; rfl, dataT_rep hrel hf (opd_rep hrel xs[i]) (h2 i _ t hmx ht) (fun k hk => hL k ?_) _⟩
 exact List.mem_flatMap.2 ⟨_, List.mem_of_getElem? hmx, hk⟩
theorem nilsC_rep {ρ' : Nat → Option Loc} {fL : Nat → Prop} {v : Value} {c : C} (z : Option Nat) (h : RepC w fL ρ' v c) : RepC w fL ρ' v (nilsC z c) := by
 unfold nilsC
 split
 ·cases h with
  | frz h =>
   cases h
   exact .frz (.sl none 0 0 [] _ (fun _ _ => .bool true) rfl (fun _ h => by cases h) (Nat.le_refl _) (fun h => absurd h (Nat.lt_irrefl _)) (fun i j e c he => by simp at he))
 ·exact h
theorem nilsL_rep {ρ' : Nat → Option Loc} {fL : Nat → Prop} : ∀ (zs : List (Option Nat)) (vs : List Value) (cs : List C), RepL w fL ρ' vs cs → RepL w fL ρ' vs (nilsL zs cs)
 | [], vs, cs, h => by cases cs <;> exact h
 | z :: zs, vs, [], h => h
 | z :: zs, vs, c :: cs, h => by
  obtain ⟨h1, h2⟩ := h
  cases vs with
  | nil => simp at h1
  | cons v vs =>
   have ih := nilsL_rep zs vs cs ⟨by simpa using h1, fun i v c hv hc => h2 (i + 1) v c (by simpa using hv) (by simpa using hc)⟩
   refine ⟨by simpa [nilsL] using ih.1, fun i v' c' hv hc => ?_⟩
   cases i with
   | zero =>
    simp [nilsL] at hv hc
    subst hv
    subst hc
    exact nilsC_rep z (h2 0 _ _ rfl rfl)
   | succ i => exact ih.2 i v' c' (by simpa using hv) (by simpa [nilsL] using hc)
theorem nilsT_rep {ρ' : Nat → Option Loc} {fL : Nat → Prop} {v : Value} {t : T} (l : List (Option Nat)) (h : RepT w fL ρ' v t) : RepT w fL ρ' v (nilsT l t) := by
 cases t with
 | c x => exact h
 | agg cs => obtain ⟨vs, e, h⟩ := h; exact ⟨vs, e, nilsL_rep _ _ _ h⟩
 | tup ts => exact h
 | itr _ _ => trivial
 | junk => trivial
theorem nilsT_noI {t : T} (l : List (Option Nat)) (h : t.noI = t) : (nilsT l t).noI = nilsT l t := by
 cases t <;> first | rfl | exact h
theorem wkArgs_length : ∀ (tys : List TypeId) (args : List T), (wkArgs ty tys args).length = args.length
 | [], args => by cases args <;> rfl
 | t :: ts, [] => rfl
 | t :: ts, a :: as => by simp [wkArgs, wkArgs_length ts as]
theorem wkArgs_get : ∀ (tys : List TypeId) (args : List T) (i : Nat) (t : T), (wkArgs ty tys args)[i]? = some t → ∃ l t0, args[i]? = some t0 ∧ (t = t0 ∨ t = nilsT l t0)
 | [], args, i, t, h => ⟨[], t, by cases args <;> exact h, .inl rfl⟩
 | ty' :: ts, [], i, t, h => by simp [wkArgs] at h
 | ty' :: ts, a :: as, 0, t, h => by
  simp [wkArgs] at h
  exact ⟨_, a, rfl, .inr h.symm⟩
 | ty' :: ts, a :: as, i + 1, t, h => by
  simp [wkArgs] at h
  exact wkArgs_get ts as i t h
theorem wkArgs_rep {ρ' : Nat → Option Loc} {fL : Nat → Prop} {vs : List Value} {args : List T} (tys : List TypeId) (h : ∀ (i : Nat) (t : T), args[i]? = some t → ∃ v, vs[i]? = some v ∧ RepT w fL ρ' v t) :
  ∀ (i : Nat) (t : T), (wkArgs ty tys args)[i]? = some t → ∃ v, vs[i]? = some v ∧ RepT w fL ρ' v t := by
 intro i t ht
 obtain ⟨l, t0, h0, h1⟩ := wkArgs_get tys args i t ht
 obtain ⟨v, hv, hr⟩ := h i t0 h0
 rcases h1 with rfl | rfl
 ·exact ⟨v, hv, hr⟩
 ·exact ⟨v, hv, nilsT_rep l hr⟩
theorem run_callFunc {f : FuncId} {fn : Func} {c : Code} {args : Array Value} (hf : P.funcs[f]? = some fn) (hn : (fn.name == "runtime.NumGoroutine") = false) (hb : fn.body = some c) : (callFunc f args).run P w = .ok (.enter f args) w := by
 simp only [callFunc, Sem.run_bind, run_program, Result.andThen_ok, hf, hn, hb, Bool.false_eq_true, if_false, Option.isNone_some, Sem.run_pure]
theorem dataT_noI {hp : Heap} {xs args : List T} (h : xs.mapM (dataT hp) = some args) {t : T} (ht : t ∈ args) : t.noI = t := by
 obtain ⟨i, hi⟩ := List.mem_iff_getElem?.1 ht
 obtain ⟨h1, h2⟩ := mapM_get h
 have hlt := (List.getElem?_eq_some_iff.1 hi).1
 have := h2 i _ t (List.getElem?_eq_getElem (by omega)) hi
 unfold dataT at this
 split at this
 ·rw [Option.map_eq_some_iff] at this
  obtain ⟨_, _, rfl⟩ := this
  rfl
 ·rw [Option.map_eq_some_iff] at this
  obtain ⟨_, _, rfl⟩ := this
  rfl
 ·cases this
theorem dataT_tOb {hp : Heap} {xs args : List T} (h : xs.mapM (dataT hp) = some args) {t : T} (ht : t ∈ args) : tOb t = none := by
 obtain ⟨i, hi⟩ := List.mem_iff_getElem?.1 ht
 obtain ⟨h1, h2⟩ := mapM_get h
 have hlt := (List.getElem?_eq_some_iff.1 hi).1
 have := h2 i _ t (List.getElem?_eq_getElem (by omega)) hi
 unfold dataT at this
 split at this
 ·rw [Option.map_eq_some_iff] at this
  obtain ⟨_, _, rfl⟩ := this
  rfl
 ·rw [Option.map_eq_some_iff] at this
  obtain ⟨_, _, rfl⟩ := this
  rfl
 ·cases this
theorem noI_itr {t : T} {q : ByteArray} {pos : Nat} (h : t.noI = .itr q pos) : False := by cases t <;> cases h
theorem Rel.begun [Globals] (h : Rel w0 B f0 fz ρ s a.tmps w) (hB : B.n ≤ w.heap.size) (q : ByteArray) (d : Nat) :
  Rel w0 B f0 fz ρ { tm := s.tm.set d (.itr q 0), hp := s.hp, fr := s.fr } (a.tmps.setIfInBounds d (.pointer (some ⟨w.heap.size, 0, none⟩))) (w.alloc (.stringIter q 0)) where
 size := by simp [h.size]
 tmp := fun i t' ht => by
  simp only at ht
  by_cases hi : d = i
  ·subst hi
   have hlt := (List.getElem?_eq_some_iff.1 ht).1
   rw [List.length_set] at hlt
   rw [List.getElem?_set_self hlt] at ht
   injection ht with ht
   subst ht
   have : d < a.tmps.size := by rw [h.size]; exact hlt
   exact ⟨.pointer (some ⟨w.heap.size, 0, none⟩), by simp [Array.getElem?_setIfInBounds, this], trivial⟩
  ·rw [List.getElem?_set_ne hi] at ht
   obtain ⟨u, hu, hr⟩ := h.tmp i t' ht
   exact ⟨u, by simp [Array.getElem?_setIfInBounds, hi, hu], hr.mono (fun b hb => heap_alloc _ _ (h.fzl b hb)) (fun _ h => h) (fun _ _ h => h)⟩
 dom1 := h.dom1
 obj := fun k o hk => by
  obtain ⟨l, hl, ho⟩ := h.obj k o hk
  exact ⟨l, hl, ho.mono (fun b base cap sz hb => heap_alloc _ _ (h.own k b base cap sz (hb ▸ hl)).1) (fun b hb => heap_alloc _ _ (h.fzl b hb)) (fun _ h => h) (fun _ _ h => h)⟩
 inj := h.inj
 own := fun k b base cap sz hk => by
  obtain ⟨h1, h2⟩ := h.own k b base cap sz hk
  exact ⟨Nat.lt_of_lt_of_le h1 (by simp), h2⟩
 fzl := fun b hb => Nat.lt_of_lt_of_le (h.fzl b hb) (by simp)
 fz0 := h.fz0
 fz1 := h.fz1
 below := h.below.alloc hB _
 frd := h.frd
 glz := h.glz.mono (fun b hb => heap_alloc _ _ (h.fzl b hb)) (fun _ h => h)
 boxes := h.boxes
 itr := fun i q' pos ht => by
  simp only at ht
  by_cases hi : d = i
  ·subst hi
   have hlt := (List.getElem?_eq_some_iff.1 ht).1
   rw [List.length_set] at hlt
   rw [List.getElem?_set_self hlt] at ht
   injection ht with ht
   injection ht with h1 h2
   subst h1
   subst h2
   have : d < a.tmps.size := by rw [h.size]; exact hlt
   refine ⟨.pointer (some ⟨w.heap.size, 0, none⟩), by simp [Array.getElem?_setIfInBounds, this], w.heap.size, rfl, .inl hB, heap_alloc_new _ _, fun hz => ?_, fun k b' base cap sz hk => ?_⟩
   ·have := h.fzl _ hz; omega
   ·have := (h.own k b' base cap sz hk).1; omega
  ·rw [List.getElem?_set_ne hi] at ht
   obtain ⟨u, hu, hI⟩ := h.itr i q' pos ht
   exact ⟨u, by simp [Array.getElem?_setIfInBounds, hi, hu], hI.mono (fun b hb _ => heap_alloc _ _ hb) (fun _ _ _ hz _ => hz) (fun _ _ hq => hq)⟩
theorem Rel.stepped [Globals] (h : Rel w0 B f0 fz ρ s a.tmps w) {k b : Nat} {q : ByteArray} {pos : Nat} (hk : s.tm[k]? = some (.itr q pos)) (hv : a.tmps[k]? = some (.pointer (some ⟨b, 0, none⟩))) (hB : B.owns b) (hb : w.heap[b]? = some (.stringIter q pos)) (hnf : ¬ fz b)
  (hnr : ∀ k b' base cap sz, ρ k = some (.at b' base cap sz) → b' ≠ b) (pos' : Nat) : Rel w0 B f0 fz ρ { tm := (s.tm.map T.noI).set k (.itr q pos'), hp := s.hp, fr := s.fr } a.tmps { w with heap := w.heap.setIfInBounds b (.stringIter q pos') } := by
 have hlt : b < w.heap.size := (Array.getElem?_eq_some_iff.1 hb).1
 have hkl : k < s.tm.length := (List.getElem?_eq_some_iff.1 hk).1
 have hne : ∀ b', b' ≠ b → (w.heap.setIfInBounds b (.stringIter q pos'))[b']? = w.heap[b']? := fun b' hq => by simp [Array.getElem?_setIfInBounds, Ne.symm hq]
 have hfz : ∀ b', fz b' → (w.heap.setIfInBounds b (.stringIter q pos'))[b']? = w.heap[b']? := fun b' hq => hne b' (fun e => hnf (e ▸ hq))
 exact {
  size := by simp [h.size]
  tmp := fun i t' ht => by
   simp only at ht
   by_cases hi : k = i
   ·subst hi
    rw [List.getElem?_set_self (by simpa using hkl)] at ht
    injection ht with ht
    subst ht
    exact ⟨_, hv, trivial⟩
   ·rw [List.getElem?_set_ne hi, List.getElem?_map, Option.map_eq_some_iff] at ht
    obtain ⟨t0, h0, rfl⟩ := ht
    obtain ⟨u, hu, hr⟩ := h.tmp i t0 h0
    exact ⟨u, hu, RepT.mono hr.noI hfz (fun _ h => h) (fun _ _ h => h)⟩
  dom1 := h.dom1
  obj := fun k o hk => by
   obtain ⟨l, hl, ho⟩ := h.obj k o hk
   exact ⟨l, hl, ho.mono (fun b' base cap sz hb => hne b' (hnr k b' base cap sz (hb ▸ hl))) hfz (fun _ h => h) (fun _ _ h => h)⟩
  inj := h.inj
  own := fun k b base cap sz hk => by
   obtain ⟨h1, h2⟩ := h.own k b base cap sz hk
   exact ⟨by simpa using h1, h2⟩
  fzl := fun b hb => by simpa using h.fzl b hb
  fz0 := h.fz0
  fz1 := h.fz1
  below := h.below.trans ⟨rfl, rfl, rfl, by simp, fun k hk => hne k (fun e => hk (e ▸ hB))⟩
  frd := h.frd
  glz := h.glz.mono hfz (fun _ h => h)
  boxes := h.boxes
  itr := fun i q' pos2 ht => by
   simp only at ht
   by_cases hi : k = i
   ·subst hi
    rw [List.getElem?_set_self (by simpa using hkl)] at ht
    injection ht with ht
    injection ht with h1 h2
    subst h1
    subst h2
    exact ⟨_, hv, b, rfl, hB, by simp [Array.getElem?_setIfInBounds, hlt], hnf, hnr⟩
   ·rw [List.getElem?_set_ne hi, List.getElem?_map, Option.map_eq_some_iff] at ht
    obtain ⟨t0, h0, ht⟩ := ht
    exact (noI_itr ht).elim }
theorem handC_rep [Globals] (hrel : Rel w0 B f0 fz ρ s a.tmps w) {fL : Nat → Prop} (hf : ∀ b, fz b → fL b) {hs nms : List Nat} {ρ0 : Nat → Option Loc} (hρ : ∀ k ∈ hs, ∀ l, ρ k = some l → ρ0 (nmOf hs nms k) = some l) {v : Value} {c c' : C} (hv : RepC w fz ρ v c) (h : handC s.hp hs nms c = some c')
  (hh : ∀ k ∈ dhsC s.hp hs c, ∀ b base cap sz, ρ k = some (.at b base cap sz) → fL b) : RepC w fL ρ0 v c' := by
 have triv : handC s.hp hs nms c = some c → c.free = true → RepC w fL ρ0 v c' := fun h1 h2 => by
  rw [h1] at h
  injection h with h
  rw [← h]
  exact .frz ((hv.of_free h2).mono (fun _ _ => rfl) hf)
 cases c with
 | ptr k i off =>
  simp only [handC] at h
  split at h
  ·rename_i hk
   injection h with h
   subst h
   cases hv with
   | frz hq => cases hq
   | ptr _ _ _ b base cap sz e => exact .ptr _ i off b base cap sz (hρ k (by simpa using hk) _ e)
  ·cases h
 | ref k off len =>
  simp only [handC] at h
  split at h
  ·rename_i hk
   injection h with h
   subst h
   have hk : k ∈ hs := by simpa using hk
   cases hv with
   | frz hq => cases hq
   | nil _ e => exact .nil _ (hρ k hk _ e)
   | ref _ _ _ b base cap sz aa e hc ha hsm => exact .ref _ off len b base cap sz aa (hρ k hk _ e) hc ha hsm
  ·rename_i hk
   exact .frz (dataC_rep hrel hf 3 hv h (fun k' hk' => hh k' (by simp only [dhsC, if_neg hk]; exact hk')))
 | lit => exact triv rfl rfl
 | sl => exact triv rfl rfl
 | fptr => exact triv rfl rfl
 | fn => exact triv rfl rfl
 | junk => exact triv rfl rfl
theorem handT_rep [Globals] (hrel : Rel w0 B f0 fz ρ s a.tmps w) {fL : Nat → Prop} (hf : ∀ b, fz b → fL b) {hs nms : List Nat} {ρ0 : Nat → Option Loc} (hρ : ∀ k ∈ hs, ∀ l, ρ k = some l → ρ0 (nmOf hs nms k) = some l) {v : Value} {t t' : T} (hv : RepT w fz ρ v t) (h : handT s.hp hs nms t = some t')
  (hh : ∀ k ∈ dhsT s.hp hs t, ∀ b base cap sz, ρ k = some (.at b base cap sz) → fL b) : RepT w fL ρ0 v t' ∧ t'.noI = t' ∧ tOb t' = none := by
 cases t with
 | c x =>
  simp only [handT, Option.map_eq_some_iff] at h
  obtain ⟨x', hx, rfl⟩ := h
  exact ⟨handC_rep hrel hf hρ hv hx hh, rfl, rfl⟩
 | agg cs =>
  simp only [handT, Option.map_eq_some_iff] at h
  obtain ⟨cs', hcs, rfl⟩ := h
  obtain ⟨vs, e, hv⟩ := hv
  obtain ⟨h1, h2⟩ := mapM_get hcs
  refine ⟨⟨vs, e, by rw [h1]; exact hv.1, fun i u c' hu hc' => ?_⟩, rfl, rfl⟩
  have hi := (List.getElem?_eq_some_iff.1 hc').1
  have hci : cs[i]? = some cs[i] := List.getElem?_eq_getElem (by omega)
  exact handC_rep hrel hf hρ (hv.2 i u _ hu hci) (h2 i _ c' hci hc') (fun k hk => hh k (List.mem_flatMap.2 ⟨_, List.getElem_mem _, hk⟩))
 | tup _ => cases h
 | itr _ _ => cases h
 | junk => cases h
theorem tOb_obT (o : Ob) : tOb (obT o) = some o := by
 unfold obT tOb
 simp
theorem lentOf_append (as : List T) (obs : List Ob) (h : ∀ t ∈ as, tOb t = none) : lentOf (as ++ obs.map obT) = obs ∧ realOf (as ++ obs.map obT) = as := by
 unfold lentOf realOf
 rw [List.filterMap_append, List.filter_append]
 have h1 : as.filterMap tOb = [] := by
  rw [List.filterMap_eq_nil_iff]
  exact h
 have h2 : (obs.map obT).filterMap tOb = obs := by
  rw [List.filterMap_map]
  have : (tOb ∘ obT) = some := funext tOb_obT
  rw [this, List.filterMap_some]
 have h3 : (as.filter fun t => (tOb t).isNone) = as := List.filter_eq_self.2 (fun t ht => by rw [h t ht]; rfl)
 have h4 : ((obs.map obT).filter fun t => (tOb t).isNone) = [] := by
  rw [List.filter_eq_nil_iff]
  intro t ht
  obtain ⟨o, _, rfl⟩ := List.mem_map.1 ht
  rw [tOb_obT]
  simp
 rw [h1, h2, h3, h4]
 exact ⟨rfl, List.append_nil _⟩
theorem nilsT_tOb {l : List (Option Nat)} {t : T} (h : tOb t = none) : tOb (nilsT l t) = none := by
 cases t <;> first | rfl | exact h
theorem wkArgs_tOb {tys : List TypeId} {args : List T} (h : ∀ t ∈ args, tOb t = none) : ∀ t ∈ wkArgs ty tys args, tOb t = none := fun t ht => by
 obtain ⟨i, hi⟩ := List.mem_iff_getElem?.1 ht
 obtain ⟨l, t0, h0, h1⟩ := wkArgs_get _ _ i t hi
 have h2 := h t0 (List.mem_of_getElem? h0)
 rcases h1 with rfl | rfl
 ·exact h2
 ·exact nilsT_tOb h2
theorem evL2_sound [Globals] (hcall : call.ok P) (hB : B.n ≤ w0.heap.size) (hrel : Rel w0 B f0 fz ρ s a.tmps w) {c : Call} {f : FuncId} {d : Nat} {hs : List Nat} {s' : St} (ho : o.op = .call c) (hc : c.callee = .value (.func f)) (hd : o.dst = some d) (hnd : hs.Nodup)
  (h : evL2 call ty o f d (c.args.toList.map (opd s.tm)) hs s = some s') {next : Act → World → Prop} {Q : Exit → Act → World → Prop} (hnext : ∀ fz' ρ' tm' w', Rel w0 B f0 fz' ρ' s' tm' w' → next ⟨tm', a.defers⟩ w') : o.wp P a w next Q := by
 unfold evL2 at h
 split at h
 ·cases h
 ·rename_i obs hobs
  split at h
  ·cases h
  ·rename_i args hargs
   split at h
   ·rename_i hcond
    simp only [Bool.and_eq_true, Bool.not_eq_true', List.all_eq_true, List.contains_eq_mem, decide_eq_false_iff_not] at hcond
    obtain ⟨hne, hdh⟩ := hcond
    split at h
    ·cases h
    ·rename_i r hr
     obtain ⟨hok, fn, code, hfn, hnm, hbody⟩ := hcall.2 f _ r hr
     obtain ⟨hlen, hget0⟩ := lentObs_get hobs
     let nms := namesFrom 0 obs
     have hnms : ∀ (i j k : Nat), nms[i]? = some k → nms[j]? = some k → i = j := fun i j k => names_inj
     have hnl : nms.length = hs.length := by rw [← hlen]; exact namesFrom_length
     have hinj : ∀ (i j k : Nat), hs[i]? = some k → hs[j]? = some k → i = j := fun i j k => nodup_get hnd
     let ρ0 : Nat → Option Loc := fun k => (ixOf nms k).bind fun j => (hs[j]?).bind ρ
     have hname : ∀ (j k : Nat), hs[j]? = some k → ∃ q, nms[j]? = some q ∧ nmOf hs nms k = q ∧ ρ0 q = ρ k := fun j k hj => by
      have hjl := (List.getElem?_eq_some_iff.1 hj).1
      have hq : nms[j]? = some nms[j] := List.getElem?_eq_getElem (by omega)
      refine ⟨nms[j], hq, ?_, ?_⟩
      ·unfold nmOf
       rw [ixOf_get hinj hj, Option.bind_some, hq, Option.getD_some]
      ·simp only [ρ0]
       rw [ixOf_get hnms hq, Option.bind_some, hj, Option.bind_some]
     have hρ : ∀ k ∈ hs, ∀ l, ρ k = some l → ρ0 (nmOf hs nms k) = some l := fun k hk l hl => by
      obtain ⟨j, hj⟩ := List.mem_iff_getElem?.1 hk
      obtain ⟨q, _, h2, h3⟩ := hname j k hj
      rw [h2, h3]
      exact hl
     have hρ0 : ∀ k l, ρ0 k = some l → ∃ (j h : Nat), nms[j]? = some k ∧ hs[j]? = some h ∧ ρ h = some l := fun k l hk => by
      simp only [ρ0] at hk
      rw [Option.bind_eq_some_iff] at hk
      obtain ⟨j, hj, hk⟩ := hk
      rw [Option.bind_eq_some_iff] at hk
      obtain ⟨h, hh, hk⟩ := hk
      exact ⟨j, h, ixOf_some hj, hh, hk⟩
     let dhs := (c.args.toList.map (opd s.tm)).flatMap (dhsT s.hp hs)
     let fL : Nat → Prop := fun b => fz b ∨ ∃ k ∈ dhs, ∃ base cap sz, ρ k = some (.at b base cap sz)
     have hfL : ∀ b, fz b → fL b := fun b hb => .inl hb
     -- the arguments
     obtain ⟨m1, m2⟩ := mapM_get hargs
     simp only [List.length_map] at m1
     have hreps0 : ∀ (i : Nat) (t : T), args[i]? = some t → ∃ v, (c.args.toList.map a.eval)[i]? = some v ∧ RepT w fL ρ0 v t ∧ t.noI = t ∧ tOb t = none := fun i t ht => by
      have hi := (List.getElem?_eq_some_iff.1 ht).1
      have hx : c.args.toList[i]? = some c.args.toList[i] := List.getElem?_eq_getElem (by omega)
      have hmx : (c.args.toList.map (opd s.tm))[i]? = some (opd s.tm c.args.toList[i]) := by rw [List.getElem?_map, hx]; rfl
      refine ⟨a.eval c.args.toList[i], by rw [List.getElem?_map, hx]; rfl, handT_rep hrel hfL hρ (opd_rep hrel c.args.toList[i]) (m2 i _ t hmx ht) (fun k hk b base cap sz e => .inr ⟨k, List.mem_flatMap.2 ⟨_, List.mem_of_getElem? hmx, hk⟩, base, cap, sz, e⟩)⟩
     have hreps := wkArgs_rep (ty := ty) (w := w) (callTys o) (fun i t ht => by obtain ⟨v, h1, h2, _⟩ := hreps0 i t ht; exact ⟨v, h1, h2⟩)
     have hno : ∀ t ∈ args, t.noI = t ∧ tOb t = none := fun t ht => by
      obtain ⟨i, hi⟩ := List.mem_iff_getElem?.1 ht
      obtain ⟨_, _, _, h3⟩ := hreps0 i t hi
      exact h3
     have hob0 := wkArgs_tOb (ty := ty) (tys := callTys o) (fun t ht => (hno t ht).2)
     have hmap : (obs.map fun ob => obT (ob.shift (nmOf hs nms))) = (obs.map (Ob.shift (nmOf hs nms))).map obT := by rw [List.map_map]; rfl
     obtain ⟨hlo, hre⟩ := lentOf_append (wkArgs ty (callTys o) args) (obs.map (Ob.shift (nmOf hs nms))) hob0
     rw [← hmap] at hlo hre
     have hobn : obs ≠ [] := fun e => by
      have : hs = [] := List.eq_nil_of_length_eq_zero (by rw [← hlen, e]; rfl)
      rw [this] at hne
      cases hne
     have hld := hok.2 (by
      show lentOf (wkArgs ty (callTys o) args ++ obs.map fun ob => obT (ob.shift (nmOf hs nms))) ≠ []
      rw [hlo]
      intro e
      exact hobn (List.map_eq_nil_iff.1 e))
     have hlt : ∀ b, fL b → b < w.heap.size := fun b hb => by
      rcases hb with hb | ⟨k, _, base, cap, sz, e⟩
      ·exact hrel.fzl b hb
      ·exact (hrel.own k b base cap sz e).1
     have hfrh : ∀ (j k : Nat), hs[j]? = some k → k ∉ s.fr := fun j k hj => by obtain ⟨_, _, _, h3, _⟩ := hget0 j k hj; exact h3
     have hlin : LentIn w fL ρ0 (obs.map (Ob.shift (nmOf hs nms))) := {
      obj := fun j o' hj => by
       rw [List.getElem?_map, Option.map_eq_some_iff] at hj
       obtain ⟨o1, h1, rfl⟩ := hj
       have hjl := (List.getElem?_eq_some_iff.1 h1).1
       have hh : hs[j]? = some hs[j] := List.getElem?_eq_getElem (by omega)
       obtain ⟨o2, g1, g2, g3, g4⟩ := hget0 j _ hh
       rw [h1] at g1
       injection g1 with g1
       subst g1
       obtain ⟨l, hl, hO⟩ := hrel.obj _ _ g2
       obtain ⟨q, q1, q2, q3⟩ := hname j _ hh
       have hq : q = lentH o1.box j := by
        have : nms[j]? = _ := namesFrom_get
        rw [q1, h1, Option.map_some, Nat.zero_add] at this
        injection this
       refine ⟨l, by rw [Ob.shift_box, ← hq, q3]; exact hl, hO.to (fun _ _ _ _ _ => rfl) (fun _ _ => rfl) hfL (fun k hk l' hl' => hρ k (g4 k hk) l' hl')⟩
      dom := fun k l hk => by
       obtain ⟨j, h, h1, h2, _⟩ := hρ0 k l hk
       have : nms[j]? = _ := namesFrom_get
       rw [h1] at this
       obtain ⟨o1, e1, e2⟩ := Option.map_eq_some_iff.1 this.symm
       exact ⟨j, o1.shift (nmOf hs nms), by rw [List.getElem?_map, e1]; rfl, by rw [Ob.shift_box, ← e2, Nat.zero_add]⟩
      inj := fun k k' b base cap sz base' cap' sz' h1 h2 => by
       obtain ⟨j, h, g1, g2, g3⟩ := hρ0 k _ h1
       obtain ⟨j', h', g1', g2', g3'⟩ := hρ0 k' _ h2
       have e := hrel.inj h h' b _ _ _ _ _ _ (hfrh j h g2) (hfrh j' h' g2') g3 g3'
       subst e
       have e := hinj j j' h g2 g2'
       subst e
       rw [g1] at g1'
       injection g1'
      own := fun k b base cap sz hk => by
       obtain ⟨j, h, g1, g2, g3⟩ := hρ0 k _ hk
       obtain ⟨e1, e2, _⟩ := hrel.own h b base cap sz g3
       refine ⟨e1, fun hz => ?_⟩
       rcases hz with hz | ⟨k2, hk2, _, _, _, hρ2⟩
       ·exact (e2 (hfrh j h g2)).2 hz
       ·by_cases hm : k2 ∈ s.fr
        ·exact (e2 (hfrh j h g2)).2 ((hrel.own k2 b _ _ _ hρ2).2.2 hm)
        ·have e := hrel.inj h k2 b _ _ _ _ _ _ (hfrh j h g2) hm g3 hρ2
         exact hdh k2 hk2 (by rw [← e]; exact List.mem_of_getElem? g2) }
     have hcalls := hld w fL ρ0 (c.args.map a.eval) (by
       show (c.args.map a.eval).size = (realOf (wkArgs ty (callTys o) args ++ obs.map fun ob => obT (ob.shift (nmOf hs nms)))).length
       rw [hre, wkArgs_length, m1]; simp) (fun i t ht => by
        have ht : (realOf (wkArgs ty (callTys o) args ++ obs.map fun ob => obT (ob.shift (nmOf hs nms))))[i]? = some t := ht
        rw [hre] at ht
        obtain ⟨v, hv, hrep⟩ := hreps i t ht
        refine ⟨v, ?_, hrep⟩
        rw [← Array.getElem?_toList, Array.toList_map]
        exact hv) (fun t ht => by
        have ht : t ∈ realOf (wkArgs ty (callTys o) args ++ obs.map fun ob => obT (ob.shift (nmOf hs nms))) := ht
        rw [hre] at ht
        obtain ⟨i, hi⟩ := List.mem_iff_getElem?.1 ht
        obtain ⟨l, t0, h0, h1⟩ := wkArgs_get _ _ i t hi
        have h2 := (hno t0 (List.mem_of_getElem? h0)).1
        rcases h1 with rfl | rfl
        ·exact h2
        ·exact nilsT_noI l h2) (by
        show LentIn w fL ρ0 (lentOf (wkArgs ty (callTys o) args ++ obs.map fun ob => obT (ob.shift (nmOf hs nms))))
        rw [hlo]; exact hlin) hlt (hrel.glz.mono (fun _ _ => rfl) hfL)
     have hrun : (execOp a.eval o).run P w = .ok (.enter f (c.args.map a.eval)) w := by
      have he : a.eval (.func f) = .func (.func f) #[] #[] := rfl
      simp only [execOp, ho, resolve, hc, he, Deferred.ofValue, Sem.run_bind, Sem.run_pure, Result.andThen_ok, invoke, Array.empty_append, Array.append_empty]
      exact run_callFunc hfn hnm hbody
     unfold Oper.wp
     rw [hrun, Oper.upon_enter]
     refine hcalls.mono ?_
     rintro e w' ⟨v, fz', ρ', rfl, hout⟩
     have hout : OutL w w' fL fz' ρ0 ρ' v (lentOf (wkArgs ty (callTys o) args ++ obs.map fun ob => obT (ob.shift (nmOf hs nms)))) r := hout
     rw [hlo] at hout
     obtain ⟨fz2, ρ2, hR, _⟩ := takeL_sound (dhs := dhs) hrel (Nat.le_trans hB hrel.below.size) hobs hnd (by simp) (fun j o1 hj => ⟨o1.shift (nmOf hs nms), by rw [List.getElem?_map, hj]; rfl, Ob.shift_box⟩)
      (fun k l hk => by obtain ⟨j, h, _, g2, g3⟩ := hρ0 k l hk; exact ⟨j, h, g2, g3⟩) (fun j k o1 hj h1 => by
       obtain ⟨q, q1, q2, q3⟩ := hname j k hj
       have : nms[j]? = _ := namesFrom_get
       rw [q1, h1, Option.map_some, Nat.zero_add] at this
       injection this with this
       rw [← this, q3]) (fun b => Iff.rfl) hdh hout h
     simp only [hd, put_some]
     exact hnext _ _ _ _ hR
   ·cases h
theorem evOp_sound [Globals] (hty : ∀ t y, ty t = some y → Ty.of P t = some y) (hcall : call.ok P) (hB : B.n ≤ w0.heap.size) (hrel : Rel w0 B f0 fz ρ s a.tmps w) {s' : St} (h : evOp call ty o s = some s') {next : Act → World → Prop} {Q : Exit → Act → World → Prop}
  (hnext : ∀ fz' ρ' tm' w', Rel w0 B f0 fz' ρ' s' tm' w' → next ⟨tm', a.defers⟩ w') : o.wp P a w next Q := by
 have viaP : (evP ty o s.tm s.hp).bind (putP s o.dst) = some s' → o.wp P a w next Q := by
  intro h
  rw [Option.bind_eq_some_iff] at h
  obtain ⟨r, hr, hp⟩ := h
  obtain ⟨v, w', ρ', hrun, hR⟩ := putP_sound hcall.1.1 hty hB hrel hr hp
  unfold Oper.wp
  rw [hrun]
  have : a.put o.dst v = ⟨(a.put o.dst v).tmps, a.defers⟩ := by cases o.dst <;> rfl
  rw [Oper.upon_value, this]
  exact hnext _ _ _ _ hR
 unfold evOp at h
 split at h
 ·rename_i t ad x ho
  split at h
  ·rename_i hd
   obtain ⟨w', fz', ρ', hrun, hR, _⟩ := evS_sound hty hrel ho h
   unfold Oper.wp
   rw [hrun, Oper.upon_skip]
   have : o.dst = none := by simpa using hd
   rw [this]
   exact hnext _ _ _ _ hR
  ·cases h
 ·rename_i t x ho
  unfold evR0 at h
  split at h
  ·rename_i q d hx hk hd
   injection h with h
   subst h
   rw [Option.map_eq_some_iff] at hk
   obtain ⟨y, hy, hk⟩ := hk
   obtain ⟨_, d1, _, hd1, he1, _⟩ := Ty.of_some (hty t y hy)
   rw [hk] at he1
   have e1 := K.of_str he1.symm
   subst e1
   have hrun : (execOp a.eval o).run P w = .ok (.value (.pointer (some ⟨w.heap.size, 0, none⟩))) (w.alloc (.stringIter q 0)) := by
    simp only [execOp, ho, opd_lit hrel hx, Instr.range, Sem.run_bind, run_underlying hd1, Result.andThen_ok, Sem.run_pure, run_newObj]
    rfl
   unfold Oper.wp
   rw [hrun, Oper.upon_value, hd, put_some]
   exact hnext _ _ _ _ (hrel.begun (Nat.le_trans hB hrel.below.size) q d)
  ·cases h
 ·rename_i it isS ho
  unfold evI at h
  split at h
  ·rename_i k
   split at h
   ·rename_i q pos d hk hd
    obtain ⟨v, hv, b, rfl, hBb, hheap, hnf, hnr⟩ := hrel.itr k q pos hk
    have hev : a.eval (.tmp k) = .pointer (some ⟨b, 0, none⟩) := by simp [Act.eval, Array.getD_eq_getD_getElem?, hv]
    split at h
    ·rename_i hlt
     injection h with h
     subst h
     have hrun : (execOp a.eval o).run P w = .ok (.value (.tuple #[.bool true, .int .i64 pos, .int .i32 (decR q pos)])) { w with heap := w.heap.setIfInBounds b (.stringIter q (pos + decW q pos)) } := by
      simp only [execOp, ho, hev, Instr.next, getObj, setObj, Sem.run_bind, Sem.run, hheap, Result.andThen_ok, if_pos hlt, Sem.run_pure]
      rfl
     unfold Oper.wp
     rw [hrun, Oper.upon_value, hd, put_some]
     refine hnext _ _ _ _ ((hrel.stepped hk hv hBb hheap hnf hnr (pos + decW q pos)).put d (t := .tup [.c (.lit (.bool true)), .c (.lit (.int .i64 pos)), .c (.lit (.int .i32 (decR q pos)))]) ⟨_, rfl, rfl, fun i t ht => ?_⟩ rfl)
     match i, ht with
     | 0, ht => injection ht with ht; subst ht; exact ⟨_, rfl, .frz (.lit (.bool true) trivial)⟩
     | 1, ht => injection ht with ht; subst ht; exact ⟨_, rfl, .frz (.lit (.int .i64 pos) trivial)⟩
     | 2, ht => injection ht with ht; subst ht; exact ⟨_, rfl, .frz (.lit (.int .i32 (decR q pos)) trivial)⟩
     | i + 3, ht => simp at ht
    ·rename_i hlt
     injection h with h
     subst h
     have hrun : (execOp a.eval o).run P w = .ok (.value (.tuple #[.bool false])) w := by
      simp only [execOp, ho, hev, Instr.next, getObj, Sem.run_bind, Sem.run, hheap, Result.andThen_ok, if_neg hlt, Sem.run_pure]
     unfold Oper.wp
     rw [hrun, Oper.upon_value, hd, put_some]
     refine hnext _ _ _ _ (hrel.put d (t := .tup [.c (.lit (.bool false))]) ⟨_, rfl, rfl, fun i t ht => ?_⟩ rfl)
     match i, ht with
     | 0, ht => injection ht with ht; subst ht; exact ⟨_, rfl, .frz (.lit (.bool false) trivial)⟩
     | i + 1, ht => simp at ht
   ·cases h
  ·cases h
 ·rename_i u v x ho
  split at h
  ·rename_i huv
   subst huv
   unfold evW at h
   split at h
   ·rename_i e hk
    split at h
    ·rename_i k off len d hu8 hx hd
     split at h
     ·rename_i ob hob
      split at h
      ·rename_i hc
       injection h with h
       subst h
       obtain ⟨hc, hlen⟩ := hc
       have hfr : k ∉ s.fr := by simpa using hc
       have hrep := opd_rep hrel x
       rw [hx] at hrep
       have hrep : RepC w fz ρ (a.eval x) (.ref k off len) := hrep
       rw [Option.map_eq_some_iff] at hk hu8
       obtain ⟨y, hy, hk⟩ := hk
       obtain ⟨z, hz, hu8⟩ := hu8
       obtain ⟨_, d1, _, hd1, he1, _⟩ := Ty.of_some (hty u y hy)
       obtain ⟨_, d3, _, hd3, he3, _⟩ := Ty.of_some (hty e z hz)
       rw [hk] at he1
       rw [hu8] at he3
       have e1 := K.of_slice he1.symm
       have e3 := K.of_int he3.symm
       subst e1
       subst e3
       generalize hvv : a.eval x = vx at hrep
       cases hrep with
       | frz hf => cases hf
       | nil => omega
       | ref _ _ _ b base cap sz ad hr hcap ha hs =>
        rw [ha (by omega)] at hvv
        obtain ⟨h1, h0, h2, h3, c, fr, hb, hsz, ⟨hth, hthx⟩, hcell⟩ := hrel.objAt hob hr
        obtain ⟨hbl, hB2, _⟩ := hrel.own k b base cap sz hr
        obtain ⟨W, hW, fr', hWb, hth', hbut⟩ : ∃ W, (markStringish ⟨b, base + off * sz, none⟩).run P w = .ok () W ∧ ∃ fr' : Nat × Nat, W.heap[b]? = some (.cells c ob.elem fr') ∧ (fr'.1 = fr'.2 ∨ c.size ≤ fr'.1) ∧ But w W b := by
         refine ⟨w.freeze ⟨b, c.size, none⟩ 1, ?_, (if fr.1 == fr.2 then (c.size, c.size + 1) else (min fr.1 c.size, max fr.2 (c.size + 1))), ?_, ?_, ?_⟩
         ·simp only [markStringish, Sem.run_bind, run_shape, World.shape?, hb, Result.andThen_ok]
          rfl
         ·simp only [World.freeze, if_neg (show ¬ (1 = 0) by decide)]
          rw [Array.getElem?_modify, if_pos rfl, hb]
          rfl
         ·split
          ·right; simp
          ·rename_i hne
           right
           have : fr.1 ≠ fr.2 := by simpa using hne
           simp only
           omega
         ·refine ⟨rfl, rfl, rfl, ?_, fun q hq => ?_⟩
          ·simp only [World.freeze, if_neg (show ¬ (1 = 0) by decide), Array.size_modify]
          ·simp only [World.freeze, if_neg (show ¬ (1 = 0) by decide)]
           rw [Array.getElem?_modify, if_neg (Ne.symm hq)]
        have hfz : ∀ q, fz q → W.heap[q]? = w.heap[q]? := fun q hq => hbut.block q (fun e => (hB2 hfr).2 (e ▸ hq))
        have hrun : (execOp a.eval o).run P w = .ok (.value (.slice (some ⟨b, base + off * sz, none⟩) len (cap - off))) W := by
         simp only [execOp, ho, hvv, convert, Sem.run_bind, run_underlying hd1, Result.andThen_ok, beq_self_eq_true, run_underlying hd3, hW, Sem.run_pure]
        unfold Oper.wp
        rw [hrun, Oper.upon_value, hd, put_some]
        refine hnext _ _ _ _ ((hrel.write hob hr hfr hbut rfl (fun _ => ⟨h1, h0, h2, h3, c, fr', hWb, hsz, ⟨hth', hthx⟩, fun i j e' x' he' hx' => ?_⟩)).put d (t := .c (.ref k off len)) (RepC.ref k off len b base cap sz _ hr hcap (fun _ => rfl) rfl) rfl)
        obtain ⟨v, hv, hrep⟩ := hcell i j e' x' he' hx'
        exact ⟨v, hv, hrep.mono hfz (fun _ h => h) (fun _ _ h => h)⟩
      ·cases h
     ·cases h
    ·cases h
   ·exact viaP h
  ·exact viaP h
 ·rename_i fn first caps ho
  obtain ⟨fz1, ρ1, hr1, _, _⟩ := freezes_sound (capHs s.tm caps.toList) hrel
  rw [Option.bind_eq_some_iff] at h
  obtain ⟨r, hr, hp⟩ := h
  obtain ⟨v, w', ρ', hrun, hR⟩ := putP_sound hcall.1.1 hty hB hr1 hr hp
  unfold Oper.wp
  rw [hrun]
  have : a.put o.dst v = ⟨(a.put o.dst v).tmps, a.defers⟩ := by cases o.dst <;> rfl
  rw [Oper.upon_value, this]
  exact hnext _ _ _ _ hR
 ·rename_i c ho
  split at h
  ·rename_i f all hl
   unfold lendOf at hl
   split at hl
   ·rename_i f' hc
    rw [Option.map_eq_some_iff] at hl
    obtain ⟨b, _, hl⟩ := hl
    injection hl with hl1 hl2
    subst hl1
    unfold evL1 at h
    split at h
    ·rename_i d hd
     exact evL2_sound hcall hB hrel ho hc hd (lentHs_nodup _ _ _) h hnext
    ·cases h
   ·cases hl
  split at h
  ·rename_i x hc
   split at h
   ·cases h
   ·rename_i f caps hf
    split at h
    ·exact viaP h
    ·split at h
     ·cases h
     ·rename_i args hargs
      split at h
      ·cases h
      ·rename_i r hr
       obtain ⟨hok, fn, code, hfn, hnm, hbody⟩ := hcall.2 f _ r hr
       obtain ⟨cv, hcv, hcs, hcr⟩ := fnOf_rep (opd_rep hrel x) hf
       -- what is lent
       let hs := (c.args.toList.map (opd s.tm)).flatMap (hsT s.hp)
       let fL : Nat → Prop := fun b => fz b ∨ ∃ k ∈ hs, ∃ base cap sz, ρ k = some (.at b base cap sz)
       obtain ⟨hl, hreps⟩ := mapM_args hrel (fL := fL) (fun b hb => .inl hb) hargs (fun k hk b base cap sz e => .inr ⟨k, hk, base, cap, sz, e⟩)
       have hreps := wkArgs_rep (ty := ty) (callTys o) hreps
       have hl : (c.args.toList.map a.eval).length = (wkArgs ty (callTys o) args).length := by rw [wkArgs_length]; exact hl
       have hlt : ∀ b, fL b → b < w.heap.size := fun b hb => by
        rcases hb with hb | ⟨k, _, base, cap, sz, e⟩
        ·exact hrel.fzl b hb
        ·exact (hrel.own k b base cap sz e).1
       have hl2 : c.args.size = (wkArgs ty (callTys o) args).length := by rw [← hl]; simp
       have hcalls := hok.1 (by
        unfold lentOf
        rw [List.filterMap_eq_nil_iff]
        intro t ht
        rcases List.mem_append.1 ht with ht | ht
        ·exact wkArgs_tOb (fun t0 h0 => dataT_tOb hargs h0) t ht
        ·obtain ⟨y, _, rfl⟩ := List.mem_map.1 ht
         rfl) w fL (c.args.map a.eval ++ cv) (by rw [Array.size_append, Array.size_map, List.length_append, List.length_map, hl2, hcs]) (fun i t ht => by
        by_cases hi : i < (wkArgs ty (callTys o) args).length
        ·rw [List.getElem?_append_left hi] at ht
         obtain ⟨v, hv, hrep⟩ := hreps i t ht
         refine ⟨v, ?_, hrep⟩
         rw [Array.getElem?_append_left (by rw [Array.size_map]; omega), ← Array.getElem?_toList, Array.toList_map]
         exact hv
        ·rw [List.getElem?_append_right (by omega), List.getElem?_map, Option.map_eq_some_iff] at ht
         obtain ⟨y, hy, rfl⟩ := ht
         have hi2 := (List.getElem?_eq_some_iff.1 hy).1
         have hlt2 : i - (wkArgs ty (callTys o) args).length < cv.size := by omega
         refine ⟨cv[i - (wkArgs ty (callTys o) args).length], ?_, .frz ((hcr _ _ y (Array.getElem?_eq_getElem hlt2) hy).mono (fun _ _ => rfl) (fun b hb => .inl hb))⟩
         rw [Array.getElem?_append_right (by rw [Array.size_map]; omega), Array.size_map, hl2]
         exact Array.getElem?_eq_getElem hlt2) (fun t ht => by
        rcases List.mem_append.1 ht with ht | ht
        ·obtain ⟨i, hi⟩ := List.mem_iff_getElem?.1 ht
         obtain ⟨l, t0, h0, h1⟩ := wkArgs_get _ _ i t hi
         have h2 : t0.noI = t0 := dataT_noI hargs (List.mem_of_getElem? h0)
         rcases h1 with rfl | rfl
         ·exact h2
         ·exact nilsT_noI l h2
        ·obtain ⟨y, _, rfl⟩ := List.mem_map.1 ht
         rfl) hlt (hrel.glz.mono (fun _ _ => rfl) (fun b hb => .inl hb))
       have hrun : (execOp a.eval o).run P w = .ok (.enter f (c.args.map a.eval ++ cv)) w := by
        simp only [execOp, ho, resolve, hc, hcv, Deferred.ofValue, Sem.run_bind, Sem.run_pure, Result.andThen_ok, invoke, Array.empty_append]
        exact run_callFunc hfn hnm hbody
       unfold Oper.wp
       rw [hrun, Oper.upon_enter]
       refine hcalls.mono ?_
       rintro e w' ⟨v, fz', ρ', rfl, hout⟩
       obtain ⟨fz2, ρ2, ⟨d, hd, hR⟩, _⟩ := takeIn_sound hrel (Nat.le_trans hB hrel.below.size) (fun b => Iff.rfl) hout h
       simp only [hd, put_some]
       exact hnext _ _ _ _ hR
  ·rename_i hc
   obtain ⟨v, w', fz', ρ', hrun, hR, _⟩ := evA_sound hty hB hrel ho hc h
   unfold Oper.wp
   rw [hrun, Oper.upon_value]
   have : a.put o.dst v = ⟨(a.put o.dst v).tmps, a.defers⟩ := by cases o.dst <;> rfl
   rw [this]
   exact hnext _ _ _ _ hR
  ·exact viaP h
 ·exact viaP h
theorem guardOf_wanted [Globals] (hrel : Rel w0 B f0 fz ρ s a.tmps w) {ops : Array Oper} {b : Bool} (h : guardOf ops s.tm o = some b) : Region.wanted o (yielded ops a.tmps) = b := by
 unfold guardOf at h
 unfold Region.wanted
 split at h
 ·rename_i hg
  injection h with h
  rw [hg]
  exact h
 ·rename_i j want hg
  rw [hg]
  split at h
  ·rename_i d hd
   split at h
   ·rename_i q hq
    injection h with h
    obtain ⟨v, hv, hr⟩ := hrel.tmp d _ hq
    have hr : RepC w fz ρ v (.lit (.bool q)) := hr
    have : v = .bool q := by cases hr with | frz hf => cases hf; rfl
    subst this
    simp only [yielded, hd, Option.bind_some, hv]
    rw [← h]
    cases q <;> cases want <;> rfl
   ·rename_i ts hq
    injection h with h
    obtain ⟨v, hv, vs, rfl, _⟩ := hrel.tmp d _ hq
    simp only [yielded, hd, Option.bind_some, hv]
    rw [← h]
    cases want <;> rfl
   ·cases h
  ·cases h
theorem evOps_sound [Globals] (hty : ∀ t y, ty t = some y → Ty.of P t = some y) (hcall : call.ok P) (hB : B.n ≤ w0.heap.size) {ops : Array Oper} {Q : Exit → Act → World → Prop} : ∀ {l : List Oper} {idxs : List Nat} {fz : Nat → Prop} {ρ : Nat → Option Loc} {s : St} {a : Act} {w : World}, Rel w0 B f0 fz ρ s a.tmps w →
  idxs.map (ops[·]?) = l.map some → ∀ {s' : St}, evOps call ty ops l s = some s' → (∀ fz' ρ' tm' w', Rel w0 B f0 fz' ρ' s' tm' w' → Q .normal ⟨tm', a.defers⟩ w') → wpOps P ops Q idxs a w
 | [], idxs, fz, ρ, s, a, w, hrel, hi, s', h, hq => by
  cases idxs with
  | nil =>
   simp only [evOps, Option.some.injEq] at h
   subst h
   exact hq _ _ _ _ hrel
  | cons i rest => simp at hi
 | o :: l, idxs, fz, ρ, s, a, w, hrel, hi, s', h, hq => by
  cases idxs with
  | nil => simp at hi
  | cons i rest =>
   simp only [List.map_cons, List.cons.injEq] at hi
   obtain ⟨hi, hrest⟩ := hi
   simp only [wpOps, hi]
   simp only [evOps] at h
   split at h
   ·cases h
   ·rename_i hg
    rw [guardOf_wanted hrel hg]
    simp only [Bool.false_eq_true, if_false]
    have hR : ∃ ρ', Rel w0 B f0 fz ρ' (putT s o.dst (.tup [])) (a.put o.dst undef).tmps w := by
     unfold putT
     cases hd : o.dst with
     | none => exact ⟨ρ, hrel⟩
     | some d => exact ⟨ρ, hrel.put d (t := .tup []) ⟨#[], rfl, rfl, fun i t h => by simp at h⟩ rfl⟩
    obtain ⟨ρ', hR⟩ := hR
    have hdf : (a.put o.dst undef).defers = a.defers := by cases o.dst <;> rfl
    exact evOps_sound hty hcall hB hR hrest h (fun fz' ρ' tm' w' hr => by rw [hdf]; exact hq _ _ _ _ hr)
   ·rename_i hg
    rw [guardOf_wanted hrel hg]
    simp only [if_true]
    split at h
    ·cases h
    ·rename_i s1 hs1
     left
     refine evOp_sound hty hcall hB hrel hs1 (fun fz' ρ' tm' w' hr => ?_)
     exact evOps_sound hty hcall hB hr hrest h hq
theorem toEvict_sound [Globals] (hrel : Rel w0 B f0 fz ρ s a.tmps w) (ops : List Oper) : ∃ fz' ρ', Rel w0 B f0 fz' ρ' (enter ops s) a.tmps w := by
 obtain ⟨fz', ρ', h1, _⟩ := evicts_sound (toEvict ops s.hp) hrel
 exact ⟨fz', ρ', h1⟩
end
def Ex.toExit : Ex → Exit
 | .norm => .normal
 | .exit id => .exit id
 | .ret => .ret
def okCode (good : Nat → Array Oper → Bool) : Code → Bool
 | .region id ops draw => !draw || good id ops
 | .seq a b => okCode good a && okCode good b
 | .cond _ a b => okCode good a && okCode good b
 | .block _ c => okCode good c
 | .loop c => okCode good c
 | _ => true
section
variable {P : Program} {ty : Tys} {kp : Nat → Option (List Nat)} {K : Nat → Option (Nat → Option (List Nat))} {call : CallF} {w0 : World} {B : Bs} {f0 : Nat → Prop}
theorem Rel.drew [Globals] {fz : Nat → Prop} {ρ : Nat → Option Loc} {s : St} {tm : Array Value} {w : World} (h : Rel w0 B f0 fz ρ s tm w) : Rel w0 B f0 fz ρ s tm w.drew where
 size := h.size
 tmp := fun i t ht => by obtain ⟨v, hv, hr⟩ := h.tmp i t ht; exact ⟨v, hv, hr.mono (fun _ _ => rfl) (fun _ h => h) (fun _ _ h => h)⟩
 dom1 := h.dom1
 obj := fun k o hk => by obtain ⟨l, hl, ho⟩ := h.obj k o hk; exact ⟨l, hl, ho.mono (fun _ _ _ _ _ => rfl) (fun _ _ => rfl) (fun _ h => h) (fun _ _ h => h)⟩
 inj := h.inj
 own := h.own
 fzl := h.fzl
 fz0 := h.fz0
 fz1 := h.fz1
 below := h.below.drew
 frd := h.frd
 glz := h.glz.mono (fun _ _ => rfl) (fun _ h => h)
 boxes := h.boxes
 itr := fun i q pos ht => by
  obtain ⟨u, hu, hI⟩ := h.itr i q pos ht
  exact ⟨u, hu, hI.mono (fun _ _ _ => rfl) (fun _ _ _ hz _ => hz) (fun _ _ hq => hq)⟩
theorem map_get_range (ops : Array Oper) : (List.range ops.size).map (ops[·]?) = ops.toList.map some := by
 apply List.ext_getElem?
 intro i
 simp only [List.getElem?_map]
 by_cases hi : i < ops.size
 ·rw [List.getElem?_range hi, List.getElem?_eq_getElem (by simpa using hi)]
  simp [hi]
 ·rw [List.getElem?_eq_none (by simpa using hi), List.getElem?_eq_none (by simpa using hi)]
  rfl
theorem evOpsU_evOps0 [Globals] {U : List Nat} {ops : Array Oper} : ∀ {l : List Oper} {s s' : St}, evOpsU call ty U l s = some s' → evOps call ty ops l s = some s'
 | [], s, s', h => h
 | o :: l, s, s', h => by
  simp only [evOpsU] at h
  split at h
  ·rename_i hc
   simp only [Bool.and_eq_true, Option.isNone_iff_eq_none] at hc
   rw [Option.bind_eq_some_iff] at h
   obtain ⟨s1, h1, h2⟩ := h
   simp only [evOps, guardOf, hc.1, h1]
   exact evOpsU_evOps0 h2
  ·cases h
theorem evReg_evOps [Globals] {u : Option (List Nat)} {ops : Array Oper} {s s' : St} (h : evReg call ty u ops s = some s') : evOps call ty ops ops.toList s = some s' := by
 cases u with
 | none => exact h
 | some U => exact evOpsU_evOps0 h
def Anyhow [Globals] (P : Program) (ty : Tys) (call : CallF) (kp : Nat → Option (List Nat)) (good : Nat → Array Oper → Bool) : Prop :=
 ∀ (w0 : World) (B : Bs) (f0 fz : Nat → Prop) (ρ : Nat → Option Loc) (s s' : St) (tm : Array Value) (w : World) (id : Nat) (ops : Array Oper) (t : Nat), B.n ≤ w0.heap.size → good id ops = true → Rel w0 B f0 fz ρ (enter ops.toList (tidy (kp id) s)) tm w →
  evReg call ty (kp (30000 + id)) ops (enter ops.toList (tidy (kp id) s)) = some s' → ∃ l : List Oper, (Region.schedule (P.follows .mixedOrders) ops t).map (ops[·]?) = l.map some ∧ evOps call ty ops l (enter ops.toList (tidy (kp id) s)) = some s'
def LoopWp (P : Program) (c : Code) (Q : Exit → Act → World → Prop) (a : Act) (w : World) : Prop :=
 ∀ (b : Frame) (k : List Item) (cs : List Frame), ∃ e a' w', Q e a' w' ∧ Arrives P (lone (b.at a (.code c :: .inLoop c :: k)) cs w) b k cs e a' w'
theorem wp_of_loopWp {c : Code} {Q : Exit → Act → World → Prop} {a : Act} {w : World} (h : LoopWp P c Q a w) : (Code.loop c).wp P Q a w := by
 intro b k cs
 obtain ⟨e, a', w', hq, harr⟩ := h b k cs
 exact ⟨e, a', w', hq, .of_steps (.one step_loop) harr⟩
theorem loopWp_round {c : Code} {Q : Exit → Act → World → Prop} {a : Act} {w : World} (h : c.wp P (Exit.then (fun a' w' => LoopWp P c Q a' w') Q) a w) : LoopWp P c Q a w := by
 intro b k cs
 obtain ⟨e, a₁, w₁, hq, harr⟩ := h b (.inLoop c :: k) cs
 cases e with
 | normal =>
  obtain ⟨e₂, a₂, w₂, hq₂, harr₂⟩ := hq b k cs
  exact ⟨e₂, a₂, w₂, hq₂, .of_steps (Steps.trans harr (.one step_inLoop)) harr₂⟩
 | exit id => exact ⟨_, a₁, w₁, hq, .pass (x := .inLoop c) rfl (fun _ _ => .inl (by simp)) harr⟩
 | goto l => exact ⟨_, a₁, w₁, hq, .pass (x := .inLoop c) rfl (fun _ _ => .inl (by simp)) harr⟩
 | ret => exact ⟨_, a₁, w₁, hq, .pass (x := .inLoop c) rfl (fun _ _ => .inl (by simp)) harr⟩
 | panic ch => exact ⟨_, a₁, w₁, hq, .pass (x := .inLoop c) rfl (fun _ _ => .inl (by simp)) harr⟩
 | outgrown => exact ⟨_, a₁, w₁, hq, .pass (x := .inLoop c) rfl (fun _ _ => .inl (by simp)) harr⟩
def CodeOwes [Globals] (P : Program) (good : Nat → Array Oper → Bool) (wp : (Exit → Act → World → Prop) → Act → World → Prop) (c : Code) (s : St) (r : Ex × St) : Prop :=
 okCode good c = true → ∀ (w0 : World) (B : Bs) (f0 fz : Nat → Prop) (ρ : Nat → Option Loc) (a : Act) (w : World), B.n ≤ w0.heap.size → Rel w0 B f0 fz ρ s a.tmps w → ∀ Q : Exit → Act → World → Prop,
  (∀ fz' ρ' tm' w', Rel w0 B f0 fz' ρ' r.2 tm' w' → Q r.1.toExit ⟨tm', a.defers⟩ w') → wp Q a w
theorem evCode_sound [Globals] {good : Nat → Array Oper → Bool} (hty : ∀ t y, ty t = some y → Ty.of P t = some y) (hcall : call.ok P) (hany : Anyhow P ty call kp good) :
  (∀ c s r, evCode call ty kp c s = some r → CodeOwes P good (fun Q a w => c.wp P Q a w) c s r) ∧ (∀ c s r, evLoop call ty kp c s = some r → CodeOwes P good (fun Q a w => LoopWp P c Q a w) c s r) := by
 apply evCode.mutual_partial_correctness call ty kp (fun c s r => CodeOwes P good (fun Q a w => c.wp P Q a w) c s r) (fun c s r => CodeOwes P good (fun Q a w => LoopWp P c Q a w) c s r)
 ·intro ec el hc hl c s r h hok w0 B f0 fz ρ a w hB hrel Q hq
  cases c with
  | skip =>
   simp only [Option.some.injEq] at h
   subst h
   exact wp_skip (hq _ _ _ _ hrel)
  | label l =>
   simp only [Option.some.injEq] at h
   subst h
   exact wp_label (hq _ _ _ _ hrel)
  | region id ops d =>
   simp only [Option.map_eq_some_iff] at h
   obtain ⟨s1, h1, h2⟩ := h
   subst h2
   obtain ⟨fz0, ρ0, hrel⟩ := tidy_sound (kp id) hrel
   cases d with
   | false =>
    obtain ⟨fz', ρ', hR⟩ := toEvict_sound hrel ops.toList
    exact wp_region (evOps_sound hty hcall hB hR (map_get_range ops) (evReg_evOps h1) hq)
   | true =>
    refine wp_region_draw (fun t => ?_)
    obtain ⟨fz', ρ', hR⟩ := toEvict_sound hrel.drew ops.toList
    obtain ⟨l, hl, hev⟩ := hany w0 B f0 fz' ρ' s s1 a.tmps w.drew id ops t hB (by simpa [okCode] using hok) hR h1
    exact evOps_sound hty hcall hB hR hl hev hq
  | seq x y =>
   simp only [Option.bind_eq_bind, Option.bind_eq_some_iff] at h
   obtain ⟨r1, h1, h2⟩ := h
   simp only [okCode, Bool.and_eq_true] at hok
   refine wp_seq (hc _ _ _ h1 hok.1 w0 B f0 fz ρ a w hB hrel _ (fun fz' ρ' tm' w' hr => ?_))
   split at h2
   ·rename_i hr1
    rw [hr1]
    exact hc _ _ _ h2 hok.2 w0 B f0 fz' ρ' _ w' hB hr Q hq
   ·rename_i hr1
    injection h2 with h2
    subst h2
    have hq' := hq fz' ρ' tm' w' hr
    cases he : r1.1 with
    | norm => exact absurd he hr1
    | exit id => first | exact hq' | (rw [he] at hq'; exact hq') | (rw [he] at hq' ⊢; exact hq')
    | ret => first | exact hq' | (rw [he] at hq'; exact hq') | (rw [he] at hq' ⊢; exact hq')
  | cond c x y =>
   simp only at h
   simp only [okCode, Bool.and_eq_true] at hok
   split at h
   ·rename_i b hb
    have hbv : a.eval c = .bool b := opd_lit hrel hb
    split at h
    ·rename_i hbt
     subst hbt
     exact wp_cond_true hbv (hc _ _ _ h hok.1 w0 B f0 fz ρ a w hB hrel Q hq)
    ·rename_i hbt
     have : b = false := by simpa using hbt
     subst this
     exact wp_cond_false hbv (hc _ _ _ h hok.2 w0 B f0 fz ρ a w hB hrel Q hq)
   ·cases h
  | block id c =>
   simp only [Option.bind_eq_bind, Option.bind_eq_some_iff] at h
   obtain ⟨r1, h1, h2⟩ := h
   simp only [okCode] at hok
   refine wp_block (hc _ _ _ h1 hok w0 B f0 fz ρ a w hB hrel _ (fun fz' ρ' tm' w' hr => ?_))
   split at h2
   ·rename_i id' he
    rw [he]
    simp only [Ex.toExit, Exit.inBlock]
    split at h2
    ·rename_i hid
     injection h2 with h2
     subst h2
     rw [if_pos hid]
     exact hq _ _ _ _ hr
    ·rename_i hid
     injection h2 with h2
     subst h2
     rw [if_neg hid]
     exact hq _ _ _ _ hr
   ·rename_i hne
    injection h2 with h2
    subst h2
    have hq' := hq fz' ρ' tm' w' hr
    cases he : r1.1 with
    | norm => first | exact hq' | (rw [he] at hq'; exact hq') | (rw [he] at hq' ⊢; exact hq')
    | exit id' => exact absurd he (hne id')
    | ret => first | exact hq' | (rw [he] at hq'; exact hq') | (rw [he] at hq' ⊢; exact hq')
  | loop c => exact wp_of_loopWp (hl _ _ _ h hok w0 B f0 fz ρ a w hB hrel Q hq)
  | exit id =>
   simp only [Option.some.injEq] at h
   subst h
   obtain ⟨fz1, ρ1, hrel⟩ := tidy_sound (kp (20000 + id)) hrel
   exact wp_exit (hq _ _ _ _ hrel)
  | ret =>
   simp only [Option.some.injEq] at h
   subst h
   obtain ⟨fz1, ρ1, hrel⟩ := tidy_sound (kp 9999) hrel
   exact wp_ret (hq _ _ _ _ hrel)
  | rangeFunc _ _ _ _ => cases h
  | scope _ => cases h
  | goto _ => cases h
  | refuse _ => cases h
 ·intro ec el hc hl c s r h hok w0 B f0 fz ρ a w hB hrel Q hq
  simp only [Option.bind_eq_bind, Option.bind_eq_some_iff] at h
  obtain ⟨r1, h1, h2⟩ := h
  obtain ⟨fz1, ρ1, hrel⟩ := tidy_sound (kp (headOf c)) hrel
  refine loopWp_round (hc _ _ _ h1 hok w0 B f0 fz1 ρ1 a w hB hrel _ (fun fz' ρ' tm' w' hr => ?_))
  split at h2
  ·rename_i hr1
   rw [hr1]
   exact hl _ _ _ h2 hok w0 B f0 fz' ρ' _ w' hB hr Q hq
  ·rename_i hr1
   injection h2 with h2
   subst h2
   have hq' := hq fz' ρ' tm' w' hr
   cases he : r1.1 with
   | norm => exact absurd he hr1
   | exit id => first | exact hq' | (rw [he] at hq'; exact hq') | (rw [he] at hq' ⊢; exact hq')
   | ret => first | exact hq' | (rw [he] at hq'; exact hq') | (rw [he] at hq' ⊢; exact hq')
def okProgram (good : (Nat → Option (List Nat)) → Nat → Array Oper → Bool) (P : Program) (K : Nat → Option (Nat → Option (List Nat))) : Prop := ∀ (f : Nat) (fn : Func) (c : Code) (kp : Nat → Option (List Nat)), K f = some kp → P.funcs[f]? = some fn → fn.body = some c → okCode (good kp) c = true
theorem lentHp_get : ∀ (obs : List Ob) (i : Nat), (∀ k o, hget (lentHp i obs) k = some o → ∃ j, obs[j]? = some o ∧ k = lentH o.box (i + j)) ∧ ∀ (j : Nat) (o : Ob), obs[j]? = some o → hget (lentHp i obs) (lentH o.box (i + j)) = some o
 | [], i => ⟨fun k o hk => by simp [lentHp, hget] at hk, fun j o hj => by simp at hj⟩
 | o1 :: os, i => by
  obtain ⟨g1, g2⟩ := lentHp_get os (i + 1)
  refine ⟨fun k o hk => ?_, fun j o hj => ?_⟩
  ·simp only [lentHp, hget] at hk
   split at hk
   ·rename_i e
    injection hk with hk
    subst hk
    exact ⟨0, rfl, by rw [Nat.add_zero]; exact e.symm⟩
   ·obtain ⟨j, h1, h2⟩ := g1 k o hk
    exact ⟨j + 1, by simpa using h1, by rw [h2, show i + 1 + j = i + (j + 1) by omega]⟩
  ·cases j with
   | zero =>
    simp at hj
    subst hj
    simp [lentHp, hget]
   | succ j =>
    have := g2 j o (by simpa using hj)
    rw [show i + 1 + j = i + (j + 1) by omega] at this
    simp only [lentHp, hget]
    rw [if_neg (fun e => by have := (lentH_ix e).1; omega)]
    exact this
theorem evFn_sound [Globals] {good : (Nat → Option (List Nat)) → Nat → Array Oper → Bool} (hty : ∀ t y, ty t = some y → Ty.of P t = some y) (hok : okProgram good P K) (hcall : call.ok P) (hany : ∀ kp, Anyhow P ty call kp (good kp)) : CallF.ok P (evFn P ty K call) := by
 refine ⟨hcall.1, ?_⟩
 intro f args r h
 unfold evFn at h
 split at h
 ·exact hcall.1.2 f args r h
 rename_i kp hkp
 split at h
 ·cases h
 rename_i fn hfn
 split at h
 ·cases h
 rename_i c hbody
 split at h
 ·cases h
 rename_i hnm
 refine ⟨?_, fn, c, hfn, by simpa using hnm, hbody⟩
 -- a call's first temporaries
 have first : ∀ {as : List T} {vs : Array Value} {w : World} {fz : Nat → Prop} {ρ : Nat → Option Loc}, vs.size = as.length → (∀ (i : Nat) (t : T), as[i]? = some t → ∃ v, vs[i]? = some v ∧ RepT w fz ρ v t) → (∀ t ∈ as, t.noI = t) →
   (vs ++ Array.replicate (fn.ntmps - vs.size) undef).size = (as ++ List.replicate (fn.ntmps - as.length) T.junk).length ∧ (∀ (i : Nat) (t : T), (as ++ List.replicate (fn.ntmps - as.length) T.junk)[i]? = some t → ∃ v, (vs ++ Array.replicate (fn.ntmps - vs.size) undef)[i]? = some v ∧ RepT w fz ρ v t) ∧
   ∀ (i : Nat) (q : ByteArray) (pos : Nat), (as ++ List.replicate (fn.ntmps - as.length) T.junk)[i]? = some (.itr q pos) → False := by
  intro as vs w fz ρ hsz hreps hnoI
  refine ⟨by simp [hsz], fun i t ht => ?_, fun i q pos ht => ?_⟩
  ·by_cases hi : i < as.length
   ·rw [List.getElem?_append_left hi] at ht
    obtain ⟨v, hv, hr⟩ := hreps i t ht
    exact ⟨v, by rw [Array.getElem?_append_left (by omega)]; exact hv, hr⟩
   ·rw [List.getElem?_append_right (by omega)] at ht
    have hil := (List.getElem?_eq_some_iff.1 ht).1
    rw [List.length_replicate] at hil
    have hm := List.mem_of_getElem? ht
    rw [List.mem_replicate] at hm
    obtain ⟨_, rfl⟩ := hm
    exact ⟨undef, by rw [Array.getElem?_append_right (by omega), Array.getElem?_replicate, if_pos (by omega)], trivial⟩
  ·by_cases hi : i < as.length
   ·rw [List.getElem?_append_left hi] at ht
    have := hnoI _ (List.mem_of_getElem? ht)
    cases this
   ·rw [List.getElem?_append_right (by omega)] at ht
    have hm := List.mem_of_getElem? ht
    rw [List.mem_replicate] at hm
    cases hm.2
 split at h
 ·rename_i hlo
  have hlo : lentOf args = [] := by simpa using hlo
  refine ⟨fun _ => ?_, fun hn => absurd hlo hn⟩
  split at h
  ·cases h
  ·rename_i x hx
   have hout : outT ty fn x.2 = some r ∧ ∀ id, x.1 ≠ .exit id := by
    split at h
    ·cases h
    ·rename_i hne; exact ⟨h, hne⟩
   intro w fz vs hsz hreps hnoI hlt hglob
   refine calls_of_wp hfn hbody ?_
   let a : Act := { tmps := vs ++ Array.replicate (fn.ntmps - vs.size) undef, defers := [] }
   obtain ⟨i1, i2, i3⟩ := first hsz hreps hnoI
   have hrel : Rel w (Bs.bare w.heap.size) fz fz (fun _ => none) { tm := args ++ List.replicate (fn.ntmps - args.length) .junk, hp := [], fr := [] } a.tmps w := {
    size := i1
    tmp := i2
    dom1 := fun k l hk => by cases hk
    obj := fun k o hk => by cases hk
    inj := fun k k' b base cap sz base' cap' sz' _ _ hk _ => by cases hk
    own := fun k b base cap sz hk => by cases hk
    fzl := hlt
    fz0 := fun _ h => h
    fz1 := fun _ h => .inl h
    below := Past.refl _ _
    frd := fun k hk => by cases hk
    glz := hglob
    itr := fun i q pos ht => (i3 i q pos ht).elim
    boxes := fun k l hk => by cases hk }
   refine (evCode_sound hty hcall (hany kp)).1 _ _ _ hx (hok f fn c kp hkp hfn hbody) w (Bs.bare w.heap.size) fz fz _ a w (Nat.le_refl _) hrel _ (fun fz' ρ' tm' w' hr => ?_)
   obtain ⟨v, fz2, ρ2, hrun, hO⟩ := outT_sound (a := ⟨tm', []⟩) hty hr hout.1
   have hpost : bodyPost P fn (fun e w' => ∃ v fz' ρ', e = .returned v ∧ Out w w' fz fz' ρ' v r) .ret ⟨tm', []⟩ w' := ⟨rfl, v, hrun, v, fz2, ρ2, rfl, hO⟩
   cases he : x.1 with
   | norm => exact hpost
   | exit id => exact absurd he (hout.2 id)
   | ret => exact hpost
 ·rename_i hlo
  refine ⟨fun hn => by rw [hn] at hlo; exact absurd rfl hlo, fun _ => ?_⟩
  split at h
  ·cases h
  ·rename_i x hx
   have hout : outL ty fn (lentOf args) x.2 = some r ∧ ∀ id, x.1 ≠ .exit id := by
    split at h
    ·cases h
    ·rename_i hne; exact ⟨h, hne⟩
   intro w fz ρ0 vs hsz hreps hnoI hin hlt hglob
   refine calls_of_wp hfn hbody ?_
   let a : Act := { tmps := vs ++ Array.replicate (fn.ntmps - vs.size) undef, defers := [] }
   obtain ⟨i1, i2, i3⟩ := first hsz hreps hnoI
   have hrel : Rel w (lentBs w.heap.size ρ0) fz fz ρ0 { tm := realOf args ++ List.replicate (fn.ntmps - (realOf args).length) .junk, hp := lentHp 0 (lentOf args), fr := [] } a.tmps w := {
    size := i1
    tmp := i2
    dom1 := fun k l hk => by
     obtain ⟨j, o, h1, h2⟩ := hin.dom k l hk
     have := (lentHp_get (lentOf args) 0).2 j o h1
     rw [Nat.zero_add] at this
     exact ⟨o, by simp only; rw [h2]; exact this⟩
    obj := fun k o hk => by
     obtain ⟨j, h1, h2⟩ := (lentHp_get (lentOf args) 0).1 k o hk
     rw [Nat.zero_add] at h2
     rw [h2]
     exact hin.obj j o h1
    inj := fun k k' b base cap sz base' cap' sz' _ _ hk hk' => hin.inj k k' b base cap sz base' cap' sz' hk hk'
    own := fun k b base cap sz hk => by
     obtain ⟨h1, h2⟩ := hin.own k b base cap sz hk
     exact ⟨h1, fun _ => ⟨.inr ⟨k, base, cap, sz, hk⟩, h2⟩, fun hq => by cases hq⟩
    fzl := hlt
    fz0 := fun _ h => h
    fz1 := fun _ h => .inl h
    below := Past.refl _ _
    frd := fun k hk => by cases hk
    glz := hglob
    itr := fun i q pos ht => (i3 i q pos ht).elim
    boxes := fun k l hk => by
     have hk : (if lentNm k = true then ρ0 k else none) = some l := hk
     split at hk
     ·rename_i hnm
      obtain ⟨j, o, h1, h2⟩ := hin.dom k l hk
      have := (lentHp_get (lentOf args) 0).2 j o h1
      rw [Nat.zero_add] at this
      refine ⟨hnm, hk, o, by simp only; rw [h2]; exact this, ?_⟩
      cases hb : o.box with
      | true => rfl
      | false =>
       rw [h2, hb] at hnm
       unfold lentNm lentH at hnm
       simp at hnm
     ·cases hk }
   refine (evCode_sound hty hcall (hany kp)).1 _ _ _ hx (hok f fn c kp hkp hfn hbody) w (lentBs w.heap.size ρ0) fz fz _ a w (Nat.le_refl _) hrel _ (fun fz' ρ' tm' w' hr => ?_)
   obtain ⟨v, fz2, ρ2, hrun, hO⟩ := outL_sound (a := ⟨tm', []⟩) hty hin hr hout.1
   have hpost : bodyPost P fn (fun e w' => ∃ v fz' ρ', e = .returned v ∧ OutL w w' fz fz' ρ0 ρ' v (lentOf args) r) .ret ⟨tm', []⟩ w' := ⟨rfl, v, hrun, v, fz2, ρ2, rfl, hO⟩
   cases he : x.1 with
   | norm => exact hpost
   | exit id => exact absurd he (hout.2 id)
   | ret => exact hpost
theorem evCallN_sound [Globals] {good : (Nat → Option (List Nat)) → Nat → Array Oper → Bool} (hix : EnvOK P) (hty : ∀ t y, ty t = some y → Ty.of P t = some y) (hok : okProgram good P K) (hany : ∀ call, call.ok P → ∀ kp, Anyhow P ty call kp (good kp)) : ∀ n, CallF.ok P (evCallN P ty K n)
 | 0 => ⟨hix, fun f args r h => by cases h⟩
 | n + 1 => evFn_sound hty hok (evCallN_sound hix hty hok hany n) (hany _ (evCallN_sound hix hty hok hany n))
theorem evCall_sound [Globals] {good : (Nat → Option (List Nat)) → Nat → Array Oper → Bool} (hix : EnvOK P) (hty : ∀ t y, ty t = some y → Ty.of P t = some y) (hok : okProgram good P K) (hany : ∀ call, call.ok P → ∀ kp, Anyhow P ty call kp (good kp)) : CallF.ok P (evCall P ty K) := by
 refine ⟨hix, ?_⟩
 intro f args r h
 obtain ⟨n, hn⟩ := evCall_iff.1 h
 exact (evCallN_sound hix hty hok hany n).2 f args r hn
end
end Go.Vabs
