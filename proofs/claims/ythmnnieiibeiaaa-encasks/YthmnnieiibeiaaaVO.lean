/- A library: what the abstract interpreter hands to calls, and what it is handed back. No condition. -/
import Derived.Test.YthmnnieiibeiaaaVN
set_option linter.unusedSimpArgs false
set_option linter.unusedVariables false
namespace Go.Vabs
open Go.RowKit
section
variable {w w' : World} {fz fz' : Nat → Prop} {ρ ρ' : Nat → Option Loc} {v : Value}
theorem ref_sl {h off len : Nat} {l : Loc} {o : Ob} {es' : List (List C)} (hc : RepC w fz ρ v (.ref h off len)) (hl : ρ h = some l) (ho : RepO w fz ρ l o) (hb : ∀ b base cap sz, l = .at b base cap sz → fz' b) (hlen : off + len ≤ o.es.length)
  (hn : es'.length = len) (hes : ∀ e ∈ es', e.length = o.sz) (hx : ∀ (i j : Nat) (e : List C) (x : C) (e' : List C) (x' : C), o.es[off + i]? = some e → e[j]? = some x → es'[i]? = some e' → e'[j]? = some x' → ∀ u, RepC w fz ρ u x → RepF w fz' u x') : RepF w fz' v (.sl o.sz es') := by
 obtain ⟨h1, h0, ho⟩ := ho
 cases hc with
 | frz hq => cases hq
 | nil k e =>
  rw [hl] at e
  injection e with e
  subst e
  have : es' = [] := List.eq_nil_of_length_eq_zero hn
  subst this
  exact .sl none 0 0 [] o.sz (fun _ _ => undef) rfl (by simp) (Nat.le_refl _) (fun h => absurd h (by omega)) (by simp)
 | ref k off len b base cap sz a e hc ha hs =>
  rw [hl] at e
  injection e with e
  subst e
  obtain ⟨hsz, hcap, cells, fr, hw, hsize, hfr, hcell⟩ := ho
  have hcv : ∀ i j, i < len → j < o.sz → ∃ u, cells[base + (off + i) * sz + j]? = some u ∧ ∀ e' x', es'[i]? = some e' → e'[j]? = some x' → RepF w fz' u x' := fun i j hi hj => by
   have he : o.es[off + i]? = some o.es[off + i] := List.getElem?_eq_getElem (by omega)
   have hel : o.es[off + i].length = o.sz := h1 _ (List.getElem_mem _)
   have hxx : o.es[off + i][j]? = some o.es[off + i][j] := List.getElem?_eq_getElem (by omega)
   obtain ⟨u, hu, hrep⟩ := hcell _ _ _ _ he hxx
   exact ⟨u, hu, fun e' x' he' hx' => hx i j _ _ e' x' he hxx he' hx' u hrep⟩
  let cv : Nat → Nat → Value := fun i j => if hij : i < len ∧ j < o.sz then (hcv i j hij.1 hij.2).choose else undef
  have hcvs : ∀ i j, i < len → j < o.sz → cells[base + (off + i) * sz + j]? = some (cv i j) ∧ ∀ e' x', es'[i]? = some e' → e'[j]? = some x' → RepF w fz' (cv i j) x' := fun i j hi hj => by
   simp only [cv, dif_pos (And.intro hi hj)]
   exact (hcv i j hi hj).choose_spec
  refine .sl a len (cap - off) _ o.sz cv hn hes (by omega) (fun hp => ?_) (fun i j e x he hxx => ?_)
  ·refine ⟨b, base + off * sz, ha (by omega), hb _ _ _ _ rfl, fun i j hi hj => ?_⟩
   rw [cell?_at hw]
   have := (hcvs i j hi hj).1
   rw [Nat.add_mul, ← Nat.add_assoc] at this
   rw [hsz] at this ⊢
   exact this
  ·have hi : i < len := by rw [← hn]; exact (List.getElem?_eq_some_iff.1 he).1
   have hj : j < o.sz := by rw [← hes e (List.mem_of_getElem? he)]; exact (List.getElem?_eq_some_iff.1 hxx).1
   exact (hcvs i j hi hj).2 e x he hxx
theorem mapM_get {α β : Type} {f : α → Option β} : ∀ {l : List α} {m : List β}, l.mapM f = some m → m.length = l.length ∧ ∀ (i : Nat) (a : α) (b : β), l[i]? = some a → m[i]? = some b → f a = some b
 | [], m, h => by
  simp only [List.mapM_nil, Option.pure_def, Option.some.injEq] at h
  subst h
  exact ⟨rfl, by simp⟩
 | a :: l, m, h => by
  simp only [List.mapM_cons, Option.pure_def, Option.bind_eq_bind, Option.bind_eq_some_iff] at h
  obtain ⟨b, hb, m', hm', he⟩ := h
  injection he with he
  subst he
  obtain ⟨h1, h2⟩ := mapM_get hm'
  refine ⟨by simp [h1], fun i x y hx hy => ?_⟩
  cases i with
  | zero => simp at hx hy; subst hx; subst hy; exact hb
  | succ i => exact h2 i x y (by simpa using hx) (by simpa using hy)
end
section
variable {P : Program} {ty : Tys} {w0 : World} {B : Bs} {f0 fz : Nat → Prop} {ρ : Nat → Option Loc} {s : St} {tm : Array Value} {w : World}
theorem dataC_free {hp : Heap} : ∀ (n : Nat) {c c' : C}, dataC hp n c = some c' → c'.free = true
 | 0, c, c', h => by
  cases c <;> simp only [dataC, Option.some.injEq, reduceCtorEq] at h <;> subst h <;> rfl
 | n + 1, c, c', h => by
  cases c with
  | ref k off len =>
   simp only [dataC] at h
   split at h
   ·split at h
    ·cases h
    ·split at h
     ·split at h
      ·injection h with h; subst h; rfl
      ·split at h
       ·injection h with h; subst h; rfl
       ·cases h
     ·cases h
   ·cases h
  | ptr => simp [dataC] at h
  | lit => simp only [dataC, Option.some.injEq] at h; subst h; rfl
  | sl => simp only [dataC, Option.some.injEq] at h; subst h; rfl
  | fptr => simp only [dataC, Option.some.injEq] at h; subst h; rfl
  | fn => simp only [dataC, Option.some.injEq] at h; subst h; rfl
  | junk => simp only [dataC, Option.some.injEq] at h; subst h; rfl
theorem dataC_rep [Globals] (hrel : Rel w0 B f0 fz ρ s tm w) {fL : Nat → Prop} (hf : ∀ b, fz b → fL b) : ∀ (n : Nat) {v : Value} {c c' : C}, RepC w fz ρ v c → dataC s.hp n c = some c' → (∀ h ∈ hsC s.hp n c, ∀ b base cap sz, ρ h = some (.at b base cap sz) → fL b) → RepF w fL v c'
 | 0, v, c, c', hv, h, _ => by
  have hcc : c = c' ∧ c.free = true := by cases c <;> simp only [dataC, Option.some.injEq, reduceCtorEq] at h <;> subst h <;> exact ⟨rfl, rfl⟩
  rw [← hcc.1]
  exact (hv.of_free hcc.2).mono (fun _ _ => rfl) hf
 | n + 1, v, c, c', hv, h, hh => by
  have triv : dataC s.hp (n + 1) c = some c → c.free = true → RepF w fL v c' := fun h1 h2 => by
   rw [h1] at h
   injection h with h
   rw [← h]
   exact (hv.of_free h2).mono (fun _ _ => rfl) hf
  cases c with
  | ref k off len =>
   simp only [dataC] at h
   split at h
   ·rename_i o ho
    obtain ⟨l, hl, hob⟩ := hrel.obj k o ho
    have hb : ∀ b base cap sz, l = .at b base cap sz → fL b := fun b base cap sz e => hh k (by simp [hsC]) b base cap sz (by rw [hl, e])
    split at h
    ·cases h
    ·split at h
     ·rename_i hlen
      split at h
      ·rename_i hfree
       injection h with h
       subst h
       refine ref_sl hv hl hob hb hlen (by simp; omega) (fun e he => hob.1 e (List.mem_of_mem_drop (List.mem_of_mem_take he))) (fun i j e x e' x' he hx he' hx' u hu => ?_)
       rw [List.getElem?_take] at he'
       split at he'
       ·rw [List.getElem?_drop, he] at he'
        injection he' with he'
        subst he'
        rw [hx] at hx'
        injection hx' with hx'
        subst hx'
        exact (hu.of_free (hob.2.1 hfree e (List.mem_of_getElem? he) x (List.mem_of_getElem? hx))).mono (fun _ _ => rfl) hf
       ·cases he'
      ·rename_i hfree
       split at h
       ·rename_i es hes
        injection h with h
        subst h
        obtain ⟨h1, h2⟩ := mapM_get hes
        have hlen2 : es.length = len := by rw [h1]; simp; omega
        refine ref_sl hv hl hob hb hlen hlen2 (fun e he => ?_) (fun i j e x e' x' he hx he' hx' u hu => ?_)
        ·obtain ⟨i, hi⟩ := List.mem_iff_getElem?.1 he
         have hil := (List.getElem?_eq_some_iff.1 hi).1
         have hgi : ((o.es.drop off).take len)[i]? = some o.es[off + i] := by
          rw [List.getElem?_take, if_pos (by omega), List.getElem?_drop, List.getElem?_eq_getElem (by omega)]
         have := (mapM_get (h2 i _ e hgi hi)).1
         rw [this]
         exact hob.1 _ (List.getElem_mem _)
        ·have hil := (List.getElem?_eq_some_iff.1 he').1
         have hgi : ((o.es.drop off).take len)[i]? = some e := by
          rw [List.getElem?_take, if_pos (by omega), List.getElem?_drop, he]
         have h3 := (mapM_get (h2 i e e' hgi he')).2 j x x' hx hx'
         refine dataC_rep hrel hf n hu h3 (fun h' hm => hh h' ?_)
         simp only [hsC, ho]
         rw [if_neg (by simpa using hfree)]
         refine List.mem_cons_of_mem _ (List.mem_flatMap.2 ⟨e, List.mem_of_getElem? he, List.mem_flatMap.2 ⟨x, List.mem_of_getElem? hx, hm⟩⟩)
       ·cases h
     ·cases h
   ·cases h
  | ptr => simp [dataC] at h
  | lit => exact triv rfl rfl
  | sl => exact triv rfl rfl
  | fptr => exact triv rfl rfl
  | fn => exact triv rfl rfl
  | junk => exact triv rfl rfl
theorem dataT_rep [Globals] (hrel : Rel w0 B f0 fz ρ s tm w) {fL : Nat → Prop} (hf : ∀ b, fz b → fL b) {v : Value} {t t' : T} (hv : RepT w fz ρ v t) (h : dataT s.hp t = some t') (hh : ∀ k ∈ hsT s.hp t, ∀ b base cap sz, ρ k = some (.at b base cap sz) → fL b) (ρ' : Nat → Option Loc) : RepT w fL ρ' v t' := by
 cases t with
 | c x =>
  simp only [dataT, Option.map_eq_some_iff] at h
  obtain ⟨x', hx, rfl⟩ := h
  exact RepC.frz (dataC_rep hrel hf 3 hv hx hh)
 | agg cs =>
  simp only [dataT, Option.map_eq_some_iff] at h
  obtain ⟨cs', hcs, rfl⟩ := h
  obtain ⟨vs, e, hv⟩ := hv
  obtain ⟨h1, h2⟩ := mapM_get hcs
  refine ⟨vs, e, by rw [h1]; exact hv.1, fun i u c' hu hc' => ?_⟩
  have hi := (List.getElem?_eq_some_iff.1 hc').1
  have hci : cs[i]? = some cs[i] := List.getElem?_eq_getElem (by omega)
  exact .frz (dataC_rep hrel hf 3 (hv.2 i u _ hu hci) (h2 i _ c' hci hc') (fun k hk => hh k (List.mem_flatMap.2 ⟨_, List.getElem_mem _, hk⟩)))
 | tup _ => cases h
 | itr _ _ => cases h
 | junk => cases h
structure Out (w w' : World) (fz fz' : Nat → Prop) (ρ' : Nat → Option Loc) (v : Value) (r : T × List Ob) : Prop where
 below : Below w.heap.size w w'
 f0 : ∀ b, fz b → fz' b
 f1 : ∀ b, fz' b → fz b ∨ w.heap.size ≤ b
 fl : ∀ b, fz' b → b < w'.heap.size
 val : RepT w' fz' ρ' v r.1
 obj : ∀ (i : Nat) (o : Ob), r.2[i]? = some o → ∃ l, ρ' i = some l ∧ RepO w' fz' ρ' l o ∧ ∀ b base cap sz, l = .at b base cap sz → w.heap.size ≤ b ∧ b < w'.heap.size ∧ ¬ fz' b
 dom : ∀ k l, ρ' k = some l → k < r.2.length
 inj : ∀ k k' b base cap sz base' cap' sz', ρ' k = some (.at b base cap sz) → ρ' k' = some (.at b base' cap' sz') → k = k'
 free : ∀ o ∈ r.2, o.free = true
def CallPl [Globals] (P : Program) (f : FuncId) (args : List T) (r : T × List Ob) : Prop :=
 ∀ (w : World) (fz : Nat → Prop) (vs : Array Value), vs.size = args.length → (∀ (i : Nat) (t : T), args[i]? = some t → ∃ v, vs[i]? = some v ∧ RepT w fz (fun _ => none) v t) → (∀ t ∈ args, t.noI = t) → (∀ b, fz b → b < w.heap.size) → GlobF w fz →
  Calls P f vs w fun e w' => ∃ v fz' ρ', e = .returned v ∧ Out w w' fz fz' ρ' v r
structure LentIn (w : World) (fz : Nat → Prop) (ρ : Nat → Option Loc) (obs : List Ob) : Prop where
 obj : ∀ (j : Nat) (o : Ob), obs[j]? = some o → ∃ l, ρ (lentH o.box j) = some l ∧ RepO w fz ρ l o
 dom : ∀ k l, ρ k = some l → ∃ j o, obs[j]? = some o ∧ k = lentH o.box j
 inj : ∀ k k' b base cap sz base' cap' sz', ρ k = some (.at b base cap sz) → ρ k' = some (.at b base' cap' sz') → k = k'
 own : ∀ k b base cap sz, ρ k = some (.at b base cap sz) → b < w.heap.size ∧ ¬ fz b
def lentAt (ρ : Nat → Option Loc) (b : Nat) : Prop := ∃ k base cap sz, ρ k = some (.at b base cap sz)
def lentBs (n : Nat) (ρ : Nat → Option Loc) : Bs := ⟨n, lentAt ρ, fun k => if lentNm k then ρ k else none⟩
structure OutL (w w' : World) (fz fz' : Nat → Prop) (ρ ρ' : Nat → Option Loc) (v : Value) (obs : List Ob) (r : T × List Ob) : Prop where
 below : Past (lentBs w.heap.size ρ) w w'
 f0 : ∀ b, fz b → fz' b
 f1 : ∀ b, fz' b → fz b ∨ (lentBs w.heap.size ρ).owns b
 fl : ∀ b, fz' b → b < w'.heap.size
 val : RepT w' fz' ρ' v r.1
 obj : ∀ (i : Nat) (o : Ob), r.2[i]? = some o → ∃ l, ρ' i = some l ∧ RepO w' fz' ρ' l o ∧ ∀ b base cap sz, l = .at b base cap sz → (lentBs w.heap.size ρ).owns b ∧ b < w'.heap.size ∧ ¬ fz' b
 dom : ∀ k l, ρ' k = some l → k < r.2.length
 inj : ∀ k k' b base cap sz base' cap' sz', ρ' k = some (.at b base cap sz) → ρ' k' = some (.at b base' cap' sz') → k = k'
 len : obs.length ≤ r.2.length
 box : ∀ (j : Nat) (o : Ob), obs[j]? = some o → o.box = true → ρ' j = ρ (lentH true j) ∧ ∃ o', r.2[j]? = some o' ∧ o'.box = true
def CallLd [Globals] (P : Program) (f : FuncId) (args : List T) (r : T × List Ob) : Prop :=
 ∀ (w : World) (fz : Nat → Prop) (ρ : Nat → Option Loc) (vs : Array Value), vs.size = (realOf args).length → (∀ (i : Nat) (t : T), (realOf args)[i]? = some t → ∃ v, vs[i]? = some v ∧ RepT w fz ρ v t) → (∀ t ∈ realOf args, t.noI = t) → LentIn w fz ρ (lentOf args) →
  (∀ b, fz b → b < w.heap.size) → GlobF w fz → Calls P f vs w fun e w' => ∃ v fz' ρ', e = .returned v ∧ OutL w w' fz fz' ρ ρ' v (lentOf args) r
def CallOK [Globals] (P : Program) (f : FuncId) (args : List T) (r : T × List Ob) : Prop := (lentOf args = [] → CallPl P f args r) ∧ (lentOf args ≠ [] → CallLd P f args r)
def CallPn [Globals] (P : Program) (f : FuncId) (args : List T) (r : T × List Ob) : Prop :=
 lentOf args ≠ [] ∧ ∀ (w : World) (fz : Nat → Prop) (ρ : Nat → Option Loc) (vs : Array Value), vs.size = (realOf args).length → (∀ (i : Nat) (t : T), (realOf args)[i]? = some t → ∃ v, vs[i]? = some v ∧ RepT w fz ρ v t) → (∀ t ∈ realOf args, t.noI = t) → LentIn w fz ρ (lentOf args) →
  (∀ b, fz b → b < w.heap.size) → GlobF w fz → Calls P f vs w fun e w' => (∃ p, unR r = some (.inl p) ∧ e = .panicked [{ v := panV p.1 p.2, recovered := false }] ∧ Past (lentBs w.heap.size ρ) w w') ∨
   ∃ r' v fz' ρ', unR r = some (.inr r') ∧ e = .returned v ∧ OutL w w' fz fz' ρ ρ' v (lentOf args) r'
def Loc.since (off : Nat) : Loc → Loc
 | .nil => .nil
 | .at b base cap sz => .at b (base + off * sz) (cap - off) sz
structure ExpInv (w : World) (fz : Nat → Prop) (ρ : Nat → Option Loc) (fr seen : List Nat) (obs : List Ob) (locs : List Loc) : Prop where
 len : obs.length = locs.length
 obj : ∀ (i : Nat) (o : Ob) (l : Loc), obs[i]? = some o → locs[i]? = some l → o.free = true ∧ ∀ ρ', RepO w fz ρ' l o
 at_ : ∀ (i b base cap sz : Nat), locs[i]? = some (.at b base cap sz) → ∃ k ∈ seen, k ∉ fr ∧ ∃ base' cap' sz', ρ k = some (.at b base' cap' sz')
 inj : ∀ (i i' b base cap sz base' cap' sz' : Nat), locs[i]? = some (.at b base cap sz) → locs[i']? = some (.at b base' cap' sz') → i = i'
theorem getElem?_pre {α : Type} {l m : List α} (h : l <+: m) {i : Nat} {a : α} (hi : l[i]? = some a) : m[i]? = some a := by
 obtain ⟨t, rfl⟩ := h
 rw [List.getElem?_append_left (List.getElem?_eq_some_iff.1 hi).1]
 exact hi
theorem RepC.locs {c : C} {v : Value} {l m : List Loc} (h : RepC w fz (fun i => l[i]?) v c) (hlm : l <+: m) : RepC w fz (fun i => m[i]?) v c :=
 h.mono (fun _ _ => rfl) (fun _ h => h) (fun _ _ hk => getElem?_pre hlm hk)
theorem expC_rep [Globals] (hrel : Rel w0 B f0 fz ρ s tm w) {z : Option (TypeId × Nat)} {seen : List Nat} {obs : List Ob} {locs : List Loc} (hinv : ExpInv w fz ρ s.fr seen obs locs) {v : Value} {c c' : C} {seen' : List Nat} {obs' : List Ob} (hv : RepC w fz ρ v c) (h : expC s.hp s.fr z c seen obs = some (c', seen', obs')) :
  ∃ locs', locs <+: locs' ∧ ExpInv w fz ρ s.fr seen' obs' locs' ∧ RepC w fz (fun i => locs'[i]?) v c' := by
 unfold expC at h
 split at h
 ·rename_i q hz
  have hc : c = .lit (.slice none 0 0) := by
   unfold nilZ at hz
   split at hz
   ·rfl
   ·cases hz
  subst hc
  have hvn : v = .slice none 0 0 := by cases hv with | frz hf => cases hf; rfl
  subst hvn
  simp only [Option.some.injEq, Prod.mk.injEq] at h
  obtain ⟨rfl, rfl, rfl⟩ := h
  have hilen := hinv.len
  have hloc : (locs ++ [Loc.nil])[obs.length]? = some .nil := by rw [hilen, List.getElem?_append_right (Nat.le_refl _)]; simp
  have hno : ∀ (i b base cap sz : Nat), (locs ++ [Loc.nil])[i]? = some (.at b base cap sz) → locs[i]? = some (.at b base cap sz) := fun i b base cap sz hi => by
   by_cases hlt : i < locs.length
   ·rwa [List.getElem?_append_left hlt] at hi
   ·rw [List.getElem?_append_right (by omega)] at hi
    have hil := (List.getElem?_eq_some_iff.1 hi).1
    have : i - locs.length = 0 := by simp at hil; omega
    rw [this] at hi
    simp at hi
  refine ⟨locs ++ [.nil], List.prefix_append _ _, ⟨by simp [hilen], fun i o' l2 hi hl2 => ?_, fun i b base cap sz hi => hinv.at_ i b base cap sz (hno i b base cap sz hi), fun i i' b base cap sz base' cap' sz' hi hi' => hinv.inj i i' b base cap sz base' cap' sz' (hno _ _ _ _ _ hi) (hno _ _ _ _ _ hi')⟩, .nil _ hloc⟩
  by_cases hlt : i < obs.length
  ·rw [List.getElem?_append_left hlt] at hi
   rw [List.getElem?_append_left (by omega)] at hl2
   exact hinv.obj i o' l2 hi hl2
  ·have hil := (List.getElem?_eq_some_iff.1 hi).1
   have : i = obs.length := by simp at hil; omega
   subst this
   rw [List.getElem?_append_right (Nat.le_refl _)] at hi
   rw [hilen, List.getElem?_append_right (Nat.le_refl _)] at hl2
   simp at hi hl2
   subst hi
   subst hl2
   exact ⟨rfl, fun ρ' => ⟨fun e he => absurd he List.not_mem_nil, fun _ e he => absurd he List.not_mem_nil, rfl, rfl⟩⟩
 have triv : c.free = true → some (c, seen, obs) = some (c', seen', obs') → ∃ locs', locs <+: locs' ∧ ExpInv w fz ρ s.fr seen' obs' locs' ∧ RepC w fz (fun i => locs'[i]?) v c' := by
  intro hf he
  simp only [Option.some.injEq, Prod.mk.injEq] at he
  obtain ⟨rfl, rfl, rfl⟩ := he
  exact ⟨locs, List.prefix_refl _, hinv, .frz (hv.of_free hf)⟩
 cases c with
 | lit _ => exact triv rfl h
 | sl _ _ => exact triv rfl h
 | fptr _ _ => exact triv rfl h
 | fn _ _ => exact triv rfl h
 | junk => exact triv rfl h
 | ptr _ _ _ => cases h
 | ref k off len =>
  simp only at h
  split at h
  ·rename_i o ho
   split at h
   ·cases h
   ·rename_i hcond
    simp only [Bool.or_eq_true, Bool.not_eq_true', decide_eq_true_eq, not_or, Bool.not_eq_true, Bool.not_eq_false] at hcond
    obtain ⟨⟨hbox, hfree⟩, hlen⟩ := hcond
    have hlen : off + len ≤ o.es.length := by omega
    obtain ⟨l, hl, hob⟩ := hrel.obj k o ho
    split at h
    ·cases h
    ·rename_i hseen
     split at h
     ·rename_i hfr
      simp only [Option.some.injEq, Prod.mk.injEq] at h
      obtain ⟨rfl, rfl, rfl⟩ := h
      have hkfr : k ∈ s.fr := by simpa using hfr
      refine ⟨locs, List.prefix_refl _, hinv, .frz (ref_sl hv hl hob (fun b base cap sz e => (hrel.own k b base cap sz (by rw [hl, e])).2.2 hkfr) hlen (by simp; omega) (fun e he => hob.1 e (List.mem_of_mem_drop (List.mem_of_mem_take he))) (fun i j e x e' x' he hx he' hx' u hu => ?_))⟩
      rw [List.getElem?_take] at he'
      split at he'
      ·rw [List.getElem?_drop, he] at he'
       injection he' with he'
       subst he'
       rw [hx] at hx'
       injection hx' with hx'
       subst hx'
       exact hu.of_free (hob.2.1 hfree e (List.mem_of_getElem? he) x (List.mem_of_getElem? hx))
      ·cases he'
     ·rename_i hfr
      simp only [Option.some.injEq, Prod.mk.injEq] at h
      obtain ⟨rfl, rfl, rfl⟩ := h
      have hkfr : k ∉ s.fr := by simpa using hfr
      have hkseen : k ∉ seen := by simpa using hseen
      -- where it lies from its first element on
      obtain ⟨l', hl'⟩ : ∃ l', l' = Loc.since off l := ⟨_, rfl⟩
      have hl'at : ∀ b base cap sz, l' = .at b base cap sz → ∃ base' cap' sz', l = .at b base' cap' sz' := fun b base cap sz e => by
       cases l with
       | nil => rw [hl'] at e; cases e
       | «at» b' base' cap' sz' => rw [hl'] at e; cases e; exact ⟨_, _, _, rfl⟩
      have hO' : ∀ ρ', RepO w fz ρ' l' { o with es := (o.es.drop off).take len } ∧ (l' = .nil → off = 0 ∧ len = 0) := fun ρ' => by
       obtain ⟨h1, h0, hh⟩ := hob
       subst hl'
       refine ⟨⟨fun e he => h1 e (List.mem_of_mem_drop (List.mem_of_mem_take he)), fun hq e he => h0 hq e (List.mem_of_mem_drop (List.mem_of_mem_take he)), ?_⟩, ?_⟩
       ·cases l with
        | nil => exact ⟨by simp [hh.1], hh.2⟩
        | «at» b base cap sz =>
         obtain ⟨h2, h3, c, fr, h4, h5, h6, h7⟩ := hh
         refine ⟨h2, by simp; omega, c, fr, h4, ?_, ⟨h6.1, fun hb => by simp only at hb; rw [hbox] at hb; cases hb⟩, fun i j e x he hx => ?_⟩
         ·have : (cap - off) * sz + off * sz = cap * sz := by rw [← Nat.add_mul]; congr 1; omega
          omega
         ·simp only at he
          rw [List.getElem?_take] at he
          split at he
          ·rw [List.getElem?_drop] at he
           obtain ⟨u, hu, hr⟩ := h7 (off + i) j e x he hx
           refine ⟨u, ?_, .frz (hr.of_free (h0 hfree e (List.mem_of_getElem? he) x (List.mem_of_getElem? hx)))⟩
           rw [Nat.add_mul, ← Nat.add_assoc] at hu
           exact hu
          ·cases he
       ·intro e
        cases l with
        | nil => rw [hh.1] at hlen; simp at hlen; exact hlen
        | «at» b base cap sz => cases e
      have hilen := hinv.len
      refine ⟨locs ++ [l'], List.prefix_append _ _, ⟨by simp [hilen], fun i o' l2 hi hl2 => ?_, fun i b base cap sz hi => ?_, fun i i' b base cap sz base' cap' sz' hi hi' => ?_⟩, ?_⟩
      ·by_cases hlt : i < obs.length
       ·rw [List.getElem?_append_left hlt] at hi
        rw [List.getElem?_append_left (by omega)] at hl2
        exact hinv.obj i o' l2 hi hl2
       ·have hil := (List.getElem?_eq_some_iff.1 hi).1
        have : i = obs.length := by simp at hil; omega
        subst this
        rw [List.getElem?_append_right (Nat.le_refl _)] at hi
        rw [hilen, List.getElem?_append_right (Nat.le_refl _)] at hl2
        simp at hi hl2
        subst hi
        subst hl2
        exact ⟨hfree, fun ρ' => (hO' ρ').1⟩
      ·by_cases hlt : i < locs.length
       ·rw [List.getElem?_append_left hlt] at hi
        obtain ⟨k', hk', h1, h2⟩ := hinv.at_ i b base cap sz hi
        exact ⟨k', List.mem_cons_of_mem _ hk', h1, h2⟩
       ·rw [List.getElem?_append_right (by omega)] at hi
        have hil := (List.getElem?_eq_some_iff.1 hi).1
        have : i - locs.length = 0 := by simp at hil; omega
        rw [this] at hi
        simp at hi
        obtain ⟨base', cap', sz', e⟩ := hl'at _ _ _ _ hi
        exact ⟨k, List.mem_cons_self, hkfr, base', cap', sz', by rw [hl, e]⟩
      ·have hnew : ∀ (i b base cap sz : Nat), ¬ i < locs.length → (locs ++ [l'])[i]? = some (.at b base cap sz) → i = locs.length ∧ ∃ base' cap' sz', ρ k = some (.at b base' cap' sz') := fun i b base cap sz hlt hi => by
        rw [List.getElem?_append_right (by omega)] at hi
        have hil := (List.getElem?_eq_some_iff.1 hi).1
        have : i - locs.length = 0 := by simp at hil; omega
        rw [this] at hi
        simp at hi
        obtain ⟨base', cap', sz', e⟩ := hl'at _ _ _ _ hi
        exact ⟨by omega, base', cap', sz', by rw [hl, e]⟩
       have hno : ∀ (i b base cap sz base' cap' sz' : Nat), locs[i]? = some (.at b base cap sz) → ρ k ≠ some (.at b base' cap' sz') := fun i b base cap sz base' cap' sz' hi hk => by
        obtain ⟨k', hk', h1, base2, cap2, sz2, h2⟩ := hinv.at_ i b base cap sz hi
        exact hkseen (by rw [hrel.inj k k' b _ _ _ _ _ _ hkfr h1 hk h2]; exact hk')
       by_cases h1 : i < locs.length <;> by_cases h2 : i' < locs.length
       ·rw [List.getElem?_append_left h1] at hi
        rw [List.getElem?_append_left h2] at hi'
        exact hinv.inj i i' b base cap sz base' cap' sz' hi hi'
       ·rw [List.getElem?_append_left h1] at hi
        obtain ⟨_, _, _, _, h3⟩ := hnew i' b _ _ _ h2 hi'
        exact absurd h3 (hno i b _ _ _ _ _ _ hi)
       ·rw [List.getElem?_append_left h2] at hi'
        obtain ⟨_, _, _, _, h3⟩ := hnew i b _ _ _ h1 hi
        exact absurd h3 (hno i' b _ _ _ _ _ _ hi')
       ·have := (hnew i b _ _ _ h1 hi).1
        have := (hnew i' b _ _ _ h2 hi').1
        omega
      ·have hloc : (locs ++ [l'])[obs.length]? = some l' := by rw [hilen, List.getElem?_append_right (Nat.le_refl _)]; simp
       cases hv with
       | frz hq => cases hq
       | nil _ e =>
        rw [hl] at e
        injection e with e
        subst e
        subst hl'
        exact .nil _ hloc
       | ref _ _ _ b base cap sz a e hc ha hs =>
        rw [hl] at e
        injection e with e
        subst e
        subst hl'
        have := RepC.ref (w := w) (fz := fz) (ρ := fun i => (locs ++ [Loc.since off (.at b base cap sz)])[i]?) obs.length 0 len b (base + off * sz) (cap - off) sz a hloc (by omega) (fun hlt => by rw [ha (by omega), Nat.zero_mul, Nat.add_zero]) hs
        rw [Nat.sub_zero] at this
        exact this
  ·cases h
theorem expL_rep [Globals] (hrel : Rel w0 B f0 fz ρ s tm w) : ∀ {zs : List (Option (TypeId × Nat))} {cs cs' : List C} {vs : List Value} {seen seen' : List Nat} {obs obs' : List Ob} {locs : List Loc}, ExpInv w fz ρ s.fr seen obs locs → RepL w fz ρ vs cs → expL s.hp s.fr zs cs seen obs = some (cs', seen', obs') →
  ∃ locs', locs <+: locs' ∧ ExpInv w fz ρ s.fr seen' obs' locs' ∧ RepL w fz (fun i => locs'[i]?) vs cs'
 | zs, [], cs', vs, seen, seen', obs, obs', locs, hinv, hv, h => by
  simp only [expL, Option.some.injEq, Prod.mk.injEq] at h
  obtain ⟨rfl, rfl, rfl⟩ := h
  exact ⟨locs, List.prefix_refl _, hinv, hv.1, by simp⟩
 | zs, c :: cs, cs', vs, seen, seen', obs, obs', locs, hinv, hv, h => by
  simp only [expL] at h
  split at h
  ·rename_i c1 seen1 obs1 hc
   split at h
   ·rename_i cs1 seen2 obs2 hcs
    simp only [Option.some.injEq, Prod.mk.injEq] at h
    obtain ⟨rfl, rfl, rfl⟩ := h
    cases vs with
    | nil => have := hv.1; simp at this
    | cons u us =>
     obtain ⟨locs1, hp1, hinv1, hr1⟩ := expC_rep hrel hinv (hv.2 0 u c rfl rfl) hc
     obtain ⟨locs2, hp2, hinv2, hr2⟩ := expL_rep hrel hinv1 (vs := us) ⟨by have := hv.1; simpa using this, fun i x y hx hy => hv.2 (i + 1) x y (by simpa using hx) (by simpa using hy)⟩ hcs
     refine ⟨locs2, hp1.trans hp2, hinv2, by simp [hr2.1], fun i x y hx hy => ?_⟩
     cases i with
     | zero => simp at hx hy; subst hx; subst hy; exact hr1.locs hp2
     | succ i => exact hr2.2 i x y (by simpa using hx) (by simpa using hy)
   ·cases h
  ·cases h
theorem exp1_rep [Globals] (hrel : Rel w0 B f0 fz ρ s tm w) {zs : List (Option (TypeId × Nat))} {t t' : T} {v : Value} {seen seen' : List Nat} {obs obs' : List Ob} {locs : List Loc} (hinv : ExpInv w fz ρ s.fr seen obs locs) (hv : RepT w fz ρ v t) (h : exp1 s.hp s.fr zs t seen obs = some (t', seen', obs')) :
  ∃ locs', locs <+: locs' ∧ ExpInv w fz ρ s.fr seen' obs' locs' ∧ Rep1 w fz (fun i => locs'[i]?) v t' := by
 cases t with
 | c x =>
  simp only [exp1] at h
  split at h
  ·rename_i c1 s1 o1 hc
   simp only [Option.some.injEq, Prod.mk.injEq] at h
   obtain ⟨rfl, rfl, rfl⟩ := h
   exact expC_rep hrel hinv hv hc
  ·cases h
 | agg cs =>
  simp only [exp1] at h
  split at h
  ·rename_i c1 s1 o1 hc
   simp only [Option.some.injEq, Prod.mk.injEq] at h
   obtain ⟨rfl, rfl, rfl⟩ := h
   obtain ⟨vs, e, hv⟩ := hv
   obtain ⟨locs', h1, h2, h3⟩ := expL_rep hrel hinv hv hc
   exact ⟨locs', h1, h2, vs, e, h3⟩
  ·cases h
 | junk =>
  simp only [exp1, Option.some.injEq, Prod.mk.injEq] at h
  obtain ⟨rfl, rfl, rfl⟩ := h
  exact ⟨locs, List.prefix_refl _, hinv, trivial⟩
 | tup _ => cases h
 | itr _ _ => cases h
theorem Rep1.toT {t : T} {v : Value} {ρ' : Nat → Option Loc} (h : Rep1 w fz ρ' v t) : RepT w fz ρ' v t := by
 cases t with
 | c x => exact h
 | agg cs => exact h
 | tup _ => exact h.elim
 | itr _ _ => exact h.elim
 | junk => trivial
theorem Rep1.locs {t : T} {v : Value} {l m : List Loc} (h : Rep1 w fz (fun i => l[i]?) v t) (hlm : l <+: m) : Rep1 w fz (fun i => m[i]?) v t :=
 h.mono (fun _ _ => rfl) (fun _ h => h) (fun _ _ hk => getElem?_pre hlm hk)
theorem expTs_rep [Globals] (hrel : Rel w0 B f0 fz ρ s tm w) : ∀ {zss : List (List (Option (TypeId × Nat)))} {ts ts' : List T} {vs : List Value} {seen seen' : List Nat} {obs obs' : List Ob} {locs : List Loc}, ExpInv w fz ρ s.fr seen obs locs → vs.length = ts.length → (∀ (i : Nat) (v : Value) (t : T), vs[i]? = some v → ts[i]? = some t → RepT w fz ρ v t) →
  expTs s.hp s.fr zss ts seen obs = some (ts', seen', obs') → ∃ locs', locs <+: locs' ∧ ExpInv w fz ρ s.fr seen' obs' locs' ∧ vs.length = ts'.length ∧ (∀ (i : Nat) (v : Value) (t : T), vs[i]? = some v → ts'[i]? = some t → Rep1 w fz (fun i => locs'[i]?) v t)
 | zss, [], ts', vs, seen, seen', obs, obs', locs, hinv, hl, hv, h => by
  simp only [expTs, Option.some.injEq, Prod.mk.injEq] at h
  obtain ⟨rfl, rfl, rfl⟩ := h
  exact ⟨locs, List.prefix_refl _, hinv, hl, by simp⟩
 | zss, t :: ts, ts', vs, seen, seen', obs, obs', locs, hinv, hl, hv, h => by
  simp only [expTs] at h
  split at h
  ·rename_i c1 seen1 obs1 hc
   split at h
   ·rename_i cs1 seen2 obs2 hcs
    simp only [Option.some.injEq, Prod.mk.injEq] at h
    obtain ⟨rfl, rfl, rfl⟩ := h
    cases vs with
    | nil => simp at hl
    | cons u us =>
     obtain ⟨locs1, hp1, hinv1, hr1⟩ := exp1_rep hrel hinv (hv 0 u t rfl rfl) hc
     obtain ⟨locs2, hp2, hinv2, hl2, hr2⟩ := expTs_rep hrel hinv1 (vs := us) (by simpa using hl) (fun i x y hx hy => hv (i + 1) x y (by simpa using hx) (by simpa using hy)) hcs
     refine ⟨locs2, hp1.trans hp2, hinv2, by simp [hl2], fun i x y hx hy => ?_⟩
     cases i with
     | zero => simp at hx hy; subst hx; subst hy; exact hr1.locs hp2
     | succ i => exact hr2 i x y (by simpa using hx) (by simpa using hy)
   ·cases h
  ·cases h
end
end Go.Vabs
