/- A library: each operation of the abstract interpreter is as the model's, IV: slices of slices, conversions, the greater one. No condition. -/
import Derived.Test.YthmnnieiibeiaaaVE
set_option linter.unusedSimpArgs false
set_option linter.unusedVariables false
namespace Go.Vabs
open Go.RowKit
section
variable {P : Program} {ty : Tys} {w0 : World} {B : Bs} {f0 fz : Nat → Prop} {ρ : Nat → Option Loc} {s : St} {a : Act} {w : World} {o : Oper}
theorem bound_run [Globals] (hrel : Rel w0 B f0 fz ρ s a.tmps w) {x : Operand} {n d r m : Nat} (h : boundOf s.tm n d (some x) = some r) (hm : n ≤ m) (code : Instr.sliceBound = Instr.sliceBound) (cd : BoundsCode) :
  (Instr.sliceBound (a.eval x) m cd).run P w = .ok r w ∧ r ≤ n := by
 unfold boundOf at h
 split at h
 ·rename_i heq; cases heq
 ·rename_i x' hx
  injection hx with hx
  subst hx
  split at h
  ·rename_i k i hi
   split at h
   ·rename_i hb
    injection h with h
    subst h
    have hc : 0 ≤ i ∧ i ≤ (m : Int) := by omega
    refine ⟨?_, hb.2⟩
    simp only [Instr.sliceBound, opd_lit hrel hi, asIntOf, Sem.run_bind, Sem.run_pure, Result.andThen_ok, Sem.run_ite, if_pos hc]
   ·cases h
  ·cases h
theorem bounds_run [Globals] (hrel : Rel w0 B f0 fz ρ s a.tmps w) {lo hi : Option Operand} {n cap l h : Nat} (isSlice : Bool) (hcap : n ≤ cap) (hh : boundOf s.tm n n hi = some h) (hl : boundOf s.tm h 0 lo = some l) :
  (Instr.sliceBounds isSlice n cap (lo.map a.eval) (hi.map a.eval) none).run P w = .ok (l, h, cap) w ∧ l ≤ h ∧ h ≤ n := by
 have h1 : ∀ (cd : BoundsCode), (match hi.map a.eval with | some v => Instr.sliceBound v cap cd | none => pure n : Sem Nat).run P w = .ok h w ∧ h ≤ n := by
  intro cd
  cases hi with
  | none => simp only [boundOf, Option.some.injEq] at hh; subst hh; exact ⟨rfl, Nat.le_refl _⟩
  | some x => exact bound_run hrel hh hcap rfl cd
 have h2 : ∀ (cd : BoundsCode), (match lo.map a.eval with | some v => Instr.sliceBound v h cd | none => pure 0 : Sem Nat).run P w = .ok l w ∧ l ≤ h := by
  intro cd
  cases lo with
  | none => simp only [boundOf, Option.some.injEq] at hl; subst hl; exact ⟨rfl, Nat.zero_le _⟩
  | some x => exact bound_run hrel hl (Nat.le_refl _) rfl cd
 refine ⟨?_, (h2 .sliceB).2, (h1 .sliceB).2⟩
 unfold Instr.sliceBounds
 cases hi with
 | none =>
  have h1' := (h1 .sliceB).1
  simp only [Option.map_none, Sem.run_pure, Result.ok.injEq] at h1'
  obtain ⟨rfl, _⟩ := h1'
  cases lo with
  | none =>
   have h2' := (h2 .sliceB).1
   simp only [Option.map_none, Sem.run_pure, Result.ok.injEq] at h2'
   obtain ⟨rfl, _⟩ := h2'
   simp
  | some x =>
   have h2' := (h2 .sliceB).1
   simp only [Option.map_some] at h2'
   simp [h2']
 | some y =>
  have h1' := (h1 (if isSlice = true then .sliceAcap else .sliceAlen)).1
  simp only [Option.map_some] at h1'
  cases lo with
  | none =>
   have h2' := (h2 .sliceB).1
   simp only [Option.map_none, Sem.run_pure, Result.ok.injEq] at h2'
   obtain ⟨rfl, _⟩ := h2'
   simp [h1']
  | some x =>
   have h2' := (h2 .sliceB).1
   simp only [Option.map_some] at h2'
   simp [h1', h2']
theorem val_slice [Globals] (hty : ∀ t y, ty t = some y → Ty.of P t = some y) (hrel : Rel w0 B f0 fz ρ s a.tmps w) {t : TypeId} {x : Operand} {lo hi : Option Operand} {n l h : Nat} {r : T} (ho : o.op = .slice t x lo hi none)
  (hn : lenT s.hp (opd s.tm x) = some n) (hh : boundOf s.tm n n hi = some h) (hl : boundOf s.tm h 0 lo = some l) (hs : sliceT ty t s.hp (opd s.tm x) l h = some r) : Val P fz ρ a w o r := by
 have hr := opd_rep hrel x
 generalize hX : opd s.tm x = X at hr hn hs
 unfold sliceT at hs
 split at hs
 ·-- a string
  rename_i b
  split at hs
  ·rename_i hk
   injection hs with hs
   subst hs
   rw [Option.map_eq_some_iff] at hk
   obtain ⟨y, hty', hky⟩ := hk
   obtain ⟨_, d, _, hd, hkd, _⟩ := Ty.of_some (hty t y hty')
   rw [hky] at hkd
   have hd' := K.of_str hkd.symm
   subst hd'
   have hv : a.eval x = .string b := opd_lit hrel hX
   simp only [lenT, Option.some.injEq] at hn
   subst hn
   have hb := (bounds_run (P := P) (w := w) hrel false (Nat.le_refl b.size) hh hl).1
   refine ⟨_, ?_, rep_lit trivial⟩
   simp [execOp, ho, hv, Instr.sliceAt, run_underlying hd, Instr.slice, hb]
  ·cases hs
 ·-- nothing
  split at hs
  ·rename_i e z he
   injection hs with hs
   subst hs
   obtain ⟨hd, inf, hinf, hsz, _⟩ := elemOf_some hty he
   have hv : a.eval x = .slice none 0 0 := opd_lit hrel hX
   simp only [lenT, Option.some.injEq] at hn
   subst hn
   obtain ⟨hb, hlh, hhn⟩ := bounds_run (P := P) (w := w) hrel true (Nat.le_refl 0) hh hl
   obtain rfl : h = 0 := by omega
   obtain rfl : l = 0 := by omega
   refine ⟨.slice none 0 0, ?_, rep_lit trivial⟩
   simp [execOp, ho, hv, Instr.sliceAt, run_underlying hd, Instr.slice, hb, run_sizeOf' hinf, hsz]
  ·cases hs
 ·-- what nobody writes
  rename_i sz es
  split at hs
  ·rename_i e z he
   split at hs
   ·rename_i hz
    subst hz
    injection hs with hs
    subst hs
    obtain ⟨hd, inf, hinf, hsz, _⟩ := elemOf_some hty he
    have hr : RepC w fz ρ (a.eval x) (.sl z es) := hr
    simp only [lenT, Option.some.injEq] at hn
    subst hn
    generalize hv : a.eval x = u at hr
    cases hr with
    | frz hf =>
     cases hf with
     | sl ad len cap _ _ cv hle hss hc hcells hrep =>
      subst hle
      obtain ⟨hb, hlh, hhn⟩ := bounds_run (P := P) (w := w) hrel true hc hh hl
      refine ⟨.slice (if cap = l then ad else ad.map (·.add (l * z))) (h - l) (cap - l), ?_, ?_⟩
      ·simp [execOp, ho, hv, Instr.sliceAt, run_underlying hd, Instr.slice, hb, run_sizeOf' hinf, hsz]
      ·refine RepC.frz (.sl _ (h - l) (cap - l) _ z (fun i j => cv (l + i) j) (by simp; omega) (fun e' he' => hss e' (List.mem_of_mem_drop (List.mem_of_mem_take he'))) (by omega) (fun hp => ?_) (fun i j e' c hi hj => ?_))
       ·obtain ⟨b, q, rfl, hbz, hcc⟩ := hcells (by omega)
        refine ⟨b, q + l * z, ?_, hbz, fun i j hi hj => ?_⟩
        ·rw [if_neg (by omega)]; simp [add_none]
        ·have := hcc (l + i) j (by omega) hj
         rw [Nat.add_mul, ← Nat.add_assoc] at this
         exact this
       ·rw [List.getElem?_take] at hi
        split at hi
        ·rw [List.getElem?_drop] at hi
         exact hrep (l + i) j e' c hi hj
        ·cases hi
   ·cases hs
  ·cases hs
 ·-- a row of one's own
  rename_i k off len
  split at hs
  ·rename_i e z ob he hob
   split at hs
   ·rename_i hz
    injection hs with hs
    subst hs
    obtain ⟨hd, inf, hinf, hsz, _⟩ := elemOf_some hty he
    have hr : RepC w fz ρ (a.eval x) (.ref k off len) := hr
    simp only [lenT, Option.some.injEq] at hn
    subst hn
    generalize hv : a.eval x = u at hr
    cases hr with
    | frz hf => cases hf
    | nil _ hrho =>
     obtain ⟨hb, hlh, hhn⟩ := bounds_run (P := P) (w := w) hrel true (Nat.le_refl 0) hh hl
     obtain rfl : h = 0 := by omega
     obtain rfl : l = 0 := by omega
     refine ⟨.slice none 0 0, ?_, RepC.nil k hrho⟩
     simp [execOp, ho, hv, Instr.sliceAt, run_underlying hd, Instr.slice, hb, run_sizeOf' hinf, hsz]
    | ref _ _ _ b base cap sz ad hrho hc ha hsome =>
     have hsz' : sz = ob.sz := (hrel.objAt hob hrho).2.2.1
     obtain ⟨hb, hlh, hhn⟩ := bounds_run (P := P) (w := w) hrel true (show len ≤ cap - off by omega) hh hl
     refine ⟨.slice (if cap - off = l then ad else ad.map (·.add (l * z))) (h - l) (cap - off - l), ?_, ?_⟩
     ·simp [execOp, ho, hv, Instr.sliceAt, run_underlying hd, Instr.slice, hb, run_sizeOf' hinf, hsz]
     ·rw [Nat.sub_sub]
      refine RepC.ref k (off + l) (h - l) b base cap sz _ hrho (by omega) (fun hlt => ?_) ?_
      ·rw [if_neg (by omega), ha (by omega)]
       simp only [Option.map_some, add_none]
       rw [hz, ← hsz', Nat.add_mul, ← Nat.add_assoc]
      ·split
       ·exact hsome
       ·simpa using hsome
   ·cases hs
  ·cases hs
 ·cases hs
theorem args_two [Globals] {c : Call} {tm : List T} {x y : T} (h : c.args.toList.map (opd tm) = [x, y]) : ∃ p q, c.args = #[p, q] ∧ opd tm p = x ∧ opd tm q = y := by
 cases hc : c.args.toList with
 | nil => rw [hc] at h; cases h
 | cons p r => cases r with
  | nil => rw [hc] at h; simp at h
  | cons q r => cases r with
   | nil =>
    rw [hc] at h
    simp only [List.map_cons, List.map_nil, List.cons.injEq, and_true] at h
    exact ⟨p, q, by rw [← Array.toArray_toList (xs := c.args), hc], h.1, h.2⟩
   | cons _ _ => rw [hc] at h; simp at h
theorem val_max [Globals] (hrel : Rel w0 B f0 fz ρ s a.tmps w) {c : Call} {k : IntKind} {x y : Int} (ho : o.op = .call c) (hc : c.callee = .builtin .max) (ha : c.args.toList.map (opd s.tm) = [.c (.lit (.int k x)), .c (.lit (.int k y))]) :
  Val P fz ρ a w o (.c (.lit (.int k (max x y)))) := by
 obtain ⟨p, q, hargs, hp, hq⟩ := args_two ha
 refine ⟨_, ?_, rep_lit trivial⟩
 have h1 : Builtin.max2 (.int k x) (.int k y) = pure (.int k (max x y)) := by
  simp only [Builtin.max2]
  congr 2
  split <;> omega
 simp only [execOp, ho, resolve, hc, hargs, Sem.run_bind, Sem.run_pure, Result.andThen_ok, invoke, builtin]
 simp [Builtin.max_, opd_lit hrel hp, opd_lit hrel hq, h1]
theorem val_min [Globals] (hrel : Rel w0 B f0 fz ρ s a.tmps w) {c : Call} {k : IntKind} {x y : Int} (ho : o.op = .call c) (hc : c.callee = .builtin .min) (ha : c.args.toList.map (opd s.tm) = [.c (.lit (.int k x)), .c (.lit (.int k y))]) :
  Val P fz ρ a w o (.c (.lit (.int k (min x y)))) := by
 obtain ⟨p, q, hargs, hp, hq⟩ := args_two ha
 refine ⟨_, ?_, rep_lit trivial⟩
 have h1 : Builtin.min2 (.int k x) (.int k y) = pure (.int k (min x y)) := by
  simp only [Builtin.min2]
  congr 2
  split <;> omega
 simp only [execOp, ho, resolve, hc, hargs, Sem.run_bind, Sem.run_pure, Result.andThen_ok, invoke, builtin]
 simp [Builtin.min_, opd_lit hrel hp, opd_lit hrel hq, h1]
theorem val_cap [Globals] (hty : ∀ t y, ty t = some y → Ty.of P t = some y) (hrel : Rel w0 B f0 fz ρ s a.tmps w) {c : Call} {t e : TypeId} (ho : o.op = .call c) (hc : c.callee = .builtin .cap) (ha : c.args.toList.map (opd s.tm) = [.c (.lit (.slice none 0 0))]) (ht : c.argTypes.toList = [t]) (hk : (ty t).map Ty.k = some (.slice e)) : Val P fz ρ a w o (.c (.lit (.int .i64 0))) := by
 obtain ⟨p, hargs, hp⟩ : ∃ p, c.args = #[p] ∧ opd s.tm p = .c (.lit (.slice none 0 0)) := by
  rcases List.map_eq_cons_iff.1 ha with ⟨p, l, h1, h2, h3⟩
  rw [List.map_eq_nil_iff] at h3
  subst h3
  exact ⟨p, Array.toList_inj.1 (by simpa using h1), h2⟩
 have htys : c.argTypes = #[t] := by rw [← Array.toArray_toList (xs := c.argTypes), ht]
 rw [Option.map_eq_some_iff] at hk
 obtain ⟨y, hty', hky⟩ := hk
 obtain ⟨_, d, _, hd, hkd, _⟩ := Ty.of_some (hty t y hty')
 rw [hky] at hkd
 have hd' := K.of_slice hkd.symm
 subst hd'
 refine ⟨_, ?_, rep_lit trivial⟩
 simp only [execOp, ho, resolve, hc, hargs, htys, Sem.run_bind, Sem.run_pure, Result.andThen_ok, invoke, builtin]
 simp [Builtin.cap_, run_underlying hd, opd_lit hrel hp, goInt]
theorem val_convInt [Globals] (hty : ∀ t y, ty t = some y → Ty.of P t = some y) (hrel : Rel w0 B f0 fz ρ s a.tmps w) {src dst : TypeId} {x : Operand} {k k' k2 : IntKind} {n : Int} (ho : o.op = .convert src dst x)
  (h1 : (ty src).map Ty.k = some (.int k')) (h2 : (ty dst).map Ty.k = some (.int k)) (hx : opd s.tm x = .c (.lit (.int k2 n))) : Val P fz ρ a w o (.c (.lit (.int k (k.wrap n)))) := by
 rw [Option.map_eq_some_iff] at h1 h2
 obtain ⟨y1, hy1, hk1⟩ := h1
 obtain ⟨y2, hy2, hk2⟩ := h2
 obtain ⟨_, d1, _, hd1, he1, _⟩ := Ty.of_some (hty src y1 hy1)
 obtain ⟨_, d2, _, hd2, he2, _⟩ := Ty.of_some (hty dst y2 hy2)
 rw [hk1] at he1
 rw [hk2] at he2
 have e1 := K.of_int he1.symm
 have e2 := K.of_int he2.symm
 subst e1
 subst e2
 refine ⟨_, ?_, rep_lit trivial⟩
 simp [execOp, ho, opd_lit hrel hx, convert, run_underlying hd1, run_underlying hd2, Conv.intToInt]
theorem val_convStr [Globals] (hty : ∀ t y, ty t = some y → Ty.of P t = some y) (hrel : Rel w0 B f0 fz ρ s a.tmps w) {src dst : TypeId} {x : Operand} {b : ByteArray} (ho : o.op = .convert src dst x)
  (h1 : (ty src).map Ty.k = some .str) (h2 : (ty dst).map Ty.k = some .str) (hx : opd s.tm x = .c (.lit (.string b))) : Val P fz ρ a w o (.c (.lit (.string b))) := by
 rw [Option.map_eq_some_iff] at h1 h2
 obtain ⟨y1, hy1, hk1⟩ := h1
 obtain ⟨y2, hy2, hk2⟩ := h2
 obtain ⟨_, d1, _, hd1, he1, _⟩ := Ty.of_some (hty src y1 hy1)
 obtain ⟨_, d2, _, hd2, he2, _⟩ := Ty.of_some (hty dst y2 hy2)
 rw [hk1] at he1
 rw [hk2] at he2
 have e1 := K.of_str he1.symm
 have e2 := K.of_str he2.symm
 subst e1
 subst e2
 refine ⟨_, ?_, rep_lit trivial⟩
 simp [execOp, ho, opd_lit hrel hx, convert, run_underlying hd1, run_underlying hd2]
end
end Go.Vabs
