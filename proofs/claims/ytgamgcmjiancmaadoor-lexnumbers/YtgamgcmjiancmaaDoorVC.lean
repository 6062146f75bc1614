/- A library: each operation of the abstract interpreter is as the model's, I: numbers, what is read. No condition. -/
import Derived.Test.YtgamgcmjiancmaaDoorVB
import Derived.Laws.AppendOwn
import Derived.Laws.Small
set_option linter.unusedSimpArgs false
set_option linter.unusedVariables false
namespace Go.Vabs
open Go.RowKit

theorem isCell.one {v : Value} (h : isCell v) : v.oneCell' = true := by cases v <;> first | exact h.elim | rfl
theorem isCellB_iff {v : Value} : isCellB v = true ↔ isCell v := by cases v <;> simp [isCellB, isCell]

section
variable {P : Program} {ty : Tys}

theorem Ty.of_some {t : TypeId} {y : Ty} (h : Ty.of P t = some y) : ∃ i d, P.info? t = some i ∧ P.underlying t = some d ∧ y.k = K.of d ∧ y.size = i.size ∧ y.bytes = i.bytes ∧ y.zero = i.zero.map (fun v => v.cells.toList) ∧
    y.fields = (match d with | .struct fs => fs.toList.map fun f => (f.offset, f.type) | _ => []) := by
  unfold Ty.of at h
  cases hi : P.info? t with
  | none => rw [hi] at h; simp at h
  | some i =>
    cases hd : P.underlying t with
    | none => rw [hi, hd] at h; simp at h
    | some d =>
      rw [hi, hd] at h
      simp only [Option.some.injEq] at h
      subst h
      exact ⟨i, d, rfl, rfl, rfl, rfl, rfl, rfl, rfl⟩
theorem run_typeInfo' {t : TypeId} {i : TypeInfo} (h : P.info? t = some i) (w : World) : (typeInfo t).run P w = .ok i w := by simp [typeInfo, h]
theorem run_sizeOf' {t : TypeId} {i : TypeInfo} (h : P.info? t = some i) (w : World) : (sizeOf t).run P w = .ok i.size w := by simp [sizeOf, typeInfo, h]
theorem run_isAgg {t : TypeId} {d : TypeDesc} (h : P.underlying t = some d) (w : World) : (isAgg t).run P w = .ok (match K.of d with | .struct => true | .array _ _ => true | _ => false) w := by
  unfold isAgg
  simp only [Sem.run_bind, run_underlying h, Result.andThen_ok]
  cases d <;> simp [K.of]
theorem run_zeroValue {t : TypeId} {i : TypeInfo} {v : Value} (h : P.info? t = some i) (hz : i.zero = some v) (w : World) : (zeroValue t).run P w = .ok v w := by simp [zeroValue, typeInfo, h, hz]
theorem K.of_slice {d : TypeDesc} {e : TypeId} (h : K.of d = .slice e) : d = .slice e := by cases d <;> simp [K.of] at h <;> subst h <;> rfl
theorem K.of_str {d : TypeDesc} (h : K.of d = .str) : d = .string := by cases d <;> simp [K.of] at h <;> rfl
theorem K.of_bool {d : TypeDesc} (h : K.of d = .bool) : d = .bool := by cases d <;> simp [K.of] at h <;> rfl
theorem K.of_int {d : TypeDesc} {k : IntKind} (h : K.of d = .int k) : d = .int k := by cases d <;> simp [K.of] at h <;> subst h <;> rfl
theorem K.of_array {d : TypeDesc} {n : Nat} {e : TypeId} (h : K.of d = .array n e) : d = .array n e := by
  cases d <;> simp [K.of] at h
  obtain ⟨rfl, rfl⟩ := h
  rfl
theorem K.of_struct {d : TypeDesc} (h : K.of d = .struct) : ∃ fs, d = .struct fs := by cases d <;> simp [K.of] at h; exact ⟨_, rfl⟩
theorem elemOf_some (hty : ∀ t y, ty t = some y → Ty.of P t = some y) {t e : TypeId} {sz : Nat} (h : Vabs.elemOf ty t = some (e, sz)) :
    P.underlying t = some (.slice e) ∧ ∃ i, P.info? e = some i ∧ i.size = sz ∧ ∃ y, ty e = some y ∧ y.size = sz := by
  unfold Vabs.elemOf at h
  cases ht : ty t with
  | none => rw [ht] at h; cases h
  | some y =>
    rw [ht] at h
    obtain ⟨i, d, _, hd, hk, _⟩ := Ty.of_some (hty t y ht)
    cases hy : y.k with
    | slice e' =>
      simp only [hy] at h
      cases he : ty e' with
      | none => rw [he] at h; cases h
      | some z =>
        rw [he] at h
        simp only [Option.some.injEq, Prod.mk.injEq] at h
        obtain ⟨rfl, rfl⟩ := h
        obtain ⟨i2, d2, hi2, _, _, hs2, _⟩ := Ty.of_some (hty e' z he)
        rw [hy] at hk
        rw [K.of_slice hk.symm] at hd
        exact ⟨hd, i2, hi2, hs2.symm, z, he, rfl⟩
    | _ => simp [hy] at h

theorem tOf_rep {w : World} {fz : Nat → Prop} {ρ : Nat → Option Loc} (v : Value) : RepT w fz ρ v (tOf v) := by
  cases v with
  | agg cs =>
    simp only [tOf]
    split
    · rename_i h
      refine ⟨cs, rfl, by simp, fun i v c hv hc => ?_⟩
      rw [List.getElem?_map, hv] at hc
      injection hc with hc
      subst hc
      exact .frz (.lit _ (isCellB_iff.1 (List.all_eq_true.1 h v (List.mem_of_getElem? hv))))
    · trivial
  | tuple => trivial
  | _ => exact .frz (.lit _ trivial)
end

section
variable {P : Program} {ty : Tys} {w0 : World} {B : Nat} {f0 fz : Nat → Prop} {ρ : Nat → Option Loc} {s : St} {a : Act} {w : World}

theorem RepT.noI {v : Value} {t : T} (h : RepT w fz ρ v t) : RepT w fz ρ v t.noI := by
  cases t <;> first | exact h | trivial
theorem opd_noI [Globals] (tm : List T) (x : Operand) : (opd tm x).noI = opd tm x := by
  cases x with
  | tmp t => simp only [opd]; cases (tm[t]?).getD .junk <;> rfl
  | const v => simp only [opd, tOf]; cases v <;> first | rfl | (simp only; split <;> rfl)
  | global g =>
    simp only [opd]
    split
    · split <;> rfl
    · rfl
  | func f => rfl
theorem opd_rep [Globals] (h : Rel w0 B f0 fz ρ s a.tmps w) (x : Operand) : RepT w fz ρ (a.eval x) (opd s.tm x) := by
  cases x with
  | tmp t =>
    simp only [opd, Act.eval]
    cases ht : s.tm[t]? with
    | none => trivial
    | some y =>
      obtain ⟨v, hv, hr⟩ := h.tmp t y ht
      have : a.tmps.getD t undef = v := by simp [Array.getD_eq_getD_getElem?, hv]
      rw [this]
      exact hr.noI
  | const v => exact tOf_rep v
  | global g =>
    simp only [opd, Act.eval]
    cases hg : Globals.gl g with
    | none => trivial
    | some cs =>
      simp only
      split
      · rename_i hc
        obtain ⟨h1, h2⟩ := h.glz g cs hg
        refine .frz (.fptr g 0 0 (cs.map .lit) (fun j => (cs[j]?).getD undef) h1 (fun j hj => ?_) (fun j c hc' => ?_))
        · rw [List.length_map] at hj
          rw [Nat.zero_add, h2 j _ (List.getElem?_eq_getElem hj), List.getElem?_eq_getElem hj]
          rfl
        · rw [List.getElem?_map, Option.map_eq_some_iff] at hc'
          obtain ⟨v, hv, rfl⟩ := hc'
          rw [hv]
          exact .lit _ (isCellB_iff.1 (List.all_eq_true.1 hc v (List.mem_of_getElem? hv)))
      · trivial
  | func f => exact .frz (.lit _ trivial)
theorem opd_lit [Globals] (h : Rel w0 B f0 fz ρ s a.tmps w) {x : Operand} {v : Value} (hx : opd s.tm x = .c (.lit v)) : a.eval x = v := by
  have h1 := opd_rep h x
  rw [hx] at h1
  generalize a.eval x = u at h1
  have h1 : RepC w fz ρ u (.lit v) := h1
  cases h1 with
  | frz h2 => cases h2; rfl

theorem bits_run {op : BinOp} {k : IntKind} {x y : Int} {v : Value} (h : bitsOp op k x y = some v) : Op.intBits op k x y = pure v := by
  cases op <;> simp only [bitsOp, Option.some.injEq, reduceCtorEq] at h <;> subst h <;> rfl
theorem bin_run (hty : ∀ t y, ty t = some y → Ty.of P t = some y) {op : BinOp} {t : TypeId} {x y v : Value} (h : bin ty op t x y = some v) (W : World) (ox oy : Operand) :
    (do eqGuard op t ox oy x y; binOp op t x y : Sem Value).run P W = .ok v W := by
  cases x <;> cases y <;> try (simp [bin] at h; done)
  · -- bool
    rename_i p q
    simp only [bin] at h
    cases hy : ty t with
    | none => simp [hy] at h
    | some z =>
      obtain ⟨i, d, hi, hd, hk, _⟩ := Ty.of_some (hty t z hy)
      simp only [hy, Option.map_some] at h
      cases hz : z.k with
      | bool =>
        rw [hz] at hk
        have hd' := K.of_bool hk.symm
        subst hd'
        simp only [hz] at h
        have he := run_equal_bool (P := P) W t p q hd
        cases op <;> simp only [boolOp, Option.some.injEq, reduceCtorEq] at h <;> subst h
        · simp [eqGuard, binOp, he]
        · simp [eqGuard, binOp, he]
      | _ => simp [hz] at h
  · -- int
    rename_i k p k' q
    have hg : (eqGuard op t ox oy (.int k p) (.int k' q)).run P W = .ok () W := by
      unfold eqGuard
      cases op <;> simp
    simp only [Sem.run_bind, hg, Result.andThen_ok]
    cases op <;> simp only [bin] at h <;> simp only [binOp]
    case shl =>
      split at h
      · cases h
      · rename_i hq
        injection h with h; subst h
        simp [Op.shift, hq]
    case shr =>
      split at h
      · cases h
      · rename_i hq
        injection h with h; subst h
        simp [Op.shift, hq]
    case quo =>
      split at h
      · rename_i hk; subst hk
        simp only [intOp] at h
        split at h
        · cases h
        · rename_i hq; injection h with h; subst h; simp [Op.intDiv, hq]
      · cases h
    case rem =>
      split at h
      · rename_i hk; subst hk
        simp only [intOp] at h
        split at h
        · cases h
        · rename_i hq; injection h with h; subst h; simp [Op.intDiv, hq]
      · cases h
    all_goals
      split at h
      · rename_i hk
        subst hk
        simp only [intOp] at h
        first
          | (rw [if_neg (by simp), bits_run h]; rfl)
          | (injection h with h; subst h; simp [Op.intArith, Op.intCmp])
      · cases h
  · -- string
    rename_i p q
    have hg : (eqGuard op t ox oy (.string p) (.string q)).run P W = .ok () W := by
      unfold eqGuard
      cases op <;> simp
    simp only [Sem.run_bind, hg, Result.andThen_ok]
    cases op <;> simp [bin, strOp] at h
    · obtain ⟨h1, rfl⟩ := h
      simp [binOp, Op.stringOp]
      have : IntKind.i64.max = 9223372036854775807 := by decide
      omega
    · subst h
      simp [binOp, Op.stringOp]
    · subst h
      simp [binOp, Op.stringOp, bne]
theorem un_run {op : UnOp} {x v : Value} (h : un op x = some v) (W : World) : (Op.unary op x).run P W = .ok v W := by
  cases op <;> cases x <;> simp [un] at h
  · subst h
    simp [Op.unary, Op.intArith]
  · simp only [Op.unary]
    rw [bits_run h]
    rfl
  · subst h
    simp [Op.unary]
end
end Go.Vabs
