/- A library: each operation of the abstract interpreter is as the model's, II: memory that is read. No condition. -/
import Derived.Test.YtgamgcmjiancmaaDoorVC
set_option linter.unusedSimpArgs false
set_option linter.unusedVariables false
namespace Go.Vabs
open Go.RowKit

theorem add_none (b o j : Nat) : (⟨b, o, none⟩ : Addr).add j = ⟨b, o + j, none⟩ := by
  unfold Addr.add
  split
  · rename_i h; subst h; rfl
  · rfl
theorem cell?_at {w : World} {b o : Nat} {c : Array Value} {e : TypeId} {fr : Nat × Nat} (h : w.heap[b]? = some (.cells c e fr)) : w.cell? ⟨b, o, none⟩ = c[o]? := by
  simp [World.cell?, h]

section
variable {P : Program} {ty : Tys} {w0 : World} {B : Nat} {f0 fz : Nat → Prop} {ρ : Nat → Option Loc} {s : St} {tm : Array Value} {w : World}

theorem Rel.objAt [Globals] (h : Rel w0 B f0 fz ρ s tm w) {k b base cap sz : Nat} {o : Ob} (hk : hget s.hp k = some o) (hr : ρ k = some (.at b base cap sz)) : RepO w fz ρ (.at b base cap sz) o := by
  obtain ⟨l, hl, ho⟩ := h.obj k o hk
  rw [hr] at hl
  injection hl with hl
  subst hl
  exact ho

/-- The cells behind a pointer. -/
theorem deref_rep [Globals] (h : Rel w0 B f0 fz ρ s tm w) {v : Value} {t : T} {cs : List C} {off : Nat} (hv : RepT w fz ρ v t) (hd : deref s.hp t = some (cs, off)) :
    ∃ b o, v = .pointer (some ⟨b, o + off, none⟩) ∧ ∀ j c, cs[j]? = some c → ∃ u, w.cell? ⟨b, o + j, none⟩ = some u ∧ RepC w fz ρ u c := by
  unfold deref at hd
  split at hd
  · rename_i k i off'
    split at hd
    · rename_i ob hk
      split at hd
      · rename_i e he
        simp only [Option.some.injEq, Prod.mk.injEq] at hd
        obtain ⟨rfl, rfl⟩ := hd
        have hv : RepC w fz ρ v (.ptr k i off') := hv
        cases hv with
        | frz hf => cases hf
        | ptr _ _ _ b base cap sz hr =>
          obtain ⟨_, _, _, _, c, fr, hb, _, _, hc⟩ := h.objAt hk hr
          refine ⟨b, base + i * sz, rfl, fun j x hx => ?_⟩
          obtain ⟨u, hu, hrep⟩ := hc i j e x he hx
          exact ⟨u, by rw [cell?_at hb]; exact hu, hrep⟩
      · cases hd
    · cases hd
  · rename_i cs' off'
    simp only [Option.some.injEq, Prod.mk.injEq] at hd
    obtain ⟨rfl, rfl⟩ := hd
    have hv : RepC w fz ρ v (.fptr cs' off') := hv
    cases hv with
    | frz hf =>
      cases hf with
      | fptr b o _ _ cv hb hcells hrep =>
        refine ⟨b, o, rfl, fun j c hc => ⟨cv j, hcells j (List.getElem?_eq_some_iff.1 hc).1, .frz (hrep j c hc)⟩⟩
  · cases hd

/-- A variable is read. -/
theorem loadAt_rep (hty : ∀ t y, ty t = some y → Ty.of P t = some y) {t : TypeId} {cs : List C} {off b o : Nat} {x : T} (hl : loadAt ty t cs off = some x)
    (hc : ∀ j c, cs[j]? = some c → ∃ u, w.cell? ⟨b, o + j, none⟩ = some u ∧ RepC w fz ρ u c) : ∃ v, (loadVar t ⟨b, o + off, none⟩).run P w = .ok v w ∧ RepT w fz ρ v x := by
  unfold loadAt at hl
  cases ht : ty t with
  | none => rw [ht] at hl; cases hl
  | some y =>
    rw [ht] at hl
    obtain ⟨i, d, hi, hd, hk, hs, _⟩ := Ty.of_some (hty t y ht)
    have hagg : (isAgg t).run P w = .ok y.isAgg w := by rw [run_isAgg hd, ← hk]; rfl
    simp only at hl
    cases hy : y.isAgg with
    | true =>
      rw [hy] at hl hagg
      simp only [if_true] at hl
      split at hl
      · rename_i hle
        injection hl with hl
        subst hl
        have hcell : ∀ j, j < y.size → ∃ u, w.cell? ((⟨b, o + off, none⟩ : Addr).add j) = some u ∧ ∀ c, cs[off + j]? = some c → RepC w fz ρ u c := fun j hj => by
          obtain ⟨u, hu, hrep⟩ := hc (off + j) _ (List.getElem?_eq_getElem (by omega))
          refine ⟨u, by rw [add_none, Nat.add_assoc]; exact hu, fun c hcc => ?_⟩
          rw [List.getElem?_eq_getElem (by omega)] at hcc
          injection hcc with hcc
          rw [← hcc]
          exact hrep
        let f : Nat → Value := fun j => if hj : j < y.size then (hcell j hj).choose else undef
        have hf : ∀ j, j < y.size → w.cell? ((⟨b, o + off, none⟩ : Addr).add j) = some (f j) ∧ ∀ c, cs[off + j]? = some c → RepC w fz ρ (f j) c := fun j hj => by
          simp only [f, hj, dif_pos]
          exact (hcell j hj).choose_spec
        have hrun := run_loadCells (P := P) w ⟨b, o + off, none⟩ y.size f (fun j hj => (hf j hj).1)
        refine ⟨.agg ((List.range y.size).map f).toArray, ?_, _, rfl, ?_, ?_⟩
        · unfold loadVar
          simp only [Sem.run_bind, hagg, Result.andThen_ok, if_true, run_sizeOf' hi, ← hs, hrun]
          rfl
        · simp; omega
        · intro j v c hv hcc
          simp only [List.getElem?_map] at hv
          rw [Option.map_eq_some_iff] at hv
          obtain ⟨j', hj', rfl⟩ := hv
          have hj : j < y.size := by have := (List.getElem?_eq_some_iff.1 hj').1; simpa using this
          rw [List.getElem?_range hj] at hj'
          injection hj' with hj'
          subst hj'
          rw [List.getElem?_take, if_pos hj, List.getElem?_drop] at hcc
          exact (hf j hj).2 c hcc
      · cases hl
    | false =>
      rw [hy] at hl hagg
      simp only [Bool.false_eq_true, if_false, Option.map_eq_some_iff] at hl
      obtain ⟨c, hcc, rfl⟩ := hl
      obtain ⟨u, hu, hrep⟩ := hc off c hcc
      refine ⟨u, ?_, hrep⟩
      unfold loadVar
      simp only [Sem.run_bind, hagg, Result.andThen_ok, Bool.false_eq_true, if_false, run_load, hu]

/-- A part of a value. -/
theorem part_rep (hty : ∀ t y, ty t = some y → Ty.of P t = some y) {t : TypeId} {cs : List C} {off : Nat} {x : T} {vs : Array Value} (hl : loadAt ty t cs off = some x) (hc : RepL w fz ρ vs.toList cs) :
    ∃ v, (part t vs off).run P w = .ok v w ∧ RepT w fz ρ v x := by
  unfold loadAt at hl
  cases ht : ty t with
  | none => rw [ht] at hl; cases hl
  | some y =>
    rw [ht] at hl
    obtain ⟨i, d, hi, hd, hk, hs, _⟩ := Ty.of_some (hty t y ht)
    have hagg : (isAgg t).run P w = .ok y.isAgg w := by rw [run_isAgg hd, ← hk]; rfl
    simp only at hl
    cases hy : y.isAgg with
    | true =>
      rw [hy] at hl hagg
      simp only [if_true] at hl
      split at hl
      · rename_i hle
        injection hl with hl
        subst hl
        refine ⟨.agg (vs.extract off (off + y.size)), ?_, _, rfl, ?_, ?_⟩
        · unfold part
          simp only [Sem.run_bind, hagg, Result.andThen_ok, if_true, run_sizeOf' hi, ← hs]
          rfl
        · have := hc.1; simp at this ⊢; omega
        · intro j v c hv hcc
          have h1 := hc.1
          simp only [Array.toList_extract, List.extract_eq_take_drop, Nat.add_sub_cancel_left] at hv
          rw [List.getElem?_take] at hv hcc
          split at hv
          · rename_i hj
            rw [if_pos hj] at hcc
            rw [List.getElem?_drop] at hv hcc
            exact hc.2 _ v c hv hcc
          · cases hv
      · cases hl
    | false =>
      rw [hy] at hl hagg
      simp only [Bool.false_eq_true, if_false, Option.map_eq_some_iff] at hl
      obtain ⟨c, hcc, rfl⟩ := hl
      have h1 := hc.1
      have hlt : off < vs.size := by have := (List.getElem?_eq_some_iff.1 hcc).1; simp at h1; omega
      refine ⟨vs[off], ?_, hc.2 off _ c (by simp [Array.getElem?_toList, hlt]) hcc⟩
      unfold part
      simp only [Sem.run_bind, hagg, Result.andThen_ok, Bool.false_eq_true, if_false, Array.getElem?_eq_getElem hlt]
      rfl

theorem lenT_rep [Globals] (h : Rel w0 B f0 fz ρ s tm w) {v : Value} {t : T} {n : Nat} (hv : RepT w fz ρ v t) (hl : lenT s.hp t = some n) :
    (∃ b, v = .string b ∧ b.size = n ∧ t = .c (.lit (.string b))) ∨ ∃ a c, v = .slice a n c ∧ n ≤ c ∨ (v = .slice a n c ∧ t = .c (.lit (.slice a n c))) := by
  unfold lenT at hl
  split at hl
  · rename_i b
    injection hl with hl
    have hv : RepC w fz ρ v (.lit (.string b)) := hv
    cases hv with
    | frz hf => cases hf; exact .inl ⟨b, rfl, hl, rfl⟩
  · rename_i a n' c
    injection hl with hl
    subst hl
    have hv : RepC w fz ρ v (.lit (.slice a n' c)) := hv
    cases hv with
    | frz hf => cases hf; exact .inr ⟨a, c, .inr ⟨rfl, rfl⟩⟩
  · rename_i sz es
    injection hl with hl
    subst hl
    have hv : RepC w fz ρ v (.sl sz es) := hv
    cases hv with
    | frz hf =>
      cases hf with
      | sl a len cap _ _ cv hl hs hc hcells hrep => subst hl; exact .inr ⟨a, cap, .inl ⟨rfl, hc⟩⟩
  · rename_i k off len
    injection hl with hl
    subst hl
    have hv : RepC w fz ρ v (.ref k off len) := hv
    cases hv with
    | frz hf => cases hf
    | nil => exact .inr ⟨none, 0, .inl ⟨rfl, Nat.le_refl _⟩⟩
    | ref _ _ _ b base cap sz a hr hc ha hs => exact .inr ⟨a, cap - off, .inl ⟨rfl, by omega⟩⟩
  · cases hl
end
end Go.Vabs
