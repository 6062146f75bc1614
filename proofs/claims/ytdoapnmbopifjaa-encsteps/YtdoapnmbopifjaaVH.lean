/- A library: each operation of the abstract interpreter is as the model's, VI: all that neither store nor call, together; the state behind it. No condition. -/
import Derived.Test.YtdoapnmbopifjaaVG
set_option linter.unusedSimpArgs false
set_option linter.unusedVariables false
namespace Go.Vabs
open Go.RowKit

section
variable {P : Program} {ty : Tys} {w0 : World} {B : Nat} {f0 fz : Nat → Prop} {ρ : Nat → Option Loc} {s : St} {a : Act} {w : World} {o : Oper}

theorem evP_sound (hty : ∀ t y, ty t = some y → Ty.of P t = some y) (hrel : Rel w0 B f0 fz ρ s a.tmps w) {t : T} {oo : Option Ob} (h : evP ty o s.tm s.hp = some (t, oo)) :
    (oo = none ∧ Val P fz ρ a w o t) ∨ ∃ ob d, oo = some ob ∧ o.dst = some d ∧ New P fz ρ a w o d t ob := by
  have hmove : ∀ x, o.op = .move x ∨ o.op = .assign x → (if nilConst x then match Vabs.elemOf ty o.type with
      | some (e, sz) => match o.dst with
        | some d => some (T.c (.ref d 0 0), some (⟨false, true, e, sz, []⟩ : Ob))
        | none => none
      | none => some (.c (.lit (.slice none 0 0)), none)
    else some (opd s.tm x, none)) = some (t, oo) → (oo = none ∧ Val P fz ρ a w o t) ∨ ∃ ob d, oo = some ob ∧ o.dst = some d ∧ New P fz ρ a w o d t ob := by
    intro x ho h
    split at h
    · rename_i hx
      split at h
      · rename_i e sz he
        split at h
        · rename_i d hd
          simp only [Option.some.injEq, Prod.mk.injEq] at h
          obtain ⟨rfl, rfl⟩ := h
          exact .inr ⟨_, d, rfl, hd, new_nil hty ho hx he⟩
        · cases h
      · simp only [Option.some.injEq, Prod.mk.injEq] at h
        obtain ⟨rfl, rfl⟩ := h
        exact .inl ⟨rfl, val_nilConst ho hx⟩
    · simp only [Option.some.injEq, Prod.mk.injEq] at h
      obtain ⟨rfl, rfl⟩ := h
      exact .inl ⟨rfl, val_move hrel ho⟩
  have hmap : ∀ {x : Option T}, (x.map fun v => (v, (none : Option Ob))) = some (t, oo) → x = some t ∧ oo = none := by
    intro x h
    rw [Option.map_eq_some_iff] at h
    obtain ⟨v, hv, he⟩ := h
    simp only [Prod.mk.injEq] at he
    exact ⟨by rw [hv, he.1], he.2.symm⟩
  unfold evP at h
  split at h
  · rename_i x ho; exact hmove x (.inl ho) h
  · rename_i x ho; exact hmove x (.inr ho) h
  · -- alloc
    rename_i e ho
    split at h
    · rename_i y d hy hd
      split at h
      · rename_i z hz
        split at h
        · rename_i cs hl
          simp only [Option.some.injEq, Prod.mk.injEq] at h
          obtain ⟨rfl, rfl⟩ := h
          exact .inr ⟨_, d, rfl, hd, new_alloc hty hrel ho hy hz hl⟩
        · cases h
      · cases h
    · cases h
  · -- box
    rename_i e x ho
    split at h
    · rename_i cs d hc hd
      simp only [Option.some.injEq, Prod.mk.injEq] at h
      obtain ⟨rfl, rfl⟩ := h
      exact .inr ⟨_, d, rfl, hd, new_boxOp hrel ho hc⟩
    · cases h
  · -- build
    rename_i u parts ho
    split at h
    · rename_i y hy
      split at h
      · rename_i z hk hz
        split at h
        · rename_i zs hl
          split at h
          · rename_i hall
            rw [Option.map_eq_some_iff] at h
            obtain ⟨cs, hf, he⟩ := h
            simp only [Prod.mk.injEq] at he
            obtain ⟨rfl, rfl⟩ := he
            exact .inl ⟨rfl, val_build hty hrel ho hy hk hz hl hall hf⟩
          · cases h
        · cases h
      · rename_i n e z hk hz
        split at h
        · rename_i zs ey hl he
          rw [Option.map_eq_some_iff] at h
          obtain ⟨cs, hf, hh⟩ := h
          simp only [Prod.mk.injEq] at hh
          obtain ⟨rfl, rfl⟩ := hh
          exact .inl ⟨rfl, val_buildArr hty hrel ho hy hk hz hl he hf⟩
        · cases h
      · cases h
    · cases h
  · -- buildSlice
    rename_i u len parts ho
    split at h
    · rename_i e sz d he hd
      split at h
      · rename_i y hy
        split at h
        · rename_i z hz
          split at h
          · rename_i zs hl
            split at h
            · rename_i hlen
              split at h
              · rename_i cs hf
                simp only [Option.some.injEq, Prod.mk.injEq] at h
                obtain ⟨rfl, rfl⟩ := h
                exact .inr ⟨_, d, rfl, hd, new_buildSlice hty hrel ho he hy hz hl hlen hf⟩
              · cases h
            · cases h
          · cases h
        · cases h
      · cases h
    · cases h
  · -- makeSlice
    rename_i u l c ho
    split at h
    · rename_i e sz d kl nl kc nc he hd hl hc
      split at h
      · rename_i y hy
        split at h
        · rename_i z hz
          split at h
          · rename_i zs hlz
            split at h
            · rename_i hcond
              simp only [Option.some.injEq, Prod.mk.injEq] at h
              obtain ⟨rfl, rfl⟩ := h
              exact .inr ⟨_, d, rfl, hd, new_makeSlice hty hrel ho he hl hc hy hz hlz hcond⟩
            · cases h
          · cases h
        · cases h
      · cases h
    · cases h
  · -- pick
    rename_i c x y ho
    split at h
    · rename_i b hc
      have hv := val_pick (P := P) (w := w) hrel ho hc
      split at h
      · rename_i hb
        simp only [Option.some.injEq, Prod.mk.injEq] at h
        obtain ⟨rfl, rfl⟩ := h
        rw [if_pos hb] at hv
        exact .inl ⟨rfl, hv⟩
      · rename_i hb
        simp only [Option.some.injEq, Prod.mk.injEq] at h
        obtain ⟨rfl, rfl⟩ := h
        rw [if_neg hb] at hv
        exact .inl ⟨rfl, hv⟩
    · cases h
  · -- load
    rename_i u x ho
    split at h
    · rename_i cs off hd
      obtain ⟨hl, rfl⟩ := hmap h
      exact .inl ⟨rfl, val_load hty hrel ho hd hl⟩
    · cases h
  · -- nilCheck
    rename_i x ho
    split at h
    · rename_i k i off hx
      simp only [Option.some.injEq, Prod.mk.injEq] at h
      obtain ⟨rfl, rfl⟩ := h
      exact .inl ⟨rfl, val_nil hrel ho hx (.inl ⟨_, _, _, rfl⟩)⟩
    · rename_i cs off hx
      simp only [Option.some.injEq, Prod.mk.injEq] at h
      obtain ⟨rfl, rfl⟩ := h
      exact .inl ⟨rfl, val_nil hrel ho hx (.inr ⟨_, _, rfl⟩)⟩
    · cases h
  · -- binOp
    rename_i op u x y u' ho
    split at h
    · rename_i p q hx hy
      rw [Option.map_eq_some_iff] at h
      obtain ⟨v, hb, he⟩ := h
      simp only [Prod.mk.injEq] at he
      obtain ⟨rfl, rfl⟩ := he
      exact .inl ⟨rfl, val_bin hty hrel ho hx hy hb⟩
    · cases h
  · -- unOp
    rename_i op u x ho
    split at h
    · rename_i p hx
      rw [Option.map_eq_some_iff] at h
      obtain ⟨v, hb, he⟩ := h
      simp only [Prod.mk.injEq] at he
      obtain ⟨rfl, rfl⟩ := he
      exact .inl ⟨rfl, val_un hrel ho hx hb⟩
    · cases h
  · -- convert
    rename_i src dst x ho
    split at h
    · rename_i k' k k2 n h1 h2 hx
      simp only [Option.some.injEq, Prod.mk.injEq] at h
      obtain ⟨rfl, rfl⟩ := h
      exact .inl ⟨rfl, val_convInt hty hrel ho h1 h2 hx⟩
    · rename_i b h1 h2 hx
      simp only [Option.some.injEq, Prod.mk.injEq] at h
      obtain ⟨rfl, rfl⟩ := h
      exact .inl ⟨rfl, val_convStr hty hrel ho h1 h2 hx⟩
    · cases h
  · -- fieldAddr
    rename_i u x f ho
    split at h
    · rename_i y hy
      split at h
      · rename_i fo ft hk hf
        split at h
        · rename_i n k i off hs hx
          simp only [Option.some.injEq, Prod.mk.injEq] at h
          obtain ⟨rfl, rfl⟩ := h
          exact .inl ⟨rfl, val_fieldAddr hty hrel ho hy hk hf hs hx (.inl ⟨_, _, _, rfl, rfl⟩)⟩
        · rename_i n cs off hs hx
          simp only [Option.some.injEq, Prod.mk.injEq] at h
          obtain ⟨rfl, rfl⟩ := h
          exact .inl ⟨rfl, val_fieldAddr hty hrel ho hy hk hf hs hx (.inr ⟨_, _, rfl, rfl⟩)⟩
        · cases h
      · cases h
    · cases h
  · -- field
    rename_i u x f ho
    split at h
    · rename_i y hy
      split at h
      · rename_i fo ft cs hk hf hx
        obtain ⟨hl, rfl⟩ := hmap h
        exact .inl ⟨rfl, val_field hty hrel ho hy hk hf hx hl⟩
      · cases h
    · cases h
  · -- indexAddr
    rename_i u x ix ho
    split at h
    · rename_i k i hi
      split at h
      · rename_i sz es e z hx he
        split at h
        · rename_i hc
          obtain ⟨rfl, h0⟩ := hc
          split at h
          · rename_i l hl
            simp only [Option.some.injEq, Prod.mk.injEq] at h
            obtain ⟨rfl, rfl⟩ := h
            exact .inl ⟨rfl, val_indexAddr hty hrel ho hi hx he h0 (.inl ⟨es, l, rfl, hl, rfl⟩)⟩
          · cases h
        · cases h
      · rename_i k' off len e z hx he
        split at h
        · rename_i ob hob
          split at h
          · rename_i hc
            simp only [Option.some.injEq, Prod.mk.injEq] at h
            obtain ⟨rfl, rfl⟩ := h
            exact .inl ⟨rfl, val_indexAddr hty hrel ho hi hx he hc.2.1 (.inr ⟨k', off, len, ob, rfl, hob, hc.1, hc.2.2, rfl⟩)⟩
          · cases h
        · cases h
      · obtain ⟨hl, rfl⟩ := hmap h
        exact .inl ⟨rfl, val_arrAddr hty hrel ho hi hl⟩
    · cases h
  · -- index
    rename_i u x ix ho
    split at h
    · rename_i k i b hi hx
      split at h
      · rename_i hk
        split at h
        · rename_i h0
          split at h
          · rename_i c hc
            simp only [Option.some.injEq, Prod.mk.injEq] at h
            obtain ⟨rfl, rfl⟩ := h
            exact .inl ⟨rfl, val_index hty hrel ho hi hx hk h0 hc⟩
          · cases h
        · cases h
      · cases h
    · rename_i k i cs hi hx
      split at h
      · rename_i y hy
        split at h
        · rename_i n e hk
          split at h
          · rename_i ey he
            split at h
            · rename_i h0
              obtain ⟨hl, rfl⟩ := hmap h
              exact .inl ⟨rfl, val_indexArr hty hrel ho hi hx hy hk he h0 hl⟩
            · cases h
          · cases h
        · cases h
      · cases h
    · cases h
  · -- slice
    rename_i u x lo hi ho
    split at h
    · rename_i n hn
      split at h
      · rename_i hh hhh
        split at h
        · rename_i l hl
          obtain ⟨hs, rfl⟩ := hmap h
          exact .inl ⟨rfl, val_slice hty hrel ho hn hhh hl hs⟩
        · cases h
      · cases h
    · cases h
  · -- extract
    rename_i x i ho
    split at h
    · rename_i ts hx
      split at h
      · rename_i t' ht
        simp only [Option.some.injEq, Prod.mk.injEq] at h
        obtain ⟨rfl, rfl⟩ := h
        exact .inl ⟨rfl, val_extract hrel ho hx ht⟩
      · cases h
    · cases h
  · -- builtins
    rename_i c ho
    split at h
    · rename_i hc
      split at h
      · rename_i x u ha ht
        split at h
        · rename_i e hk
          rw [Option.map_eq_some_iff] at h
          obtain ⟨n, hl, he⟩ := h
          simp only [Prod.mk.injEq] at he
          obtain ⟨rfl, rfl⟩ := he
          obtain ⟨h1, h2⟩ := lenS_T (hp := s.hp) hl
          exact .inl ⟨rfl, val_len hty hrel ho hc ha ht h1 (.inl ⟨e, hk⟩) (fun _ _ => h2) (fun h => by rw [hk] at h; cases h)⟩
        · rename_i hk
          rw [Option.map_eq_some_iff] at h
          obtain ⟨n, hl, he⟩ := h
          simp only [Prod.mk.injEq] at he
          obtain ⟨rfl, rfl⟩ := he
          obtain ⟨h1, h2⟩ := lenStr_T (hp := s.hp) hl
          exact .inl ⟨rfl, val_len hty hrel ho hc ha ht h1 (.inr hk) (fun e h => by rw [hk] at h; cases h) (fun _ => h2)⟩
        · cases h
      · cases h
    · rename_i hc
      split at h
      · rename_i u ha ht
        split at h
        · rename_i e hk
          simp only [Option.some.injEq, Prod.mk.injEq] at h
          obtain ⟨rfl, rfl⟩ := h
          exact .inl ⟨rfl, val_cap hty hrel ho hc ha ht hk⟩
        · cases h
      · cases h
    · rename_i hc
      split at h
      · rename_i k x k' y ha
        split at h
        · rename_i hk
          subst hk
          simp only [Option.some.injEq, Prod.mk.injEq] at h
          obtain ⟨rfl, rfl⟩ := h
          exact .inl ⟨rfl, val_max hrel ho hc ha⟩
        · cases h
      · cases h
    · rename_i hc
      split at h
      · rename_i k x k' y ha
        split at h
        · rename_i hk
          subst hk
          simp only [Option.some.injEq, Prod.mk.injEq] at h
          obtain ⟨rfl, rfl⟩ := h
          exact .inl ⟨rfl, val_min hrel ho hc ha⟩
        · cases h
      · cases h
    · cases h
  · cases h
end
end Go.Vabs
