/- What the listed variables hold is what the interpreter takes them to hold. No condition. -/
import Derived.Test.YtgamgcmjiancmaaDoorRows
import Derived.Test.YtgamgcmjiancmaaDoorK
import Derived.Lib.LaidU8
namespace Go.Proofs.YtgamgcmjiancmaaDoor
open Go.Vabs Go.Vid Go.Lib
def laidL : List (String × DataW Unit) := [("unicode/utf8.acceptRanges", Rows.laid_unicode_utf8_acceptRanges), ("unicode/utf8.first", Rows.laid_unicode_utf8_first)]
theorem gFirst : Tryd.prog.globalNamed "unicode/utf8.first" = some 0 := by kernel_rfl
theorem gRanges : Tryd.prog.globalNamed "unicode/utf8.acceptRanges" = some 1 := by kernel_rfl
theorem tFirst : (Tryd.prog.globals[0]?).map (·.type) = some 67 := by kernel_rfl
theorem tRanges : (Tryd.prog.globals[1]?).map (·.type) = some 70 := by kernel_rfl
theorem c5 : Tryd.prog.cellsOf 5 = 1 := by kernel_rfl
theorem c67 : Tryd.prog.cellsOf 67 = 256 := by kernel_rfl
theorem c69 : Tryd.prog.cellsOf 69 = 2 := by kernel_rfl
theorem first_data : (Rows.laid_unicode_utf8_first : DataW Unit) = tabData .u8 first := by
  show DataW.agg (Go.Pinned.numbers .u8 Go.Pinned.utf8FirstZ) = _
  unfold Go.Pinned.numbers tabData first
  rw [List.map_map]
  rfl
theorem ranges_data : (Rows.laid_unicode_utf8_acceptRanges : DataW Unit) = .agg (ranges.map fun p => .agg ([p.1, p.2].map fun z => .lit (.int .u8 z))) := rfl
theorem glob_cells {W : World} (h : laidMet Tryd.prog laidL W) : ∀ g cs, Globals.gl g = some cs → ∀ j v, cs[j]? = some v → W.cell? ⟨g, j, none⟩ = some v := by
  have h3 : VarReads Tryd.prog W "unicode/utf8.first" (tabData .u8 first) := first_data ▸ laidMet.reads h (.tail _ (.head _))
  have h4 : VarReads Tryd.prog W "unicode/utf8.acceptRanges" (.agg (ranges.map fun p => .agg ([p.1, p.2].map fun z => .lit (.int .u8 z)))) := ranges_data ▸ laidMet.reads h (.head _)
  intro g cs hg j v hj
  match g, hg with
  | 0, hg =>
    obtain rfl : tabBV first = cs := Option.some.inj hg
    obtain ⟨g, t, cs, fuel, p, hg, hty, hvar, hd⟩ := h3
    obtain rfl := Option.some.inj (gFirst.symm.trans hg)
    obtain rfl := Option.some.inj (tFirst.symm.trans hty)
    have hcs := cells_of_tab Tryd.underlying67 Tryd.underlying5 c5 c67 hd
    rw [World.var?_cell hg hvar j, ← Array.getElem?_toList, hcs]
    exact hj
  | 1, hg =>
    obtain rfl : tabPV ranges = cs := Option.some.inj hg
    obtain ⟨g, t, cs, fuel, p, hg, hty, hvar, hd⟩ := h4
    obtain rfl := Option.some.inj (gRanges.symm.trans hg)
    obtain rfl := Option.some.inj (tRanges.symm.trans hty)
    have hlen : ranges.length = 16 := rfl
    have hjl : j < 32 := by
      have := (List.getElem?_eq_some_iff.1 hj).1
      have : (tabPV ranges).length = 32 := rfl
      omega
    have hi : j / 2 < 16 := by omega
    obtain ⟨fuel', d, q, hdi, he⟩ := array_elem Tryd.underlying70 hd (j / 2) hi
    rw [List.getElem?_map, List.getElem?_eq_getElem (by omega), Option.map_some, Option.some.injEq] at hdi
    subst hdi
    rw [c69] at he
    have hcs := ints_of_struct Tryd.underlying69 (fun j f hj => by
      match j, hj with
      | 0, hj => simp at hj; subst hj; exact ⟨Tryd.underlying5, rfl, c5⟩
      | 1, hj => simp at hj; subst hj; exact ⟨Tryd.underlying5, rfl, c5⟩
      | j + 2, hj => simp at hj) (by rw [c69]; rfl) he
    have key : ∀ l : List (Int × Int), ∀ i k : Nat, k < 2 → (hil : i < l.length) → (tabPV l)[i * 2 + k]? = ([l[i].1, l[i].2].map fun z => Value.int .u8 z)[k]? := by
      intro l
      induction l with
      | nil => intro i k _ hil; simp at hil
      | cons p l ih =>
        intro i k hk hil
        have hc : tabPV (p :: l) = .int .u8 p.1 :: .int .u8 p.2 :: tabPV l := rfl
        cases i with
        | zero =>
          rw [hc]
          match k, hk with
          | 0, _ => rfl
          | 1, _ => rfl
        | succ i =>
          rw [hc, show (i + 1) * 2 + k = (i * 2 + k) + 1 + 1 by omega, List.getElem?_cons_succ, List.getElem?_cons_succ]
          exact ih i k hk (by simpa using hil)
    have hk := key ranges (j / 2) (j % 2) (by omega) (by omega)
    rw [show j / 2 * 2 + j % 2 = j by omega, hj, ← hcs] at hk
    rw [World.var?_cell hg hvar j, ← Array.getElem?_toList]
    rw [List.getElem?_take, if_pos (by omega), List.getElem?_drop, show j / 2 * 2 + j % 2 = j by omega] at hk
    exact hk.symm
theorem cell_lt {W : World} {g j : Nat} {v : Value} (h : W.cell? ⟨g, j, none⟩ = some v) : g < W.heap.size := by
  unfold World.cell? at h
  split at h
  · rename_i hq
    exact (Array.getElem?_eq_some_iff.1 hq).1
  · cases h
theorem glob_lt {W : World} (h : laidMet Tryd.prog laidL W) : ∀ g cs, Globals.gl g = some cs → g < W.heap.size := fun g cs hg => by
  have hc := glob_cells h g cs hg
  match g, hg with
  | 0, hg => obtain rfl : tabBV first = cs := Option.some.inj hg; exact cell_lt (hc 0 _ rfl)
  | 1, hg => obtain rfl : tabPV ranges = cs := Option.some.inj hg; exact cell_lt (hc 0 _ rfl)
theorem ixOk : IxOK Tryd.prog := fun f hf => by
  have : f = 44 := by simpa using hf
  subst this
  exact ⟨Tryd.f44, Tryd.func44, by kernel_rfl, by kernel_rfl, by kernel_rfl, by kernel_rfl⟩
end Go.Proofs.YtgamgcmjiancmaaDoor
