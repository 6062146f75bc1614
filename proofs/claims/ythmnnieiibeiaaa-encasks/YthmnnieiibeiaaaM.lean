/- The program has no variables that are read here, and no function is known without its code. No condition. -/
import Derived.Test.YthmnnieiibeiaaaK
namespace Go.Proofs.Ythmnnieiibeiaaa
open Go.Vabs Go.Vid
theorem glob_cells {W : World} : ∀ g cs, Globals.gl g = some cs → ∀ j v, cs[j]? = some v → W.cell? ⟨g, j, none⟩ = some v := fun g cs hg => by cases hg
theorem glob_at {W : World} : ∀ g cs, Globals.gl g = some cs → ∃ c t fr, W.heap[g]? = some (.cells c t fr) ∧ c.size = cs.length := fun g cs hg => by cases hg
theorem envOk : EnvOK Try.prog := ⟨fun f hf => (by cases hf), fun f args r h => (by cases h)⟩
end Go.Proofs.Ythmnnieiibeiaaa
