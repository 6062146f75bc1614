/- A library: what a law's row asks: what comes in is data that fit. No condition. -/
import Derived.Test.YtgamgcmjiancmaaDoorVV
import Derived.WalkKit
import Derived.ProofKit
import Derived.OpenShut
import Derived.ChangeOld
import Derived.Below
import Derived.Carry
import Derived.SizedLaws
set_option linter.unusedSimpArgs false
set_option linter.unusedVariables false
namespace Go.Vabs
open Go.RowKit Go.Vid

/-- A number that fits. -/
def I64 (x : Int) : Prop := -9223372036854775808 ≤ x ∧ x ≤ 9223372036854775807
def U8 (x : Int) : Prop := 0 ≤ x ∧ x ≤ 255
def U16 (x : Int) : Prop := 0 ≤ x ∧ x ≤ 65535
def U32 (x : Int) : Prop := 0 ≤ x ∧ x ≤ 4294967295
def U64 (x : Int) : Prop := 0 ≤ x ∧ x ≤ 18446744073709551615
def Fits (k : IntKind) (x : Int) : Prop := k.min ≤ x ∧ x ≤ k.max
theorem fits_of {k : IntKind} {x : Int} (h : (Lit.int k x).wf = true) : Fits k x := by
  simpa [Lit.wf, Fits] using h
theorem Fits.i64 {x : Int} (h : Fits .i64 x) : I64 x := by
  obtain ⟨h1, h2⟩ := h
  rw [show IntKind.i64.min = -9223372036854775808 from by decide] at h1
  rw [show IntKind.i64.max = 9223372036854775807 from by decide] at h2
  exact ⟨h1, h2⟩
theorem Fits.u8 {x : Int} (h : Fits .u8 x) : U8 x := by
  obtain ⟨h1, h2⟩ := h
  rw [show IntKind.u8.min = 0 from by decide] at h1
  rw [show IntKind.u8.max = 255 from by decide] at h2
  exact ⟨h1, h2⟩
/-- A row that fits: of so many bytes an element. -/
def FitsL {α : Type} (by0 : Nat) (wf : α → Prop) (l : List α) : Prop := l.length * by0 ≤ reachBytes ∧ ∀ x ∈ l, wf x
def FitsS (s : ByteArray) : Prop := s.size ≤ reachBytes
theorem reach_eq : reachBytes = 140737488351232 := by decide

section
variable {H : Type} {enc : TypeId × Value → H} {P : Program} {W : World}
theorem rd_int {t : TypeId} {k : IntKind} (hu : P.underlying t = some (.int k)) : Reads enc P W t Int (fun x => [.lit (.int k x)]) (Fits k) := (reads_int hu).as id (fun _ => rfl) fun _ h => fits_of h
theorem rd_str {t : TypeId} (hu : P.underlying t = some .string) : Reads enc P W t ByteArray (fun x => [.lit (.string x)]) FitsS := reads_str hu
theorem rd_slice {t e : TypeId} {y z : Ty} {α : Type} {cells : α → List C} {wf : α → Prop} (ht : Ty.of P t = some y) (hk : y.k = .slice e) (he : Ty.of P e = some z) (hz : 0 < z.size) (hr : Reads enc P W e α cells wf) (hc : ∀ x, (cells x).length = z.size) :
    Reads enc P W t (List α) (fun l => [sls z.size cells l]) (FitsL z.bytes wf) := reads_slice ht hk he hz hr hc
theorem Reads.asW {t : TypeId} {α β : Type} {ca : α → List C} {wa : α → Prop} (h : Reads enc P W t α ca wa) (f : α → β) {cb : β → List C} {wb : β → Prop} (hc : ∀ a, wa a → cb (f a) = ca a) (hw : ∀ a, wa a → wb (f a)) : Reads enc P W t β cb wb := by
  intro fuel cs d ps h1 h2 h3
  obtain ⟨x, hx, hr⟩ := h fuel cs d ps h1 h2 h3
  exact ⟨f x, hw x hx, by rw [hc x hx]; exact hr⟩
theorem rd_array2 {t e : TypeId} {y z : Ty} {α : Type} [Inhabited α] {cells : α → List C} {wf : α → Prop} (ht : Ty.of P t = some y) (hk : y.k = .array 2 e) (he : Ty.of P e = some z) (hsz : y.size = 2 * z.size) (hr : Reads enc P W e α cells wf) :
    Reads enc P W t (α × α) (fun p => cells p.1 ++ cells p.2) (fun p => wf p.1 ∧ wf p.2) := by
  refine (reads_array ht hk he hsz hr).asW (fun l => (l.headD default, (l.drop 1).headD default)) ?_ ?_
  · rintro l ⟨hl, _⟩
    match l, hl with
    | [a, b], _ => simp
  · rintro l ⟨hl, h⟩
    match l, hl with
    | [a, b], _ => exact ⟨h a (by simp), h b (by simp)⟩
theorem weights_each {ts : List TypeId} {ds : List (DataW H)} (h : (DataW.weightsEach P ts ds).all (· ≤ reachBytes) = true) {j : Nat} {t : TypeId} {d : DataW H} (ht : ts[j]? = some t) (hd : ds[j]? = some d) : ∀ n ∈ d.weights P t, n ≤ reachBytes := fun n hn => by
  have := List.all_eq_true.1 h n (DataW.weights_mem_each ht hd n hn)
  simpa using this
end
end Go.Vabs
