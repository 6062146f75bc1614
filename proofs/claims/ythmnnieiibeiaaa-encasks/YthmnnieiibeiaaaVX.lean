/- A library: what a law's row asks: what comes in is data that fit. No condition. -/
import Derived.Test.YthmnnieiibeiaaaVV
import Derived.WalkKit
import Derived.ProofKit
import Derived.OpenShut
import Derived.ChangeOld
import Derived.Below
import Derived.Carry
import Derived.SizedLaws
set_option linter.unusedSimpArgs false
set_option linter.unusedVariables false
namespace Go.Vabs
open Go.RowKit Go.Vid
def I64 (x : Int) : Prop := -9223372036854775808 ≤ x ∧ x ≤ 9223372036854775807
def U8 (x : Int) : Prop := 0 ≤ x ∧ x ≤ 255
def U16 (x : Int) : Prop := 0 ≤ x ∧ x ≤ 65535
def U32 (x : Int) : Prop := 0 ≤ x ∧ x ≤ 4294967295
def U64 (x : Int) : Prop := 0 ≤ x ∧ x ≤ 18446744073709551615
def Fits (k : IntKind) (x : Int) : Prop := k.min ≤ x ∧ x ≤ k.max
theorem fits_of {k : IntKind} {x : Int} (h : (Lit.int k x).wf = true) : Fits k x := by
 simpa [Lit.wf, Fits] using h
theorem Fits.i64 {x : Int} (h : Fits .i64 x) : I64 x := by
 obtain ⟨h1, h2⟩ := h
 rw [show IntKind.i64.min = -9223372036854775808 from by decide] at h1
 rw [show IntKind.i64.max = 9223372036854775807 from by decide] at h2
 exact ⟨h1, h2⟩
theorem Fits.u8 {x : Int} (h : Fits .u8 x) : U8 x := by
 obtain ⟨h1, h2⟩ := h
 rw [show IntKind.u8.min = 0 from by decide] at h1
 rw [show IntKind.u8.max = 255 from by decide] at h2
 exact ⟨h1, h2⟩
def FitsL {α : Type} (by0 : Nat) (wf : α → Prop) (l : List α) : Prop := l.length * by0 ≤ reachBytes ∧ ∀ x ∈ l, wf x
def FitsS (s : ByteArray) : Prop := s.size ≤ reachBytes
theorem reach_eq : reachBytes = 140737488351232 := by decide
section
variable {H : Type} {enc : TypeId × Value → H} {P : Program} {W : World}
theorem rd_int {t : TypeId} {k : IntKind} (hu : P.underlying t = some (.int k)) : Reads enc P W t Int (fun x => [.lit (.int k x)]) (Fits k) := (reads_int hu).as id (fun _ => rfl) fun _ h => fits_of h
theorem rd_str {t : TypeId} (hu : P.underlying t = some .string) : Reads enc P W t ByteArray (fun x => [.lit (.string x)]) FitsS := reads_str hu
theorem rd_slice {t e : TypeId} {y z : Ty} {α : Type} {cells : α → List C} {wf : α → Prop} (ht : Ty.of P t = some y) (hk : y.k = .slice e) (he : Ty.of P e = some z) (hz : 0 < z.size) (hr : Reads enc P W e α cells wf) (hc : ∀ x, (cells x).length = z.size) :
  Reads enc P W t (List α) (fun l => [sls z.size cells l]) (FitsL z.bytes wf) := reads_slice ht hk he hz hr hc
theorem Reads.asW {t : TypeId} {α β : Type} {ca : α → List C} {wa : α → Prop} (h : Reads enc P W t α ca wa) (f : α → β) {cb : β → List C} {wb : β → Prop} (hc : ∀ a, wa a → cb (f a) = ca a) (hw : ∀ a, wa a → wb (f a)) : Reads enc P W t β cb wb := by
 intro fuel cs d ps h1 h2 h3
 obtain ⟨x, hx, hr⟩ := h fuel cs d ps h1 h2 h3
 exact ⟨f x, hw x hx, by rw [hc x hx]; exact hr⟩
theorem rd_array2 {t e : TypeId} {y z : Ty} {α : Type} [Inhabited α] {cells : α → List C} {wf : α → Prop} (ht : Ty.of P t = some y) (hk : y.k = .array 2 e) (he : Ty.of P e = some z) (hsz : y.size = 2 * z.size) (hr : Reads enc P W e α cells wf) :
  Reads enc P W t (α × α) (fun p => cells p.1 ++ cells p.2) (fun p => wf p.1 ∧ wf p.2) := by
 refine (reads_array ht hk he hsz hr).asW (fun l => (l.headD default, (l.drop 1).headD default)) ?_ ?_
 ·rintro l ⟨hl, _⟩
  match l, hl with
  | [a, b], _ => simp
 ·rintro l ⟨hl, h⟩
  match l, hl with
  | [a, b], _ => exact ⟨h a (by simp), h b (by simp)⟩
theorem weights_each {ts : List TypeId} {ds : List (DataW H)} (h : (DataW.weightsEach P ts ds).all (· ≤ reachBytes) = true) {j : Nat} {t : TypeId} {d : DataW H} (ht : ts[j]? = some t) (hd : ds[j]? = some d) : ∀ n ∈ d.weights P t, n ≤ reachBytes := fun n hn => by
 have := List.all_eq_true.1 h n (DataW.weights_mem_each ht hd n hn)
 simpa using this
end
end Go.Vabs
set_option linter.unusedSimpArgs false
set_option linter.unusedVariables false
namespace Go.Vabs
section
variable {a b : Int}
theorem iadd_ok (h1 : -9223372036854775808 ≤ a + b) (h2 : a + b ≤ 9223372036854775807) : iadd .i64 a b = a + b := wrap_ok h1 h2
theorem isub_ok (h1 : -9223372036854775808 ≤ a - b) (h2 : a - b ≤ 9223372036854775807) : isub .i64 a b = a - b := wrap_ok h1 h2
theorem imul_ok (h1 : -9223372036854775808 ≤ a * b) (h2 : a * b ≤ 9223372036854775807) : imul .i64 a b = a * b := wrap_ok h1 h2
theorem ineg_ok (h1 : -9223372036854775808 ≤ -a) (h2 : -a ≤ 9223372036854775807) : ineg .i64 a = -a := by
 unfold ineg
 rw [Int.zero_sub]
 exact wrap_ok h1 h2
theorem iconv_ok (h1 : -9223372036854775808 ≤ a) (h2 : a ≤ 9223372036854775807) : iconv .i64 a = a := wrap_ok h1 h2
theorem iquo2_ok (h1 : 0 ≤ a) (h2 : a ≤ 9223372036854775807) : iquo .i64 a 2 = a / 2 := by
 unfold iquo
 rw [Int.tdiv_eq_ediv_of_nonneg h1]
 exact wrap_ok (by omega) (by omega)
theorem irem2_ok (h1 : 0 ≤ a) : irem a 2 = a % 2 := by
 unfold irem
 exact Int.tmod_eq_emod_of_nonneg h1
theorem bxor1_ok (h0 : 0 ≤ a) (h : a < 4611686018427387904) : bxor .i64 a 1 = if a % 2 = 1 then a - 1 else a + 1 := bxor_one h0 h
@[simp] theorem ilt_iff : (ilt a b = true) = (a < b) := by simp [ilt]
@[simp] theorem ile_iff : (ile a b = true) = (a ≤ b) := by simp [ile]
@[simp] theorem ieq_iff : (ieq a b = true) = (a = b) := by simp [ieq]
@[simp] theorem beq2_iff {x y : Bool} : (beq2 x y = true) = (x = y) := by simp [beq2]
theorem inI_iff {n : Nat} {i : Int} : (inI n i = true) = (0 ≤ i ∧ i.toNat < n) := by simp [inI]
theorem capN_iff {n b : Nat} : (capN n b = true) = (n * b ≤ 140737488355328) := by simp [capN]
theorem imax_eq : imax a b = if a ≤ b then b else a := by
 unfold imax
 omega
end
theorem lenI_eq {α : Type} (l : List α) : lenI l = (l.length : Int) := rfl
theorem lenN_eq {α : Type} (l : List α) : lenN l = l.length := rfl
theorem sizI_eq (s : ByteArray) : sizI s = (s.size : Int) := rfl
theorem natI_eq (i : Int) : natI i = i.toNat := rfl
theorem getI_nat {α : Type} (l : List α) (i : Nat) : getI l (i : Int) = l[i]? := by
 unfold getI
 rw [if_pos (by omega)]
 simp
theorem nthI_nat {α : Type} (l : List α) (i : Nat) : nthI l (i : Int) = l[i]? := by simp [nthI]
theorem getI_lt {α : Type} {l : List α} {i : Int} (h : 0 ≤ i) (h' : i < l.length) : getI l i = some (l[i.toNat]'(by omega)) := by
 unfold getI
 rw [if_pos h]
 exact List.getElem?_eq_getElem _
theorem getB_lt {s : ByteArray} {i : Int} (h : 0 ≤ i) (h' : i < s.size) : ∃ b, getB s i = some b ∧ 0 ≤ b ∧ b ≤ 255 := by
 unfold getB
 rw [if_pos h]
 have : i.toNat < s.size := by omega
 refine ⟨(s[i.toNat].toNat : Int), by simp [this], by omega, ?_⟩
 have := UInt8.toNat_lt s[i.toNat]
 omega
section
variable {ι ρ : Type} {body : ι → Option (ι ⊕ ρ)}
theorem loopF_inl {i j : ι} (h : body i = some (.inl j)) : loopF body i = loopF body j := by rw [loopF_eq, h]; rfl
theorem loopF_inr {i : ι} {r : ρ} (h : body i = some (.inr r)) : loopF body i = some r := by rw [loopF_eq, h]; rfl
theorem loopF_count (I : Nat → ι) (n : Nat) {r : ρ} (step : ∀ k, k < n → body (I k) = some (.inl (I (k + 1)))) (fin : body (I n) = some (.inr r)) : loopF body (I 0) = some r := by
 have gen : ∀ m k, n - k = m → k ≤ n → loopF body (I k) = some r := by
  intro m
  induction m with
  | zero =>
   intro k h1 h2
   have : k = n := by omega
   subst this
   exact loopF_inr fin
  | succ m ih =>
   intro k h1 h2
   rw [loopF_inl (step k (by omega))]
   exact ih (k + 1) (by omega) (by omega)
 exact gen n 0 (by omega) (by omega)
theorem loopF_ex (I : Nat → ι) (n : Nat) (A : Nat → Prop) (Q : ρ → Prop)
  (step : ∀ k, k < n → (∀ j, j < k → A j) → (body (I k) = some (.inl (I (k + 1))) ∧ A k) ∨ ∃ r, body (I k) = some (.inr r) ∧ Q r)
  (fin : (∀ j, j < n → A j) → ∃ r, body (I n) = some (.inr r) ∧ Q r) : ∃ r, loopF body (I 0) = some r ∧ Q r := by
 have gen : ∀ m k, n - k = m → k ≤ n → (∀ j, j < k → A j) → ∃ r, loopF body (I k) = some r ∧ Q r := by
  intro m
  induction m with
  | zero =>
   intro k h1 h2 hA
   have : k = n := by omega
   subst this
   obtain ⟨r, hr, hq⟩ := fin hA
   exact ⟨r, loopF_inr hr, hq⟩
  | succ m ih =>
   intro k h1 h2 hA
   rcases step k (by omega) hA with ⟨h, ha⟩ | ⟨r, hr, hq⟩
   ·rw [loopF_inl h]
    refine ih (k + 1) (by omega) (by omega) fun j hj => ?_
    by_cases e : j = k
    ·subst e; exact ha
    ·exact hA j (by omega)
   ·exact ⟨r, loopF_inr hr, hq⟩
 exact gen n 0 (by omega) (by omega) fun j hj => absurd hj (by omega)
theorem loopF_total (P : ι → Prop) (μ : ι → Nat) (Q : ρ → Prop) (step : ∀ i, P i → (∃ j, body i = some (.inl j) ∧ P j ∧ μ j < μ i) ∨ ∃ r, body i = some (.inr r) ∧ Q r) (i : ι) (hi : P i) : ∃ r, loopF body i = some r ∧ Q r := by
 generalize hm : μ i = m
 induction m using Nat.strongRecOn generalizing i with
 | _ m ih =>
  rcases step i hi with ⟨j, h1, h2, h3⟩ | ⟨r, hr, hq⟩
  ·rw [loopF_inl h1]
   exact ih (μ j) (by omega) j h2 rfl
  ·exact ⟨r, loopF_inr hr, hq⟩
end
end Go.Vabs
