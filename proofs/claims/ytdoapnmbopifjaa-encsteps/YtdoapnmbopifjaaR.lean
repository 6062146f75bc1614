/- How what comes in is read, kind by kind. No condition. -/
import Derived.Test.YtdoapnmbopifjaaK
import Derived.Test.YtdoapnmbopifjaaS
import Derived.Test.YtdoapnmbopifjaaVX
import Derived.KernelRfl
set_option linter.unusedSimpArgs false
set_option linter.unusedVariables false
set_option maxRecDepth 20000
namespace Go.Vid
open Go.Vabs
def Latch.Wf (x : Latch) : Prop := (Fits .i64) x.next ∧ (Fits .i64) x.reset ∧ True
def And.Wf (x : And) : Prop := (Fits .i64) x.a ∧ (Fits .i64) x.b ∧ True
def Name.Wf (x : Name) : Prop := (Fits .u8) x.kind ∧ (Fits .i64) x.pos ∧ (FitsS) x.s ∧ True
def Aig.Wf (x : Aig) : Prop := (Fits .i64) x.I ∧ (FitsL 16 (Latch.Wf)) x.L ∧ (FitsL 16 (And.Wf)) x.G ∧ (FitsL 8 (Fits .i64)) x.outs ∧ (FitsL 8 (Fits .i64)) x.bad ∧ (FitsL 8 (Fits .i64)) x.con ∧ (FitsL 32 (Name.Wf)) x.names ∧ True
def EncStartsIn_law19.Wf (x : EncStartsIn_law19) : Prop := (Aig.Wf) x.a ∧ (FitsL 1 (fun _ => True)) x.free ∧ (FitsL 1 (fun _ => True)) x.in' ∧ (Fits .i64) x.inv ∧ True
def EncStaysIn_law19.Wf (x : EncStaysIn_law19) : Prop := (Aig.Wf) x.a ∧ (FitsL 1 (fun _ => True)) x.state ∧ (fun p => (FitsL 1 (fun _ => True)) p.1 ∧ (FitsL 1 (fun _ => True)) p.2) x.in' ∧ (Fits .i64) x.inv ∧ True
def EncStepsIn_law19.Wf (x : EncStepsIn_law19) : Prop := (Aig.Wf) x.a ∧ (FitsL 1 (fun _ => True)) x.state ∧ (fun p => (FitsL 1 (fun _ => True)) p.1 ∧ (FitsL 1 (fun _ => True)) p.2) x.in' ∧ (FitsL 1 (fun _ => True)) x.other ∧ True
end Go.Vid
namespace Go.Proofs.Ytdoapnmbopifjaa
open Go.Vabs Go.Vid
theorem rd3 {H : Type} {enc : TypeId × Value → H} {W : World} : Reads enc Try.prog W 3 Int (fun x => [.lit (.int .i64 x)]) (Fits .i64) := rd_int (by kernel_rfl)
set_option maxRecDepth 100000 in
theorem rd72 {H : Type} {enc : TypeId × Value → H} {W : World} : Reads enc Try.prog W 72 Latch Latch.cells Latch.Wf := by
  have hf : ReadsF enc Try.prog W 0 row72.size row72.fields ((Int) × (Int) × Unit) _ _ := (readsF_cons (y := row3) ((tyOk3).trans ty3) rd3 (readsF_cons (y := row3) ((tyOk3).trans ty3) rd3 readsF_nil))
  exact (reads_struct (y := row72) ((tyOk72).trans ty72) rfl hf).as (fun p => (⟨p.1, p.2.1⟩ : Latch)) (fun p => by first | rfl | simp [Latch.cells]) (fun _ h => h)
theorem rd22 {H : Type} {enc : TypeId × Value → H} {W : World} : Reads enc Try.prog W 22 (List (Latch)) (fun l => [sls 2 Latch.cells l]) (FitsL 16 (Latch.Wf)) := rd_slice (y := row22) (z := row72) (cells := Latch.cells) ((tyOk22).trans ty22) rfl ((tyOk72).trans ty72) (by decide) rd72 (fun _ => rfl)
set_option maxRecDepth 100000 in
theorem rd69 {H : Type} {enc : TypeId × Value → H} {W : World} : Reads enc Try.prog W 69 And And.cells And.Wf := by
  have hf : ReadsF enc Try.prog W 0 row69.size row69.fields ((Int) × (Int) × Unit) _ _ := (readsF_cons (y := row3) ((tyOk3).trans ty3) rd3 (readsF_cons (y := row3) ((tyOk3).trans ty3) rd3 readsF_nil))
  exact (reads_struct (y := row69) ((tyOk69).trans ty69) rfl hf).as (fun p => (⟨p.1, p.2.1⟩ : And)) (fun p => by first | rfl | simp [And.cells]) (fun _ h => h)
theorem rd23 {H : Type} {enc : TypeId × Value → H} {W : World} : Reads enc Try.prog W 23 (List (And)) (fun l => [sls 2 And.cells l]) (FitsL 16 (And.Wf)) := rd_slice (y := row23) (z := row69) (cells := And.cells) ((tyOk23).trans ty23) rfl ((tyOk69).trans ty69) (by decide) rd69 (fun _ => rfl)
theorem rd24 {H : Type} {enc : TypeId × Value → H} {W : World} : Reads enc Try.prog W 24 (List (Int)) (fun l => [sls 1 intF l]) (FitsL 8 (Fits .i64)) := rd_slice (y := row24) (z := row3) (cells := intF) ((tyOk24).trans ty24) rfl ((tyOk3).trans ty3) (by decide) rd3 (fun _ => rfl)
theorem rd5 {H : Type} {enc : TypeId × Value → H} {W : World} : Reads enc Try.prog W 5 Int (fun x => [.lit (.int .u8 x)]) (Fits .u8) := rd_int (by kernel_rfl)
theorem rd9 {H : Type} {enc : TypeId × Value → H} {W : World} : Reads enc Try.prog W 9 ByteArray (fun x => [.lit (.string x)]) FitsS := rd_str (by kernel_rfl)
set_option maxRecDepth 100000 in
theorem rd79 {H : Type} {enc : TypeId × Value → H} {W : World} : Reads enc Try.prog W 79 Name Name.cells Name.Wf := by
  have hf : ReadsF enc Try.prog W 0 row79.size row79.fields ((Int) × (Int) × (ByteArray) × Unit) _ _ := (readsF_cons (y := row5) ((tyOk5).trans ty5) rd5 (readsF_cons (y := row3) ((tyOk3).trans ty3) rd3 (readsF_cons (y := row9) ((tyOk9).trans ty9) rd9 readsF_nil)))
  exact (reads_struct (y := row79) ((tyOk79).trans ty79) rfl hf).as (fun p => (⟨p.1, p.2.1, p.2.2.1⟩ : Name)) (fun p => by first | rfl | simp [Name.cells]) (fun _ h => h)
theorem rd25 {H : Type} {enc : TypeId × Value → H} {W : World} : Reads enc Try.prog W 25 (List (Name)) (fun l => [sls 3 Name.cells l]) (FitsL 32 (Name.Wf)) := rd_slice (y := row25) (z := row79) (cells := Name.cells) ((tyOk25).trans ty25) rfl ((tyOk79).trans ty79) (by decide) rd79 (fun _ => rfl)
set_option maxRecDepth 100000 in
theorem rd27 {H : Type} {enc : TypeId × Value → H} {W : World} : Reads enc Try.prog W 27 Aig Aig.cells Aig.Wf := by
  have hf : ReadsF enc Try.prog W 0 row27.size row27.fields ((Int) × (List (Latch)) × (List (And)) × (List (Int)) × (List (Int)) × (List (Int)) × (List (Name)) × Unit) _ _ := (readsF_cons (y := row3) ((tyOk3).trans ty3) rd3 (readsF_cons (y := row22) ((tyOk22).trans ty22) rd22 (readsF_cons (y := row23) ((tyOk23).trans ty23) rd23 (readsF_cons (y := row24) ((tyOk24).trans ty24) rd24 (readsF_cons (y := row24) ((tyOk24).trans ty24) rd24 (readsF_cons (y := row24) ((tyOk24).trans ty24) rd24 (readsF_cons (y := row25) ((tyOk25).trans ty25) rd25 readsF_nil)))))))
  exact (reads_struct (y := row27) ((tyOk27).trans ty27) rfl hf).as (fun p => (⟨p.1, p.2.1, p.2.2.1, p.2.2.2.1, p.2.2.2.2.1, p.2.2.2.2.2.1, p.2.2.2.2.2.2.1⟩ : Aig)) (fun p => by first | rfl | simp [Aig.cells]) (fun _ h => h)
theorem rd4 {H : Type} {enc : TypeId × Value → H} {W : World} : Reads enc Try.prog W 4 Bool (fun x => [.lit (.bool x)]) (fun _ => True) := reads_bool (by kernel_rfl)
theorem rd28 {H : Type} {enc : TypeId × Value → H} {W : World} : Reads enc Try.prog W 28 (List (Bool)) (fun l => [sls 1 boolF l]) (FitsL 1 (fun _ => True)) := rd_slice (y := row28) (z := row4) (cells := boolF) ((tyOk28).trans ty28) rfl ((tyOk4).trans ty4) (by decide) rd4 (fun _ => rfl)
set_option maxRecDepth 100000 in
theorem rd49 {H : Type} {enc : TypeId × Value → H} {W : World} : Reads enc Try.prog W 49 EncStartsIn_law19 EncStartsIn_law19.cells EncStartsIn_law19.Wf := by
  have hf : ReadsF enc Try.prog W 0 row49.size row49.fields ((Aig) × (List (Bool)) × (List (Bool)) × (Int) × Unit) _ _ := (readsF_cons (y := row27) ((tyOk27).trans ty27) rd27 (readsF_cons (y := row28) ((tyOk28).trans ty28) rd28 (readsF_cons (y := row28) ((tyOk28).trans ty28) rd28 (readsF_cons (y := row3) ((tyOk3).trans ty3) rd3 readsF_nil))))
  exact (reads_struct (y := row49) ((tyOk49).trans ty49) rfl hf).as (fun p => (⟨p.1, p.2.1, p.2.2.1, p.2.2.2.1⟩ : EncStartsIn_law19)) (fun p => by first | rfl | simp [EncStartsIn_law19.cells]) (fun _ h => h)
theorem rd55 {H : Type} {enc : TypeId × Value → H} {W : World} : Reads enc Try.prog W 55 ((List (Bool) × List (Bool))) (fun p => (fun x => [sls 1 boolF x]) p.1 ++ (fun x => [sls 1 boolF x]) p.2) (fun p => (FitsL 1 (fun _ => True)) p.1 ∧ (FitsL 1 (fun _ => True)) p.2) := rd_array2 (y := row55) (z := row28) ((tyOk55).trans ty55) rfl ((tyOk28).trans ty28) rfl rd28
set_option maxRecDepth 100000 in
theorem rd66 {H : Type} {enc : TypeId × Value → H} {W : World} : Reads enc Try.prog W 66 EncStaysIn_law19 EncStaysIn_law19.cells EncStaysIn_law19.Wf := by
  have hf : ReadsF enc Try.prog W 0 row66.size row66.fields ((Aig) × (List (Bool)) × ((List (Bool) × List (Bool))) × (Int) × Unit) _ _ := (readsF_cons (y := row27) ((tyOk27).trans ty27) rd27 (readsF_cons (y := row28) ((tyOk28).trans ty28) rd28 (readsF_cons (y := row55) ((tyOk55).trans ty55) rd55 (readsF_cons (y := row3) ((tyOk3).trans ty3) rd3 readsF_nil))))
  exact (reads_struct (y := row66) ((tyOk66).trans ty66) rfl hf).as (fun p => (⟨p.1, p.2.1, p.2.2.1, p.2.2.2.1⟩ : EncStaysIn_law19)) (fun p => by first | rfl | simp [EncStaysIn_law19.cells]) (fun _ h => h)
set_option maxRecDepth 100000 in
theorem rd57 {H : Type} {enc : TypeId × Value → H} {W : World} : Reads enc Try.prog W 57 EncStepsIn_law19 EncStepsIn_law19.cells EncStepsIn_law19.Wf := by
  have hf : ReadsF enc Try.prog W 0 row57.size row57.fields ((Aig) × (List (Bool)) × ((List (Bool) × List (Bool))) × (List (Bool)) × Unit) _ _ := (readsF_cons (y := row27) ((tyOk27).trans ty27) rd27 (readsF_cons (y := row28) ((tyOk28).trans ty28) rd28 (readsF_cons (y := row55) ((tyOk55).trans ty55) rd55 (readsF_cons (y := row28) ((tyOk28).trans ty28) rd28 readsF_nil))))
  exact (reads_struct (y := row57) ((tyOk57).trans ty57) rfl hf).as (fun p => (⟨p.1, p.2.1, p.2.2.1, p.2.2.2.1⟩ : EncStepsIn_law19)) (fun p => by first | rfl | simp [EncStepsIn_law19.cells]) (fun _ h => h)
end Go.Proofs.Ytdoapnmbopifjaa
