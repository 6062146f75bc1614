/- How what comes in is read, kind by kind. No condition. -/
import Derived.Test.YtkdlblpidghjcaaDoorK
import Derived.Test.YtkdlblpidghjcaaDoorS
import Derived.Test.YtkdlblpidghjcaaDoorVX
import Derived.KernelRfl
set_option linter.unusedSimpArgs false
set_option linter.unusedVariables false
set_option maxRecDepth 20000
namespace Go.Vid
open Go.Vabs
def Cnf.Wf (x : Cnf) : Prop := (Fits .i64) x.N ∧ (FitsL 24 (FitsL 8 (Fits .i64))) x.cs ∧ True
def CnfModelsIn_law03.Wf (x : CnfModelsIn_law03) : Prop := (FitsL 1 (fun _ => True)) x.m ∧ (FitsL 1 (Fits .u8)) x.b ∧ (Fits .i64) x.n ∧ (Cnf.Wf) x.f ∧ True
def CnfHoldsIn_law03.Wf (x : CnfHoldsIn_law03) : Prop := (Cnf.Wf) x.f ∧ (FitsL 1 (fun _ => True)) x.m ∧ (FitsL 8 (Fits .i64)) x.c ∧ (Fits .i64) x.l ∧ True
def CnfApartIn_law03.Wf (x : CnfApartIn_law03) : Prop := (Cnf.Wf) x.f ∧ (Cnf.Wf) x.g ∧ (FitsL 1 (fun _ => True)) x.m ∧ (FitsL 1 (fun _ => True)) x.n ∧ True
end Go.Vid
namespace Go.Proofs.YtkdlblpidghjcaaDoor
open Go.Vabs Go.Vid
theorem rd3 {H : Type} {enc : TypeId × Value → H} {W : World} : Reads enc Tryd.prog W 3 Int (fun x => [.lit (.int .i64 x)]) (Fits .i64) := rd_int (by kernel_rfl)
theorem rd50 {H : Type} {enc : TypeId × Value → H} {W : World} : Reads enc Tryd.prog W 50 (List (Int)) (fun l => [sls 1 intF l]) (FitsL 8 (Fits .i64)) := rd_slice (y := row50) (z := row3) (cells := intF) ((tyOk50).trans ty50) rfl ((tyOk3).trans ty3) (by decide) rd3 (fun _ => rfl)
theorem rd22 {H : Type} {enc : TypeId × Value → H} {W : World} : Reads enc Tryd.prog W 22 (List (List (Int))) (fun l => [sls 1 rowF l]) (FitsL 24 (FitsL 8 (Fits .i64))) := rd_slice (y := row22) (z := row50) (cells := rowF) ((tyOk22).trans ty22) rfl ((tyOk50).trans ty50) (by decide) rd50 (fun _ => rfl)
set_option maxRecDepth 100000 in
theorem rd24 {H : Type} {enc : TypeId × Value → H} {W : World} : Reads enc Tryd.prog W 24 Cnf Cnf.cells Cnf.Wf := by
 have hf : ReadsF enc Tryd.prog W 0 row24.size row24.fields ((Int) × (List (List (Int))) × Unit) _ _ := (readsF_cons (y := row3) ((tyOk3).trans ty3) rd3 (readsF_cons (y := row22) ((tyOk22).trans ty22) rd22 readsF_nil))
 exact (reads_struct (y := row24) ((tyOk24).trans ty24) rfl hf).as (fun p => (⟨p.1, p.2.1⟩ : Cnf)) (fun p => by first | rfl | simp [Cnf.cells]) (fun _ h => h)
theorem rd5 {H : Type} {enc : TypeId × Value → H} {W : World} : Reads enc Tryd.prog W 5 Int (fun x => [.lit (.int .u8 x)]) (Fits .u8) := rd_int (by kernel_rfl)
theorem rd25 {H : Type} {enc : TypeId × Value → H} {W : World} : Reads enc Tryd.prog W 25 (List (Int)) (fun l => [sls 1 byteF l]) (FitsL 1 (Fits .u8)) := rd_slice (y := row25) (z := row5) (cells := byteF) ((tyOk25).trans ty25) rfl ((tyOk5).trans ty5) (by decide) rd5 (fun _ => rfl)
theorem rd4 {H : Type} {enc : TypeId × Value → H} {W : World} : Reads enc Tryd.prog W 4 Bool (fun x => [.lit (.bool x)]) (fun _ => True) := reads_bool (by kernel_rfl)
theorem rd40 {H : Type} {enc : TypeId × Value → H} {W : World} : Reads enc Tryd.prog W 40 (List (Bool)) (fun l => [sls 1 boolF l]) (FitsL 1 (fun _ => True)) := rd_slice (y := row40) (z := row4) (cells := boolF) ((tyOk40).trans ty40) rfl ((tyOk4).trans ty4) (by decide) rd4 (fun _ => rfl)
set_option maxRecDepth 100000 in
theorem rd42 {H : Type} {enc : TypeId × Value → H} {W : World} : Reads enc Tryd.prog W 42 CnfModelsIn_law03 CnfModelsIn_law03.cells CnfModelsIn_law03.Wf := by
 have hf : ReadsF enc Tryd.prog W 0 row42.size row42.fields ((List (Bool)) × (List (Int)) × (Int) × (Cnf) × Unit) _ _ := (readsF_cons (y := row40) ((tyOk40).trans ty40) rd40 (readsF_cons (y := row25) ((tyOk25).trans ty25) rd25 (readsF_cons (y := row3) ((tyOk3).trans ty3) rd3 (readsF_cons (y := row24) ((tyOk24).trans ty24) rd24 readsF_nil))))
 exact (reads_struct (y := row42) ((tyOk42).trans ty42) rfl hf).as (fun p => (⟨p.1, p.2.1, p.2.2.1, p.2.2.2.1⟩ : CnfModelsIn_law03)) (fun p => by first | rfl | simp [CnfModelsIn_law03.cells]) (fun _ h => h)
set_option maxRecDepth 100000 in
theorem rd55 {H : Type} {enc : TypeId × Value → H} {W : World} : Reads enc Tryd.prog W 55 CnfHoldsIn_law03 CnfHoldsIn_law03.cells CnfHoldsIn_law03.Wf := by
 have hf : ReadsF enc Tryd.prog W 0 row55.size row55.fields ((Cnf) × (List (Bool)) × (List (Int)) × (Int) × Unit) _ _ := (readsF_cons (y := row24) ((tyOk24).trans ty24) rd24 (readsF_cons (y := row40) ((tyOk40).trans ty40) rd40 (readsF_cons (y := row50) ((tyOk50).trans ty50) rd50 (readsF_cons (y := row3) ((tyOk3).trans ty3) rd3 readsF_nil))))
 exact (reads_struct (y := row55) ((tyOk55).trans ty55) rfl hf).as (fun p => (⟨p.1, p.2.1, p.2.2.1, p.2.2.2.1⟩ : CnfHoldsIn_law03)) (fun p => by first | rfl | simp [CnfHoldsIn_law03.cells]) (fun _ h => h)
set_option maxRecDepth 100000 in
theorem rd58 {H : Type} {enc : TypeId × Value → H} {W : World} : Reads enc Tryd.prog W 58 CnfApartIn_law03 CnfApartIn_law03.cells CnfApartIn_law03.Wf := by
 have hf : ReadsF enc Tryd.prog W 0 row58.size row58.fields ((Cnf) × (Cnf) × (List (Bool)) × (List (Bool)) × Unit) _ _ := (readsF_cons (y := row24) ((tyOk24).trans ty24) rd24 (readsF_cons (y := row24) ((tyOk24).trans ty24) rd24 (readsF_cons (y := row40) ((tyOk40).trans ty40) rd40 (readsF_cons (y := row40) ((tyOk40).trans ty40) rd40 readsF_nil))))
 exact (reads_struct (y := row58) ((tyOk58).trans ty58) rfl hf).as (fun p => (⟨p.1, p.2.1, p.2.2.1, p.2.2.2.1⟩ : CnfApartIn_law03)) (fun p => by first | rfl | simp [CnfApartIn_law03.cells]) (fun _ h => h)
theorem rd60 {H : Type} {enc : TypeId × Value → H} {W : World} : Reads enc Tryd.prog W 60 Int (fun x => [.lit (.int .u16 x)]) (Fits .u16) := rd_int (by kernel_rfl)
end Go.Proofs.YtkdlblpidghjcaaDoor
