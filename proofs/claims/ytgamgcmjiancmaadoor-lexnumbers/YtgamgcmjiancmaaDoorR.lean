/- How what comes in is read, kind by kind. No condition. -/
import Derived.Test.YtgamgcmjiancmaaDoorK
import Derived.Test.YtgamgcmjiancmaaDoorS
import Derived.Test.YtgamgcmjiancmaaDoorVX
import Derived.KernelRfl
set_option linter.unusedSimpArgs false
set_option linter.unusedVariables false
set_option maxRecDepth 20000
namespace Go.Vid
open Go.Vabs
def LexNamesIn_law01.Wf (x : LexNamesIn_law01) : Prop := (FitsL 1 (Fits .u8)) x.b ∧ (Fits .i64) x.at' ∧ (FitsS) x.s ∧ (Fits .i64) x.n ∧ True
def LexAheadIn_law01.Wf (x : LexAheadIn_law01) : Prop := (FitsL 1 (Fits .u8)) x.a ∧ (FitsL 1 (Fits .u8)) x.b ∧ (Fits .i64) x.at' ∧ (Fits .i64) x.most ∧ True
def LexWordsIn_law01.Wf (x : LexWordsIn_law01) : Prop := (FitsL 1 (Fits .u8)) x.b ∧ (Fits .i64) x.at' ∧ (FitsS) x.s ∧ (FitsS) x.t ∧ True
def LexNumbersIn_law01.Wf (x : LexNumbersIn_law01) : Prop := (Fits .u32) x.n ∧ (Fits .i64) x.most ∧ (FitsL 1 (Fits .u8)) x.a ∧ (FitsL 1 (Fits .u8)) x.b ∧ True
end Go.Vid
namespace Go.Proofs.YtgamgcmjiancmaaDoor
open Go.Vabs Go.Vid
theorem rd5 {H : Type} {enc : TypeId × Value → H} {W : World} : Reads enc Tryd.prog W 5 Int (fun x => [.lit (.int .u8 x)]) (Fits .u8) := rd_int (by kernel_rfl)
theorem rd22 {H : Type} {enc : TypeId × Value → H} {W : World} : Reads enc Tryd.prog W 22 (List (Int)) (fun l => [sls 1 byteF l]) (FitsL 1 (Fits .u8)) := rd_slice (y := row22) (z := row5) (cells := byteF) ((tyOk22).trans ty22) rfl ((tyOk5).trans ty5) (by decide) rd5 (fun _ => rfl)
theorem rd3 {H : Type} {enc : TypeId × Value → H} {W : World} : Reads enc Tryd.prog W 3 Int (fun x => [.lit (.int .i64 x)]) (Fits .i64) := rd_int (by kernel_rfl)
theorem rd9 {H : Type} {enc : TypeId × Value → H} {W : World} : Reads enc Tryd.prog W 9 ByteArray (fun x => [.lit (.string x)]) FitsS := rd_str (by kernel_rfl)
set_option maxRecDepth 100000 in
theorem rd24 {H : Type} {enc : TypeId × Value → H} {W : World} : Reads enc Tryd.prog W 24 LexNamesIn_law01 LexNamesIn_law01.cells LexNamesIn_law01.Wf := by
  have hf : ReadsF enc Tryd.prog W 0 row24.size row24.fields ((List (Int)) × (Int) × (ByteArray) × (Int) × Unit) _ _ := (readsF_cons (y := row22) ((tyOk22).trans ty22) rd22 (readsF_cons (y := row3) ((tyOk3).trans ty3) rd3 (readsF_cons (y := row9) ((tyOk9).trans ty9) rd9 (readsF_cons (y := row3) ((tyOk3).trans ty3) rd3 readsF_nil))))
  exact (reads_struct (y := row24) ((tyOk24).trans ty24) rfl hf).as (fun p => (⟨p.1, p.2.1, p.2.2.1, p.2.2.2.1⟩ : LexNamesIn_law01)) (fun p => by first | rfl | simp [LexNamesIn_law01.cells]) (fun _ h => h)
set_option maxRecDepth 100000 in
theorem rd40 {H : Type} {enc : TypeId × Value → H} {W : World} : Reads enc Tryd.prog W 40 LexAheadIn_law01 LexAheadIn_law01.cells LexAheadIn_law01.Wf := by
  have hf : ReadsF enc Tryd.prog W 0 row40.size row40.fields ((List (Int)) × (List (Int)) × (Int) × (Int) × Unit) _ _ := (readsF_cons (y := row22) ((tyOk22).trans ty22) rd22 (readsF_cons (y := row22) ((tyOk22).trans ty22) rd22 (readsF_cons (y := row3) ((tyOk3).trans ty3) rd3 (readsF_cons (y := row3) ((tyOk3).trans ty3) rd3 readsF_nil))))
  exact (reads_struct (y := row40) ((tyOk40).trans ty40) rfl hf).as (fun p => (⟨p.1, p.2.1, p.2.2.1, p.2.2.2.1⟩ : LexAheadIn_law01)) (fun p => by first | rfl | simp [LexAheadIn_law01.cells]) (fun _ h => h)
set_option maxRecDepth 100000 in
theorem rd50 {H : Type} {enc : TypeId × Value → H} {W : World} : Reads enc Tryd.prog W 50 LexWordsIn_law01 LexWordsIn_law01.cells LexWordsIn_law01.Wf := by
  have hf : ReadsF enc Tryd.prog W 0 row50.size row50.fields ((List (Int)) × (Int) × (ByteArray) × (ByteArray) × Unit) _ _ := (readsF_cons (y := row22) ((tyOk22).trans ty22) rd22 (readsF_cons (y := row3) ((tyOk3).trans ty3) rd3 (readsF_cons (y := row9) ((tyOk9).trans ty9) rd9 (readsF_cons (y := row9) ((tyOk9).trans ty9) rd9 readsF_nil))))
  exact (reads_struct (y := row50) ((tyOk50).trans ty50) rfl hf).as (fun p => (⟨p.1, p.2.1, p.2.2.1, p.2.2.2.1⟩ : LexWordsIn_law01)) (fun p => by first | rfl | simp [LexWordsIn_law01.cells]) (fun _ h => h)
theorem rd45 {H : Type} {enc : TypeId × Value → H} {W : World} : Reads enc Tryd.prog W 45 Int (fun x => [.lit (.int .u32 x)]) (Fits .u32) := rd_int (by kernel_rfl)
set_option maxRecDepth 100000 in
theorem rd47 {H : Type} {enc : TypeId × Value → H} {W : World} : Reads enc Tryd.prog W 47 LexNumbersIn_law01 LexNumbersIn_law01.cells LexNumbersIn_law01.Wf := by
  have hf : ReadsF enc Tryd.prog W 0 row47.size row47.fields ((Int) × (Int) × (List (Int)) × (List (Int)) × Unit) _ _ := (readsF_cons (y := row45) ((tyOk45).trans ty45) rd45 (readsF_cons (y := row3) ((tyOk3).trans ty3) rd3 (readsF_cons (y := row22) ((tyOk22).trans ty22) rd22 (readsF_cons (y := row22) ((tyOk22).trans ty22) rd22 readsF_nil))))
  exact (reads_struct (y := row47) ((tyOk47).trans ty47) rfl hf).as (fun p => (⟨p.1, p.2.1, p.2.2.1, p.2.2.2.1⟩ : LexNumbersIn_law01)) (fun p => by first | rfl | simp [LexNumbersIn_law01.cells]) (fun _ h => h)
end Go.Proofs.YtgamgcmjiancmaaDoor
