/-
  DERIVED. GIVEN WITH THE SEED: THE CARDS: each row of YtkdlblpidghjcaaDoorRows.lean that lists a variable, with what it lists TIED to the program's text (the seventh form; the later family's looks); each row that meets fmt, with fmt's text TOLD by the authors' own Lean function (tested against real Go, not proved from fmt's source: count such statements apart). THE CARD IS WHAT COUNTS. Prove the row's statement (the work); the ties are given (YtkdlblpidghjcaaDoorTie.lean); close each card by the builder's one call (the guide's Derived/Test/ToyasCard.lean, 'card_holds'). Laid BY PROGRAM, IN A SANDBOX (cutbox-door.mjs). By AI agents, Wed Nov 11 2026. No macro, syntax, notation, axiom, sorry.
-/
import Derived.Test.YtkdlblpidghjcaaDoorRows
import GoSem.ClaimSeven
namespace Go.Proofs.YtkdlblpidghjcaaDoor
namespace Rows

/-- THE TIED CARD OF 'vidimuslaw03.CnfTells'. -/
def cnfTellsCard : Claim7 := { stood := { row := cnfTellsRow, standIns := [], harness := (true, "17a65114815c9ad81725a68bd58de8c361170cc0624d6a18b2dc2d7cba7975e7"), looks := false }, kinds := [], alts := [], laidByText := true, laidKinds := [.data, .data, .data, .data, .pinned], laidTests := true, laidLooks := .later }
def CnfTellsCardSaid : Prop := Claim7.holds Tryd.pinned (.plain (OpenSpec.ofChange cnfTellsSpec)) cnfTellsCard

/-- THE TIED CARD OF 'vidimuslaw03.CnfModels'. -/
def cnfModelsCard : Claim7 := { stood := { row := cnfModelsRow, standIns := [], harness := (true, "17a65114815c9ad81725a68bd58de8c361170cc0624d6a18b2dc2d7cba7975e7"), looks := false }, kinds := [], alts := [], laidByText := true, laidKinds := [.data, .data, .data, .data, .pinned], laidTests := true, laidLooks := .later }
def CnfModelsCardSaid : Prop := Claim7.holds Tryd.pinned (.plain (OpenSpec.ofChange cnfModelsSpec)) cnfModelsCard

/-- THE TIED CARD OF 'vidimuslaw03.CnfBack'. -/
def cnfBackCard : Claim7 := { stood := { row := cnfBackRow, standIns := [], harness := (true, "17a65114815c9ad81725a68bd58de8c361170cc0624d6a18b2dc2d7cba7975e7"), looks := false }, kinds := [], alts := [], laidByText := true, laidKinds := [.data, .data, .data, .data, .pinned], laidTests := true, laidLooks := .later }
def CnfBackCardSaid : Prop := Claim7.holds Tryd.pinned (.plain (OpenSpec.ofChange cnfBackSpec)) cnfBackCard

/-- THE TIED CARD OF 'vidimuslaw03.CnfHolds'. -/
def cnfHoldsCard : Claim7 := { stood := { row := cnfHoldsRow, standIns := [], harness := (true, "17a65114815c9ad81725a68bd58de8c361170cc0624d6a18b2dc2d7cba7975e7"), looks := false }, kinds := [], alts := [], laidByText := true, laidKinds := [.data, .data, .data, .data, .pinned], laidTests := true, laidLooks := .later }
def CnfHoldsCardSaid : Prop := Claim7.holds Tryd.pinned (.plain (OpenSpec.ofChange cnfHoldsSpec)) cnfHoldsCard

/-- THE TIED CARD OF 'vidimuslaw03.CnfApart'. -/
def cnfApartCard : Claim7 := { stood := { row := cnfApartRow, standIns := [], harness := (true, "17a65114815c9ad81725a68bd58de8c361170cc0624d6a18b2dc2d7cba7975e7"), looks := false }, kinds := [], alts := [], laidByText := true, laidKinds := [.data, .data, .data, .data, .pinned], laidTests := true, laidLooks := .later }
def CnfApartCardSaid : Prop := Claim7.holds Tryd.pinned (.plain (OpenSpec.ofChange cnfApartSpec)) cnfApartCard

/-- THE TIED CARD OF 'vidimuslaw03.CnfEnds'. -/
def cnfEndsCard : Claim7 := { stood := { row := cnfEndsRow, standIns := [], harness := (true, "17a65114815c9ad81725a68bd58de8c361170cc0624d6a18b2dc2d7cba7975e7"), looks := false }, kinds := [], alts := [], laidByText := true, laidKinds := [.data, .data, .data, .data, .pinned], laidTests := true, laidLooks := .later }
def CnfEndsCardSaid : Prop := Claim7.holds Tryd.pinned (.plain (OpenSpec.ofChange cnfEndsSpec)) cnfEndsCard

/-- THE TIED CARD OF 'vidimuslaw03.CnfTurned'. -/
def cnfTurnedCard : Claim7 := { stood := { row := cnfTurnedRow, standIns := [], harness := (true, "17a65114815c9ad81725a68bd58de8c361170cc0624d6a18b2dc2d7cba7975e7"), looks := false }, kinds := [], alts := [], laidByText := true, laidKinds := [.data, .data, .data, .data, .pinned], laidTests := true, laidLooks := .later }
def CnfTurnedCardSaid : Prop := Claim7.holds Tryd.pinned (.plain (OpenSpec.ofChange cnfTurnedSpec)) cnfTurnedCard

/-- THE SECOND FORM's CARD OF 'vidimuslaw03.CnfTells'. -/
def cnfTellsUptoCard : Claim7 := { stood := { row := cnfTellsUptoRow, standIns := [], harness := (true, "17a65114815c9ad81725a68bd58de8c361170cc0624d6a18b2dc2d7cba7975e7"), looks := false }, kinds := [], alts := [], laidByText := true, laidKinds := [.data, .data, .data, .data, .pinned], laidTests := true, laidLooks := .later }
def CnfTellsUptoCardSaid : Prop := Claim7.holds Tryd.pinned (.plain (OpenSpec.upto cnfTellsSpec)) cnfTellsUptoCard

/-- THE SECOND FORM's CARD OF 'vidimuslaw03.CnfModels'. -/
def cnfModelsUptoCard : Claim7 := { stood := { row := cnfModelsUptoRow, standIns := [], harness := (true, "17a65114815c9ad81725a68bd58de8c361170cc0624d6a18b2dc2d7cba7975e7"), looks := false }, kinds := [], alts := [], laidByText := true, laidKinds := [.data, .data, .data, .data, .pinned], laidTests := true, laidLooks := .later }
def CnfModelsUptoCardSaid : Prop := Claim7.holds Tryd.pinned (.plain (OpenSpec.upto cnfModelsSpec)) cnfModelsUptoCard

/-- THE SECOND FORM's CARD OF 'vidimuslaw03.CnfBack'. -/
def cnfBackUptoCard : Claim7 := { stood := { row := cnfBackUptoRow, standIns := [], harness := (true, "17a65114815c9ad81725a68bd58de8c361170cc0624d6a18b2dc2d7cba7975e7"), looks := false }, kinds := [], alts := [], laidByText := true, laidKinds := [.data, .data, .data, .data, .pinned], laidTests := true, laidLooks := .later }
def CnfBackUptoCardSaid : Prop := Claim7.holds Tryd.pinned (.plain (OpenSpec.upto cnfBackSpec)) cnfBackUptoCard

/-- THE SECOND FORM's CARD OF 'vidimuslaw03.CnfHolds'. -/
def cnfHoldsUptoCard : Claim7 := { stood := { row := cnfHoldsUptoRow, standIns := [], harness := (true, "17a65114815c9ad81725a68bd58de8c361170cc0624d6a18b2dc2d7cba7975e7"), looks := false }, kinds := [], alts := [], laidByText := true, laidKinds := [.data, .data, .data, .data, .pinned], laidTests := true, laidLooks := .later }
def CnfHoldsUptoCardSaid : Prop := Claim7.holds Tryd.pinned (.plain (OpenSpec.upto cnfHoldsSpec)) cnfHoldsUptoCard

/-- THE SECOND FORM's CARD OF 'vidimuslaw03.CnfApart'. -/
def cnfApartUptoCard : Claim7 := { stood := { row := cnfApartUptoRow, standIns := [], harness := (true, "17a65114815c9ad81725a68bd58de8c361170cc0624d6a18b2dc2d7cba7975e7"), looks := false }, kinds := [], alts := [], laidByText := true, laidKinds := [.data, .data, .data, .data, .pinned], laidTests := true, laidLooks := .later }
def CnfApartUptoCardSaid : Prop := Claim7.holds Tryd.pinned (.plain (OpenSpec.upto cnfApartSpec)) cnfApartUptoCard

/-- THE SECOND FORM's CARD OF 'vidimuslaw03.CnfEnds'. -/
def cnfEndsUptoCard : Claim7 := { stood := { row := cnfEndsUptoRow, standIns := [], harness := (true, "17a65114815c9ad81725a68bd58de8c361170cc0624d6a18b2dc2d7cba7975e7"), looks := false }, kinds := [], alts := [], laidByText := true, laidKinds := [.data, .data, .data, .data, .pinned], laidTests := true, laidLooks := .later }
def CnfEndsUptoCardSaid : Prop := Claim7.holds Tryd.pinned (.plain (OpenSpec.upto cnfEndsSpec)) cnfEndsUptoCard

/-- THE SECOND FORM's CARD OF 'vidimuslaw03.CnfTurned'. -/
def cnfTurnedUptoCard : Claim7 := { stood := { row := cnfTurnedUptoRow, standIns := [], harness := (true, "17a65114815c9ad81725a68bd58de8c361170cc0624d6a18b2dc2d7cba7975e7"), looks := false }, kinds := [], alts := [], laidByText := true, laidKinds := [.data, .data, .data, .data, .pinned], laidTests := true, laidLooks := .later }
def CnfTurnedUptoCardSaid : Prop := Claim7.holds Tryd.pinned (.plain (OpenSpec.upto cnfTurnedSpec)) cnfTurnedUptoCard
end Rows
end Go.Proofs.YtkdlblpidghjcaaDoor
