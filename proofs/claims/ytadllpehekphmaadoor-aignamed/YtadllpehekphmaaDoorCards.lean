/-
  DERIVED. GIVEN WITH THE SEED: THE CARDS: each row of YtadllpehekphmaaDoorRows.lean that lists a variable, with what it lists TIED to the program's text (the seventh form; the later family's looks); each row that meets fmt, with fmt's text TOLD by the authors' own Lean function (tested against real Go, not proved from fmt's source: count such statements apart). THE CARD IS WHAT COUNTS. Prove the row's statement (the work); the ties are given (YtadllpehekphmaaDoorTie.lean); close each card by the builder's one call (the guide's Derived/Test/ToyasCard.lean, 'card_holds'). Laid BY PROGRAM, IN A SANDBOX (cutbox-door.mjs). By AI agents, Wed Nov 11 2026. No macro, syntax, notation, axiom, sorry.
-/
import Derived.Test.YtadllpehekphmaaDoorRows
import GoSem.ClaimSeven
namespace Go.Proofs.YtadllpehekphmaaDoor
namespace Rows

/-- THE TIED CARD OF 'vidimuslaw06.AigTells'. -/
def aigTellsCard : Claim7 := { stood := { row := aigTellsRow, standIns := [], harness := (true, "fe2839bd10aeb5d670c4b00319b19ce28f52a1623cd98603f8387457699509d5"), looks := true }, kinds := [], alts := [], laidByText := true, laidKinds := [.data, .data, .data, .data, .pinned], laidTests := true, laidLooks := .later }
def AigTellsCardSaid : Prop := Claim7.holds Tryd.pinned (.plain (OpenSpec.ofChange aigTellsSpec)) aigTellsCard

/-- THE TIED CARD OF 'vidimuslaw06.AigBack'. -/
def aigBackCard : Claim7 := { stood := { row := aigBackRow, standIns := [], harness := (true, "fe2839bd10aeb5d670c4b00319b19ce28f52a1623cd98603f8387457699509d5"), looks := true }, kinds := [], alts := [], laidByText := true, laidKinds := [.data, .data, .data, .data, .pinned], laidTests := true, laidLooks := .later }
def AigBackCardSaid : Prop := Claim7.holds Tryd.pinned (.plain (OpenSpec.ofChange aigBackSpec)) aigBackCard

/-- THE TIED CARD OF 'vidimuslaw06.AigForth'. -/
def aigForthCard : Claim7 := { stood := { row := aigForthRow, standIns := [], harness := (true, "fe2839bd10aeb5d670c4b00319b19ce28f52a1623cd98603f8387457699509d5"), looks := true }, kinds := [], alts := [], laidByText := true, laidKinds := [.data, .data, .data, .data, .pinned], laidTests := true, laidLooks := .later }
def AigForthCardSaid : Prop := Claim7.holds Tryd.pinned (.plain (OpenSpec.ofChange aigForthSpec)) aigForthCard

/-- THE TIED CARD OF 'vidimuslaw06.AigEnds'. -/
def aigEndsCard : Claim7 := { stood := { row := aigEndsRow, standIns := [], harness := (true, "fe2839bd10aeb5d670c4b00319b19ce28f52a1623cd98603f8387457699509d5"), looks := true }, kinds := [], alts := [], laidByText := true, laidKinds := [.data, .data, .data, .data, .pinned], laidTests := true, laidLooks := .later }
def AigEndsCardSaid : Prop := Claim7.holds Tryd.pinned (.plain (OpenSpec.ofChange aigEndsSpec)) aigEndsCard

/-- THE TIED CARD OF 'vidimuslaw06.AigLess'. -/
def aigLessCard : Claim7 := { stood := { row := aigLessRow, standIns := [], harness := (true, "fe2839bd10aeb5d670c4b00319b19ce28f52a1623cd98603f8387457699509d5"), looks := true }, kinds := [], alts := [], laidByText := true, laidKinds := [.data, .data, .data, .data, .pinned], laidTests := true, laidLooks := .later }
def AigLessCardSaid : Prop := Claim7.holds Tryd.pinned (.plain (OpenSpec.ofChange aigLessSpec)) aigLessCard

/-- THE TIED CARD OF 'vidimuslaw06.AigNamed'. -/
def aigNamedCard : Claim7 := { stood := { row := aigNamedRow, standIns := [], harness := (true, "fe2839bd10aeb5d670c4b00319b19ce28f52a1623cd98603f8387457699509d5"), looks := true }, kinds := [], alts := [], laidByText := true, laidKinds := [.data, .data, .data, .data, .pinned], laidTests := true, laidLooks := .later }
def AigNamedCardSaid : Prop := Claim7.holds Tryd.pinned (.plain (OpenSpec.ofChange aigNamedSpec)) aigNamedCard

/-- THE SECOND FORM's CARD OF 'vidimuslaw06.AigTells'. -/
def aigTellsUptoCard : Claim7 := { stood := { row := aigTellsUptoRow, standIns := [], harness := (true, "fe2839bd10aeb5d670c4b00319b19ce28f52a1623cd98603f8387457699509d5"), looks := true }, kinds := [], alts := [], laidByText := true, laidKinds := [.data, .data, .data, .data, .pinned], laidTests := true, laidLooks := .later }
def AigTellsUptoCardSaid : Prop := Claim7.holds Tryd.pinned (.plain (OpenSpec.upto aigTellsSpec)) aigTellsUptoCard

/-- THE SECOND FORM's CARD OF 'vidimuslaw06.AigBack'. -/
def aigBackUptoCard : Claim7 := { stood := { row := aigBackUptoRow, standIns := [], harness := (true, "fe2839bd10aeb5d670c4b00319b19ce28f52a1623cd98603f8387457699509d5"), looks := true }, kinds := [], alts := [], laidByText := true, laidKinds := [.data, .data, .data, .data, .pinned], laidTests := true, laidLooks := .later }
def AigBackUptoCardSaid : Prop := Claim7.holds Tryd.pinned (.plain (OpenSpec.upto aigBackSpec)) aigBackUptoCard

/-- THE SECOND FORM's CARD OF 'vidimuslaw06.AigForth'. -/
def aigForthUptoCard : Claim7 := { stood := { row := aigForthUptoRow, standIns := [], harness := (true, "fe2839bd10aeb5d670c4b00319b19ce28f52a1623cd98603f8387457699509d5"), looks := true }, kinds := [], alts := [], laidByText := true, laidKinds := [.data, .data, .data, .data, .pinned], laidTests := true, laidLooks := .later }
def AigForthUptoCardSaid : Prop := Claim7.holds Tryd.pinned (.plain (OpenSpec.upto aigForthSpec)) aigForthUptoCard

/-- THE SECOND FORM's CARD OF 'vidimuslaw06.AigEnds'. -/
def aigEndsUptoCard : Claim7 := { stood := { row := aigEndsUptoRow, standIns := [], harness := (true, "fe2839bd10aeb5d670c4b00319b19ce28f52a1623cd98603f8387457699509d5"), looks := true }, kinds := [], alts := [], laidByText := true, laidKinds := [.data, .data, .data, .data, .pinned], laidTests := true, laidLooks := .later }
def AigEndsUptoCardSaid : Prop := Claim7.holds Tryd.pinned (.plain (OpenSpec.upto aigEndsSpec)) aigEndsUptoCard

/-- THE SECOND FORM's CARD OF 'vidimuslaw06.AigLess'. -/
def aigLessUptoCard : Claim7 := { stood := { row := aigLessUptoRow, standIns := [], harness := (true, "fe2839bd10aeb5d670c4b00319b19ce28f52a1623cd98603f8387457699509d5"), looks := true }, kinds := [], alts := [], laidByText := true, laidKinds := [.data, .data, .data, .data, .pinned], laidTests := true, laidLooks := .later }
def AigLessUptoCardSaid : Prop := Claim7.holds Tryd.pinned (.plain (OpenSpec.upto aigLessSpec)) aigLessUptoCard

/-- THE SECOND FORM's CARD OF 'vidimuslaw06.AigNamed'. -/
def aigNamedUptoCard : Claim7 := { stood := { row := aigNamedUptoRow, standIns := [], harness := (true, "fe2839bd10aeb5d670c4b00319b19ce28f52a1623cd98603f8387457699509d5"), looks := true }, kinds := [], alts := [], laidByText := true, laidKinds := [.data, .data, .data, .data, .pinned], laidTests := true, laidLooks := .later }
def AigNamedUptoCardSaid : Prop := Claim7.holds Tryd.pinned (.plain (OpenSpec.upto aigNamedSpec)) aigNamedUptoCard
end Rows
end Go.Proofs.YtadllpehekphmaaDoor
