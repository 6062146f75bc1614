/-
  DERIVED. GIVEN WITH THE SEED: THE CARDS: each row of YtgamgcmjiancmaaDoorRows.lean that lists a variable, with what it lists TIED to the program's text (the seventh form; the later family's looks); each row that meets fmt, with fmt's text TOLD by the authors' own Lean function (tested against real Go, not proved from fmt's source: count such statements apart). THE CARD IS WHAT COUNTS. Prove the row's statement (the work); the ties are given (YtgamgcmjiancmaaDoorTie.lean); close each card by the builder's one call (the guide's Derived/Test/ToyasCard.lean, 'card_holds'). Laid BY PROGRAM, IN A SANDBOX (cutbox-door.mjs). By AI agents, Wed Nov 11 2026. No macro, syntax, notation, axiom, sorry.
-/
import Derived.Test.YtgamgcmjiancmaaDoorRows
import GoSem.ClaimSeven
namespace Go.Proofs.YtgamgcmjiancmaaDoor
namespace Rows

/-- THE TIED CARD OF 'vidimuslaw01.LexNames'. -/
def lexNamesCard : Claim7 := { stood := { row := lexNamesRow, standIns := [], harness := (true, "b53a0ca68b9f5a5e6570b0c0d5aa484fbc51e9d4973353f26ba0398a310a2963"), looks := false }, kinds := [], alts := [], laidByText := true, laidKinds := [.data, .pinned], laidTests := true, laidLooks := .later }
def LexNamesCardSaid : Prop := Claim7.holds Tryd.pinned (.plain (OpenSpec.ofChange lexNamesSpec)) lexNamesCard

/-- THE TIED CARD OF 'vidimuslaw01.LexAhead'. -/
def lexAheadCard : Claim7 := { stood := { row := lexAheadRow, standIns := [], harness := (true, "b53a0ca68b9f5a5e6570b0c0d5aa484fbc51e9d4973353f26ba0398a310a2963"), looks := false }, kinds := [], alts := [], laidByText := true, laidKinds := [.data, .pinned], laidTests := true, laidLooks := .later }
def LexAheadCardSaid : Prop := Claim7.holds Tryd.pinned (.plain (OpenSpec.ofChange lexAheadSpec)) lexAheadCard

/-- THE TIED CARD OF 'vidimuslaw01.LexBack'. -/
def lexBackCard : Claim7 := { stood := { row := lexBackRow, standIns := [], harness := (true, "b53a0ca68b9f5a5e6570b0c0d5aa484fbc51e9d4973353f26ba0398a310a2963"), looks := false }, kinds := [], alts := [], laidByText := true, laidKinds := [.data, .pinned], laidTests := true, laidLooks := .later }
def LexBackCardSaid : Prop := Claim7.holds Tryd.pinned (.plain (OpenSpec.ofChange lexBackSpec)) lexBackCard

/-- THE TIED CARD OF 'vidimuslaw01.LexNumbers'. -/
def lexNumbersCard : Claim7 := { stood := { row := lexNumbersRow, standIns := [], harness := (true, "b53a0ca68b9f5a5e6570b0c0d5aa484fbc51e9d4973353f26ba0398a310a2963"), looks := false }, kinds := [], alts := [], laidByText := true, laidKinds := [.data, .pinned], laidTests := true, laidLooks := .later }
def LexNumbersCardSaid : Prop := Claim7.holds Tryd.pinned (.plain (OpenSpec.ofChange lexNumbersSpec)) lexNumbersCard

/-- THE TIED CARD OF 'vidimuslaw01.LexWords'. -/
def lexWordsCard : Claim7 := { stood := { row := lexWordsRow, standIns := [], harness := (true, "b53a0ca68b9f5a5e6570b0c0d5aa484fbc51e9d4973353f26ba0398a310a2963"), looks := false }, kinds := [], alts := [], laidByText := true, laidKinds := [.data, .pinned], laidTests := true, laidLooks := .later }
def LexWordsCardSaid : Prop := Claim7.holds Tryd.pinned (.plain (OpenSpec.ofChange lexWordsSpec)) lexWordsCard

/-- THE TIED CARD OF 'vidimuslaw01.LexNamed'. -/
def lexNamedCard : Claim7 := { stood := { row := lexNamedRow, standIns := [], harness := (true, "b53a0ca68b9f5a5e6570b0c0d5aa484fbc51e9d4973353f26ba0398a310a2963"), looks := false }, kinds := [], alts := [], laidByText := true, laidKinds := [.data, .pinned], laidTests := true, laidLooks := .later }
def LexNamedCardSaid : Prop := Claim7.holds Tryd.pinned (.plain (OpenSpec.ofChange lexNamedSpec)) lexNamedCard

/-- THE SECOND FORM's CARD OF 'vidimuslaw01.LexNames'. -/
def lexNamesUptoCard : Claim7 := { stood := { row := lexNamesUptoRow, standIns := [], harness := (true, "b53a0ca68b9f5a5e6570b0c0d5aa484fbc51e9d4973353f26ba0398a310a2963"), looks := false }, kinds := [], alts := [], laidByText := true, laidKinds := [.data, .pinned], laidTests := true, laidLooks := .later }
def LexNamesUptoCardSaid : Prop := Claim7.holds Tryd.pinned (.plain (OpenSpec.upto lexNamesSpec)) lexNamesUptoCard

/-- THE SECOND FORM's CARD OF 'vidimuslaw01.LexAhead'. -/
def lexAheadUptoCard : Claim7 := { stood := { row := lexAheadUptoRow, standIns := [], harness := (true, "b53a0ca68b9f5a5e6570b0c0d5aa484fbc51e9d4973353f26ba0398a310a2963"), looks := false }, kinds := [], alts := [], laidByText := true, laidKinds := [.data, .pinned], laidTests := true, laidLooks := .later }
def LexAheadUptoCardSaid : Prop := Claim7.holds Tryd.pinned (.plain (OpenSpec.upto lexAheadSpec)) lexAheadUptoCard

/-- THE SECOND FORM's CARD OF 'vidimuslaw01.LexBack'. -/
def lexBackUptoCard : Claim7 := { stood := { row := lexBackUptoRow, standIns := [], harness := (true, "b53a0ca68b9f5a5e6570b0c0d5aa484fbc51e9d4973353f26ba0398a310a2963"), looks := false }, kinds := [], alts := [], laidByText := true, laidKinds := [.data, .pinned], laidTests := true, laidLooks := .later }
def LexBackUptoCardSaid : Prop := Claim7.holds Tryd.pinned (.plain (OpenSpec.upto lexBackSpec)) lexBackUptoCard

/-- THE SECOND FORM's CARD OF 'vidimuslaw01.LexNumbers'. -/
def lexNumbersUptoCard : Claim7 := { stood := { row := lexNumbersUptoRow, standIns := [], harness := (true, "b53a0ca68b9f5a5e6570b0c0d5aa484fbc51e9d4973353f26ba0398a310a2963"), looks := false }, kinds := [], alts := [], laidByText := true, laidKinds := [.data, .pinned], laidTests := true, laidLooks := .later }
def LexNumbersUptoCardSaid : Prop := Claim7.holds Tryd.pinned (.plain (OpenSpec.upto lexNumbersSpec)) lexNumbersUptoCard

/-- THE SECOND FORM's CARD OF 'vidimuslaw01.LexWords'. -/
def lexWordsUptoCard : Claim7 := { stood := { row := lexWordsUptoRow, standIns := [], harness := (true, "b53a0ca68b9f5a5e6570b0c0d5aa484fbc51e9d4973353f26ba0398a310a2963"), looks := false }, kinds := [], alts := [], laidByText := true, laidKinds := [.data, .pinned], laidTests := true, laidLooks := .later }
def LexWordsUptoCardSaid : Prop := Claim7.holds Tryd.pinned (.plain (OpenSpec.upto lexWordsSpec)) lexWordsUptoCard

/-- THE SECOND FORM's CARD OF 'vidimuslaw01.LexNamed'. -/
def lexNamedUptoCard : Claim7 := { stood := { row := lexNamedUptoRow, standIns := [], harness := (true, "b53a0ca68b9f5a5e6570b0c0d5aa484fbc51e9d4973353f26ba0398a310a2963"), looks := false }, kinds := [], alts := [], laidByText := true, laidKinds := [.data, .pinned], laidTests := true, laidLooks := .later }
def LexNamedUptoCardSaid : Prop := Claim7.holds Tryd.pinned (.plain (OpenSpec.upto lexNamedSpec)) lexNamedUptoCard
end Rows
end Go.Proofs.YtgamgcmjiancmaaDoor
