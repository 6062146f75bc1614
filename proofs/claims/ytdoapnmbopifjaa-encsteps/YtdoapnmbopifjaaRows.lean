/-
  No cell of these rows narrows 'for every input' (looked for: loops, veiled, ifaces, maps, wideKeys, modest, calm, conditions, laid).
  DERIVED. THE GIVEN ROWS OF THIS SEAT. 8 by the template 'for every input the law returns true; each argument reads behind the call as it read before'; 0 by the template 'total and deterministic' (their statements: YtdoapnmbopifjaaTotals.lean).
  GIVEN WITH THE SEED: the statements are not yours to turn. If you find one false, say at which input.
  Laid BY PROGRAM, IN A SANDBOX (cutbox-rows.mjs): the forced cells as the released guide's own fill.sh prints them over the translation a39355b4c0b71e26… (all of the seat's roots in one cut). By AI agents, Wed Nov 11 2026. No macro, syntax, notation, axiom, sorry.
-/
import Derived.Test.YtdoapnmbopifjaaChecked
import GoSem.Claim
import GoSem.ClaimJoined
import GoSem.ClaimMapViews
import Derived.JoinedTies
import Derived.KernelRfl
namespace Go.Proofs.Ytdoapnmbopifjaa
/- THE CELL 'sum', in the pinned program and in every row, IS THE sha256 OF THE DUMP (.gsa) THAT YtdoapnmbopifjaaProg.lean LOADS. Nothing in Lean hashes anything: it is a label: what it is worth is what the hold of that sum in a sandbox is worth. -/
noncomputable def Try.pinned : Pinned := { name := "ytdoapnmbopifjaa", sum := "a39355b4c0b71e2670e0fe14f7d9f7d6dfa498368ff92fa70c219033547187a8", checked := Try.checked }
namespace Rows
def none {H : Type} : Left H := { results := [], args := [] }

/-- 'vidimuslaw19.EncModels': WHATEVER THE INPUT: true; the input reads as it did. -/
def encModelsSpec : ChangeSpec := { name := "encModels", fn := fun _ => fun
  | [d1, d2, d3] => { results := [.lit (.bool true)], args := [d1, d2, d3] }
  | _ => none }
def encModelsRow : OpenClaim := { program := "ytdoapnmbopifjaa", sum := "a39355b4c0b71e2670e0fe14f7d9f7d6dfa498368ff92fa70c219033547187a8", func := "vidimus/vidimuslaw19.EncModels", spec := "encModels", apart := false }
def EncModelsSaid : Prop := encModelsRow.holds Try.pinned (OpenSpec.ofChange encModelsSpec)

/-- ITS FALSE NEIGHBOUR: 'it returns false'. Refute it at one input. -/
def encModelsWrong : ChangeSpec := { name := "encModels", fn := fun _ => fun
  | [d1, d2, d3] => { results := [.lit (.bool false)], args := [d1, d2, d3] }
  | _ => none }
def EncModelsWrongFalsely : Prop := encModelsRow.holds Try.pinned (OpenSpec.ofChange encModelsWrong)

/-- 'vidimuslaw19.EncFirst': WHATEVER THE INPUT: true; the input reads as it did. -/
def encFirstSpec : ChangeSpec := { name := "encFirst", fn := fun _ => fun
  | [d1, d2, d3] => { results := [.lit (.bool true)], args := [d1, d2, d3] }
  | _ => none }
def encFirstRow : OpenClaim := { program := "ytdoapnmbopifjaa", sum := "a39355b4c0b71e2670e0fe14f7d9f7d6dfa498368ff92fa70c219033547187a8", func := "vidimus/vidimuslaw19.EncFirst", spec := "encFirst", apart := false }
def EncFirstSaid : Prop := encFirstRow.holds Try.pinned (OpenSpec.ofChange encFirstSpec)

/-- ITS FALSE NEIGHBOUR: 'it returns false'. Refute it at one input. -/
def encFirstWrong : ChangeSpec := { name := "encFirst", fn := fun _ => fun
  | [d1, d2, d3] => { results := [.lit (.bool false)], args := [d1, d2, d3] }
  | _ => none }
def EncFirstWrongFalsely : Prop := encFirstRow.holds Try.pinned (OpenSpec.ofChange encFirstWrong)

/-- 'vidimuslaw19.EncStarts': WHATEVER THE INPUT: true; the input reads as it did. -/
def encStartsSpec : ChangeSpec := { name := "encStarts", fn := fun _ => fun
  | [d] => { results := [.lit (.bool true)], args := [d] }
  | _ => none }
def encStartsRow : OpenClaim := { program := "ytdoapnmbopifjaa", sum := "a39355b4c0b71e2670e0fe14f7d9f7d6dfa498368ff92fa70c219033547187a8", func := "vidimus/vidimuslaw19.EncStarts", spec := "encStarts", apart := false }
def EncStartsSaid : Prop := encStartsRow.holds Try.pinned (OpenSpec.ofChange encStartsSpec)

/-- ITS FALSE NEIGHBOUR: 'it returns false'. Refute it at one input. -/
def encStartsWrong : ChangeSpec := { name := "encStarts", fn := fun _ => fun
  | [d] => { results := [.lit (.bool false)], args := [d] }
  | _ => none }
def EncStartsWrongFalsely : Prop := encStartsRow.holds Try.pinned (OpenSpec.ofChange encStartsWrong)

/-- 'vidimuslaw19.EncLits': WHATEVER THE INPUT: true; the input reads as it did. -/
def encLitsSpec : ChangeSpec := { name := "encLits", fn := fun _ => fun
  | [d1, d2, d3] => { results := [.lit (.bool true)], args := [d1, d2, d3] }
  | _ => none }
def encLitsRow : OpenClaim := { program := "ytdoapnmbopifjaa", sum := "a39355b4c0b71e2670e0fe14f7d9f7d6dfa498368ff92fa70c219033547187a8", func := "vidimus/vidimuslaw19.EncLits", spec := "encLits", apart := false }
def EncLitsSaid : Prop := encLitsRow.holds Try.pinned (OpenSpec.ofChange encLitsSpec)

/-- ITS FALSE NEIGHBOUR: 'it returns false'. Refute it at one input. -/
def encLitsWrong : ChangeSpec := { name := "encLits", fn := fun _ => fun
  | [d1, d2, d3] => { results := [.lit (.bool false)], args := [d1, d2, d3] }
  | _ => none }
def EncLitsWrongFalsely : Prop := encLitsRow.holds Try.pinned (OpenSpec.ofChange encLitsWrong)

/-- 'vidimuslaw19.EncTells': WHATEVER THE INPUT: true; the input reads as it did. -/
def encTellsSpec : ChangeSpec := { name := "encTells", fn := fun _ => fun
  | [d1, d2] => { results := [.lit (.bool true)], args := [d1, d2] }
  | _ => none }
def encTellsRow : OpenClaim := { program := "ytdoapnmbopifjaa", sum := "a39355b4c0b71e2670e0fe14f7d9f7d6dfa498368ff92fa70c219033547187a8", func := "vidimus/vidimuslaw19.EncTells", spec := "encTells", apart := false }
def EncTellsSaid : Prop := encTellsRow.holds Try.pinned (OpenSpec.ofChange encTellsSpec)

/-- ITS FALSE NEIGHBOUR: 'it returns false'. Refute it at one input. -/
def encTellsWrong : ChangeSpec := { name := "encTells", fn := fun _ => fun
  | [d1, d2] => { results := [.lit (.bool false)], args := [d1, d2] }
  | _ => none }
def EncTellsWrongFalsely : Prop := encTellsRow.holds Try.pinned (OpenSpec.ofChange encTellsWrong)

/-- 'vidimuslaw19.EncSteps': WHATEVER THE INPUT: true; the input reads as it did. -/
def encStepsSpec : ChangeSpec := { name := "encSteps", fn := fun _ => fun
  | [d] => { results := [.lit (.bool true)], args := [d] }
  | _ => none }
def encStepsRow : OpenClaim := { program := "ytdoapnmbopifjaa", sum := "a39355b4c0b71e2670e0fe14f7d9f7d6dfa498368ff92fa70c219033547187a8", func := "vidimus/vidimuslaw19.EncSteps", spec := "encSteps", apart := false }
def EncStepsSaid : Prop := encStepsRow.holds Try.pinned (OpenSpec.ofChange encStepsSpec)

/-- ITS FALSE NEIGHBOUR: 'it returns false'. Refute it at one input. -/
def encStepsWrong : ChangeSpec := { name := "encSteps", fn := fun _ => fun
  | [d] => { results := [.lit (.bool false)], args := [d] }
  | _ => none }
def EncStepsWrongFalsely : Prop := encStepsRow.holds Try.pinned (OpenSpec.ofChange encStepsWrong)

/-- 'vidimuslaw19.EncAsks': WHATEVER THE INPUT: true; the input reads as it did. -/
def encAsksSpec : ChangeSpec := { name := "encAsks", fn := fun _ => fun
  | [d1, d2, d3] => { results := [.lit (.bool true)], args := [d1, d2, d3] }
  | _ => none }
def encAsksRow : OpenClaim := { program := "ytdoapnmbopifjaa", sum := "a39355b4c0b71e2670e0fe14f7d9f7d6dfa498368ff92fa70c219033547187a8", func := "vidimus/vidimuslaw19.EncAsks", spec := "encAsks", apart := false }
def EncAsksSaid : Prop := encAsksRow.holds Try.pinned (OpenSpec.ofChange encAsksSpec)

/-- ITS FALSE NEIGHBOUR: 'it returns false'. Refute it at one input. -/
def encAsksWrong : ChangeSpec := { name := "encAsks", fn := fun _ => fun
  | [d1, d2, d3] => { results := [.lit (.bool false)], args := [d1, d2, d3] }
  | _ => none }
def EncAsksWrongFalsely : Prop := encAsksRow.holds Try.pinned (OpenSpec.ofChange encAsksWrong)

/-- 'vidimuslaw19.EncStays': WHATEVER THE INPUT: true; the input reads as it did. -/
def encStaysSpec : ChangeSpec := { name := "encStays", fn := fun _ => fun
  | [d] => { results := [.lit (.bool true)], args := [d] }
  | _ => none }
def encStaysRow : OpenClaim := { program := "ytdoapnmbopifjaa", sum := "a39355b4c0b71e2670e0fe14f7d9f7d6dfa498368ff92fa70c219033547187a8", func := "vidimus/vidimuslaw19.EncStays", spec := "encStays", apart := false }
def EncStaysSaid : Prop := encStaysRow.holds Try.pinned (OpenSpec.ofChange encStaysSpec)

/-- ITS FALSE NEIGHBOUR: 'it returns false'. Refute it at one input. -/
def encStaysWrong : ChangeSpec := { name := "encStays", fn := fun _ => fun
  | [d] => { results := [.lit (.bool false)], args := [d] }
  | _ => none }
def EncStaysWrongFalsely : Prop := encStaysRow.holds Try.pinned (OpenSpec.ofChange encStaysWrong)

/- THE SECOND FORM. 'bulk': how many values and letters a reading holds, each counted each time it is reached (what is shared counts as often as it is met; a slice's spare places count too). A statement '..UptoSaid' is the law's where the arguments, and the package variables that the reading takes, are together of bulk at most 1048576: NARROWER than '..Said'. Prove '..Said' where nothing that the law and all that it calls make is longer than what came in: it says more and counts as full. Else prove '..UptoSaid'. A law counts once. -/
mutual
def uptoBulk {H : Type} : DataW H → Nat
  | .lit (.string bytes) => bytes.length + 1
  | .lit _ => 1
  | .nil => 1
  | .ptr d => uptoBulk d + 1
  | .slice elems spare => uptoBulkAll elems + uptoBulkAll spare + 1
  | .agg parts => uptoBulkAll parts + 1
  | .iface _ d => uptoBulk d + 1
  | .map entries => uptoBulkEntries entries + 1
  | .held _ => 1
def uptoBulkAll {H : Type} : List (DataW H) → Nat
  | [] => 0
  | d :: r => uptoBulk d + uptoBulkAll r
def uptoBulkEntries {H : Type} : List (Lit × DataW H) → Nat
  | [] => 0
  | x :: r => uptoBulkEntry x + uptoBulkEntries r
def uptoBulkEntry {H : Type} : Lit × DataW H → Nat
  | (.string bytes, d) => bytes.length + uptoBulk d + 1
  | (_, d) => uptoBulk d + 1
 end
def uptoSmall : (H : Type) → List (DataW H) → Bool := fun _ ds => decide (uptoBulkAll ds ≤ 1048576)
def OpenSpec.upto (s : _root_.Go.ChangeSpec) : _root_.Go.OpenSpec := { _root_.Go.OpenSpec.ofChange s with cond := some uptoSmall }

/-- 'vidimuslaw19.EncModels', WHERE WHAT IT READS IS OF BULK AT MOST 1048576: true; the input reads as it did. -/
def encModelsUptoRow : OpenClaim := { program := "ytdoapnmbopifjaa", sum := "a39355b4c0b71e2670e0fe14f7d9f7d6dfa498368ff92fa70c219033547187a8", func := "vidimus/vidimuslaw19.EncModels", spec := "encModels", apart := false, narrowed := true }
def EncModelsUptoSaid : Prop := encModelsUptoRow.holds Try.pinned (OpenSpec.upto encModelsSpec)

/-- 'vidimuslaw19.EncFirst', WHERE WHAT IT READS IS OF BULK AT MOST 1048576: true; the input reads as it did. -/
def encFirstUptoRow : OpenClaim := { program := "ytdoapnmbopifjaa", sum := "a39355b4c0b71e2670e0fe14f7d9f7d6dfa498368ff92fa70c219033547187a8", func := "vidimus/vidimuslaw19.EncFirst", spec := "encFirst", apart := false, narrowed := true }
def EncFirstUptoSaid : Prop := encFirstUptoRow.holds Try.pinned (OpenSpec.upto encFirstSpec)

/-- 'vidimuslaw19.EncStarts', WHERE WHAT IT READS IS OF BULK AT MOST 1048576: true; the input reads as it did. -/
def encStartsUptoRow : OpenClaim := { program := "ytdoapnmbopifjaa", sum := "a39355b4c0b71e2670e0fe14f7d9f7d6dfa498368ff92fa70c219033547187a8", func := "vidimus/vidimuslaw19.EncStarts", spec := "encStarts", apart := false, narrowed := true }
def EncStartsUptoSaid : Prop := encStartsUptoRow.holds Try.pinned (OpenSpec.upto encStartsSpec)

/-- 'vidimuslaw19.EncLits', WHERE WHAT IT READS IS OF BULK AT MOST 1048576: true; the input reads as it did. -/
def encLitsUptoRow : OpenClaim := { program := "ytdoapnmbopifjaa", sum := "a39355b4c0b71e2670e0fe14f7d9f7d6dfa498368ff92fa70c219033547187a8", func := "vidimus/vidimuslaw19.EncLits", spec := "encLits", apart := false, narrowed := true }
def EncLitsUptoSaid : Prop := encLitsUptoRow.holds Try.pinned (OpenSpec.upto encLitsSpec)

/-- 'vidimuslaw19.EncTells', WHERE WHAT IT READS IS OF BULK AT MOST 1048576: true; the input reads as it did. -/
def encTellsUptoRow : OpenClaim := { program := "ytdoapnmbopifjaa", sum := "a39355b4c0b71e2670e0fe14f7d9f7d6dfa498368ff92fa70c219033547187a8", func := "vidimus/vidimuslaw19.EncTells", spec := "encTells", apart := false, narrowed := true }
def EncTellsUptoSaid : Prop := encTellsUptoRow.holds Try.pinned (OpenSpec.upto encTellsSpec)

/-- 'vidimuslaw19.EncSteps', WHERE WHAT IT READS IS OF BULK AT MOST 1048576: true; the input reads as it did. -/
def encStepsUptoRow : OpenClaim := { program := "ytdoapnmbopifjaa", sum := "a39355b4c0b71e2670e0fe14f7d9f7d6dfa498368ff92fa70c219033547187a8", func := "vidimus/vidimuslaw19.EncSteps", spec := "encSteps", apart := false, narrowed := true }
def EncStepsUptoSaid : Prop := encStepsUptoRow.holds Try.pinned (OpenSpec.upto encStepsSpec)

/-- 'vidimuslaw19.EncAsks', WHERE WHAT IT READS IS OF BULK AT MOST 1048576: true; the input reads as it did. -/
def encAsksUptoRow : OpenClaim := { program := "ytdoapnmbopifjaa", sum := "a39355b4c0b71e2670e0fe14f7d9f7d6dfa498368ff92fa70c219033547187a8", func := "vidimus/vidimuslaw19.EncAsks", spec := "encAsks", apart := false, narrowed := true }
def EncAsksUptoSaid : Prop := encAsksUptoRow.holds Try.pinned (OpenSpec.upto encAsksSpec)

/-- 'vidimuslaw19.EncStays', WHERE WHAT IT READS IS OF BULK AT MOST 1048576: true; the input reads as it did. -/
def encStaysUptoRow : OpenClaim := { program := "ytdoapnmbopifjaa", sum := "a39355b4c0b71e2670e0fe14f7d9f7d6dfa498368ff92fa70c219033547187a8", func := "vidimus/vidimuslaw19.EncStays", spec := "encStays", apart := false, narrowed := true }
def EncStaysUptoSaid : Prop := encStaysUptoRow.holds Try.pinned (OpenSpec.upto encStaysSpec)

end Rows
end Go.Proofs.Ytdoapnmbopifjaa
