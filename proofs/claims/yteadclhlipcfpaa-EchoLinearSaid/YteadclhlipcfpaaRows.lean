/-
  No cell of these rows narrows 'for every input' (looked for: loops, veiled, ifaces, maps, wideKeys, modest, calm, conditions, laid).
  DERIVED. THE GIVEN ROWS OF THIS SEAT. 9 by the template 'for every input the law returns true; each argument reads behind the call as it read before'; 0 by the template 'total and deterministic' (their statements: YteadclhlipcfpaaTotals.lean).
  GIVEN WITH THE SEED: the statements are not yours to turn. If you find one false, say at which input.
  Laid BY PROGRAM, IN A SANDBOX (cutbox-rows.mjs): the forced cells as the released guide's own fill.sh prints them over the translation 195c4357eb554334… (all of the seat's roots in one cut). By AI agents, Wed Nov 11 2026. No macro, syntax, notation, axiom, sorry.
-/
import Derived.Test.YteadclhlipcfpaaChecked
import GoSem.Claim
import GoSem.ClaimJoined
import GoSem.ClaimMapViews
import Derived.JoinedTies
import Derived.KernelRfl
namespace Go.Proofs.Yteadclhlipcfpaa
/- THE CELL 'sum', in the pinned program and in every row, IS THE sha256 OF THE DUMP (.gsa) THAT YteadclhlipcfpaaProg.lean LOADS. Nothing in Lean hashes anything: it is a label: what it is worth is what the hold of that sum in a sandbox is worth. -/
noncomputable def Try.pinned : Pinned := { name := "yteadclhlipcfpaa", sum := "195c4357eb554334e8b39353c9227d7ef7659934036a708b9ff58da3bf7433a7", checked := Try.checked }
namespace Rows
def none {H : Type} : Left H := { results := [], args := [] }

/-- 'scrimlaw5.EchoTurns': WHATEVER THE INPUT: true; the input reads as it did. -/
def echoTurnsSpec : ChangeSpec := { name := "echoTurns", fn := fun _ => fun
  | [d1, d2] => { results := [.lit (.bool true)], args := [d1, d2] }
  | _ => none }
def echoTurnsRow : OpenClaim := { program := "yteadclhlipcfpaa", sum := "195c4357eb554334e8b39353c9227d7ef7659934036a708b9ff58da3bf7433a7", func := "scrim/scrimlaw5.EchoTurns", spec := "echoTurns", apart := false }
def EchoTurnsSaid : Prop := echoTurnsRow.holds Try.pinned (OpenSpec.ofChange echoTurnsSpec)

/-- ITS FALSE NEIGHBOUR: 'it returns false'. Refute it at one input. -/
def echoTurnsWrong : ChangeSpec := { name := "echoTurns", fn := fun _ => fun
  | [d1, d2] => { results := [.lit (.bool false)], args := [d1, d2] }
  | _ => none }
def EchoTurnsWrongFalsely : Prop := echoTurnsRow.holds Try.pinned (OpenSpec.ofChange echoTurnsWrong)

/-- 'scrimlaw5.EchoSquares': WHATEVER THE INPUT: true; the input reads as it did. -/
def echoSquaresSpec : ChangeSpec := { name := "echoSquares", fn := fun _ => fun
  | [d] => { results := [.lit (.bool true)], args := [d] }
  | _ => none }
def echoSquaresRow : OpenClaim := { program := "yteadclhlipcfpaa", sum := "195c4357eb554334e8b39353c9227d7ef7659934036a708b9ff58da3bf7433a7", func := "scrim/scrimlaw5.EchoSquares", spec := "echoSquares", apart := false }
def EchoSquaresSaid : Prop := echoSquaresRow.holds Try.pinned (OpenSpec.ofChange echoSquaresSpec)

/-- ITS FALSE NEIGHBOUR: 'it returns false'. Refute it at one input. -/
def echoSquaresWrong : ChangeSpec := { name := "echoSquares", fn := fun _ => fun
  | [d] => { results := [.lit (.bool false)], args := [d] }
  | _ => none }
def EchoSquaresWrongFalsely : Prop := echoSquaresRow.holds Try.pinned (OpenSpec.ofChange echoSquaresWrong)

/-- 'scrimlaw5.EchoParts': WHATEVER THE INPUT: true; the input reads as it did. -/
def echoPartsSpec : ChangeSpec := { name := "echoParts", fn := fun _ => fun
  | [d1, d2, d3] => { results := [.lit (.bool true)], args := [d1, d2, d3] }
  | _ => none }
def echoPartsRow : OpenClaim := { program := "yteadclhlipcfpaa", sum := "195c4357eb554334e8b39353c9227d7ef7659934036a708b9ff58da3bf7433a7", func := "scrim/scrimlaw5.EchoParts", spec := "echoParts", apart := false }
def EchoPartsSaid : Prop := echoPartsRow.holds Try.pinned (OpenSpec.ofChange echoPartsSpec)

/-- ITS FALSE NEIGHBOUR: 'it returns false'. Refute it at one input. -/
def echoPartsWrong : ChangeSpec := { name := "echoParts", fn := fun _ => fun
  | [d1, d2, d3] => { results := [.lit (.bool false)], args := [d1, d2, d3] }
  | _ => none }
def EchoPartsWrongFalsely : Prop := echoPartsRow.holds Try.pinned (OpenSpec.ofChange echoPartsWrong)

/-- 'scrimlaw5.EchoShift': WHATEVER THE INPUT: true; the input reads as it did. -/
def echoShiftSpec : ChangeSpec := { name := "echoShift", fn := fun _ => fun
  | [d1, d2, d3] => { results := [.lit (.bool true)], args := [d1, d2, d3] }
  | _ => none }
def echoShiftRow : OpenClaim := { program := "yteadclhlipcfpaa", sum := "195c4357eb554334e8b39353c9227d7ef7659934036a708b9ff58da3bf7433a7", func := "scrim/scrimlaw5.EchoShift", spec := "echoShift", apart := false }
def EchoShiftSaid : Prop := echoShiftRow.holds Try.pinned (OpenSpec.ofChange echoShiftSpec)

/-- ITS FALSE NEIGHBOUR: 'it returns false'. Refute it at one input. -/
def echoShiftWrong : ChangeSpec := { name := "echoShift", fn := fun _ => fun
  | [d1, d2, d3] => { results := [.lit (.bool false)], args := [d1, d2, d3] }
  | _ => none }
def EchoShiftWrongFalsely : Prop := echoShiftRow.holds Try.pinned (OpenSpec.ofChange echoShiftWrong)

/-- 'scrimlaw5.EchoAll': WHATEVER THE INPUT: true; the input reads as it did. -/
def echoAllSpec : ChangeSpec := { name := "echoAll", fn := fun _ => fun
  | [d1, d2, d3, d4, d5] => { results := [.lit (.bool true)], args := [d1, d2, d3, d4, d5] }
  | _ => none }
def echoAllRow : OpenClaim := { program := "yteadclhlipcfpaa", sum := "195c4357eb554334e8b39353c9227d7ef7659934036a708b9ff58da3bf7433a7", func := "scrim/scrimlaw5.EchoAll", spec := "echoAll", apart := false }
def EchoAllSaid : Prop := echoAllRow.holds Try.pinned (OpenSpec.ofChange echoAllSpec)

/-- ITS FALSE NEIGHBOUR: 'it returns false'. Refute it at one input. -/
def echoAllWrong : ChangeSpec := { name := "echoAll", fn := fun _ => fun
  | [d1, d2, d3, d4, d5] => { results := [.lit (.bool false)], args := [d1, d2, d3, d4, d5] }
  | _ => none }
def EchoAllWrongFalsely : Prop := echoAllRow.holds Try.pinned (OpenSpec.ofChange echoAllWrong)

/-- 'scrimlaw5.EchoBias': WHATEVER THE INPUT: true; the input reads as it did. -/
def echoBiasSpec : ChangeSpec := { name := "echoBias", fn := fun _ => fun
  | [d1, d2, d3] => { results := [.lit (.bool true)], args := [d1, d2, d3] }
  | _ => none }
def echoBiasRow : OpenClaim := { program := "yteadclhlipcfpaa", sum := "195c4357eb554334e8b39353c9227d7ef7659934036a708b9ff58da3bf7433a7", func := "scrim/scrimlaw5.EchoBias", spec := "echoBias", apart := false }
def EchoBiasSaid : Prop := echoBiasRow.holds Try.pinned (OpenSpec.ofChange echoBiasSpec)

/-- ITS FALSE NEIGHBOUR: 'it returns false'. Refute it at one input. -/
def echoBiasWrong : ChangeSpec := { name := "echoBias", fn := fun _ => fun
  | [d1, d2, d3] => { results := [.lit (.bool false)], args := [d1, d2, d3] }
  | _ => none }
def EchoBiasWrongFalsely : Prop := echoBiasRow.holds Try.pinned (OpenSpec.ofChange echoBiasWrong)

/-- 'scrimlaw5.EchoSums': WHATEVER THE INPUT: true; the input reads as it did. -/
def echoSumsSpec : ChangeSpec := { name := "echoSums", fn := fun _ => fun
  | [d1, d2] => { results := [.lit (.bool true)], args := [d1, d2] }
  | _ => none }
def echoSumsRow : OpenClaim := { program := "yteadclhlipcfpaa", sum := "195c4357eb554334e8b39353c9227d7ef7659934036a708b9ff58da3bf7433a7", func := "scrim/scrimlaw5.EchoSums", spec := "echoSums", apart := false }
def EchoSumsSaid : Prop := echoSumsRow.holds Try.pinned (OpenSpec.ofChange echoSumsSpec)

/-- ITS FALSE NEIGHBOUR: 'it returns false'. Refute it at one input. -/
def echoSumsWrong : ChangeSpec := { name := "echoSums", fn := fun _ => fun
  | [d1, d2] => { results := [.lit (.bool false)], args := [d1, d2] }
  | _ => none }
def EchoSumsWrongFalsely : Prop := echoSumsRow.holds Try.pinned (OpenSpec.ofChange echoSumsWrong)

/-- 'scrimlaw5.EchoKnown': WHATEVER THE INPUT: true; the input reads as it did. -/
def echoKnownSpec : ChangeSpec := { name := "echoKnown", fn := fun _ => fun
  | [d] => { results := [.lit (.bool true)], args := [d] }
  | _ => none }
def echoKnownRow : OpenClaim := { program := "yteadclhlipcfpaa", sum := "195c4357eb554334e8b39353c9227d7ef7659934036a708b9ff58da3bf7433a7", func := "scrim/scrimlaw5.EchoKnown", spec := "echoKnown", apart := false }
def EchoKnownSaid : Prop := echoKnownRow.holds Try.pinned (OpenSpec.ofChange echoKnownSpec)

/-- ITS FALSE NEIGHBOUR: 'it returns false'. Refute it at one input. -/
def echoKnownWrong : ChangeSpec := { name := "echoKnown", fn := fun _ => fun
  | [d] => { results := [.lit (.bool false)], args := [d] }
  | _ => none }
def EchoKnownWrongFalsely : Prop := echoKnownRow.holds Try.pinned (OpenSpec.ofChange echoKnownWrong)

/-- 'scrimlaw5.EchoLinear': WHATEVER THE INPUT: true; the input reads as it did. -/
def echoLinearSpec : ChangeSpec := { name := "echoLinear", fn := fun _ => fun
  | [d1, d2, d3] => { results := [.lit (.bool true)], args := [d1, d2, d3] }
  | _ => none }
def echoLinearRow : OpenClaim := { program := "yteadclhlipcfpaa", sum := "195c4357eb554334e8b39353c9227d7ef7659934036a708b9ff58da3bf7433a7", func := "scrim/scrimlaw5.EchoLinear", spec := "echoLinear", apart := false }
def EchoLinearSaid : Prop := echoLinearRow.holds Try.pinned (OpenSpec.ofChange echoLinearSpec)

/-- ITS FALSE NEIGHBOUR: 'it returns false'. Refute it at one input. -/
def echoLinearWrong : ChangeSpec := { name := "echoLinear", fn := fun _ => fun
  | [d1, d2, d3] => { results := [.lit (.bool false)], args := [d1, d2, d3] }
  | _ => none }
def EchoLinearWrongFalsely : Prop := echoLinearRow.holds Try.pinned (OpenSpec.ofChange echoLinearWrong)

/- THE SECOND FORM. 'bulk': how many values and letters a reading holds, each counted each time it is reached (what is shared counts as often as it is met; a slice's spare places count too). A statement '..UptoSaid' is the law's where the arguments, and the package variables that the reading takes, are together of bulk at most 1048576: NARROWER than '..Said'. Prove '..Said' where nothing that the law and all that it calls make is longer than what came in: it says more and counts as full. Else prove '..UptoSaid'. A law counts once. -/
mutual
def uptoBulk {H : Type} : DataW H → Nat
  | .lit (.string bytes) => bytes.length + 1
  | .lit _ => 1
  | .nil => 1
  | .ptr d => uptoBulk d + 1
  | .slice elems spare => uptoBulkAll elems + uptoBulkAll spare + 1
  | .agg parts => uptoBulkAll parts + 1
  | .iface _ d => uptoBulk d + 1
  | .map entries => uptoBulkEntries entries + 1
  | .held _ => 1
def uptoBulkAll {H : Type} : List (DataW H) → Nat
  | [] => 0
  | d :: r => uptoBulk d + uptoBulkAll r
def uptoBulkEntries {H : Type} : List (Lit × DataW H) → Nat
  | [] => 0
  | x :: r => uptoBulkEntry x + uptoBulkEntries r
def uptoBulkEntry {H : Type} : Lit × DataW H → Nat
  | (.string bytes, d) => bytes.length + uptoBulk d + 1
  | (_, d) => uptoBulk d + 1
 end
def uptoSmall : (H : Type) → List (DataW H) → Bool := fun _ ds => decide (uptoBulkAll ds ≤ 1048576)
def OpenSpec.upto (s : _root_.Go.ChangeSpec) : _root_.Go.OpenSpec := { _root_.Go.OpenSpec.ofChange s with cond := some uptoSmall }

/-- 'scrimlaw5.EchoTurns', WHERE WHAT IT READS IS OF BULK AT MOST 1048576: true; the input reads as it did. -/
def echoTurnsUptoRow : OpenClaim := { program := "yteadclhlipcfpaa", sum := "195c4357eb554334e8b39353c9227d7ef7659934036a708b9ff58da3bf7433a7", func := "scrim/scrimlaw5.EchoTurns", spec := "echoTurns", apart := false, narrowed := true }
def EchoTurnsUptoSaid : Prop := echoTurnsUptoRow.holds Try.pinned (OpenSpec.upto echoTurnsSpec)

/-- 'scrimlaw5.EchoSquares', WHERE WHAT IT READS IS OF BULK AT MOST 1048576: true; the input reads as it did. -/
def echoSquaresUptoRow : OpenClaim := { program := "yteadclhlipcfpaa", sum := "195c4357eb554334e8b39353c9227d7ef7659934036a708b9ff58da3bf7433a7", func := "scrim/scrimlaw5.EchoSquares", spec := "echoSquares", apart := false, narrowed := true }
def EchoSquaresUptoSaid : Prop := echoSquaresUptoRow.holds Try.pinned (OpenSpec.upto echoSquaresSpec)

/-- 'scrimlaw5.EchoParts', WHERE WHAT IT READS IS OF BULK AT MOST 1048576: true; the input reads as it did. -/
def echoPartsUptoRow : OpenClaim := { program := "yteadclhlipcfpaa", sum := "195c4357eb554334e8b39353c9227d7ef7659934036a708b9ff58da3bf7433a7", func := "scrim/scrimlaw5.EchoParts", spec := "echoParts", apart := false, narrowed := true }
def EchoPartsUptoSaid : Prop := echoPartsUptoRow.holds Try.pinned (OpenSpec.upto echoPartsSpec)

/-- 'scrimlaw5.EchoShift', WHERE WHAT IT READS IS OF BULK AT MOST 1048576: true; the input reads as it did. -/
def echoShiftUptoRow : OpenClaim := { program := "yteadclhlipcfpaa", sum := "195c4357eb554334e8b39353c9227d7ef7659934036a708b9ff58da3bf7433a7", func := "scrim/scrimlaw5.EchoShift", spec := "echoShift", apart := false, narrowed := true }
def EchoShiftUptoSaid : Prop := echoShiftUptoRow.holds Try.pinned (OpenSpec.upto echoShiftSpec)

/-- 'scrimlaw5.EchoAll', WHERE WHAT IT READS IS OF BULK AT MOST 1048576: true; the input reads as it did. -/
def echoAllUptoRow : OpenClaim := { program := "yteadclhlipcfpaa", sum := "195c4357eb554334e8b39353c9227d7ef7659934036a708b9ff58da3bf7433a7", func := "scrim/scrimlaw5.EchoAll", spec := "echoAll", apart := false, narrowed := true }
def EchoAllUptoSaid : Prop := echoAllUptoRow.holds Try.pinned (OpenSpec.upto echoAllSpec)

/-- 'scrimlaw5.EchoBias', WHERE WHAT IT READS IS OF BULK AT MOST 1048576: true; the input reads as it did. -/
def echoBiasUptoRow : OpenClaim := { program := "yteadclhlipcfpaa", sum := "195c4357eb554334e8b39353c9227d7ef7659934036a708b9ff58da3bf7433a7", func := "scrim/scrimlaw5.EchoBias", spec := "echoBias", apart := false, narrowed := true }
def EchoBiasUptoSaid : Prop := echoBiasUptoRow.holds Try.pinned (OpenSpec.upto echoBiasSpec)

/-- 'scrimlaw5.EchoSums', WHERE WHAT IT READS IS OF BULK AT MOST 1048576: true; the input reads as it did. -/
def echoSumsUptoRow : OpenClaim := { program := "yteadclhlipcfpaa", sum := "195c4357eb554334e8b39353c9227d7ef7659934036a708b9ff58da3bf7433a7", func := "scrim/scrimlaw5.EchoSums", spec := "echoSums", apart := false, narrowed := true }
def EchoSumsUptoSaid : Prop := echoSumsUptoRow.holds Try.pinned (OpenSpec.upto echoSumsSpec)

/-- 'scrimlaw5.EchoKnown', WHERE WHAT IT READS IS OF BULK AT MOST 1048576: true; the input reads as it did. -/
def echoKnownUptoRow : OpenClaim := { program := "yteadclhlipcfpaa", sum := "195c4357eb554334e8b39353c9227d7ef7659934036a708b9ff58da3bf7433a7", func := "scrim/scrimlaw5.EchoKnown", spec := "echoKnown", apart := false, narrowed := true }
def EchoKnownUptoSaid : Prop := echoKnownUptoRow.holds Try.pinned (OpenSpec.upto echoKnownSpec)

/-- 'scrimlaw5.EchoLinear', WHERE WHAT IT READS IS OF BULK AT MOST 1048576: true; the input reads as it did. -/
def echoLinearUptoRow : OpenClaim := { program := "yteadclhlipcfpaa", sum := "195c4357eb554334e8b39353c9227d7ef7659934036a708b9ff58da3bf7433a7", func := "scrim/scrimlaw5.EchoLinear", spec := "echoLinear", apart := false, narrowed := true }
def EchoLinearUptoSaid : Prop := echoLinearUptoRow.holds Try.pinned (OpenSpec.upto echoLinearSpec)

end Rows
end Go.Proofs.Yteadclhlipcfpaa
